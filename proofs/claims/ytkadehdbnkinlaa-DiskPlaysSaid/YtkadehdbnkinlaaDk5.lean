/-
  A sector's octets; what is read. A part of the proof: see the head of the text that ends in 'Law'.
-/
import Derived.Test.YtkadehdbnkinlaaDk4
namespace Go.Proofs.Ytkadehdbnkinlaa
open Go.RowKit
set_option linter.unusedVariables false
attribute [local go_sem] Oper.semAt_some

theorem secLen : Try.prog.arrayLen 64 = 128 := by kernel_rfl
theorem octets_any (s : List UInt8) (hs : s.length = 128) (W : World) :
    Calls Try.prog 32 #[.agg (s.map B8).toArray] W fun e w' => e = .returned (.slice (some ⟨W.heap.size, 0, none⟩) 128 128) ∧ w' = W.alloc (.cells (s.map B8).toArray 64) := by
  have hl := secLen
  obtain ⟨A, hA⟩ : ∃ A, (s.map B8).toArray = A := ⟨_, rfl⟩
  rw [hA]
  clear hA
  go_enter Try.func32, Try.ntmps32
  go_wp2
  go_ret
  exact ⟨rfl, rfl⟩
end Go.Proofs.Ytkadehdbnkinlaa
