/-
  DiskPlays: the walk. A part of the proof: see the head of the text that ends in 'Law'.
-/
import Derived.Test.YtkadehdbnkinlaaDk32
namespace Go.Proofs.Ytkadehdbnkinlaa
open Go.RowKit
set_option linter.unusedVariables false
attribute [local go_sem] Oper.semAt_some

set_option maxRecDepth 100000 in
set_option maxHeartbeats 4000000 in
theorem playsNo (n : Int) (hn : n < 1 ∨ 2048 < n) (A : Option Addr) (na c : Nat) (w : World) :
    Calls Try.prog 6 #[.int .i64 n, .slice A na c] w fun e w' => e = .returned (.bool true) ∧ Below w.heap.size w w' := by
  have HNO := hid (new_no n hn w)
  have hd : decide (n < 1) = true ∨ (decide (n < 1) = false ∧ decide (2048 < n) = true) := by
    by_cases h1 : n < 1
    · exact .inl (by simpa using h1)
    · exact .inr ⟨by simpa using h1, by simp; omega⟩
  clear hn
  go_enter Try.func6, Try.ntmps6
  rcases hd with d1 | ⟨d1, d2⟩
  · go_wp2_with (first | (go_at_call 7; refine HNO.out.mono ?_; rintro e w1 ⟨rfl, rfl⟩) | (go_at_call 14; (with_reducible refine (awake_any _).mono ?_); rintro e w7 ⟨rfl, b7⟩; have HB := hid b7; clear b7))
    go_ret
    exact ⟨rfl, HB.out⟩
  · go_wp2_with (first | (go_at_call 7; refine HNO.out.mono ?_; rintro e w1 ⟨rfl, rfl⟩) | (go_at_call 14; (with_reducible refine (awake_any _).mono ?_); rintro e w7 ⟨rfl, b7⟩; have HB := hid b7; clear b7))
    go_ret
    exact ⟨rfl, HB.out⟩
end Go.Proofs.Ytkadehdbnkinlaa
