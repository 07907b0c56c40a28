/-
  Feed. A part of the proof: see the head of the text that ends in 'Law'.
-/
import Derived.Test.YtlddhgnecfgnkaaLi21
namespace Go.Proofs.Ytlddhgnecfgnkaa
open Go.RowKit
set_option linter.unusedVariables false
attribute [local go_sem] Oper.semAt_some

theorem new_any (w : World) : Calls Try.prog 9 #[] w fun e w' => e = .returned (.pointer (some ⟨w.heap.size, 0, none⟩)) ∧ RdAt w' w.heap.size w.heap.size (.slice none 0 0) (.slice none 0 0) nilR ∧ Below w.heap.size w w' := by
  go_enter Try.func9, Try.ntmps9
  go_wp2
  go_ret
  exact ⟨rfl, ⟨Nat.le_refl _, OwnE.new_ w [.slice none 0 0, .slice none 0 0, .bool false, .int .i64 0, .int .i64 0, .int .i64 0] _, World.ownsRow_nil _ _ _ _, World.ownsRow_nil _ _ _ _⟩, (Below.refl _ _).alloc (Nat.le_refl _) _⟩
theorem waits_any {W : World} {b0 r : Nat} {VP VH : Value} {R : Rdr} (h : RdAt W b0 r VP VH R) : Calls Try.prog 12 #[.pointer (some ⟨r, 0, none⟩)] W fun e w' => e = .returned (.int .i64 (R.wait : Int)) ∧ W = w' := by
  have x5 := h.cells.cell (j := 5) rfl
  clear h
  go_enter Try.func12, Try.ntmps12
  go_wp2
  go_ret
  exact ⟨rfl, rfl⟩
theorem inpS : SliceT Try.prog 27 45 (.agg #[.int .i64 0, .string ⟨#[]⟩, .slice none 0 0]) 3 48 := ⟨Try.underlying27, by kernel_rfl, rfl, by decide⟩
end Go.Proofs.Ytlddhgnecfgnkaa
