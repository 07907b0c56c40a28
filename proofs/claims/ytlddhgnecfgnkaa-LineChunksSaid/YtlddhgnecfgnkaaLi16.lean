/-
  A line that is at its end. A part of the proof: see the head of the text that ends in 'Law'.
-/
import Derived.Test.YtlddhgnecfgnkaaLi15
namespace Go.Proofs.Ytlddhgnecfgnkaa
open Go.RowKit
set_option linter.unusedVariables false
attribute [local go_sem] Oper.semAt_some

theorem annV_form (s : List UInt8) : ∃ (a : Int) (t : ByteArray), annV s = .tuple #[.int .i64 a, .string t] := by
  unfold annV
  split
  · exact ⟨_, _, rfl⟩
  · exact ⟨_, _, rfl⟩
/-- What a line leaves. -/
def LinePost (w0 W : World) (r : Nat) (VP VH : Value) (R' : Rdr) (xs : List Inp) (e : Ending) (w' : World) : Prop := ∃ A n c vs, e = .returned (.slice A n c) ∧ n = xs.length ∧ w'.ownsRow W.heap.size 45 3 (.slice A n c) n vs ∧ InsC w' W.heap.size vs xs ∧ ∃ VP' VH', RdAt w' w0.heap.size r VP' VH' R' ∧ Mv W w' r VP VH VP' VH'
theorem line_end {w0 W X : World} {r : Nat} {VP VH VP1 VH1 : Value} {xs : List Inp} {e : Ending} {w' : World} (hM : Mv W X r VP VH VP1 VH1) (h : EndPost w0 X r xs e w') : LinePost w0 W r VP VH nilR xs e w' := by
  obtain ⟨A, n, c, vs, h1, h2, h3, h4, h5, h6⟩ := h
  exact ⟨A, n, c, vs, h1, h2, own_low h3 hM.o.size, h4.low hM.o.size, _, _, h5, hM.trans ⟨h6.mono (fun g e => .inl e), fun g hg => by
    rcases hg with e | e | e
    · exact .inl (.inl e)
    · simp [Value.ownBlock] at e
    · simp [Value.ownBlock] at e⟩⟩
theorem RdAt.lineB {W : World} {b0 r : Nat} {VP VH : Value} {R : Rdr} (h : RdAt W b0 r VP VH R) (m : Nat) : ∀ X, X = ((W.setCell ⟨r, 1, none⟩ (.slice none 0 0)).setCell ⟨r, 2, none⟩ (.bool false)).setCell ⟨r, 3, none⟩ (.int .i64 ((R.size : Int) + (m : Int))) →
    RdAt X b0 r VP (.slice none 0 0) ⟨R.ps, [], false, R.size + m, R.lits, R.wait⟩ ∧ Mv W X r VP VH VP (.slice none 0 0) := by
  rintro X rfl
  have h1 := h.drop
  have h2 := h1.1.num (R' := ⟨R.ps, [], false, R.size, R.lits, R.wait⟩) 2 (.bool false) rfl rfl rfl
  have h3 := h2.1.num (R' := ⟨R.ps, [], false, R.size + m, R.lits, R.wait⟩) 3 (.int .i64 ((R.size : Int) + (m : Int))) (by show [_, _, _, Value.int .i64 ((R.size : Int) + (m : Int)), _, _] = [_, _, _, Value.int .i64 ((R.size + m : Nat) : Int), _, _]; rw [show ((R.size : Int) + (m : Int)) = ((R.size + m : Nat) : Int) by omega]) rfl rfl
  exact ⟨h3.1, (h1.2.trans h2.2).trans h3.2⟩
theorem RdAt.lineA {W : World} {b0 r : Nat} {VP VH : Value} {R : Rdr} (h : RdAt W b0 r VP VH R) : ((W.setCell ⟨r, 1, none⟩ (.slice none 0 0)).setCell ⟨r, 2, none⟩ (.bool false)).cell? ⟨r, 3, none⟩ = some (.int .i64 (R.size : Int)) ∧ ((W.setCell ⟨r, 1, none⟩ (.slice none 0 0)).setCell ⟨r, 2, none⟩ (.bool false)).frozen? ⟨r, 3, none⟩ = false := by
  have h2 := h.drop.1.num (R' := ⟨R.ps, [], false, R.size, R.lits, R.wait⟩) 2 (.bool false) rfl rfl rfl
  exact ⟨h2.1.cells.cell (j := 3) rfl, h2.1.cells.frozen 3⟩
theorem RdAt.lineC {W : World} {b0 r : Nat} {VP VH : Value} {R : Rdr} (h : RdAt W b0 r VP VH R) (m : Nat) : ∀ X, X = (W.setCell ⟨r, 4, none⟩ (.int .i64 ((R.lits : Int) + 1))).setCell ⟨r, 5, none⟩ (.int .i64 (m : Int)) →
    RdAt X b0 r VP VH ⟨R.ps, R.hv, R.over, R.size, R.lits + 1, m⟩ ∧ Mv W X r VP VH VP VH := by
  rintro X rfl
  have h2 := h.num (R' := ⟨R.ps, R.hv, R.over, R.size, R.lits + 1, R.wait⟩) 4 (.int .i64 ((R.lits : Int) + 1)) (by show [_, _, _, _, Value.int .i64 ((R.lits : Int) + 1), _] = [_, _, _, _, Value.int .i64 ((R.lits + 1 : Nat) : Int), _]; rw [show ((R.lits : Int) + 1) = ((R.lits + 1 : Nat) : Int) by omega]) rfl rfl
  have h3 := h2.1.num (R' := ⟨R.ps, R.hv, R.over, R.size, R.lits + 1, m⟩) 5 (.int .i64 (m : Int)) rfl rfl rfl
  exact ⟨h3.1, h2.2.trans h3.2⟩
end Go.Proofs.Ytlddhgnecfgnkaa
