/-
  A disk's small words: spending, the budget, the power. A part of the proof: see the head of the text that ends in 'Law'.
-/
import Derived.Test.YtkadehdbnkinlaaDk2
namespace Go.Proofs.Ytkadehdbnkinlaa
open Go.RowKit
set_option linter.unusedVariables false
attribute [local go_sem] Oper.semAt_some

/-- What a word that changes the disk alone leaves. -/
def Left (W : World) (b0 d hb : Nat) (V : Value) (D : Dsk) (w' : World) : Prop := DkAt w' b0 d hb V D ∧ Only (Mine d hb V) W w'
theorem spend_any {W : World} {b0 d hb : Nat} {V : Value} {D : Dsk} (h : DkAt W b0 d hb V D) :
    Calls Try.prog 28 #[.pointer (some ⟨d, 0, none⟩)] W fun e w' => e = .returned (.bool (onD D)) ∧ Left W b0 d hb V (spendD D) w' := by
  have x2 := h.cells.cell (j := 2) rfl
  have x3 := h.cells.cell (j := 3) rfl
  have f2 := h.cells.frozen 2
  have f3 := h.cells.frozen 3
  have H := hid h
  have HO := hid (h.off_set true)
  have HB := hid (fun (hk : 0 < D.bud) => h.bud_set (D.bud - 1) (by have := h.bd; omega))
  obtain ⟨has, waits, bud, off, ys, cp⟩ := D
  dsimp only at x2 x3
  have hbd := h.bd
  dsimp only at hbd
  obtain ⟨hbd1, hbd2⟩ := hbd
  clear h
  by_cases h0 : bud = 0
  · have e0 : (bud == 0) = true := by simpa using h0
    have HS := hid (show spendD ⟨has, waits, bud, off, ys, cp⟩ = ⟨has, waits, bud, true, ys, cp⟩ by
      unfold spendD
      cases off
      · rw [if_neg (by simp), if_pos h0]
      · rw [if_pos rfl])
    have HN := hid (show onD ⟨has, waits, bud, off, ys, cp⟩ = false by unfold onD; rw [decide_eq_true h0]; simp)
    clear h0
    go_enter Try.func28, Try.ntmps28
    go_wp2
    go_ret
    rw [HN.out, HS.out]
    exact ⟨rfl, HO.out, Only.of_set _ _ _ (.inl rfl)⟩
  · have e0 : (bud == 0) = false := by simpa using h0
    cases off with
    | true =>
      have HS := hid (show spendD ⟨has, waits, bud, true, ys, cp⟩ = ⟨has, waits, bud, true, ys, cp⟩ by unfold spendD; rw [if_pos rfl])
      have HN := hid (show onD ⟨has, waits, bud, true, ys, cp⟩ = false from rfl)
      clear h0
      go_enter Try.func28, Try.ntmps28
      go_wp2
      go_ret
      rw [HN.out, HS.out]
      exact ⟨rfl, H.out, Only.refl _ _⟩
    | false =>
      have HN := hid (show onD ⟨has, waits, bud, false, ys, cp⟩ = true by unfold onD; rw [decide_eq_false h0]; rfl)
      by_cases h1 : 0 < bud
      · have d1 : decide (0 < bud) = true := by simpa using h1
        have HS := hid (show spendD ⟨has, waits, bud, false, ys, cp⟩ = ⟨has, waits, bud - 1, false, ys, cp⟩ by unfold spendD; rw [if_neg (by simp), if_neg h0, if_pos h1])
        have HB2 := hid (HB.out h1)
        have h1' : 1 ≤ bud := h1
        clear h0 h1
        go_enter Try.func28, Try.ntmps28
        go_wp2
        go_ret
        rw [HN.out, HS.out]
        exact ⟨rfl, HB2.out, Only.of_set _ _ _ (.inl rfl)⟩
      · have d1 : decide (0 < bud) = false := by simpa using h1
        have HS := hid (show spendD ⟨has, waits, bud, false, ys, cp⟩ = ⟨has, waits, bud, false, ys, cp⟩ by unfold spendD; rw [if_neg (by simp), if_neg h0, if_neg h1])
        clear h0 h1
        go_enter Try.func28, Try.ntmps28
        go_wp2
        go_ret
        rw [HN.out, HS.out]
        exact ⟨rfl, H.out, Only.refl _ _⟩
theorem power_any {W : World} {b0 d hb : Nat} {V : Value} {D : Dsk} (h : DkAt W b0 d hb V D) :
    Calls Try.prog 16 #[.pointer (some ⟨d, 0, none⟩)] W fun e w' => e = .returned (.bool (!D.off)) ∧ W = w' := by
  have x3 := h.cells.cell (j := 3) rfl
  obtain ⟨off, ho⟩ : ∃ o, D.off = o := ⟨_, rfl⟩
  rw [ho] at x3 ⊢
  clear h ho
  go_enter Try.func16, Try.ntmps16
  go_wp2
  go_ret
  exact ⟨rfl, rfl⟩
theorem budget_any {W : World} {b0 d hb : Nat} {V : Value} {D : Dsk} (h : DkAt W b0 d hb V D) (n : Int) (hn : -1 ≤ n) (hn2 : n ≤ 9223372036854775807) :
    Calls Try.prog 15 #[.pointer (some ⟨d, 0, none⟩), .int .i64 n] W fun e w' => e = .returned (.int .i64 0) ∧ Left W b0 d hb V { D with bud := n } w' := by
  have x2 := h.cells.cell (j := 2) rfl
  have f2 := h.cells.frozen 2
  have HB := hid (h.bud_set n ⟨hn, hn2⟩)
  have d0 : decide (n < -1) = false := by simp; omega
  clear h
  go_enter Try.func15, Try.ntmps15
  go_wp2
  go_ret
  exact ⟨rfl, HB.out, Only.of_set _ _ _ (.inl rfl)⟩
theorem budget_no (d : Nat) (W : World) (n : Int) (hn : n < -1) :
    Calls Try.prog 15 #[.pointer (some ⟨d, 0, none⟩), .int .i64 n] W fun e w' => e = .returned (.int .i64 1) ∧ W = w' := by
  have d0 : decide (n < -1) = true := by simpa using hn
  go_enter Try.func15, Try.ntmps15
  go_wp2
  go_ret
  exact ⟨rfl, rfl⟩
theorem on_any {W : World} {b0 d hb : Nat} {V : Value} {D : Dsk} (h : DkAt W b0 d hb V D) :
    Calls Try.prog 13 #[.pointer (some ⟨d, 0, none⟩)] W fun e w' => e = .returned (.tuple #[]) ∧ DkAt w' b0 d hb (.slice none 0 0) { D with waits := [], bud := -1, off := false } ∧ Only (Mine d hb V) W w' := by
  have x1 := h.cells.cell (j := 1) rfl
  have x2 := h.cells.cell (j := 2) rfl
  have x3 := h.cells.cell (j := 3) rfl
  have f1 := h.cells.frozen 1
  have f2 := h.cells.frozen 2
  have f3 := h.cells.frozen 3
  have HB := hid ((h.wait_nil.bud_set (-1) ⟨by omega, by omega⟩).off_set false)
  clear h
  go_enter Try.func13, Try.ntmps13
  go_wp2
  go_end0
  exact ⟨rfl, HB.out, ((Only.of_set W ⟨d, 1, none⟩ _ (.inl rfl)).trans (Only.of_set (T := Mine d hb V) _ ⟨d, 2, none⟩ _ (.inl rfl)) (fun g h => .inl h)).trans (Only.of_set (T := Mine d hb V) _ ⟨d, 3, none⟩ _ (.inl rfl)) (fun g h => .inl h)⟩
end Go.Proofs.Ytkadehdbnkinlaa
