/-
  What is found expands to what it was found in: plain. A part of the proof: see the head of the text that ends in 'Law'.
-/
import Derived.Test.YtaoigplmkckieaaMa17
namespace Go.Proofs.Ytaoigplmkckieaa
open Go.RowKit
set_option linter.unusedVariables false

theorem tokAt_facts (l : List UInt8) (p : Nat) (h : p < l.length) : mayT (tokAt l p) = true ∧ (tokAt l p).dist ≤ p ∧ max 1 (tokAt l p).len = stepAt l p ∧ addT (l.take p) (tokAt l p) = l.take (p + stepAt l p) := by
  unfold tokAt stepAt
  by_cases h0 : (bestF l p).1 = 0
  · rw [if_pos h0, if_pos h0]
    refine ⟨rfl, by simp, by simp; omega, ?_⟩
    unfold addT
    rw [if_pos rfl, List.take_succ_eq_append_getElem h, List.getD_eq_getElem?_getD, List.getElem?_eq_getElem h]
    rfl
  · rw [if_neg h0, if_neg h0]
    rcases bestF_is l p with ⟨h1, _⟩ | ⟨h1, h2, h3, h4, h5, _⟩
    · rw [h1] at h0; simp at h0
    · generalize bestF l p = s at *
      obtain ⟨m, d⟩ := s
      dsimp only at *
      have hm := lenL_le l (p - d) p
      have hend : p + m ≤ l.length := by
        have := (lenL_in l (p - d) p (m - 1) (by omega)).1
        omega
      refine ⟨?_, by omega, by omega, ?_⟩
      · unfold mayT
        rw [decide_eq_true_eq]
        refine Or.inr ⟨rfl, ?_, ?_, ?_, ?_⟩ <;> dsimp only <;> omega
      · unfold addT
        rw [if_neg (by dsimp only; omega)]
        show cp (l.take p) ((d : Int)).toNat ((m : Int)).toNat = _
        rw [Int.toNat_natCast, Int.toNat_natCast]
        have : ∀ j, j ≤ m → cp (l.take p) d j = l.take (p + j) := by
          intro j
          induction j with
          | zero => intro _; rfl
          | succ j ih =>
            intro hj
            have hin := lenL_in l (p - d) p j (by omega)
            rw [cp, ih (by omega), ← Nat.add_assoc, List.take_succ_eq_append_getElem (by omega)]
            congr 2
            rw [List.length_take, List.getD_eq_getElem?_getD, List.getElem?_take, if_pos (by omega), show min (p + j) l.length - d = p - d + j by omega, hin.2, List.getElem?_eq_getElem (by omega)]
            rfl
        exact this m (Nat.le_refl _)
theorem exp_toks (l : List UInt8) (most : Int) (hm : (l.length : Int) ≤ most) : ∀ (m p i : Nat), l.length - p ≤ m → p ≤ l.length → expF most (toks l p) i (l.take p) = (l, 0, 0) := by
  intro m
  induction m with
  | zero =>
    intro p i h1 h2
    rw [toks_out (by omega), expF, List.take_of_length_le (by omega)]
  | succ m ih =>
    intro p i h1 h2
    by_cases h : p < l.length
    · obtain ⟨t1, t2, t3, t4⟩ := tokAt_facts l p h
      have hs := best_le l p h
      have hst := stepAt_pos l p
      have hlen : ((l.take p).length : Int) = p := by rw [List.length_take]; omega
      rw [toks_in h, expF, if_neg (by rw [t1]; decide), if_neg (by rw [hlen]; omega), if_neg (by rw [hlen, t3]; omega), t4]
      exact ih _ _ (by omega) hs
    · rw [toks_out h, expF, List.take_of_length_le (by omega)]
theorem exp_less (l : List UInt8) : ∀ (m p i : Nat), l.length - p ≤ m → p < l.length → ∃ j, expF ((l.length : Int) - 1) (toks l p) i (l.take p) = ([], 13, j) := by
  intro m
  induction m with
  | zero => intro p i h1 h2; omega
  | succ m ih =>
    intro p i h1 h
    obtain ⟨t1, t2, t3, t4⟩ := tokAt_facts l p h
    have hs := best_le l p h
    have hst := stepAt_pos l p
    have hlen : ((l.take p).length : Int) = p := by rw [List.length_take]; omega
    rw [toks_in h, expF, if_neg (by rw [t1]; decide), if_neg (by rw [hlen]; omega)]
    by_cases he : p + stepAt l p < l.length
    · rw [if_neg (by rw [hlen, t3]; omega), t4]
      exact ih _ _ (by omega) he
    · exact ⟨i, by rw [if_pos (by rw [hlen, t3]; omega)]⟩
theorem back_all (l : List UInt8) : expAll (l.length : Int) (toks l 0) = (l, 0, 0) := by
  unfold expAll
  rw [if_neg (by omega)]
  exact exp_toks l _ (Int.le_refl _) _ 0 0 (Nat.le_refl _) (Nat.zero_le _)
theorem back_less (l : List UInt8) (h : 0 < l.length) : ∃ j, expAll ((l.length : Int) - 1) (toks l 0) = ([], 13, j) := by
  unfold expAll
  rw [if_neg (by omega)]
  exact exp_less l _ 0 0 (Nat.le_refl _) h
theorem toks_few (l : List UInt8) : (toks l 0).length ≤ l.length := toks_le l _ 0 (Nat.le_refl _)
theorem exp_len (most : Int) : ∀ (l : List Tok) (i : Nat) (out : List UInt8), (expF most l i out).1.length ≤ out.length + 258 * l.length := by
  intro l
  induction l with
  | nil => intro i out; rw [expF]; simp
  | cons t r ih =>
    intro i out
    rw [expF]
    split
    · simp
    · rename_i h1
      split
      · simp
      · split
        · simp
        · have := ih (i + 1) (addT out t)
          have := (addT_len (t := t) (by simpa using h1) out).1
          simp
          omega
end Go.Proofs.Ytaoigplmkckieaa
