/-
  Free pages: which they are, how many, and what marking them comes to. No program is in sight.
-/
import Derived.Test.YtccdgfacdohknaaSpPlain2
import Derived.Test.YtccdgfacdohknaaSp5
namespace Go.Proofs.Ytccdgfacdohknaa
set_option linter.unusedVariables false

/-- The free pages among the first i. -/
def freeL (l : List Bool) (i : Nat) : List Nat := (List.range i).filter fun j => !(l.getD j false)
theorem freeL_zero (l : List Bool) : freeL l 0 = [] := rfl
theorem freeL_succ (l : List Bool) (i : Nat) : freeL l (i + 1) = if l.getD i false then freeL l i else freeL l i ++ [i] := by
  unfold freeL
  rw [List.range_succ, List.filter_append]
  rw [List.filter_cons]
  cases l.getD i false with
  | false => rfl
  | true => simp
theorem freeL_lt (l : List Bool) (i : Nat) : ∀ j ∈ freeL l i, j < i ∧ l.getD j false = false := by
  intro j hj
  unfold freeL at hj
  rw [List.mem_filter, List.mem_range] at hj
  exact ⟨hj.1, by simpa using hj.2⟩
theorem freeL_nodup (l : List Bool) (i : Nat) : (freeL l i).Nodup := List.Pairwise.filter _ List.nodup_range
theorem freeL_len (l : List Bool) (i : Nat) : (freeL l i).length ≤ i := by
  have := List.length_filter_le (fun j => !(l.getD j false)) (List.range i)
  rwa [List.length_range] at this
/-- Pages that are marked. -/
def markF (l : List Bool) (q : List Nat) : List Bool := q.foldl (fun l j => l.set j true) l
theorem markF_length (q : List Nat) : ∀ l : List Bool, (markF l q).length = l.length := by
  induction q with
  | nil => intro l; rfl
  | cons a q ih => intro l; show (markF (l.set a true) q).length = _; rw [ih, List.length_set]
theorem markF_snoc (l : List Bool) (q : List Nat) (j : Nat) : markF l (q ++ [j]) = (markF l q).set j true := by simp [markF]
theorem turn_mark (e : Nat) : ∀ (q : List Nat) (l : List Bool), q.Nodup → (∀ j ∈ q, j < l.length ∧ l.getD j false = false) → turnF l (q.map Int.ofNat) false e = (markF l q, 0)
  | [], l, _, _ => rfl
  | a :: q, l, hn, hq => by
    obtain ⟨h1, h2⟩ := hq a (by simp)
    rw [List.map_cons]
    show (if Int.ofNat a < 0 ∨ (l.length : Int) ≤ Int.ofNat a then _ else _) = _
    rw [if_neg (by simp; omega), show (Int.ofNat a).toNat = a from rfl, h2, if_neg (by simp), turn_mark e q _ (List.nodup_cons.1 hn).2 (fun j hj => ?_)]
    · rfl
    · obtain ⟨h3, h4⟩ := hq j (by simp [hj])
      refine ⟨by rw [List.length_set]; exact h3, ?_⟩
      have hne : a ≠ j := by rintro rfl; exact (List.nodup_cons.1 hn).1 hj
      rw [List.getD_eq_getElem?_getD, List.getElem?_set_ne hne, ← List.getD_eq_getElem?_getD]
      exact h4
theorem markF_getD (j : Nat) : ∀ (q : List Nat) (l : List Bool), (∀ i ∈ q, i < l.length) → (markF l q).getD j false = (l.getD j false || decide (j ∈ q))
  | [], l, _ => by simp [markF]
  | a :: q, l, hq => by
    show (markF (l.set a true) q).getD j false = _
    rw [markF_getD j q _ (fun i hi => by rw [List.length_set]; exact hq i (by simp [hi]))]
    have ha := hq a (by simp)
    by_cases h : a = j
    · subst h
      rw [List.getD_eq_getElem?_getD, List.getElem?_set_self ha]
      simp
    · rw [List.getD_eq_getElem?_getD, List.getElem?_set_ne h, ← List.getD_eq_getElem?_getD]
      have : (decide (j ∈ a :: q)) = decide (j ∈ q) := by
        apply decide_eq_decide.2
        simp [Ne.symm h]
      rw [this]

theorem ones_zero : onesN 0 = 0 := by rw [onesN_eq]; decide +kernel
theorem ones_more : ∀ k : Fin 8, ∀ x : Fin 256, x.val < 2 ^ k.val → Lib.onesCount (x.val + 2 ^ k.val) = Lib.onesCount x.val + 1 := by decide +kernel
theorem popL_append (a b : List UInt8) : popL (a ++ b) = popL a + popL b := by simp [popL]
theorem popL_set (L : List UInt8) (j : Nat) (x y : UInt8) (h : L[j]? = some x) : popL (L.set j y) + onesN x.toNat = popL L + onesN y.toNat := by
  induction L generalizing j with
  | nil => cases h
  | cons a L ih =>
    cases j with
    | zero =>
      simp at h
      subst h
      simp [popL]
      omega
    | succ j =>
      have := ih j (by simpa using h)
      simp [popL] at this ⊢
      omega
theorem pop_free (l : List Bool) : ∀ k, k ≤ l.length → popL (packL (l.take k)) + (freeL l k).length = k
  | 0, _ => by
    rw [List.take_zero, freeL_zero]
    rfl
  | k + 1, h => by
    have ih := pop_free l k (by omega)
    have hk : k < l.length := h
    have hroom : popL (roomL l k) = popL (packL (l.take k)) := by
      unfold roomL
      split
      · rw [popL_append]
        simp [popL, ones_zero]
      · rfl
    have hg : l.getD k false = l[k] := by rw [List.getD_eq_getElem?_getD, List.getElem?_eq_getElem hk]; rfl
    rw [freeL_succ, hg]
    cases hb : l[k] with
    | false =>
      rw [pack_no l k hk hb, hroom]
      simp
      omega
    | true =>
      rw [pack_yes l k hk hb]
      have h1 := popL_set (roomL l k) (k / 8) _ (UInt8.ofNat (octAt (l.take k) (k / 8) + 2 ^ (k % 8))) (roomL_get l k hk)
      have hlt := octAt_take_lt l k
      have hx := octAt_lt (l.take k) (k / 8)
      have hs : octAt (l.take k) (k / 8) + 2 ^ (k % 8) < 256 := by
        have : 2 ^ (k % 8) * 2 ≤ 2 ^ 8 := by rw [← Nat.pow_succ]; exact Nat.pow_le_pow_right (by omega) (by omega)
        omega
      have h2 := ones_more ⟨k % 8, by omega⟩ ⟨octAt (l.take k) (k / 8), hx⟩ hlt
      simp only at h2
      rw [toNat_ofNat_lt hs, toNat_ofNat_lt hx, onesN_eq, onesN_eq, h2, hroom] at h1
      rw [if_pos rfl]
      omega
/-- Used and free pages are all. -/
theorem pop_all (l : List Bool) : popL (packL l) + (freeL l l.length).length = l.length := by
  have := pop_free l l.length (Nat.le_refl _)
  rwa [List.take_length] at this
end Go.Proofs.Ytccdgfacdohknaa
