/-
  Taken and given back: plain laws. No program is in sight. A part of the proof: see the head of the text that ends in 'Law'.
-/
import Derived.Test.YtccdgfacdohknaaSp24
namespace Go.Proofs.Ytccdgfacdohknaa
set_option linter.unusedVariables false

theorem takeF_err (o : Option (List Bool)) (k : Nat) (h : (takeF o k).1.2 ≠ 0) : (takeF o k).1.1 = [] ∧ (takeF o k).2 = [] := by
  cases o with
  | none => exact ⟨rfl, rfl⟩
  | some l =>
    unfold takeF at h ⊢
    by_cases hf : (freeL l l.length).length < k
    · simp only [if_pos hf] at h ⊢
      exact ⟨trivial, trivial⟩
    · simp only [if_neg hf] at h
      exact absurd rfl h
theorem takeZ_err (o : Option (List Bool)) (k : Int) (h : (takeZ o k).1.2 ≠ 0) : (takeZ o k).1.1 = [] ∧ (takeZ o k).2 = [] := by
  unfold takeZ at h ⊢
  by_cases hk : k < 0
  · rw [if_pos hk]
    exact ⟨rfl, rfl⟩
  · rw [if_neg hk] at h ⊢
    exact takeF_err o _ h
theorem takeZ_done (o : Option (List Bool)) (k : Int) (h : (takeZ o k).1.2 = 0) : ∃ (l : List Bool) (kn : Nat), o = some l ∧ k = kn ∧ kn ≤ (freeL l l.length).length ∧ takeZ o k = ((markF l (takeL l kn), 0), takeL l kn) := by
  unfold takeZ at h ⊢
  by_cases hk : k < 0
  · rw [if_pos hk] at h
    exact absurd h (by decide)
  · rw [if_neg hk] at h ⊢
    cases o with
    | none => exact absurd (show (1 : Nat) = 0 from h) (by decide)
    | some l =>
      unfold takeF at h ⊢
      by_cases hf : (freeL l l.length).length < k.toNat
      · simp only [if_pos hf] at h
        exact absurd h (by decide)
      · simp only [if_neg hf]
        exact ⟨l, k.toNat, rfl, by omega, by omega, rfl⟩
theorem usedB_pack (l : List Bool) (h : l.length ≤ 2048) (p : Int) : usedB l.length (packL l) p = (decide (0 ≤ p) && l.getD p.toNat false) := by
  unfold usedB
  rw [mayB_ok (l := l) ⟨rfl, h, rfl⟩, bitL_pack]
  by_cases h0 : 0 ≤ p
  · by_cases h1 : p < l.length
    · simp [h0, h1]
    · have : l.getD p.toNat false = false := by rw [List.getD_eq_getElem?_getD, List.getElem?_eq_none (by omega)]; rfl
      rw [this]
      simp
  · simp [h0]
theorem usedB_free {l : List Bool} (h : l.length ≤ 2048) {j : Nat} (hj : l.getD j false = false) : usedB l.length (packL l) j = false := by
  rw [usedB_pack l h, Int.toNat_natCast, hj, Bool.and_false]
theorem usedB_mark {l : List Bool} (h : l.length ≤ 2048) {q : List Nat} (hq : ∀ j ∈ q, j < l.length) (p : Int) :
    usedB (markF l q).length (packL (markF l q)) p = (usedB l.length (packL l) p || decide (p ∈ q.map Int.ofNat)) := by
  rw [usedB_pack _ (by rw [markF_length]; exact h), usedB_pack l h, markF_getD _ q l hq]
  by_cases h0 : 0 ≤ p
  · obtain ⟨j, rfl⟩ : ∃ j : Nat, p = j := ⟨p.toNat, by omega⟩
    have : decide ((j : Int) ∈ q.map Int.ofNat) = decide (j ∈ q) := by
      apply decide_eq_decide.2
      rw [List.mem_map]
      exact ⟨fun ⟨a, ha, he⟩ => by obtain rfl : a = j := Int.ofNat.inj he
                                   exact ha, fun h => ⟨j, h, rfl⟩⟩
    rw [this, Int.toNat_natCast, decide_eq_true h0]
    simp
  · have : decide (p ∈ q.map Int.ofNat) = false := by
      apply decide_eq_false
      intro hp
      obtain ⟨j, _, rfl⟩ := List.mem_map.1 hp
      exact h0 (Int.natCast_nonneg j)
    rw [this, decide_eq_false h0]
    rfl
theorem freeL_set (l : List Bool) (j n : Nat) (hj : j < l.length) (hn : n = l.length) (hf : l.getD j false = false) : (freeL (l.set j true) n).length + 1 = (freeL l n).length := by
  have hm : j ∈ freeL l n := by
    unfold freeL
    rw [List.mem_filter, List.mem_range, hf]
    exact ⟨by omega, rfl⟩
  have he : freeL (l.set j true) n = (freeL l n).erase j := by
    rw [(freeL_nodup l n).erase_eq_filter]
    unfold freeL
    rw [List.filter_filter]
    apply List.filter_congr
    intro i hi
    by_cases hij : i = j
    · subst hij
      rw [List.getD_eq_getElem?_getD, List.getElem?_set_self hj]
      simp
    · rw [List.getD_eq_getElem?_getD, List.getElem?_set_ne (Ne.symm hij), ← List.getD_eq_getElem?_getD]
      simp [hij]
  rw [he, List.length_erase_of_mem hm]
  have := List.length_pos_of_mem hm
  omega
theorem free_mark : ∀ (q : List Nat) (l : List Bool), q.Nodup → (∀ j ∈ q, j < l.length ∧ l.getD j false = false) → (freeL (markF l q) l.length).length + q.length = (freeL l l.length).length
  | [], l, _, _ => rfl
  | a :: q, l, hn, hq => by
    obtain ⟨h1, h2⟩ := hq a (by simp)
    have ih := free_mark q (l.set a true) (List.nodup_cons.1 hn).2 (fun j hj => by
      obtain ⟨h3, h4⟩ := hq j (by simp [hj])
      refine ⟨by rw [List.length_set]; exact h3, ?_⟩
      have hne : a ≠ j := by rintro rfl; exact (List.nodup_cons.1 hn).1 hj
      rw [List.getD_eq_getElem?_getD, List.getElem?_set_ne hne, ← List.getD_eq_getElem?_getD]
      exact h4)
    have hs := freeL_set l a l.length h1 rfl h2
    rw [List.length_set] at ih
    show (freeL (markF (l.set a true) q) l.length).length + (q.length + 1) = _
    omega
theorem pop_mark (l : List Bool) (k : Nat) (hk : k ≤ (freeL l l.length).length) : popL (packL (markF l (takeL l k))) = popL (packL l) + k := by
  have h1 := pop_all l
  have h2 := pop_all (markF l (takeL l k))
  have h3 := free_mark (takeL l k) l (takeL_nodup l k) (takeL_free l k)
  have h4 : (takeL l k).length = k := by
    unfold takeL
    rw [List.length_take]
    omega
  rw [markF_length] at h2
  omega
theorem markF_set (a : Nat) (b : Bool) : ∀ (q : List Nat) (l : List Bool), a ∉ q → (markF l q).set a b = markF (l.set a b) q
  | [], l, _ => rfl
  | x :: q, l, h => by
    have h1 : a ∉ q := fun hq => h (List.mem_cons_of_mem _ hq)
    have h2 : x ≠ a := fun hx => h (by rw [hx]; exact List.mem_cons_self ..)
    show (markF (l.set x true) q).set a b = markF ((l.set a b).set x true) q
    rw [markF_set a b q _ h1, List.set_comm _ _ h2]
theorem turn_back : ∀ (q : List Nat) (l : List Bool), q.Nodup → (∀ j ∈ q, j < l.length ∧ l.getD j false = false) → turnF (markF l q) (q.map Int.ofNat) true 6 = (l, 0)
  | [], l, _, _ => rfl
  | a :: q, l, hn, hq => by
    obtain ⟨h1, h2⟩ := hq a (by simp)
    obtain ⟨ha, hn'⟩ := List.nodup_cons.1 hn
    have hlen := markF_length (a :: q) l
    have hga : (markF l (a :: q)).getD a false = true := by
      rw [markF_getD a _ l (fun i hi => (hq i hi).1)]
      simp
    have hse : (markF l (a :: q)).set a false = markF l q := by
      show (markF (l.set a true) q).set a false = _
      rw [markF_set a false q _ ha, List.set_set]
      congr 1
      apply List.ext_getElem?
      intro i
      by_cases hi : i = a
      · subst hi
        rw [List.getElem?_set_self h1, List.getElem?_eq_getElem h1]
        rw [List.getD_eq_getElem?_getD, List.getElem?_eq_getElem h1] at h2
        exact congrArg some h2.symm
      · rw [List.getElem?_set_ne (Ne.symm hi)]
    rw [List.map_cons]
    show (if Int.ofNat a < 0 ∨ ((markF l (a :: q)).length : Int) ≤ Int.ofNat a then _ else _) = _
    rw [if_neg (by rw [hlen]; simp; omega), show (Int.ofNat a).toNat = a from rfl, hga, if_neg (by simp), show (!true) = false from rfl, hse]
    exact turn_back q l hn' (fun j hj => hq j (List.mem_cons_of_mem _ hj))
theorem freeL_rise (l : List Bool) (n : Nat) : (freeL l n).Pairwise (· < ·) := List.Pairwise.filter _ List.pairwise_lt_range
theorem takeL_rise (l : List Bool) (k : Nat) : (takeL l k).Pairwise (· < ·) := (freeL_rise l _).sublist (List.take_sublist _ _)
/-- The page before the i-th one is a lesser one. -/
theorem rise_at {q : List Nat} (h : q.Pairwise (· < ·)) {i x y : Nat} (hx : q[i]? = some x) (hy : q[i + 1]? = some y) : x < y := by
  obtain ⟨h1, rfl⟩ := List.getElem?_eq_some_iff.1 hx
  obtain ⟨h2, rfl⟩ := List.getElem?_eq_some_iff.1 hy
  exact List.pairwise_iff_getElem.1 h i (i + 1) h1 h2 (by omega)
theorem take_more (xs : List Int) (i : Nat) (x p : Int) (h : xs[i]? = some x) : (decide (p ∈ xs.take i) || (x == p)) = decide (p ∈ xs.take (i + 1)) := by
  obtain ⟨h1, rfl⟩ := List.getElem?_eq_some_iff.1 h
  have hm : p ∈ xs.take (i + 1) ↔ p ∈ xs.take i ∨ p = xs[i] := by
    rw [List.take_succ_eq_append_getElem h1, List.mem_append, List.mem_singleton]
  rw [show decide (p ∈ xs.take (i + 1)) = decide (p ∈ xs.take i ∨ p = xs[i]) from decide_eq_decide.2 hm]
  by_cases hp : p ∈ xs.take i
  · simp [hp]
  · rw [show decide (p ∈ xs.take i ∨ p = xs[i]) = decide (p = xs[i]) from decide_eq_decide.2 ⟨fun h => h.resolve_left hp, .inr⟩, decide_eq_false hp, Bool.false_or]
    by_cases hx : xs[i] = p
    · subst hx; simp
    · rw [beq_eq_false_iff_ne.2 hx, decide_eq_false (Ne.symm hx)]
end Go.Proofs.Ytccdgfacdohknaa
