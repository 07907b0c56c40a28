/-
  All pages that are laid down are those of the pairs, in plain Lean; What is laid down is well laid, in plain Lean; A tree's pages are well laid, in plain Lean; What is found in a tree, in plain Lean; A laid tree's pages cover its pairs, in plain Lean; Levels as numbers in a row, as the document keeps them, in plain Lean. A part of the proof: see the head of the text that ends in 'Law'.
-/
import Derived.Test.YtlhngieinmgooaaTrPA
import Derived.Test.YtlhngieinmgooaaTr15
import Derived.Test.YtlhngieinmgooaaTr20
namespace Go.Proofs.Ytlhngieinmgooaa
section
open Go.RowKit
set_option linter.unusedVariables false
theorem leafC_flat (l : List Pa) : (leafC l).flatten = l := by
  unfold leafC
  cases l with
  | nil => rfl
  | cons a r => exact chunks_flat 7 (by omega) _
theorem leafC_few (l : List Pa) : ∀ c ∈ leafC l, c.length ≤ 7 := by
  intro c hc
  unfold leafC at hc
  split at hc
  · rw [List.mem_singleton] at hc
    subst hc
    exact Nat.zero_le _
  · exact (chunks_mem 7 (by omega) l c hc).2
theorem leaves_pairs (l : List Pa) (hok : ∀ p ∈ l, p.ok) : (leavesL l).flatMap pairsB = l := by
  have key : ∀ cs : List (List Pa), (∀ c ∈ cs, c.length ≤ 7 ∧ ∀ p ∈ c, p.ok) → (cs.map fun c => pageP (leafL c)).flatMap pairsB = cs.flatten := by
    intro cs
    induction cs with
    | nil => intro _; rfl
    | cons c r ih =>
      intro h
      have hc := h c (List.mem_cons_self ..)
      rw [List.map_cons, List.flatMap_cons, pairs_leaf c hc.1 hc.2, List.flatten_cons, ih (fun d hd => h d (List.mem_cons_of_mem _ hd))]
  unfold leavesL
  rw [key _ (fun c hc => ⟨leafC_few l c hc, fun p hp => hok p (leafC_in l c hc p hp)⟩), leafC_flat]
theorem leaves_is (l : List Pa) : (leavesL l).all isP = true := by
  rw [List.all_eq_true]
  intro p hp
  obtain ⟨c, hc, rfl⟩ := List.mem_map.1 hp
  exact leaf_isP c (leafC_few l c hc)
theorem inner_pairs (cs : List (List Kd)) (h : ∀ c ∈ cs, c.length ≤ 12) : (cs.map fun c => pageP (innerL c)).flatMap pairsB = [] := by
  induction cs with
  | nil => rfl
  | cons c r ih =>
    rw [List.map_cons, List.flatMap_cons, pairs_inner c (h c (List.mem_cons_self ..)), ih (fun d hd => h d (List.mem_cons_of_mem _ hd))]
    rfl
theorem lev_pairs : ∀ (f : Nat) (out : List (List UInt8)) (lv : List Kd), (levF f out lv).flatMap pairsB = out.flatMap pairsB
  | 0, out, lv => rfl
  | f + 1, out, lv => by
    rw [levF]
    split
    · rfl
    · rw [lev_pairs f, List.flatMap_append, inner_pairs _ (fun c hc => (chunks_mem 12 (by omega) lv c hc).2), List.append_nil]
theorem lev_is : ∀ (f : Nat) (out : List (List UInt8)) (lv : List Kd), out.all isP = true → (levF f out lv).all isP = true
  | 0, out, lv, h => h
  | f + 1, out, lv, h => by
    rw [levF]
    split
    · exact h
    · refine lev_is f _ _ ?_
      rw [List.all_append, h, Bool.true_and, List.all_eq_true]
      intro p hp
      obtain ⟨c, hc, rfl⟩ := List.mem_map.1 hp
      have hm := chunks_mem 12 (by omega) lv c hc
      exact inner_isP c hm.2 (List.length_pos_iff.2 hm.1)
/-- What is laid down is read again. -/
theorem all_build (l : List Pa) (hm : mayP l = true) (hok : ∀ p ∈ l, p.ok) : allP (buildP l) = some l := by
  have h1 : (buildP l).all isP = true := lev_is _ _ _ (leaves_is l)
  have h2 : (buildP l).flatMap pairsB = l := by
    unfold buildP
    rw [lev_pairs, leaves_pairs l hok]
  unfold allP
  rw [if_pos h1, h2, if_pos ⟨hm, rfl⟩]
end
section
open Go.RowKit
set_option linter.unusedVariables false
def SortK (ks : List Kd) : Prop := ∀ a b, a ≤ b → b < ks.length → leastA ks a ≤ leastA ks b
theorem leastA_cut (lv : List Kd) (o a : Nat) (h : a < ((lv.drop o).take 12).length) : leastA ((lv.drop o).take 12) a = leastA lv (o + a) := by
  have hl := h
  rw [List.length_take, List.length_drop] at hl
  rw [leastA_eq _ _ h, leastA_eq _ _ (by omega), List.getElem_take, List.getElem_drop]
theorem chunk_sort (lv : List Kd) (h : SortK lv) (i : Nat) (hi : i < (chunks 12 lv).length) : SortK (chunks 12 lv)[i] := by
  rw [chunks_get 12 (by omega) i lv hi]
  intro a b hab hb
  have hl := hb
  rw [List.length_take, List.length_drop] at hl
  rw [leastA_cut lv _ a (by omega), leastA_cut lv _ b hb]
  exact h _ _ (by omega) (by omega)
theorem kidsK_get : ∀ (cs : List (List Kd)) (o i : Nat) (h : i < cs.length), (kidsK o cs)[i]'(by rw [kidsK_len]; exact h) = ⟨leastK cs[i], o + i⟩
  | c :: r, o, 0, h => rfl
  | c :: r, o, i + 1, h => by
    have := kidsK_get r (o + 1) i (by simpa using h)
    simp only [kidsK, List.getElem_cons_succ]
    rw [this, show o + 1 + i = o + (i + 1) by omega]
theorem leastK_chunk (lv : List Kd) (i : Nat) (hi : i < (chunks 12 lv).length) : leastK (chunks 12 lv)[i] = leastA lv (12 * i) := by
  have hm := chunks_mem 12 (by omega) lv _ (List.getElem_mem hi)
  have hg := chunks_get 12 (by omega) i lv hi
  have key : ∀ c : List Kd, c ≠ [] → leastK c = leastA c 0 := fun c hc => by
    cases c with
    | nil => exact absurd rfl hc
    | cons x r => rfl
  rw [key _ hm.1]
  have h0 : 0 < ((chunks 12 lv)[i]).length := List.length_pos_iff.2 hm.1
  rw [hg] at h0 ⊢
  exact leastA_cut lv (12 * i) 0 h0
theorem kidsK_sort (lv : List Kd) (h : SortK lv) (o : Nat) : SortK (kidsK o (chunks 12 lv)) := by
  intro a b hab hb
  rw [kidsK_len] at hb
  have hl := hb
  rw [chunks_len 12 (by omega)] at hl
  rw [leastA_eq _ _ (by rw [kidsK_len]; omega), leastA_eq _ _ (by rw [kidsK_len]; exact hb), kidsK_get _ _ _ (by omega), kidsK_get _ _ _ hb]
  show leastK _ ≤ leastK _
  rw [leastK_chunk lv a (by omega), leastK_chunk lv b hb]
  exact h _ _ (by omega) (by omega)
theorem lev_good : ∀ (f : Nat) (out : List (List UInt8)) (lv : List Kd), GoodP out → SortK lv → (∀ k ∈ lv, k.least < 18446744073709551616 ∧ k.at_ < out.length) → out.length + lv.length ≤ 60000 → GoodP (levF f out lv)
  | 0, out, lv, h, _, _, _ => h
  | f + 1, out, lv, h, hs, hk, hl => by
    rw [levF]
    split
    · exact h
    · rename_i h1
      have hcl : (chunks 12 lv).length = (lv.length + 11) / 12 := by rw [chunks_len 12 (by omega)]; congr 1
      refine lev_good f _ _ ?_ (kidsK_sort lv hs _) ?_ ?_
      · intro j hj
        rcases Nat.lt_or_ge j out.length with h2 | h2
        · rw [List.getElem_append_left h2]
          exact h j h2
        · rw [List.getElem_append_right h2]
          have hi : j - out.length < (chunks 12 lv).length := by
            rw [List.length_append, List.length_map] at hj
            omega
          rw [List.getElem_map]
          have hm := chunks_mem 12 (by omega) lv _ (List.getElem_mem hi)
          have hok : ∀ k ∈ (chunks 12 lv)[j - out.length], k.least < 18446744073709551616 ∧ k.at_ < out.length := fun k hk2 => hk k (chunks_in 12 (by omega) lv _ (List.getElem_mem hi) k hk2)
          have hkk := kids_inner _ hm.2 (fun k hk2 => ⟨(hok k hk2).1, by have := (hok k hk2).2; omega⟩)
          rw [hkk]
          exact ⟨inner_isP _ hm.2 (List.length_pos_iff.2 hm.1), chunk_sort lv hs _ hi, fun k hk2 => by have := (hok k hk2).2; omega⟩
      · intro k hk2
        have := kidsK_ok (chunks 12 lv) out.length (fun c hc p hp => (hk p (chunks_in 12 (by omega) lv c hc p hp)).1) k hk2
        rw [List.length_append, List.length_map]
        exact ⟨this.1, by omega⟩
      · rw [List.length_append, List.length_map, kidsK_len]
        omega
end
section
open Go.RowKit
set_option linter.unusedVariables false
theorem leaves_good (l : List Pa) : GoodP (leavesL l) := by
  intro j hj
  unfold leavesL at hj ⊢
  rw [List.length_map] at hj
  rw [List.getElem_map]
  have hf := leafC_few l _ (List.getElem_mem hj)
  rw [kids_leaf _ hf]
  exact ⟨leaf_isP _ hf, fun a b _ hb => absurd hb (Nat.not_lt_zero _), fun k hk => by cases hk⟩
theorem asc_lt (l : List Pa) (h : ascB l = true) : ∀ (d i : Nat) (hi : i + d + 1 < l.length), l[i].key < l[i + d + 1].key
  | 0, i, hi => by
    have h1 := ascB_step l i hi
    have h2 : ∀ k, ascB (l.drop k) = true := fun k => by
      induction k with
      | zero => exact h
      | succ k ih =>
        rcases Nat.lt_or_ge (k + 1) l.length with hk | hk
        · have := ascB_step l k hk
          rw [ih] at this
          exact (Bool.and_eq_true_iff.1 this.symm).2
        · exact ascB_end l (k + 1) (by omega)
    rw [h2 i] at h1
    have h3 := (Bool.and_eq_true_iff.1 h1.symm).1
    exact of_decide_eq_true h3
  | d + 1, i, hi => by
    have h1 := asc_lt l h d i (by omega)
    have h2 := asc_lt l h 0 (i + d + 1) (by omega)
    exact Nat.lt_trans h1 h2
theorem asc_le (l : List Pa) (h : ascB l = true) (i j : Nat) (hij : i ≤ j) (hj : j < l.length) : (l[i]'(by omega)).key ≤ l[j].key := by
  rcases Nat.lt_or_ge i j with h1 | h1
  · obtain ⟨d, rfl⟩ : ∃ d, j = i + d + 1 := ⟨j - i - 1, by omega⟩
    exact Nat.le_of_lt (asc_lt l h d i hj)
  · have : i = j := by omega
    subst this
    exact Nat.le_refl _
theorem kidsP_get : ∀ (cs : List (List Pa)) (o i : Nat) (h : i < cs.length), (kidsP o cs)[i]'(by rw [kidsP_len]; exact h) = ⟨leastP cs[i], o + i⟩
  | c :: r, o, 0, h => rfl
  | c :: r, o, i + 1, h => by
    have := kidsP_get r (o + 1) i (by simpa using h)
    simp only [kidsP, List.getElem_cons_succ]
    rw [this, show o + 1 + i = o + (i + 1) by omega]
theorem leastP_leaf (l : List Pa) (i : Nat) (hi : i < (leafC l).length) (h7 : 7 * i < l.length) : leastP (leafC l)[i] = (l[7 * i]'h7).key := by
  rw [leafC_get l i hi]
  have key : ∀ (ys : List Pa) (h : 0 < ys.length), leastP (ys.take 7) = (ys[0]'h).key := fun ys h => by
    cases ys with
    | nil => cases h
    | cons p r => rfl
  rw [key _ (by rw [List.length_drop]; omega), List.getElem_drop]
  simp only [Nat.add_zero]
theorem leaves_sort (l : List Pa) (h : ascB l = true) : SortK (kidsP 0 (leafC l)) := by
  intro a b hab hb
  rw [kidsP_len] at hb
  rw [leastA_eq _ _ (by rw [kidsP_len]; omega), leastA_eq _ _ (by rw [kidsP_len]; exact hb), kidsP_get _ _ _ (by omega), kidsP_get _ _ _ hb]
  show leastP _ ≤ leastP _
  rcases Nat.eq_or_lt_of_le hab with rfl | hlt
  · exact Nat.le_refl _
  · have hl := hb
    rw [leafC_len] at hl
    unfold aboveN at hl
    have h7 : 7 * b < l.length := by
      split at hl <;> omega
    rw [leastP_leaf l a (by omega) (by omega), leastP_leaf l b hb h7]
    exact asc_le l h _ _ (by omega) h7
theorem build_good (l : List Pa) (hm : mayP l = true) (hok : ∀ p ∈ l, p.ok) : GoodP (buildP l) := by
  unfold mayP at hm
  simp only [Bool.and_eq_true, decide_eq_true_eq] at hm
  have h86 := above7_le l.length hm.2
  have hll : (leavesL l).length = (leafC l).length := by unfold leavesL; rw [List.length_map]
  refine lev_good _ _ _ (leaves_good l) (leaves_sort l hm.1) (fun k hk => ?_) (by rw [hll, kidsP_len, leafC_len]; omega)
  have := kidsP_ok (leafC l) 0 (fun c hc p hp => hok p (leafC_in l c hc p hp)) k hk
  rw [hll]
  exact ⟨this.1, by omega⟩
end
section
open Go.RowKit
set_option linter.unusedVariables false
def LtK (p q : Pa) : Prop := p.key < q.key
/-- A page, and the pairs below it, so many levels deep. -/
inductive Cov (ls : List (List UInt8)) : Nat → Nat → List Pa → Prop
  | leaf (a : Nat) (c : List Pa) (h : ls[a]? = some (pageP (leafL c))) (h7 : c.length ≤ 7) : Cov ls 1 a c
  | inner (a d : Nat) (ks : List Kd) (cs : List (List Pa)) (h : ls[a]? = some (pageP (innerL ks))) (h0 : 0 < ks.length) (h12 : ks.length ≤ 12) (hl : ks.length = cs.length)
      (hk : ∀ (i : Nat) (k : Kd) (c : List Pa), ks[i]? = some k → cs[i]? = some c → k.least = leastP c ∧ c ≠ []) (ho : ∀ k ∈ ks, k.least < 18446744073709551616 ∧ k.at_ < 65536)
      (hc : ∀ (i : Nat) (k : Kd) (c : List Pa), ks[i]? = some k → cs[i]? = some c → Cov ls d k.at_ c) : Cov ls (d + 1) a cs.flatten
theorem Cov.more {ls : List (List UInt8)} {d a : Nat} {c : List Pa} (h : Cov ls d a c) (x : List (List UInt8)) : Cov (ls ++ x) d a c := by
  have key : ∀ (j : Nat) (b : List UInt8), ls[j]? = some b → (ls ++ x)[j]? = some b := fun j b hb => by
    rw [List.getElem?_append_left (List.getElem?_eq_some_iff.1 hb).1]
    exact hb
  induction h with
  | leaf a c h h7 => exact .leaf a c (key a _ h) h7
  | inner a d ks cs h h0 h12 hl hk ho hc ih => exact .inner a d ks cs (key a _ h) h0 h12 hl hk ho ih
theorem FdR.inv {ls : List (List UInt8)} {key a r v m : Nat} {e : Int} {b : List UInt8} (hb : ls[a]? = some b) (h : FdR ls key a r v m e) :
    (octA b 0 ≠ 2 ∧ ((∃ p ∈ pairsB b, p.key = key ∧ v = p.val ∧ m = r ∧ e = 0) ∨ ((∀ p ∈ pairsB b, p.key ≠ key) ∧ m = r ∧ e = 6))) ∨
    (octA b 0 = 2 ∧ (((∀ i, i < (kidsB b).length → key < leastA (kidsB b) i) ∧ m = r ∧ e = 6) ∨
      (∃ i k, (kidsB b)[i]? = some k ∧ (∀ a, a ≤ i → leastA (kidsB b) a ≤ key) ∧ (∀ a, i < a → a < (kidsB b).length → key < leastA (kidsB b) a) ∧ FdR ls key k.at_ (r + 1) v m e))) := by
  obtain ⟨ha, rfl⟩ := List.getElem?_eq_some_iff.1 hb
  cases h with
  | hit _ _ h1 h2 i hi hk => exact .inl ⟨h2, .inl ⟨_, List.getElem_mem hi, hk, rfl, rfl, rfl⟩⟩
  | miss _ _ h1 h2 hk => exact .inl ⟨h2, .inr ⟨hk, rfl, rfl⟩⟩
  | low _ _ h1 h2 hk => exact .inr ⟨h2, .inl ⟨hk, rfl, rfl⟩⟩
  | down _ _ h1 h2 i hi h3 h4 _ _ _ hr => exact .inr ⟨h2, .inr ⟨i, _, List.getElem?_eq_getElem hi, h3, h4, hr⟩⟩
theorem least_le (c : List Pa) (hs : c.Pairwise LtK) (p : Pa) (hp : p ∈ c) : leastP c ≤ p.key := by
  cases c with
  | nil => cases hp
  | cons q r =>
    show q.key ≤ p.key
    rcases List.mem_cons.1 hp with rfl | h
    · exact Nat.le_refl _
    · exact Nat.le_of_lt ((List.pairwise_cons.1 hs).1 p h)
theorem least_mem (c : List Pa) (h : c ≠ []) : ∃ p ∈ c, p.key = leastP c := by
  cases c with
  | nil => exact absurd rfl h
  | cons q r => exact ⟨q, List.mem_cons_self .., rfl⟩
theorem cov_find {ls : List (List UInt8)} {d a : Nat} {c : List Pa} (h : Cov ls d a c) : ∀ (key r v m : Nat) (e : Int), (∀ p ∈ c, p.ok) → c.Pairwise LtK → FdR ls key a r v m e →
    (∃ p ∈ c, p.key = key ∧ v = p.val ∧ m + 1 = r + d ∧ e = 0) ∨ ((∀ p ∈ c, p.key ≠ key) ∧ e = 6 ∧ r ≤ m ∧ m + 1 ≤ r + d) := by
  induction h with
  | leaf a c h h7 =>
    intro key r v m e hok hs hr
    have h0 := octA_leaf c h7
    have hp := pairs_leaf c h7 hok
    rcases hr.inv h with ⟨-, h1⟩ | ⟨h1, -⟩
    · rw [hp] at h1
      rcases h1 with ⟨p, h2, h3, h4, h5, h6⟩ | ⟨h2, h3, h4⟩
      · exact .inl ⟨p, h2, h3, h4, by omega, h6⟩
      · exact .inr ⟨h2, h4, by omega, by omega⟩
    · omega
  | inner a d ks cs h h0 h12 hl hk ho hc ih =>
    intro key r v m e hok hs hr
    have hoc := octA_inner ks h12
    have hkk := kids_inner ks h12 ho
    obtain ⟨hs1, hs2⟩ := List.pairwise_flatten.1 hs
    have hget : ∀ i, i < ks.length → ∃ k c, ks[i]? = some k ∧ cs[i]? = some c ∧ leastA ks i = leastP c ∧ c ∈ cs := fun i hi => by
      have h1 := List.getElem?_eq_getElem hi
      have hi2 : i < cs.length := by rw [← hl]; exact hi
      have h2 := List.getElem?_eq_getElem hi2
      exact ⟨_, _, h1, h2, by rw [leastA_eq _ _ hi]; exact (hk i _ _ h1 h2).1, List.getElem_mem hi2⟩
    rcases hr.inv h with ⟨h1, -⟩ | ⟨-, h1⟩
    · exact absurd hoc.1 h1
    · rw [hkk] at h1
      rcases h1 with ⟨h2, h3, h4⟩ | ⟨i, k, h2, h3, h4, h5⟩
      · refine .inr ⟨?_, h4, by omega, by omega⟩
        intro p hp
        obtain ⟨c, hcm, hpc⟩ := List.mem_flatten.1 hp
        obtain ⟨j, hj, rfl⟩ := List.getElem_of_mem hcm
        obtain ⟨k, c, g1, g2, g3, g4⟩ := hget j (by omega)
        have g5 : cs[j] = c := by rw [List.getElem?_eq_getElem hj] at g2; injection g2
        rw [g5] at hpc
        have := h2 j (by omega)
        have := least_le c (hs1 c g4) p hpc
        omega
      · have hi : i < ks.length := (List.getElem?_eq_some_iff.1 h2).1
        obtain ⟨k', c, g1, g2, g3, g4⟩ := hget i hi
        have hkk' : k = k' := by rw [h2] at g1; injection g1
        subst hkk'
        have hci : cs[i]'(by omega) = c := by rw [List.getElem?_eq_getElem (by omega)] at g2; injection g2
        have hmem : ∀ p ∈ c, p ∈ cs.flatten := fun p hp => List.mem_flatten.2 ⟨c, g4, hp⟩
        rcases ih i k c h2 g2 key (r + 1) v m e (fun p hp => hok p (hmem p hp)) (hs1 c g4) h5 with ⟨p, q1, q2, q3, q4, q5⟩ | ⟨q1, q2, q3, q4⟩
        · exact .inl ⟨p, hmem p q1, q2, q3, by omega, q5⟩
        · refine .inr ⟨?_, q2, by omega, by omega⟩
          intro p hp
          obtain ⟨c2, hcm, hpc⟩ := List.mem_flatten.1 hp
          obtain ⟨j, hj, rfl⟩ := List.getElem_of_mem hcm
          rcases Nat.lt_trichotomy j i with hji | rfl | hji
          · obtain ⟨x, hx, hxk⟩ := least_mem c (hk i k c h2 g2).2
            have := (List.pairwise_iff_getElem.1 hs2) j i hj (by omega) hji p hpc x (by rw [hci]; exact hx)
            have h6 : p.key < x.key := this
            have := h3 i (Nat.le_refl _)
            omega
          · rw [hci] at hpc
            exact q1 p hpc
          · obtain ⟨k3, c3, g5, g6, g7, g8⟩ := hget j (by omega)
            have g9 : cs[j] = c3 := by rw [List.getElem?_eq_getElem hj] at g6; injection g6
            rw [g9] at hpc
            have := h4 j hji (by omega)
            have := least_le c3 (hs1 c3 g8) p hpc
            omega
end
section
open Go.RowKit
set_option linter.unusedVariables false
structure LevI (out : List (List UInt8)) (d : Nat) (lv : List Kd) (cs : List (List Pa)) : Prop where
  len : lv.length = cs.length
  one : ∀ (i : Nat) (k : Kd) (c : List Pa), lv[i]? = some k → cs[i]? = some c → k.least = leastP c ∧ (1 < lv.length → c ≠ []) ∧ Cov out d k.at_ c
  ok : ∀ k ∈ lv, k.least < 18446744073709551616 ∧ k.at_ < 65536
  last : ∀ k : Kd, lv[lv.length - 1]? = some k → k.at_ + 1 = out.length
theorem kidsK_get? (cs : List (List Kd)) (o i : Nat) (k : Kd) (h : (kidsK o cs)[i]? = some k) : ∃ c, cs[i]? = some c ∧ k = ⟨leastK c, o + i⟩ := by
  obtain ⟨h1, rfl⟩ := List.getElem?_eq_some_iff.1 h
  have h2 : i < cs.length := by rw [kidsK_len] at h1; exact h1
  exact ⟨_, List.getElem?_eq_getElem h2, kidsK_get cs o i h2⟩
theorem chunks_get? {α : Type} (k : Nat) (hk : 0 < k) (l : List α) (i : Nat) (c : List α) (h : (chunks k l)[i]? = some c) : c = (l.drop (k * i)).take k := by
  obtain ⟨h1, rfl⟩ := List.getElem?_eq_some_iff.1 h
  exact chunks_get k hk i l h1
theorem cut_get? {α : Type} (l : List α) (k o j : Nat) (x : α) (h : ((l.drop o).take k)[j]? = some x) : l[o + j]? = some x := by
  rw [List.getElem?_take] at h
  split at h
  · rwa [List.getElem?_drop] at h
  · cases h
theorem leastP_flat (cs : List (List Pa)) (h : ∀ c ∈ cs, c ≠ []) : leastP cs.flatten = leastP (cs.headD []) := by
  cases cs with
  | nil => rfl
  | cons c r =>
    have h1 := h c (List.mem_cons_self ..)
    cases c with
    | nil => exact absurd rfl h1
    | cons p q => rfl
theorem LevI.step {out : List (List UInt8)} {d : Nat} {lv : List Kd} {cs : List (List Pa)} (h : LevI out d lv cs) (h1 : 1 < lv.length) (hs : out.length + lv.length ≤ 60000) :
    LevI (out ++ (chunks 12 lv).map fun c => pageP (innerL c)) (d + 1) (kidsK out.length (chunks 12 lv)) ((chunks 12 cs).map List.flatten) := by
  have hcl : (chunks 12 lv).length = (lv.length + 11) / 12 := by rw [chunks_len 12 (by omega)]; congr 1
  have hcc : (chunks 12 cs).length = (lv.length + 11) / 12 := by rw [chunks_len 12 (by omega), ← h.len]; congr 1
  refine ⟨by rw [kidsK_len, List.length_map, hcl, hcc], ?_, ?_, ?_⟩
  · intro i k c hk hc
    obtain ⟨ks, hks, rfl⟩ := kidsK_get? _ _ _ _ hk
    rw [List.getElem?_map] at hc
    obtain ⟨ds, hds, rfl⟩ := Option.map_eq_some_iff.1 hc
    have e1 := chunks_get? 12 (by omega) lv i ks hks
    have e2 := chunks_get? 12 (by omega) cs i ds hds
    have hkm := List.mem_of_getElem? hks
    have m1 := chunks_mem 12 (by omega) lv ks hkm
    have m2 := chunks_mem 12 (by omega) cs ds (List.mem_of_getElem? hds)
    have hlen : ks.length = ds.length := by rw [e1, e2, List.length_take, List.length_take, List.length_drop, List.length_drop, h.len]
    have hone : ∀ (j : Nat) (k : Kd) (c : List Pa), ks[j]? = some k → ds[j]? = some c → k.least = leastP c ∧ (1 < lv.length → c ≠ []) ∧ Cov out d k.at_ c := fun j k c hk2 hc2 => by
      rw [e1] at hk2
      rw [e2] at hc2
      exact h.one _ k c (cut_get? _ _ _ _ _ hk2) (cut_get? _ _ _ _ _ hc2)
    have hne : ∀ c ∈ ds, c ≠ [] := fun c hc2 => by
      obtain ⟨j, hj, rfl⟩ := List.getElem_of_mem hc2
      exact (hone j _ _ (List.getElem?_eq_getElem (by omega)) (List.getElem?_eq_getElem hj)).2.1 h1
    refine ⟨?_, fun _ => ?_, ?_⟩
    · show leastK ks = _
      rw [leastP_flat ds hne]
      cases ks with
      | nil => exact absurd rfl m1.1
      | cons k0 kr =>
        cases ds with
        | nil => exact absurd rfl m2.1
        | cons d0 dr => exact (hone 0 k0 d0 rfl rfl).1
    · cases ds with
      | nil => exact absurd rfl m2.1
      | cons d0 dr =>
        have := hne d0 (List.mem_cons_self ..)
        intro e
        rw [List.flatten_cons] at e
        exact this (List.append_eq_nil_iff.1 e).1
    · refine Cov.inner _ d ks ds ?_ (List.length_pos_iff.2 m1.1) m1.2 hlen (fun j k c hk2 hc2 => ?_) (fun k hk2 => ?_) (fun j k c hk2 hc2 => (hone j k c hk2 hc2).2.2.more _)
      · rw [List.getElem?_append_right (Nat.le_add_right _ _), Nat.add_sub_cancel_left, List.getElem?_map, hks]
        rfl
      · exact ⟨(hone j k c hk2 hc2).1, (hone j k c hk2 hc2).2.1 h1⟩
      · exact h.ok k (chunks_in 12 (by omega) lv ks hkm k hk2)
  · intro k hk
    have := kidsK_ok (chunks 12 lv) out.length (fun c hc p hp => (h.ok p (chunks_in 12 (by omega) lv c hc p hp)).1) k hk
    omega
  · intro k hk
    obtain ⟨ks, hks, rfl⟩ := kidsK_get? _ _ _ _ hk
    rw [kidsK_len, List.length_append, List.length_map, hcl]
    show out.length + _ + 1 = _
    omega
def depF : Nat → Nat → Nat
  | 0, _ => 0
  | f + 1, n => if n ≤ 1 then 0 else depF f ((n + 11) / 12) + 1
theorem depF_one (f n : Nat) (h : n ≤ 1) : depF f n = 0 := by
  cases f with
  | zero => rfl
  | succ f => rw [depF, if_pos h]
theorem depF_eq (n : Nat) (h : n ≤ 86) : depF n n + 1 = if n ≤ 1 then 1 else if n ≤ 12 then 2 else 3 := by
  by_cases h1 : n ≤ 1
  · rw [depF_one n n h1, if_pos h1]
  · rw [if_neg h1]
    obtain ⟨f, hf⟩ : ∃ f, n = (f + 1) + 1 := ⟨n - 2, by omega⟩
    have e1 : depF n n = depF (f + 1) ((n + 11) / 12) + 1 := by
      conv => lhs; rw [hf]
      rw [depF, if_neg (by omega), ← hf]
    by_cases h2 : n ≤ 12
    · rw [if_pos h2, e1, depF_one _ _ (by omega)]
    · rw [if_neg h2, e1, depF, if_neg (by omega), depF_one _ _ (by omega)]
theorem lev_cov : ∀ (f : Nat) (out : List (List UInt8)) (lv : List Kd) (cs : List (List Pa)) (d : Nat), LevI out d lv cs → lv.length ≤ f → 1 ≤ lv.length → out.length + 2 * lv.length ≤ 60000 →
    Cov (levF f out lv) (depF f lv.length + d) ((levF f out lv).length - 1) cs.flatten
  | 0, out, lv, cs, d, h, h1, h2, h3 => by omega
  | f + 1, out, lv, cs, d, h, h1, h2, h3 => by
    by_cases h4 : lv.length ≤ 1
    · rw [levF_done _ _ _ h4, depF_one _ _ h4, Nat.zero_add]
      have hl1 : lv.length = 1 := by omega
      have hlen := h.len
      cases cs with
      | nil => rw [hl1] at hlen; cases hlen
      | cons c r =>
        have hr : r = [] := List.eq_nil_of_length_eq_zero (by rw [List.length_cons] at hlen; omega)
        subst hr
        obtain ⟨k, hk⟩ : ∃ k, lv[0]? = some k := ⟨_, List.getElem?_eq_getElem (by omega)⟩
        have hlast := h.last k (by rw [hl1]; exact hk)
        have := (h.one 0 k c hk rfl).2.2
        have e : out.length - 1 = k.at_ := by omega
        rw [e]
        have e2 : [c].flatten = c := by simp
        rw [e2]
        exact this
    · have hcl : (chunks 12 lv).length = (lv.length + 11) / 12 := by rw [chunks_len 12 (by omega)]; congr 1
      have hst := h.step (by omega) (by omega)
      have ih := lev_cov f _ _ _ (d + 1) hst (by rw [kidsK_len, hcl]; omega) (by rw [kidsK_len, hcl]; omega) (by rw [kidsK_len, List.length_append, List.length_map, hcl]; omega)
      rw [kidsK_len, hcl, ← List.flatten_flatten, chunks_flat 12 (by omega)] at ih
      have e : levF (f + 1) out lv = levF f (out ++ (chunks 12 lv).map fun c => pageP (innerL c)) (kidsK out.length (chunks 12 lv)) := by rw [levF, if_neg h4]
      rw [e, depF, if_neg h4, show depF f ((lv.length + 11) / 12) + 1 + d = depF f ((lv.length + 11) / 12) + (d + 1) by omega]
      exact ih
theorem leaves_lev (l : List Pa) (h600 : l.length ≤ 600) (hok : ∀ p ∈ l, p.ok) : LevI (leavesL l) 1 (kidsP 0 (leafC l)) (leafC l) := by
  have h86 := above7_le l.length h600
  have hll : (leavesL l).length = (leafC l).length := by unfold leavesL; rw [List.length_map]
  refine ⟨kidsP_len _ _, ?_, ?_, ?_⟩
  · intro i k c hk hc
    obtain ⟨hi, rfl⟩ := List.getElem?_eq_some_iff.1 hc
    have hk2 := List.getElem?_eq_getElem (l := kidsP 0 (leafC l)) (i := i) (by rw [kidsP_len]; exact hi)
    rw [hk, kidsP_get _ _ _ hi] at hk2
    injection hk2 with hk2
    subst hk2
    refine ⟨rfl, fun h1 => ?_, ?_⟩
    · rw [kidsP_len] at h1
      have hne : l ≠ [] := by
        rintro rfl
        exact absurd h1 (by decide)
      have hmem := List.getElem_mem hi
      have hlc : leafC l = chunks 7 l := by
        unfold leafC
        rw [if_neg]
        intro he
        exact hne (List.isEmpty_iff.1 he)
      have : ∀ c ∈ leafC l, c ≠ [] := by
        rw [hlc]
        exact fun c hc => (chunks_mem 7 (by omega) l c hc).1
      exact this _ hmem
    · refine .leaf _ _ ?_ (leafC_few l _ (List.getElem_mem hi))
      unfold leavesL
      rw [List.getElem?_map]
      show Option.map _ (leafC l)[0 + i]? = _
      rw [Nat.zero_add, hc]
      rfl
  · intro k hk
    have := kidsP_ok (leafC l) 0 (fun c hc p hp => hok p (leafC_in l c hc p hp)) k hk
    rw [leafC_len] at this
    omega
  · intro k hk
    obtain ⟨h1, rfl⟩ := List.getElem?_eq_some_iff.1 hk
    have h2 := h1
    rw [kidsP_len] at h2
    have e := kidsP_get (leafC l) 0 ((kidsP 0 (leafC l)).length - 1) (by rw [kidsP_len]; omega)
    rw [e]
    show 0 + _ + 1 = _
    rw [kidsP_len, hll]
    omega
/-- How many levels. -/
def levN (n : Nat) : Nat := if 84 < n then 3 else if 7 < n then 2 else 1
theorem build_cov (l : List Pa) (h600 : l.length ≤ 600) (hok : ∀ p ∈ l, p.ok) : Cov (buildP l) (levN l.length) ((buildP l).length - 1) l := by
  have h86 := above7_le l.length h600
  have h1 := aboveN_pos l.length 7
  have hll : (leavesL l).length = (leafC l).length := by unfold leavesL; rw [List.length_map]
  have h := lev_cov (leafC l).length _ _ _ 1 (leaves_lev l h600 hok) (by rw [kidsP_len]; exact Nat.le_refl _) (by rw [kidsP_len, leafC_len]; exact h1) (by rw [hll, kidsP_len, leafC_len]; omega)
  rw [leafC_flat, kidsP_len, leafC_len, depF_eq _ h86] at h
  have e : (if aboveN l.length 7 ≤ 1 then 1 else if aboveN l.length 7 ≤ 12 then 2 else 3) = levN l.length := by
    have hb : aboveN l.length 7 ≤ 1 ↔ l.length ≤ 7 := by unfold aboveN; split <;> omega
    have hb2 : aboveN l.length 7 ≤ 12 ↔ l.length ≤ 84 := by unfold aboveN; split <;> omega
    unfold levN
    by_cases g1 : l.length ≤ 7
    · rw [if_pos (hb.2 g1), if_neg (by omega), if_neg (by omega)]
    · rw [if_neg (fun h => g1 (hb.1 h))]
      by_cases g2 : l.length ≤ 84
      · rw [if_pos (hb2.2 g2), if_neg (by omega), if_pos (by omega)]
      · rw [if_neg (fun h => g2 (hb2.1 h)), if_pos (by omega)]
  rw [e, ← leafC_len] at h
  exact h
/-- What is found in a tree that was laid down. -/
theorem find_build (l : List Pa) (hm : mayP l = true) (hok : ∀ p ∈ l, p.ok) (key v m : Nat) (e : Int) (h : FdR (buildP l) key ((buildP l).length - 1) 1 v m e) :
    (∃ p ∈ l, p.key = key ∧ v = p.val ∧ m = levN l.length ∧ e = 0) ∨ ((∀ p ∈ l, p.key ≠ key) ∧ e = 6 ∧ 1 ≤ m ∧ m ≤ levN l.length) := by
  unfold mayP at hm
  simp only [Bool.and_eq_true, decide_eq_true_eq] at hm
  have hs : l.Pairwise LtK := List.pairwise_iff_getElem.2 (fun i j hi hj hij => by
    obtain ⟨d, rfl⟩ : ∃ d, j = i + d + 1 := ⟨j - i - 1, by omega⟩
    exact asc_lt l hm.1 d i hj)
  rcases cov_find (build_cov l hm.2 hok) key 1 v m e hok hs h with ⟨p, h1, h2, h3, h4, h5⟩ | ⟨h1, h2, h3, h4⟩
  · exact .inl ⟨p, h1, h2, h3, by omega, h5⟩
  · exact .inr ⟨h1, h2, h3, by omega⟩
end
section
open Go.RowKit
set_option linter.unusedVariables false
def numK : Nat → List Nat → List Kd
  | _, [] => []
  | i, x :: r => ⟨x, i⟩ :: numK (i + 1) r
theorem numK_len : ∀ (ms : List Nat) (i : Nat), (numK i ms).length = ms.length
  | [], i => rfl
  | x :: r, i => by rw [numK, List.length_cons, numK_len r, List.length_cons]
theorem numK_get : ∀ (ms : List Nat) (o i : Nat) (h : i < ms.length), (numK o ms)[i]'(by rw [numK_len]; exact h) = ⟨ms[i], o + i⟩
  | x :: r, o, 0, h => rfl
  | x :: r, o, i + 1, h => by
    have := numK_get r (o + 1) i (by simpa using h)
    simp only [numK, List.getElem_cons_succ]
    rw [this, show o + 1 + i = o + (i + 1) by omega]
theorem kidsP_num : ∀ (cs : List (List Pa)) (o : Nat), kidsP o cs = numK o (cs.map leastP)
  | [], o => rfl
  | c :: r, o => by rw [kidsP, kidsP_num r, List.map_cons, numK]
theorem kidsK_num : ∀ (cs : List (List Kd)) (o : Nat), kidsK o cs = numK o (cs.map leastK)
  | [], o => rfl
  | c :: r, o => by rw [kidsK, kidsK_num r, List.map_cons, numK]
/-- A level: the least keys of the pages from one on. -/
def lvl (ms : List Nat) (f : Nat) : List Kd := numK f (ms.drop f)
theorem lvl_len (ms : List Nat) (f : Nat) : (lvl ms f).length = ms.length - f := by unfold lvl; rw [numK_len, List.length_drop]
theorem lvl_get (ms : List Nat) (f i : Nat) (h : f + i < ms.length) : (lvl ms f)[i]'(by rw [lvl_len]; omega) = ⟨ms[f + i], f + i⟩ := by
  unfold lvl
  rw [numK_get _ _ _ (by rw [List.length_drop]; omega), List.getElem_drop]
/-- So much of a level is put on. -/
structure RvI (lv : List Kd) (ls0 : List (List UInt8)) (ms0 : List Nat) (j : Nat) (ls : List (List UInt8)) (ms : List Nat) : Prop where
  pg : ls = ls0 ++ ((chunks 12 lv).take j).map fun c => pageP (innerL c)
  le : ms = ms0 ++ ((chunks 12 lv).take j).map leastK
theorem RvI.start (lv : List Kd) (ls0 : List (List UInt8)) (ms0 : List Nat) : RvI lv ls0 ms0 0 ls0 ms0 := ⟨by simp, by simp⟩
theorem RvI.next {lv : List Kd} {ls0 ls : List (List UInt8)} {ms0 ms : List Nat} {j : Nat} (h : RvI lv ls0 ms0 j ls ms) (hj : j < (chunks 12 lv).length) :
    RvI lv ls0 ms0 (j + 1) (ls ++ [pageP (innerL (chunks 12 lv)[j])]) (ms ++ [leastK (chunks 12 lv)[j]]) := by
  refine ⟨?_, ?_⟩
  · rw [h.pg, List.append_assoc, List.take_succ_eq_append_getElem hj, List.map_append]
    rfl
  · rw [h.le, List.append_assoc, List.take_succ_eq_append_getElem hj, List.map_append]
    rfl
/-- Built so far: all pages, their least keys, and where the last level begins. -/
structure BdI (l : List Pa) (ls : List (List UInt8)) (ms : List Nat) (f : Nat) : Prop where
  len : ls.length = ms.length
  fr : f < ls.length
  bd : buildP l = levF (ls.length - f) ls (lvl ms f)
  ok : ∀ m ∈ ms, m < 18446744073709551616
theorem BdI.start (l : List Pa) (hok : ∀ p ∈ l, p.ok) : BdI l (leavesL l) ((leafC l).map leastP) 0 := by
  have h1 := aboveN_pos l.length 7
  have hll : (leavesL l).length = (leafC l).length := by unfold leavesL; rw [List.length_map]
  refine ⟨by rw [hll, List.length_map], by rw [hll, leafC_len]; omega, ?_, ?_⟩
  · unfold buildP lvl
    rw [List.drop_zero, ← kidsP_num, hll, Nat.sub_zero]
  · intro m hm
    obtain ⟨c, hc, rfl⟩ := List.mem_map.1 hm
    cases c with
    | nil => show 0 < _; omega
    | cons p r => exact (hok p (leafC_in l _ hc p (List.mem_cons_self ..))).1
theorem BdI.done {l : List Pa} {ls : List (List UInt8)} {ms : List Nat} {f : Nat} (h : BdI l ls ms f) (h1 : ls.length - f ≤ 1) : buildP l = ls := by
  rw [h.bd, levF_done _ _ _ (by rw [lvl_len, ← h.len]; exact h1)]
theorem leastK_lvl (ms : List Nat) (f j : Nat) (hj : j < (chunks 12 (lvl ms f)).length) : ∃ h : f + 12 * j < ms.length, leastK (chunks 12 (lvl ms f))[j] = ms[f + 12 * j] := by
  have hl := hj
  rw [chunks_len 12 (by omega), lvl_len] at hl
  have h : f + 12 * j < ms.length := by omega
  refine ⟨h, ?_⟩
  rw [leastK_chunk _ j hj, leastA_eq _ _ (by rw [lvl_len]; omega), lvl_get ms f (12 * j) h]
theorem BdI.step {l : List Pa} {ls0 ls : List (List UInt8)} {ms0 ms : List Nat} {f j : Nat} (h : BdI l ls0 ms0 f) (h1 : 1 < ls0.length - f) (hv : RvI (lvl ms0 f) ls0 ms0 j ls ms) (hj : j = (chunks 12 (lvl ms0 f)).length) : BdI l ls ms ls0.length := by
  have hcl : (chunks 12 (lvl ms0 f)).length = (ls0.length - f + 11) / 12 := by rw [chunks_len 12 (by omega), lvl_len, ← h.len]; congr 1
  subst hj
  have e1 := hv.pg
  have e2 := hv.le
  rw [List.take_length] at e1 e2
  have hl1 : ls.length = ls0.length + (chunks 12 (lvl ms0 f)).length := by rw [e1, List.length_append, List.length_map]
  refine ⟨by rw [hl1, e2, List.length_append, List.length_map, h.len], by rw [hl1, hcl]; omega, ?_, ?_⟩
  · rw [h.bd, levF_step _ _ _ (by rw [lvl_len, ← h.len]; exact Nat.le_refl _) (by rw [lvl_len, ← h.len]; exact h1), ← e1]
    have e3 : kidsK ls0.length (chunks 12 (lvl ms0 f)) = lvl ms ls0.length := by
      unfold lvl
      rw [kidsK_num, e2, h.len, List.drop_left]
      rfl
    rw [e3]
    exact levF_more _ _ _ _ (by rw [lvl_len, e2, List.length_append, List.length_map, hcl, h.len]; omega) (by rw [lvl_len, e2, List.length_append, List.length_map, hl1, h.len]; omega)
  · intro m hm
    rw [e2] at hm
    rcases List.mem_append.1 hm with hm | hm
    · exact h.ok m hm
    · obtain ⟨c, hc, rfl⟩ := List.mem_map.1 hm
      obtain ⟨i, hi, rfl⟩ := List.getElem_of_mem hc
      obtain ⟨h2, h3⟩ := leastK_lvl ms0 f i hi
      rw [h3]
      exact h.ok _ (List.getElem_mem h2)
end
end Go.Proofs.Ytlhngieinmgooaa
