/-
  What a laid page says, in plain Lean; A laid page's pairs and kids are read back, in plain Lean. A part of the proof: see the head of the text that ends in 'Law'.
-/
import Derived.Test.YtlhngieinmgooaaTr8
namespace Go.Proofs.Ytlhngieinmgooaa
section
open Go.RowKit
set_option linter.unusedVariables false
theorem pageP_pre (l : List UInt8) : ∃ r, pageP l = l ++ r := ⟨le4 (sumL l) ++ List.replicate (128 - (l ++ le4 (sumL l)).length) 0, by unfold pageP padP; rw [List.append_assoc]⟩
theorem take_page (l : List UInt8) : (pageP l).take l.length = l := by
  obtain ⟨r, hr⟩ := pageP_pre l
  rw [hr, List.take_left']
  rfl
theorem cut_page (l : List UInt8) (a k : Nat) (h : a + k ≤ l.length) : cutL (pageP l) a k = cutL l a k := by
  obtain ⟨r, hr⟩ := pageP_pre l
  unfold cutL
  rw [hr, List.drop_append_of_le_length (by omega), List.take_append_of_le_length (by rw [List.length_drop]; omega)]
theorem octA_page (l : List UInt8) (i : Nat) (h : i < l.length) : octA (pageP l) i = octA l i := by
  obtain ⟨r, hr⟩ := pageP_pre l
  unfold octA
  rw [hr, List.getD_eq_getElem?_getD, List.getD_eq_getElem?_getD, List.getElem?_append_left h]
/-- One of many alike. -/
theorem cut_flat {α : Type} (f : α → List UInt8) (k : Nat) (hf : ∀ a, (f a).length = k) (h : List UInt8) : ∀ (l : List α) (i : Nat) (hi : i < l.length) (o d : Nat), o + d ≤ k → cutL (h ++ l.flatMap f) (h.length + k * i + o) d = cutL (f l[i]) o d := by
  intro l i hi o d hod
  have h1 : cutL (h ++ l.flatMap f) (h.length + k * i + o) d = cutL (l.flatMap f) (k * i + o) d := by
    unfold cutL
    rw [Nat.add_assoc, List.drop_append, List.drop_of_length_le (by omega), List.nil_append, Nat.add_sub_cancel_left]
  rw [h1]
  clear h1 h
  induction l generalizing i with
  | nil => cases hi
  | cons x r ih =>
    cases i with
    | zero =>
      unfold cutL
      rw [List.flatMap_cons, Nat.mul_zero, Nat.zero_add, List.drop_append_of_le_length (by rw [hf]; omega), List.take_append_of_le_length (by rw [List.length_drop, hf]; omega)]
      rfl
    | succ i =>
      have e : k * (i + 1) + o = (f x).length + (k * i + o) := by rw [hf, Nat.mul_add]; omega
      have h2 : cutL ((x :: r).flatMap f) (k * (i + 1) + o) d = cutL (r.flatMap f) (k * i + o) d := by
        unfold cutL
        rw [List.flatMap_cons, e, List.drop_append, List.drop_of_length_le (by omega), List.nil_append, Nat.add_sub_cancel_left]
      rw [h2]
      exact ih i (by simpa using hi)
theorem octA_leaf (ps : List Pa) (h : ps.length ≤ 7) : octA (pageP (leafL ps)) 0 = 1 ∧ octA (pageP (leafL ps)) 1 = ps.length := by
  have hl := leafL_len ps
  rw [octA_page _ 0 (by omega), octA_page _ 1 (by omega)]
  refine ⟨rfl, ?_⟩
  show (UInt8.ofNat ps.length).toNat = _
  rw [UInt8.toNat_ofNat_of_lt' (show ps.length < 256 by omega)]
theorem octA_inner (ks : List Kd) (h : ks.length ≤ 12) : octA (pageP (innerL ks)) 0 = 2 ∧ octA (pageP (innerL ks)) 1 = ks.length := by
  have hl := innerL_len ks
  rw [octA_page _ 0 (by omega), octA_page _ 1 (by omega)]
  refine ⟨rfl, ?_⟩
  show (UInt8.ofNat ks.length).toNat = _
  rw [UInt8.toNat_ofNat_of_lt' (show ks.length < 256 by omega)]
theorem leaf_isP (ps : List Pa) (h : ps.length ≤ 7) : isP (pageP (leafL ps)) = true := by
  obtain ⟨h0, h1⟩ := octA_leaf ps h
  have hl := leafL_len ps
  have hs : sizeP (pageP (leafL ps)) = (leafL ps).length := by unfold sizeP eachP; rw [h0, h1, hl]; simp; omega
  unfold isP kindP
  rw [hs, take_page, h0, h1, pageP_len _ (by omega)]
  simp [h]
theorem inner_isP (ks : List Kd) (h : ks.length ≤ 12) (h1 : 0 < ks.length) : isP (pageP (innerL ks)) = true := by
  obtain ⟨h0, h2⟩ := octA_inner ks h
  have hl := innerL_len ks
  have hs : sizeP (pageP (innerL ks)) = (innerL ks).length := by unfold sizeP eachP; rw [h0, h2, hl]; simp; omega
  unfold isP kindP
  rw [hs, take_page, h0, h2, pageP_len _ (by omega)]
  simp [h]
  intro e
  rw [e] at h1
  cases h1
end
section
open Go.RowKit
set_option linter.unusedVariables false
theorem val_put (v : Nat) : ∀ k : Nat, valL (putL v k) = v % 256 ^ k
  | 0 => by rw [putL_zero, Nat.pow_zero, Nat.mod_one]; rfl
  | k + 1 => by
    rw [putL_succ, valL_snoc, putL_length, val_put v k, UInt8.toNat_ofNat_of_lt' (show v / 256 ^ k % 256 < 256 from Nat.mod_lt _ (by omega)), Nat.pow_succ, Nat.mod_mul, Nat.mul_comm (v / 256 ^ k % 256)]
theorem val_put_lt (v k : Nat) (h : v < 256 ^ k) : valL (putL v k) = v := by rw [val_put, Nat.mod_eq_of_lt h]
theorem cut_l (a b : List UInt8) (k : Nat) (h : a.length = k) : cutL (a ++ b) 0 k = a := by
  unfold cutL
  rw [List.drop_zero, List.take_left' h]
theorem cut_r (a b : List UInt8) (k d : Nat) (h : a.length = k) (hb : b.length = d) : cutL (a ++ b) k d = b := by
  unfold cutL
  rw [List.drop_left' h, ← hb, List.take_length]
theorem pair_leaf (ps : List Pa) (h : ps.length ≤ 7) (i : Nat) (hi : i < ps.length) (hok : ∀ p ∈ ps, p.ok) : pairB (pageP (leafL ps)) i = ps[i] := by
  have hl := leafL_len ps
  have hp := hok _ (List.getElem_mem hi)
  have e0 := cut_flat Pa.o 16 Pa.o_len [1, UInt8.ofNat ps.length] ps i hi 0 8 (by omega)
  have e1 := cut_flat Pa.o 16 Pa.o_len [1, UInt8.ofNat ps.length] ps i hi 8 8 (by omega)
  have e0' : cutL (leafL ps) (2 + 16 * i) 8 = cutL (ps[i]).o 0 8 := e0
  have e1' : cutL (leafL ps) (2 + 16 * i + 8) 8 = cutL (ps[i]).o 8 8 := e1
  unfold pairB
  rw [cut_page _ _ _ (by omega), cut_page _ _ _ (by omega), e0', e1']
  unfold Pa.o
  rw [cut_l _ _ 8 (putL_length _ _), cut_r _ _ 8 8 (putL_length _ _) (putL_length _ _), val_put_lt _ 8 hp.1, val_put_lt _ 8 hp.2]
theorem kid_inner (ks : List Kd) (h : ks.length ≤ 12) (i : Nat) (hi : i < ks.length) (hok : ∀ k ∈ ks, k.least < 18446744073709551616 ∧ k.at_ < 65536) : kidB (pageP (innerL ks)) i = ks[i] := by
  have hl := innerL_len ks
  have hp := hok _ (List.getElem_mem hi)
  have e0 := cut_flat Kd.o 10 Kd.o_len [2, UInt8.ofNat ks.length] ks i hi 0 8 (by omega)
  have e1 := cut_flat Kd.o 10 Kd.o_len [2, UInt8.ofNat ks.length] ks i hi 8 2 (by omega)
  have e0' : cutL (innerL ks) (2 + 10 * i) 8 = cutL (ks[i]).o 0 8 := e0
  have e1' : cutL (innerL ks) (2 + 10 * i + 8) 2 = cutL (ks[i]).o 8 2 := e1
  unfold kidB
  rw [cut_page _ _ _ (by omega), cut_page _ _ _ (by omega), e0', e1']
  unfold Kd.o
  rw [cut_l _ _ 8 (putL_length _ _), cut_r _ _ 8 2 (putL_length _ _) (putL_length _ _), val_put_lt _ 8 hp.1, val_put_lt _ 2 hp.2]
theorem pairs_leaf (ps : List Pa) (h : ps.length ≤ 7) (hok : ∀ p ∈ ps, p.ok) : pairsB (pageP (leafL ps)) = ps := by
  obtain ⟨h0, h1⟩ := octA_leaf ps h
  unfold pairsB
  rw [h0, h1, if_neg (by decide)]
  refine List.ext_getElem (by rw [List.length_map, List.length_range]) (fun i k1 k2 => ?_)
  rw [List.getElem_map, List.getElem_range]
  exact pair_leaf ps h i k2 hok
theorem kids_inner (ks : List Kd) (h : ks.length ≤ 12) (hok : ∀ k ∈ ks, k.least < 18446744073709551616 ∧ k.at_ < 65536) : kidsB (pageP (innerL ks)) = ks := by
  obtain ⟨h0, h1⟩ := octA_inner ks h
  unfold kidsB
  rw [h0, h1, if_pos rfl]
  refine List.ext_getElem (by rw [List.length_map, List.length_range]) (fun i k1 k2 => ?_)
  rw [List.getElem_map, List.getElem_range]
  exact kid_inner ks h i k2 hok
theorem kids_leaf (ps : List Pa) (h : ps.length ≤ 7) : kidsB (pageP (leafL ps)) = [] := by
  unfold kidsB
  rw [(octA_leaf ps h).1, if_neg (by decide)]
theorem pairs_inner (ks : List Kd) (h : ks.length ≤ 12) : pairsB (pageP (innerL ks)) = [] := by
  unfold pairsB
  rw [(octA_inner ks h).1, if_pos rfl]
end
end Go.Proofs.Ytlhngieinmgooaa
