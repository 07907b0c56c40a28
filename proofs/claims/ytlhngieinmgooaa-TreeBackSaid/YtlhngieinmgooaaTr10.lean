/-
  A page is read, of either kind: the walk. A part of the proof: see the head of the text that ends in 'Law'.
-/
import Derived.Test.YtlhngieinmgooaaTr9
namespace Go.Proofs.Ytlhngieinmgooaa
open Go.RowKit
set_option linter.unusedVariables false
set_option maxRecDepth 100000
attribute [local go_sem] Oper.semAt_some

set_option maxHeartbeats 8000000 in
theorem read_many2 (A : Option Addr) (c : Nat) (b : List UInt8) (w : World) (ho : Oct w A 128 b) (hnc : 128 ≤ c) (h1 : octA b 0 = 2) (h2 : (12 < octA b 1 ∨ octA b 1 = 0)) :
    Calls Try.prog 27 #[.slice A 128 c] w fun e w' => Below w.heap.size w w' ∧ RdR w w' b e := by
  obtain ⟨g, off, rfl, x0, x1⟩ := rd_cells ho
  have HF : Hid (isP b = false) := hid (by unfold isP kindP; simp [h1]; omega)
  have hk1l := octA_lt b 1
  obtain ⟨k1, hk1⟩ : ∃ k1, octA b 1 = k1 := ⟨_, rfl⟩
  rw [h1] at x0
  rw [hk1] at x1 h2 hk1l
  have w1 : IntKind.i64.wrap (k1 : Int) = (k1 : Int) := by rw [IntKind.wrap_i64]; omega
  clear ho hk1 h1
  by_cases hm : 12 < k1
  · have d1 : decide ((12 : Int) < (k1 : Int)) = true := by rw [decide_eq_true_iff]; omega
    have d1n : decide (12 < k1) = true := by simpa using hm
    go_enter Try.func27, Try.ntmps27
    go_upto_region 1 with fail
    obtain ⟨w0, hw0⟩ : ∃ w0, w.alloc (.cells #[.slice none 0 0, .slice none 0 0, .bool false] 66) = w0 := ⟨_, rfl⟩
    have hg0 : OwnE w0 w.heap.size 66 [.slice none 0 0, .slice none 0 0, .bool false] := by rw [← hw0]; exact OwnE.new_ w _ _
    have hb0 : Below w.heap.size w w0 := by rw [← hw0]; exact (Below.refl _ w).alloc (Nat.le_refl _) _
    rw [hw0]
    clear hw0
    have c0 := hg0.cell (j := 0) rfl
    have c1 := hg0.cell (j := 1) rfl
    have c2 := hg0.cell (j := 2) rfl
    have f0 := hg0.frozen 0
    have f1 := hg0.frozen 1
    have f2 := hg0.frozen 2
    have HG0 := hid hg0
    have HB0 := hid hb0
    clear hg0 hb0
    have y0 := cells_keep HB0.out x0
    have y1 := cells_keep HB0.out x1
    clear x0 x1
    go_wp2_with fail
    refine bodyPost_ret (nd_res (nd_st HG0.out (.slice none 0 0) (.slice none 0 0) (.bool false)) rfl rfl) rfl ?_
    exact ⟨nd_bl HB0.out (Nat.le_refl _) _ _ _, .inl ⟨HF.out, rfl⟩⟩
  · have hz : k1 = 0 := by omega
    subst hz
    go_enter Try.func27, Try.ntmps27
    go_upto_region 1 with fail
    obtain ⟨w0, hw0⟩ : ∃ w0, w.alloc (.cells #[.slice none 0 0, .slice none 0 0, .bool false] 66) = w0 := ⟨_, rfl⟩
    have hg0 : OwnE w0 w.heap.size 66 [.slice none 0 0, .slice none 0 0, .bool false] := by rw [← hw0]; exact OwnE.new_ w _ _
    have hb0 : Below w.heap.size w w0 := by rw [← hw0]; exact (Below.refl _ w).alloc (Nat.le_refl _) _
    rw [hw0]
    clear hw0
    have c0 := hg0.cell (j := 0) rfl
    have c1 := hg0.cell (j := 1) rfl
    have c2 := hg0.cell (j := 2) rfl
    have f0 := hg0.frozen 0
    have f1 := hg0.frozen 1
    have f2 := hg0.frozen 2
    have HG0 := hid hg0
    have HB0 := hid hb0
    clear hg0 hb0
    have y0 := cells_keep HB0.out x0
    have y1 := cells_keep HB0.out x1
    clear x0 x1
    go_wp2_with fail
    refine bodyPost_ret (nd_res (nd_st HG0.out (.slice none 0 0) (.slice none 0 0) (.bool false)) rfl rfl) rfl ?_
    exact ⟨nd_bl HB0.out (Nat.le_refl _) _ _ _, .inl ⟨HF.out, rfl⟩⟩
set_option maxHeartbeats 8000000 in
theorem read_many1 (A : Option Addr) (c : Nat) (b : List UInt8) (w : World) (ho : Oct w A 128 b) (hnc : 128 ≤ c) (h1 : octA b 0 = 1) (h2 : 7 < octA b 1) :
    Calls Try.prog 27 #[.slice A 128 c] w fun e w' => Below w.heap.size w w' ∧ RdR w w' b e := by
  obtain ⟨g, off, rfl, x0, x1⟩ := rd_cells ho
  have HF : Hid (isP b = false) := hid (by unfold isP kindP; simp [h1]; omega)
  have hk1l := octA_lt b 1
  obtain ⟨k1, hk1⟩ : ∃ k1, octA b 1 = k1 := ⟨_, rfl⟩
  rw [h1] at x0
  rw [hk1] at x1 h2 hk1l
  have w1 : IntKind.i64.wrap (k1 : Int) = (k1 : Int) := by rw [IntKind.wrap_i64]; omega
  clear ho hk1 h1
  have d1 : decide ((7 : Int) < (k1 : Int)) = true := by rw [decide_eq_true_iff]; omega
  have d1n : decide (7 < k1) = true := by simpa using h2
  go_enter Try.func27, Try.ntmps27
  go_upto_region 1 with fail
  obtain ⟨w0, hw0⟩ : ∃ w0, w.alloc (.cells #[.slice none 0 0, .slice none 0 0, .bool false] 66) = w0 := ⟨_, rfl⟩
  have hg0 : OwnE w0 w.heap.size 66 [.slice none 0 0, .slice none 0 0, .bool false] := by rw [← hw0]; exact OwnE.new_ w _ _
  have hb0 : Below w.heap.size w w0 := by rw [← hw0]; exact (Below.refl _ w).alloc (Nat.le_refl _) _
  rw [hw0]
  clear hw0
  have c0 := hg0.cell (j := 0) rfl
  have c1 := hg0.cell (j := 1) rfl
  have c2 := hg0.cell (j := 2) rfl
  have f0 := hg0.frozen 0
  have f1 := hg0.frozen 1
  have f2 := hg0.frozen 2
  have HG0 := hid hg0
  have HB0 := hid hb0
  clear hg0 hb0
  have y0 := cells_keep HB0.out x0
  have y1 := cells_keep HB0.out x1
  clear x0 x1
  go_wp2_with fail
  refine bodyPost_ret (nd_res (nd_st HG0.out (.slice none 0 0) (.slice none 0 0) (.bool false)) rfl rfl) rfl ?_
  exact ⟨nd_bl HB0.out (Nat.le_refl _) _ _ _, .inl ⟨HF.out, rfl⟩⟩
set_option maxHeartbeats 8000000 in
theorem read_bad2 (A : Option Addr) (c : Nat) (b : List UInt8) (w : World) (ho : Oct w A 128 b) (hnc : 128 ≤ c) (h1 : octA b 0 = 2) (h2 : 1 ≤ octA b 1 ∧ octA b 1 ≤ 12) (hp : pageP (b.take (sizeP b)) ≠ b) :
    Calls Try.prog 27 #[.slice A 128 c] w fun e w' => Below w.heap.size w w' ∧ RdR w w' b e := by
  obtain ⟨g, off, rfl, x0, x1⟩ := rd_cells ho
  have HO := hid ho
  have HF : Hid (isP b = false) := hid (by unfold isP; rw [decide_eq_false hp, Bool.and_false])
  have hsz : sizeP b = 2 + 10 * octA b 1 := by unfold sizeP eachP; rw [h1]; rfl
  rw [hsz] at hp
  have HP := hid hp
  obtain ⟨k1, hk1⟩ : ∃ k1, octA b 1 = k1 := ⟨_, rfl⟩
  rw [h1] at x0
  rw [hk1] at x1 h2 HP
  obtain ⟨h2a, h2b⟩ := h2
  have w1 : IntKind.i64.wrap (k1 : Int) = (k1 : Int) := by rw [IntKind.wrap_i64]; omega
  clear ho hk1 h1 hsz hp
  have d1 : decide ((12 : Int) < (k1 : Int)) = false := by rw [decide_eq_false_iff_not]; omega
  have d1n : decide (12 < k1) = false := by rw [decide_eq_false_iff_not]; omega
  have d2 : 1 = 1 → ((k1 : Int) == 0) = false := fun h => ne_f (b := 0) (by omega)
  have d2n : 1 = 1 → (k1 == 0) = false := fun h => ne_n (by omega)
  simp only [forall_const, Nat.reduceEqDiff, false_implies] at d2 d2n
  have i0 : (0 : Int) ≤ (k1 : Int) := by omega
  have i1 : (k1 : Int) ≤ 12 := by omega
  have z0 : (0 : Int) ≤ 2 + 10 * (k1 : Int) := by omega
  have z1 : 2 + 10 * (k1 : Int) ≤ (c : Int) := by omega
  have z2 : (2 + 10 * (k1 : Int)).toNat = 2 + 10 * k1 := by omega
  have z3 : 2 + 10 * (k1 : Int) ≤ 128 := by omega
  go_enter Try.func27, Try.ntmps27
  go_upto_region 1 with fail
  obtain ⟨w0, hw0⟩ : ∃ w0, w.alloc (.cells #[.slice none 0 0, .slice none 0 0, .bool false] 66) = w0 := ⟨_, rfl⟩
  have hg0 : OwnE w0 w.heap.size 66 [.slice none 0 0, .slice none 0 0, .bool false] := by rw [← hw0]; exact OwnE.new_ w _ _
  have hb0 : Below w.heap.size w w0 := by rw [← hw0]; exact (Below.refl _ w).alloc (Nat.le_refl _) _
  rw [hw0]
  clear hw0
  have c0 := hg0.cell (j := 0) rfl
  have c1 := hg0.cell (j := 1) rfl
  have c2 := hg0.cell (j := 2) rfl
  have f0 := hg0.frozen 0
  have f1 := hg0.frozen 1
  have f2 := hg0.frozen 2
  have HG0 := hid hg0
  have HB0 := hid hb0
  clear hg0 hb0
  have y0 := cells_keep HB0.out x0
  have y1 := cells_keep HB0.out x1
  have HO0 := hid (HO.out.take (2 + 10 * k1) (by omega))
  clear x0 x1 c0 c1 c2 f0 f1 f2
  have HPG := hid (page_any (some ⟨g, off, none⟩) (2 + 10 * k1) c (b.take (2 + 10 * k1)) w0 (HO0.out.below HB0.out) (by omega))
  go_wp2_with (first
    | (go_at_call 22; refine HPG.out.mono ?_; rintro e w3 ⟨gp, rfl, hE, hg, b3⟩; have HE3 := hid hE; have HB3 := hid (past HB0.out b3); have HG3 := hid (HG0.out.below b3); clear hE hg b3)
    | (go_at_call 29; refine (beq_any _ _ 128 128 128 c (pageP (b.take (2 + 10 * k1))) b _ ⟨by rw [pageP_len _ (by rw [List.length_take]; omega)], HE3.out.row⟩ (HO.out.below HB3.out)).mono ?_; rintro e w4 ⟨he, hw⟩; rw [decide_eq_false HP.out] at he; subst he hw; have c0 := HG3.out.cell (j := 0) rfl; have c1 := HG3.out.cell (j := 1) rfl; have c2 := HG3.out.cell (j := 2) rfl; have f0 := HG3.out.frozen 0; have f1 := HG3.out.frozen 1; have f2 := HG3.out.frozen 2))
  refine bodyPost_ret (nd_res (nd_st HG3.out (.slice none 0 0) (.slice none 0 0) (.bool false)) rfl rfl) rfl ?_
  exact ⟨nd_bl HB3.out (Nat.le_refl _) _ _ _, .inl ⟨HF.out, rfl⟩⟩
set_option maxHeartbeats 8000000 in
theorem read_bad1 (A : Option Addr) (c : Nat) (b : List UInt8) (w : World) (ho : Oct w A 128 b) (hnc : 128 ≤ c) (h1 : octA b 0 = 1) (h2 : 0 ≤ octA b 1 ∧ octA b 1 ≤ 7) (hp : pageP (b.take (sizeP b)) ≠ b) :
    Calls Try.prog 27 #[.slice A 128 c] w fun e w' => Below w.heap.size w w' ∧ RdR w w' b e := by
  obtain ⟨g, off, rfl, x0, x1⟩ := rd_cells ho
  have HO := hid ho
  have HF : Hid (isP b = false) := hid (by unfold isP; rw [decide_eq_false hp, Bool.and_false])
  have hsz : sizeP b = 2 + 16 * octA b 1 := by unfold sizeP eachP; rw [h1]; rfl
  rw [hsz] at hp
  have HP := hid hp
  obtain ⟨k1, hk1⟩ : ∃ k1, octA b 1 = k1 := ⟨_, rfl⟩
  rw [h1] at x0
  rw [hk1] at x1 h2 HP
  obtain ⟨h2a, h2b⟩ := h2
  have w1 : IntKind.i64.wrap (k1 : Int) = (k1 : Int) := by rw [IntKind.wrap_i64]; omega
  clear ho hk1 h1 hsz hp
  have d1 : decide ((7 : Int) < (k1 : Int)) = false := by rw [decide_eq_false_iff_not]; omega
  have d1n : decide (7 < k1) = false := by rw [decide_eq_false_iff_not]; omega
  have d2 : 0 = 1 → ((k1 : Int) == 0) = false := fun h => ne_f (b := 0) (by omega)
  have d2n : 0 = 1 → (k1 == 0) = false := fun h => ne_n (by omega)
  simp only [forall_const, Nat.reduceEqDiff, false_implies] at d2 d2n
  have i0 : (0 : Int) ≤ (k1 : Int) := by omega
  have i1 : (k1 : Int) ≤ 7 := by omega
  have z0 : (0 : Int) ≤ 2 + 16 * (k1 : Int) := by omega
  have z1 : 2 + 16 * (k1 : Int) ≤ (c : Int) := by omega
  have z2 : (2 + 16 * (k1 : Int)).toNat = 2 + 16 * k1 := by omega
  have z3 : 2 + 16 * (k1 : Int) ≤ 128 := by omega
  go_enter Try.func27, Try.ntmps27
  go_upto_region 1 with fail
  obtain ⟨w0, hw0⟩ : ∃ w0, w.alloc (.cells #[.slice none 0 0, .slice none 0 0, .bool false] 66) = w0 := ⟨_, rfl⟩
  have hg0 : OwnE w0 w.heap.size 66 [.slice none 0 0, .slice none 0 0, .bool false] := by rw [← hw0]; exact OwnE.new_ w _ _
  have hb0 : Below w.heap.size w w0 := by rw [← hw0]; exact (Below.refl _ w).alloc (Nat.le_refl _) _
  rw [hw0]
  clear hw0
  have c0 := hg0.cell (j := 0) rfl
  have c1 := hg0.cell (j := 1) rfl
  have c2 := hg0.cell (j := 2) rfl
  have f0 := hg0.frozen 0
  have f1 := hg0.frozen 1
  have f2 := hg0.frozen 2
  have HG0 := hid hg0
  have HB0 := hid hb0
  clear hg0 hb0
  have y0 := cells_keep HB0.out x0
  have y1 := cells_keep HB0.out x1
  have HO0 := hid (HO.out.take (2 + 16 * k1) (by omega))
  clear x0 x1 c0 c1 c2 f0 f1 f2
  have HPG := hid (page_any (some ⟨g, off, none⟩) (2 + 16 * k1) c (b.take (2 + 16 * k1)) w0 (HO0.out.below HB0.out) (by omega))
  go_wp2_with (first
    | (go_at_call 22; refine HPG.out.mono ?_; rintro e w3 ⟨gp, rfl, hE, hg, b3⟩; have HE3 := hid hE; have HB3 := hid (past HB0.out b3); have HG3 := hid (HG0.out.below b3); clear hE hg b3)
    | (go_at_call 29; refine (beq_any _ _ 128 128 128 c (pageP (b.take (2 + 16 * k1))) b _ ⟨by rw [pageP_len _ (by rw [List.length_take]; omega)], HE3.out.row⟩ (HO.out.below HB3.out)).mono ?_; rintro e w4 ⟨he, hw⟩; rw [decide_eq_false HP.out] at he; subst he hw; have c0 := HG3.out.cell (j := 0) rfl; have c1 := HG3.out.cell (j := 1) rfl; have c2 := HG3.out.cell (j := 2) rfl; have f0 := HG3.out.frozen 0; have f1 := HG3.out.frozen 1; have f2 := HG3.out.frozen 2))
  refine bodyPost_ret (nd_res (nd_st HG3.out (.slice none 0 0) (.slice none 0 0) (.bool false)) rfl rfl) rfl ?_
  exact ⟨nd_bl HB3.out (Nat.le_refl _) _ _ _, .inl ⟨HF.out, rfl⟩⟩
end Go.Proofs.Ytlhngieinmgooaa
