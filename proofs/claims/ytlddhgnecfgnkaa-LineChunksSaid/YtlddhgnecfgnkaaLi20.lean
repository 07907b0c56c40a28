/-
  A line that announces an empty literal. A part of the proof: see the head of the text that ends in 'Law'.
-/
import Derived.Test.YtlddhgnecfgnkaaLi16
namespace Go.Proofs.Ytlddhgnecfgnkaa
open Go.RowKit
set_option linter.unusedVariables false
set_option linter.unusedSimpArgs false
attribute [local go_sem] Oper.semAt_some

set_option maxRecDepth 100000 in
set_option maxHeartbeats 4000000 in
theorem line_lit0 (w0 W : World) (r : Nat) (VP VH : Value) (R : Rdr) (h : RdAt W w0.heap.size r VP VH R) (bel : Below w0.heap.size w0 W) (hG : GM w0) (hw : R.wait = 0) (hok : Rok R) (hov : R.over = false) (hbig : ¬ 600 < R.size + (lineS R).length) (m i : Nat) (hann : annL (lineS R) = some (m, i)) (hbg : ¬ (4000 < m ∨ R.lits = 4)) (hm0 : m = 0) :
    Calls Try.prog 16 #[.pointer (some ⟨r, 0, none⟩)] W (LinePost w0 W r VP VH (lineR R).1 (lineR R).2) := by
  have h0' := h.cells
  obtain ⟨AH, cH, rfl, -⟩ := own_slice h.hv
  obtain ⟨n, hn⟩ : ∃ n, R.hv.length = n := ⟨_, rfl⟩
  rw [hn] at h ⊢
  obtain ⟨AP, cP, rfl, -⟩ := own_slice h.ps
  obtain ⟨np, hnp⟩ : ∃ n, R.ps.length = n := ⟨_, rfl⟩
  rw [hnp] at h ⊢
  have HNP := hid hnp
  have HN := hid hn
  have HPL := hid (show np ≤ 100 by have := hok.n; have := hok.lits; omega)
  have HH := hid h
  have HOK := hid hok
  have HB := hid bel
  have HG := hid hG
  have x1 := h.cells.cell (j := 1) rfl
  have x2 := h.cells.cell (j := 2) rfl
  have hcv := strP cH (h.oct hn)
  have hsl := lineS_le R
  rw [hn] at hsl
  have hn6 : n ≤ 602 := by have := hok.line hw; omega
  obtain ⟨s, hs⟩ : ∃ s, lineS R = s := ⟨_, rfl⟩
  rw [hs] at hsl
  have hsz : (str s).size = s.length := rfl
  have HSL := hid (show s.length ≤ 602 by omega)
  have z3 : ((str s).size : Int) ≤ 602 := by rw [hsz]; omega
  have zz : (R.size : Int) ≤ 600 := by have := hok.size; omega
  have HS := hid hs
  have HAN0 := hid (fun X => announced_any s X (by omega))
  have HAN := HAN0
  obtain ⟨a, at_, hat⟩ := annV_form s
  rw [hat] at HAN
  have HAT := hid hat
  clear hat
  have HSP0 := hid (fun (x : List UInt8) (hx : x.length ≤ 5000) => HOK.out.more ⟨false, x⟩ hx)
  clear h hok hw bel hG hn hnp hsl hn6 h0'
  have HTS := hid (fun X : World => (Try.strings_TrimSuffix (str R.hv) ⟨#[13]⟩ X (by have := HN.out; have := HOK.out.hv; rw [str_size]; omega)).mono (R' := fun e w' => e = .returned (.string (str (Lib.trimSuffix R.hv [13]))) ∧ X = w') fun e w' k => ⟨by rw [k.1, str_toList]; rfl, k.2.symm⟩)
  rw [hov] at x2
  have hts : Lib.trimSuffix R.hv [13] = s := by rw [← HS.out]; unfold lineS; rw [hov]; rfl
  rw [hts] at HTS
  have HSX := hid (rfl : str R.hv = str R.hv)
  rw [HS.out] at hbig
  rw [HS.out] at hann
  have d7 : decide ((600 : Int) < ((R.size + s.length : Nat) : Int)) = false := by simp; omega
  have d7' : decide ((600 : Int) < (R.size : Int) + (s.length : Int)) = false := by simp; omega
  have HNB : Hid (¬ (R.over = true ∨ 600 < R.size + (lineS R).length)) := hid (by rw [HS.out, hov]; simp; omega)
  clear HAN HAT hts hov hbig
  have HAN := hid HAN0.out
  rw [show annV s = .tuple #[.int .i64 (m : Int), .string (str (s.take i))] by unfold annV; rw [hann]] at HAN
  obtain ⟨q, hq⟩ : ∃ q, s.take i = q := ⟨_, rfl⟩
  rw [hq] at HAN
  have hql : q.length ≤ 602 := by rw [← hq, List.length_take]; have := HSL.out; omega
  have HSP := hid (HSP0.out q (by omega))
  have g1 : decide ((m : Int) < 0) = false := by simp
  have g2 : decide ((4000 : Int) < (m : Int)) = false := by simp; omega
  have g4 : decide (4000 < m) = false := by simp; omega
  have g3 : ((R.lits : Int) == 4) = false := by simp; omega
  have g5 : (R.lits == 4) = false := by simp; omega
  have g6 : (R.lits : Int) ≤ 4 := by have := HOK.out.lits; omega
  have hlr : lineR R = (⟨(R.ps ++ [⟨false, q⟩]) ++ (if m = 0 then [⟨true, []⟩] else []), [], false, R.size + s.length, R.lits + 1, m⟩, [⟨1, [], []⟩]) := by unfold lineR; rw [if_neg HNB.out, HS.out, hann]; dsimp only; rw [if_neg hbg, hq]
  rw [hlr]
  dsimp only
  have g7 : ((m : Int) == 0) = true := by rw [hm0]; rfl
  have g8 : (m == 0) = true := by rw [hm0]; rfl
  rw [if_pos hm0]
  clear hlr hann HAN0 hbg hq hm0
  go_enter Try.func16, Try.ntmps16
  go_upto_region 1 with fail
  have hS : W.drew.cell? ⟨r, 1, none⟩ = some (.slice AH n cH) ∧ W.drew.cell? ⟨r, 2, none⟩ = some (.bool false) ∧ (convert 28 9 (.slice AH n cH)).run Try.prog W.drew = .ok (.string (str R.hv)) W.drew := ⟨x1, x2, by have := strP cH ((HH.out.below (drew_below _)).oct HN.out); rw [HSX.out] at this; exact this⟩
  refine wp_region_noPanic ?_
  refine wp_region_held_drew (S := (fun X => X.cell? ⟨r, 1, none⟩ = some (.slice AH n cH) ∧ X.cell? ⟨r, 2, none⟩ = some (.bool false) ∧ (convert 28 9 (.slice AH n cH)).run Try.prog X = .ok (.string (str R.hv)) X)) (by kernel_rfl) (by first | assumption | trivial) (fun hHeld => ?_)
  refine wpAnyH_take (i := 0) (v := ?_) rfl (by kernel_rfl) (by kernel_rfl) (by kernel_rfl) (fun _ _ _ h => h) (Or.inl ⟨by kernel_rfl, ?_⟩) (by first | assumption | trivial) ?_
  rotate_left
  · (intro wS hSw; (try dsimp only at hSw); go_simp; try with_reducible rfl)
  (try simp only [List.append_eq, List.cons_append, List.nil_append, List.getElem_toArray, List.getElem_cons_succ, List.getElem_cons_zero, Act.put, List.setIfInBounds_toArray, List.set_cons_zero, List.set_cons_succ])
  refine wpAnyH_take (i := 1) (v := ?_) rfl (by kernel_rfl) (by kernel_rfl) (by kernel_rfl) (fun _ _ _ h => h) (Or.inl ⟨by kernel_rfl, ?_⟩) (by first | assumption | trivial) ?_
  rotate_left
  · (intro wS hSw; (try dsimp only at hSw); go_simp; try with_reducible rfl)
  (try simp only [List.append_eq, List.cons_append, List.nil_append, List.getElem_toArray, List.getElem_cons_succ, List.getElem_cons_zero, Act.put, List.setIfInBounds_toArray, List.set_cons_zero, List.set_cons_succ])
  refine wpAnyH_take (i := 2) (v := ?_) rfl (by kernel_rfl) (by kernel_rfl) (by kernel_rfl) (fun _ _ _ h => h) (Or.inl ⟨by kernel_rfl, ?_⟩) (by first | assumption | trivial) ?_
  rotate_left
  · (intro wS hSw; (try dsimp only at hSw); go_simp; try with_reducible rfl)
  (try simp only [List.append_eq, List.cons_append, List.nil_append, List.getElem_toArray, List.getElem_cons_succ, List.getElem_cons_zero, Act.put, List.setIfInBounds_toArray, List.set_cons_zero, List.set_cons_succ])
  refine wpAnyH_take (i := 3) (v := ?_) rfl (by kernel_rfl) (by kernel_rfl) (by kernel_rfl) (fun _ _ _ h => h) (Or.inl ⟨by kernel_rfl, ?_⟩) (by first | assumption | trivial) ?_
  rotate_left
  · (intro wS hSw; (try dsimp only at hSw); go_simp; try with_reducible rfl)
  (try simp only [List.append_eq, List.cons_append, List.nil_append, List.getElem_toArray, List.getElem_cons_succ, List.getElem_cons_zero, Act.put, List.setIfInBounds_toArray, List.set_cons_zero, List.set_cons_succ])
  refine wpAnyH_take (i := 4) (v := ?_) rfl (by kernel_rfl) (by kernel_rfl) (by kernel_rfl) (fun _ _ _ h => h) (Or.inl ⟨by kernel_rfl, ?_⟩) (by first | assumption | trivial) ?_
  rotate_left
  · (intro wS hSw; (try dsimp only at hSw); go_simp; try with_reducible rfl)
  (try simp only [List.append_eq, List.cons_append, List.nil_append, List.getElem_toArray, List.getElem_cons_succ, List.getElem_cons_zero, Act.put, List.setIfInBounds_toArray, List.set_cons_zero, List.set_cons_succ])
  refine wpAnyH_take (i := 5) (v := ?_) rfl (by kernel_rfl) (by kernel_rfl) (by kernel_rfl) (fun _ _ _ h => h) (Or.inl ⟨by kernel_rfl, ?_⟩) (by first | assumption | trivial) ?_
  rotate_left
  · (intro wS hSw; (try dsimp only at hSw); go_simp; try with_reducible rfl)
  (try simp only [List.append_eq, List.cons_append, List.nil_append, List.getElem_toArray, List.getElem_cons_succ, List.getElem_cons_zero, Act.put, List.setIfInBounds_toArray, List.set_cons_zero, List.set_cons_succ])
  refine wpAnyH_take (i := 6) (v := ?_) rfl (by kernel_rfl) (by kernel_rfl) (by kernel_rfl) (fun _ _ _ h => h) (Or.inl ⟨by kernel_rfl, ?_⟩) (by first | assumption | trivial) ?_
  rotate_left
  · (intro wS hSw; (try dsimp only at hSw); go_simp; try with_reducible rfl)
  (try simp only [List.append_eq, List.cons_append, List.nil_append, List.getElem_toArray, List.getElem_cons_succ, List.getElem_cons_zero, Act.put, List.setIfInBounds_toArray, List.set_cons_zero, List.set_cons_succ])
  refine wpAnyH_take (i := 7) (v := ?_) rfl (by kernel_rfl) (by kernel_rfl) (by kernel_rfl) (fun _ _ _ h => h) (Or.inl ⟨by kernel_rfl, ?_⟩) (by first | assumption | trivial) ?_
  rotate_left
  · (intro wS hSw; (try dsimp only at hSw); go_simp; try with_reducible rfl)
  (try simp only [List.append_eq, List.cons_append, List.nil_append, List.getElem_toArray, List.getElem_cons_succ, List.getElem_cons_zero, Act.put, List.setIfInBounds_toArray, List.set_cons_zero, List.set_cons_succ])
  refine wpAnyH_take (i := 8) (v := ?_) rfl (by kernel_rfl) (by kernel_rfl) (by kernel_rfl) (fun _ _ _ h => h) (Or.inl ⟨by kernel_rfl, ?_⟩) (by first | assumption | trivial) ?_
  rotate_left
  · (intro wS hSw; (try dsimp only at hSw); go_simp; try with_reducible rfl)
  (try simp only [List.append_eq, List.cons_append, List.nil_append, List.getElem_toArray, List.getElem_cons_succ, List.getElem_cons_zero, Act.put, List.setIfInBounds_toArray, List.set_cons_zero, List.set_cons_succ])
  refine wpAnyH_take (i := 9) (v := ?_) rfl (by kernel_rfl) (by kernel_rfl) (by kernel_rfl) (fun _ _ _ h => h) (Or.inl ⟨by kernel_rfl, ?_⟩) (by first | assumption | trivial) ?_
  rotate_left
  · (intro wS hSw; (try dsimp only at hSw); go_simp; try with_reducible rfl)
  (try simp only [List.append_eq, List.cons_append, List.nil_append, List.getElem_toArray, List.getElem_cons_succ, List.getElem_cons_zero, Act.put, List.setIfInBounds_toArray, List.set_cons_zero, List.set_cons_succ])
  refine wpAnyH_take (i := 10) (v := ?_) rfl (by kernel_rfl) (by kernel_rfl) (by kernel_rfl) (fun _ _ _ h => h) (Or.inl ⟨by kernel_rfl, ?_⟩) (by first | assumption | trivial) ?_
  rotate_left
  · (intro wS hSw; (try dsimp only at hSw); go_simp; try with_reducible rfl)
  (try simp only [List.append_eq, List.cons_append, List.nil_append, List.getElem_toArray, List.getElem_cons_succ, List.getElem_cons_zero, Act.put, List.setIfInBounds_toArray, List.set_cons_zero, List.set_cons_succ])
  refine wpAnyH_done (by kernel_rfl) ?_ _
  refine NoPanic.normal ?_
  clear hS hHeld
  obtain ⟨w1, hw1, K⟩ : ∃ X, X = W.drew ∧ Hid (RdAt X w0.heap.size r (.slice AP np cP) (.slice AH n cH) R ∧ Mv W X r (.slice AP np cP) (.slice AH n cH) (.slice AP np cP) (.slice AH n cH)) := ⟨_, rfl, hid ⟨HH.out.below (drew_below _), Mv.of_below (drew_below _)⟩⟩
  rw [← hw1]
  clear hw1 x1 x2 hcv
  have x1 := K.out.1.cells.cell (j := 1) rfl
  have x2 := K.out.1.cells.cell (j := 2) rfl
  have f1 := K.out.1.cells.frozen 1
  have f2 := K.out.1.cells.frozen 2
  go_upto_region 4 with (go_at_call 19; refine (HTS.out _).mono ?_; rintro e wt ⟨rfl, rfl⟩)
  go_upto_region 5 with fail
  have x3 := K.out.1.lineA.1
  have f3 := K.out.1.lineA.2
  go_upto_region 6 with fail
  obtain ⟨w3, hw3, K⟩ : ∃ X, X = ((w1.setCell ⟨r, 1, none⟩ (.slice none 0 0)).setCell ⟨r, 2, none⟩ (.bool false)).setCell ⟨r, 3, none⟩ (.int .i64 ((R.size : Int) + (s.length : Int))) ∧ Hid (RdAt X w0.heap.size r (.slice AP np cP) (.slice none 0 0) ⟨R.ps, [], false, R.size + s.length, R.lits, R.wait⟩ ∧ Mv W X r (.slice AP np cP) (.slice AH n cH) (.slice AP np cP) (.slice none 0 0)) := ⟨_, rfl, hid ⟨(K.out.1.lineB s.length _ rfl).1, K.out.2.trans (K.out.1.lineB s.length _ rfl).2⟩⟩
  rw [← hw3]
  clear hw3 x1 x2 f1 f2 x3 f3
  go_upto_region 7 with (go_at_call 20
                         refine (HAN.out _).mono ?_
                         rintro e w4 ⟨rfl, b4⟩
                         have K4 := hid (show RdAt w4 w0.heap.size r (.slice AP np cP) (.slice none 0 0) ⟨R.ps, [], false, R.size + s.length, R.lits, R.wait⟩ ∧ Mv W w4 r (.slice AP np cP) (.slice AH n cH) (.slice AP np cP) (.slice none 0 0) from ⟨K.out.1.below b4, K.out.2.trans (Mv.of_below b4)⟩)
                         clear b4)
  clear K
  have HMB := hid (K4.out.2.below HH.out HB.out.size)
  have x0 := K4.out.1.cells.cell (j := 0) rfl
  have x3 := K4.out.1.cells.cell (j := 3) rfl
  dsimp only at x3
  have f0 := K4.out.1.cells.frozen 0
  go_upto_region 11 with
    (refine wpList_append_row _ rfl (.tmp 65) (.tmp 68) pcS rfl w0.heap.size (.slice AP np cP) np (R.ps.flatMap pcC) rfl (by have := own_below K4.out.1.ps ((Below.refl _ w4).alloc (Nat.le_refl _) (.cells #[.bool false, .string (str q)] 40)); dsimp only at this; rw [HNP.out] at this; exact this) (some ⟨w4.heap.size, 0, none⟩) 1 1 [.bool false, .string (str q)] rfl rfl (Row.of_block (heap_alloc_new w4 (Obj.cells #[.bool false, .string (str q)] 40))) (by simp [Value.oneCell']) (by have := HPL.out; simp only [maxLen]; omega) (by have := HPL.out; omega) (by have := HB.out.size; have := HMB.out.size; simp; omega) ?_
     intro A5 c5 w5 ho5 hg5 hh5
     have hE := RdAt.addP (p := ⟨false, q⟩) K4.out.1 HNP.out rfl rfl ho5 hg5 hh5
     have y0 := hE.1.cell (j := 0) rfl
     have g0 := hE.1.frozen 0
     have HE := hid hE
     clear ho5 hg5 hh5 hE)
  have x4 := HE.out.2.2.1.cells.cell (j := 4) rfl
  have f4 := HE.out.2.2.1.cells.frozen 4
  have f5 := (HE.out.2.2.1.cells.set 4 (.int .i64 ((R.lits : Int) + 1))).frozen 5
  have y5 := (HE.out.2.2.1.cells.set 4 (.int .i64 ((R.lits : Int) + 1))).cell (j := 5) rfl
  dsimp only at x4
  go_upto_region 17 with fail
  obtain ⟨w7, hw7, HC⟩ : ∃ X, X = ((w5.setCell ⟨r, 0, none⟩ (.slice A5 (np + 1) c5)).setCell ⟨r, 4, none⟩ (.int .i64 ((R.lits : Int) + 1))).setCell ⟨r, 5, none⟩ (.int .i64 (m : Int)) ∧ Hid (RdAt X w0.heap.size r (.slice A5 (np + 1) c5) (.slice none 0 0) ⟨R.ps ++ [⟨false, q⟩], [], false, R.size + s.length, R.lits + 1, m⟩ ∧ Mv W X r (.slice AP np cP) (.slice AH n cH) (.slice A5 (np + 1) c5) (.slice none 0 0)) := ⟨_, rfl, hid ⟨(HE.out.2.2.1.lineC m _ rfl).1, (K4.out.2.trans HE.out.2.2.2).trans (HE.out.2.2.1.lineC m _ rfl).2⟩⟩
  rw [← hw7]
  clear hw7 x4 f4 f5 y5
  have x0 := HC.out.1.cells.cell (j := 0) rfl
  have f0 := HC.out.1.cells.frozen 0
  have hnl : (R.ps ++ [(⟨false, q⟩ : Pc)]).length = np + 1 := by rw [List.length_append, List.length_singleton, HNP.out]
  have HNL := hid hnl
  have HM7 := hid (HC.out.2.below HH.out HB.out.size)
  clear hnl
  go_upto_region 19 with
    (refine wpList_append_row _ rfl (.tmp 106) (.tmp 108) pcS rfl w0.heap.size (.slice A5 (np + 1) c5) (np + 1) ((R.ps ++ [(⟨false, q⟩ : Pc)]).flatMap pcC) rfl (by have := own_below HC.out.1.ps ((Below.refl _ w7).alloc (Nat.le_refl _) (.cells #[.bool true, .string ⟨#[]⟩] 40)); dsimp only at this; rw [HNL.out] at this; exact this) (some ⟨w7.heap.size, 0, none⟩) 1 1 [.bool true, .string ⟨#[]⟩] rfl rfl (Row.of_block (heap_alloc_new w7 (Obj.cells #[.bool true, .string ⟨#[]⟩] 40))) (by simp [Value.oneCell']) (by have := HPL.out; simp only [maxLen]; omega) (by have := HPL.out; omega) (by have := HB.out.size; have := HM7.out.size; simp; omega) ?_
     intro A8 c8 w8 ho8 hg8 hh8
     have hE := RdAt.addP (p := ⟨true, []⟩) HC.out.1 HNL.out rfl rfl ho8 hg8 hh8
     have y0 := hE.1.cell (j := 0) rfl
     have g0 := hE.1.frozen 0
     have HF := hid hE
     clear ho8 hg8 hh8 hE)
  obtain ⟨w9, hw9, HD⟩ : ∃ X, X = w8.setCell ⟨r, 0, none⟩ (.slice A8 (np + 1 + 1) c8) ∧ Hid (RdAt X w0.heap.size r (.slice A8 (np + 1 + 1) c8) (.slice none 0 0) ⟨R.ps ++ [⟨false, q⟩, ⟨true, []⟩], [], false, R.size + s.length, R.lits + 1, m⟩ ∧ Mv W X r (.slice AP np cP) (.slice AH n cH) (.slice A8 (np + 1 + 1) c8) (.slice none 0 0)) := ⟨_, rfl, hid ⟨by have h := HF.out.2.2.1; dsimp only at h; rw [List.append_assoc] at h; exact h, HC.out.2.trans HF.out.2.2.2⟩⟩
  rw [← hw9]
  clear hw9 y0 g0 x0 f0
  go_wp2_with fail
  go_ret
  have bA : Below w9.heap.size w9 (w9.alloc (.cells #[.int .i64 1, .string ⟨#[]⟩, .slice none 0 0] 45)) := (Below.refl _ _).alloc (Nat.le_refl _) _
  exact ⟨some ⟨w9.heap.size, 0, none⟩, 1, 1, [.int .i64 1, .string ⟨#[]⟩, .slice none 0 0], rfl, rfl, World.ownsRow_lit w9 #[.int .i64 1, .string ⟨#[]⟩, .slice none 0 0] 1 HD.out.2.o.size (by decide) rfl, .cons none 0 ⟨1, [], []⟩ [] [] (World.ownsRow_nil _ _ _ _) .nil, _, _, HD.out.1.below bA, HD.out.2.trans (Mv.of_below bA)⟩
end Go.Proofs.Ytlddhgnecfgnkaa
