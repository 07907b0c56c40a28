/-
  The date of a text: the program's walk, where the signs stand. A part of the proof: see the head of the text that ends in 'Law'.
-/
import Derived.Test.YtkjlkkaoaiphcaaDoorDa24
namespace Go.Proofs.YtkjlkkaoaiphcaaDoor
open Go.RowKit Go.Shelf
set_option linter.unusedVariables false
set_option linter.unusedSimpArgs false
attribute [local go_sem] Oper.semAt_some

theorem zeroL_yes {l : List UInt8} (h : chN l 0 = 32) (hl : l.length = 26) : (⟨#[48]⟩ : ByteArray) ++ (str l).extract 1 26 = str (zeroL l) := by
  rw [str_extract]
  unfold zeroL
  rw [if_pos h, List.take_of_length_le (by rw [List.length_drop]; omega)]
  exact str_append [48] (l.drop 1)
theorem zeroL_no {l : List UInt8} (h : ¬ chN l 0 = 32) : zeroL l = l := by unfold zeroL; rw [if_neg h]
theorem mon_ex (l : List UInt8) : (str l).extract 3 6 = str ((l.drop 3).take 3) := by rw [str_extract]
theorem fvL_le {l : List UInt8} (h : digsB l) (k : Nat) (hk : k < 7) : fvL l k < 10 ^ fN k := by
  have h1 := h k hk
  unfold fvL numV
  unfold numOk at h1
  rw [Bool.and_eq_true] at h1
  have h2 := numG_lt (pcL l k) 0 h1.1
  have h3 : (pcL l k).length ≤ fN k := by unfold pcL pcT; rw [List.length_take]; omega
  have h4 : 10 ^ (pcL l k).length ≤ 10 ^ fN k := Nat.pow_le_pow_right (by omega) h3
  omega
theorem cell_oth {W : World} {b g j : Nat} {x y v : Value} (h : W.cell? ⟨g, j, none⟩ = some v) (hg : g ≠ b) : ((W.setCell ⟨b, 0, none⟩ x).setCell ⟨b, 1, none⟩ y).cell? ⟨g, j, none⟩ = some v := by
  have e1 := heap_setCell_other (W.setCell ⟨b, 0, none⟩ x) ⟨b, 1, none⟩ g y hg
  have e2 := heap_setCell_other W ⟨b, 0, none⟩ g x hg
  simp only [World.cell?, e1, e2] at h ⊢
  exact h
theorem box2 {W : World} {g : Nat} {s z : Value} {T : TypeId} (h : W.heap[g]? = some (.cells #[s, z] T (0, 0))) : W.cell? ⟨g, 0, none⟩ = some s ∧ W.cell? ⟨g, 1, none⟩ = some z ∧ W.frozen? ⟨g, 0, none⟩ = false ∧ W.frozen? ⟨g, 1, none⟩ = false := by
  simp [World.cell?, World.frozen?, h]
theorem box2_set {W : World} {g : Nat} {s z a b : Value} {T : TypeId} (h : W.heap[g]? = some (.cells #[s, z] T (0, 0))) : ((W.setCell ⟨g, 0, none⟩ a).setCell ⟨g, 1, none⟩ b).heap[g]? = some (.cells #[a, b] T (0, 0)) := heap_set b (heap_set a h)
set_option maxRecDepth 100000 in
set_option maxHeartbeats 8000000 in
theorem parse_form_yes (l : List UInt8) (w : World) (h : formB l) : Calls Tryd.prog 17 #[.string (str l)] w (PP w (parseF l).1.1 (parseF l).1.2 (parseF l).2) := by
  have HF := hid h
  obtain ⟨c0, c2, c6, c11, c14, c17, c20, c21⟩ := h
  have hs26 : (str l).size = 26 := c0
  have b2 := chS l 2 (by omega)
  have b6 := chS l 6 (by omega)
  have b11 := chS l 11 (by omega)
  have b14 := chS l 14 (by omega)
  have b17 := chS l 17 (by omega)
  have b20 := chS l 20 (by omega)
  have b21 := chS l 21 (by omega)
  have b0 := chS l 0 (by omega)
  rw [c2] at b2
  rw [c6] at b6
  rw [c11] at b11
  rw [c14] at b14
  rw [c17] at b17
  rw [c20] at b20
  have HL := hid c0
  have H21 := hid c21
  have HB21 := hid b21
  have HB0 := hid b0
  have HZL := hid (zeroL_len c0)
  clear c0 c2 c6 c11 c14 c17 c20 c21 b21 b0
  simp only [Int.cast_ofNat_Int] at b2 b6 b11 b14 b17 b20
  have hO := OwnC.new_ w #[.int .i64 0, .int .i64 0] 37
  have hhw := heap_alloc_new w (Obj.cells #[.int .i64 0, .int .i64 0] 37)
  have hBB := (Below.refl w.heap.size w).alloc (Nat.le_refl _) (Obj.cells #[.int .i64 0, .int .i64 0] 37)
  go_enter Tryd.func17, Tryd.ntmps17
  go_upto_region 1 with fail
  obtain ⟨w0, hw0⟩ : ∃ w0, w.alloc (.cells #[.int .i64 0, .int .i64 0] 37) = w0 := ⟨_, rfl⟩
  rw [hw0] at hO hBB hhw ⊢
  have HO := hid hO
  have HHW := hid hhw
  have HBB := hid hBB
  have HS0 := hid (show w0.heap.size = w.heap.size + 1 by rw [← hw0]; simp)
  clear hO hBB hw0 hhw
  go_cut [53] from 11 to 53 (fun q wx => q = .bool false ∧ wx = w0)
  case first =>
    rcases H21.out with c | c
    · have b21 := HB21.out
      rw [c] at b21
      simp only [Int.cast_ofNat_Int] at b21
      clear c
      go_wp2
      go_meet
      exact ⟨rfl, rfl⟩
    · have b21 := HB21.out
      rw [c] at b21
      simp only [Int.cast_ofNat_Int] at b21
      clear c
      go_wp2
      go_meet
      exact ⟨rfl, rfl⟩
  case rest =>
  obtain ⟨rfl, hwc⟩ := hcut
  subst hwc
  clear b2 b6 b11 b14 b17 b20
  go_upto_if 58 with fail
  go_cut [4] from 56 to 61 (fun q wx => q = .string (str (zeroL l)) ∧ wx = wc)
  case first =>
    by_cases c : chN l 0 = 32
    · have b0 := HB0.out
      rw [c] at b0
      simp only [Int.cast_ofNat_Int] at b0
      have hz := zeroL_yes c HL.out
      clear c
      go_wp2
      go_meet
      exact ⟨rfl, rfl⟩
    · have n0 : ¬ (((str l)[0]'(by omega)).toNat : Int) = 32 := by rw [HB0.out]; omega
      have hz := zeroL_no c
      clear c
      go_wp2
      go_meet
      exact ⟨by rw [hz], rfl⟩
  case rest =>
  obtain ⟨rfl, hwc⟩ := hcut
  subst hwc
  have HMO := hid (fun w => month_any ((l.drop 3).take 3) w (by rw [List.length_take]; omega))
  have hme := mon_ex l
  have hO1 := OwnC.new_ wc #[.int .i64 0, .int .i64 2, .int .i64 7, .int .i64 4, .int .i64 12, .int .i64 2, .int .i64 15, .int .i64 2, .int .i64 18, .int .i64 2, .int .i64 22, .int .i64 2, .int .i64 24, .int .i64 2] 72
  have HO1 := hid (show OwnC (wc.alloc (.cells #[.int .i64 0, .int .i64 2, .int .i64 7, .int .i64 4, .int .i64 12, .int .i64 2, .int .i64 15, .int .i64 2, .int .i64 18, .int .i64 2, .int .i64 22, .int .i64 2, .int .i64 24, .int .i64 2] 72)) wc.heap.size 72 fldV from hO1)
  have HB1 := hid (HBB.out.alloc HBB.out.size (.cells #[.int .i64 0, .int .i64 2, .int .i64 7, .int .i64 4, .int .i64 12, .int .i64 2, .int .i64 15, .int .i64 2, .int .i64 18, .int .i64 2, .int .i64 22, .int .i64 2, .int .i64 24, .int .i64 2] 72))
  have HZ := hid (show (wc.alloc (.cells #[.int .i64 0, .int .i64 2, .int .i64 7, .int .i64 4, .int .i64 12, .int .i64 2, .int .i64 15, .int .i64 2, .int .i64 18, .int .i64 2, .int .i64 22, .int .i64 2, .int .i64 24, .int .i64 2] 72)).heap[w.heap.size]? = some (.cells #[.int .i64 0, .int .i64 0] 37 (0, 0)) from (Below.heap_alloc wc _ _ (lt_of_heap HHW.out)).trans HHW.out)
  obtain ⟨M, hM⟩ : ∃ M, monP l = M := ⟨_, rfl⟩
  have hM' : monF ((l.drop 3).take 3) = M := hM
  rw [hM'] at HMO
  have HM := hid hM
  clear hO1 hM hM'
  by_cases hd : digsB l
  · have HFD := hid (fun w g h => fields_ok l hd g w h HZL.out)
    have HDG := hid hd
    clear hd
    by_cases hm : M = 0
    · have HBD := hid (parse_bad3 (l := l) (fun h => h.2.2 (by rw [HM.out]; exact hm)))
      have m1 : (M == 0) = true := by simpa using hm
      have m2 : ((M : Int) == 0) = true := by simp; omega
      clear hm
      go_wp2_with (first
        | (go_at_call 34; refine (HFD.out _ _ HO1.out).mono ?_; rintro e w2 ⟨g, c, rfl, q0, q1, q2, q3, q4, q5, q6, hgl, b2⟩; have HGL := hid hgl; have HZ := hid ((b2.block _ (lt_of_heap HZ.out)).trans HZ.out); have HB := hid (next HB1.out b2); clear b2 hgl)
        | (go_at_call 35; (with_reducible refine (HMO.out _).mono ?_); rintro e w3 ⟨rfl, b3⟩; have HZ := hid ((b3.block _ (lt_of_heap HZ.out)).trans HZ.out); have HB := hid (next HB.out b3); clear b3; obtain ⟨z0, z1, f0, f1⟩ := box2 HZ.out))
      refine bodyPost_ret (ps_res (box2_set HZ.out) rfl rfl) rfl ?_
      rw [HBD.out]
      exact ⟨rfl, (HB.out.setCell (p := ⟨w.heap.size, 0, none⟩) (Nat.le_refl _) _).setCell (p := ⟨w.heap.size, 1, none⟩) (Nat.le_refl _) _⟩
    · skip
      have m1 : (M == 0) = false := by simpa using hm
      have m2 : ((M : Int) == 0) = false := by rw [beq_eq_false_iff_ne]; omega
      have HM0 := hid hm
      obtain ⟨a0, h0⟩ : ∃ a0, fvL l 0 = a0 := ⟨_, rfl⟩
      obtain ⟨a1, h1⟩ : ∃ a1, fvL l 1 = a1 := ⟨_, rfl⟩
      obtain ⟨a2, h2⟩ : ∃ a2, fvL l 2 = a2 := ⟨_, rfl⟩
      obtain ⟨a3, h3⟩ : ∃ a3, fvL l 3 = a3 := ⟨_, rfl⟩
      obtain ⟨a4, h4⟩ : ∃ a4, fvL l 4 = a4 := ⟨_, rfl⟩
      obtain ⟨a5, h5⟩ : ∃ a5, fvL l 5 = a5 := ⟨_, rfl⟩
      obtain ⟨a6, h6⟩ : ∃ a6, fvL l 6 = a6 := ⟨_, rfl⟩
      rw [h0, h1, h2, h3, h4, h5, h6] at HFD
      have HF0 := hid h0
      have HF1 := hid h1
      have HF2 := hid h2
      have HF3 := hid h3
      have HF4 := hid h4
      have HF5 := hid h5
      have HF6 := hid h6
      have HDN := hid (fun w => days_nat a1 M a0 w)
      clear h0 h1 h2 h3 h4 h5 h6 hm
      go_upto_region 10 with (first
        | (go_at_call 34; refine (HFD.out _ _ HO1.out).mono ?_; rintro e w2 ⟨g, c, rfl, q0, q1, q2, q3, q4, q5, q6, hgl, b2⟩; have HGL := hid hgl; have HZ := hid ((b2.block _ (lt_of_heap HZ.out)).trans HZ.out); have HB := hid (next HB1.out b2); clear b2 hgl)
        | (go_at_call 35; (with_reducible refine (HMO.out _).mono ?_); rintro e w3 ⟨rfl, b3⟩; have HZ := hid ((b3.block _ (lt_of_heap HZ.out)).trans HZ.out); have HB := hid (next HB.out b3); replace q0 := cells_keep b3 q0; replace q1 := cells_keep b3 q1; replace q2 := cells_keep b3 q2; replace q3 := cells_keep b3 q3; replace q4 := cells_keep b3 q4; replace q5 := cells_keep b3 q5; replace q6 := cells_keep b3 q6; clear b3; obtain ⟨z0, z1, f0, f1⟩ := box2 HZ.out))
      refine wp_region_noPanic ?_
      refine wp_region_held_drew (S := (fun W => W.cell? ⟨g, 0, none⟩ = some (.int .i64 (a0 : Int)) ∧ W.cell? ⟨g, 1, none⟩ = some (.int .i64 (a1 : Int)))) (by kernel_rfl) (by first | assumption | trivial) (fun hHeld => ?_)
      refine wpAnyH_take (i := 0) (v := ?_) rfl (by kernel_rfl) (by kernel_rfl) (by kernel_rfl) (fun _ _ _ h => h) (Or.inl ⟨by kernel_rfl, ?_⟩) (by first | assumption | trivial) ?_
      rotate_left
      · (intro wS hSw; (try dsimp only at hSw); go_simp; try with_reducible rfl)
      (try simp only [List.append_eq, List.cons_append, List.nil_append, List.getElem_toArray, List.getElem_cons_succ, List.getElem_cons_zero, Act.put, List.setIfInBounds_toArray, List.set_cons_zero, List.set_cons_succ])
      refine wpAnyH_take (i := 1) (v := ?_) rfl (by kernel_rfl) (by kernel_rfl) (by kernel_rfl) (fun _ _ _ h => h) (Or.inl ⟨by kernel_rfl, ?_⟩) (by first | assumption | trivial) ?_
      rotate_left
      · (intro wS hSw; (try dsimp only at hSw); go_simp; try with_reducible rfl)
      (try simp only [List.append_eq, List.cons_append, List.nil_append, List.getElem_toArray, List.getElem_cons_succ, List.getElem_cons_zero, Act.put, List.setIfInBounds_toArray, List.set_cons_zero, List.set_cons_succ])
      refine wpAnyH_take (i := 2) (v := ?_) rfl (by kernel_rfl) (by kernel_rfl) (by kernel_rfl) (fun _ _ _ h => h) (Or.inl ⟨by kernel_rfl, ?_⟩) (by first | assumption | trivial) ?_
      rotate_left
      · (intro wS hSw; (try dsimp only at hSw); go_simp; try with_reducible rfl)
      (try simp only [List.append_eq, List.cons_append, List.nil_append, List.getElem_toArray, List.getElem_cons_succ, List.getElem_cons_zero, Act.put, List.setIfInBounds_toArray, List.set_cons_zero, List.set_cons_succ])
      refine wpAnyH_take (i := 3) (v := ?_) rfl (by kernel_rfl) (by kernel_rfl) (by kernel_rfl) (fun _ _ _ h => h) (Or.inl ⟨by kernel_rfl, ?_⟩) (by first | assumption | trivial) ?_
      rotate_left
      · (intro wS hSw; (try dsimp only at hSw); go_simp; try with_reducible rfl)
      (try simp only [List.append_eq, List.cons_append, List.nil_append, List.getElem_toArray, List.getElem_cons_succ, List.getElem_cons_zero, Act.put, List.setIfInBounds_toArray, List.set_cons_zero, List.set_cons_succ])
      refine wpAnyH_take (i := 4) (v := ?_) rfl (by kernel_rfl) (by kernel_rfl) (by kernel_rfl) (fun _ _ _ h => h) (Or.inl ⟨by kernel_rfl, ?_⟩) (by first | assumption | trivial) ?_
      rotate_left
      · (intro wS hSw; (try dsimp only at hSw); go_simp; try with_reducible rfl)
      (try simp only [List.append_eq, List.cons_append, List.nil_append, List.getElem_toArray, List.getElem_cons_succ, List.getElem_cons_zero, Act.put, List.setIfInBounds_toArray, List.set_cons_zero, List.set_cons_succ])
      refine wpAnyH_take (i := 5) (v := ?_) rfl (by kernel_rfl) (by kernel_rfl) (by kernel_rfl) (fun _ _ _ h => h) (Or.inl ⟨by kernel_rfl, ?_⟩) (by first | assumption | trivial) ?_
      rotate_left
      · (intro wS hSw; (try dsimp only at hSw); go_simp; try with_reducible rfl)
      (try simp only [List.append_eq, List.cons_append, List.nil_append, List.getElem_toArray, List.getElem_cons_succ, List.getElem_cons_zero, Act.put, List.setIfInBounds_toArray, List.set_cons_zero, List.set_cons_succ])
      refine wpAnyH_take (i := 6) (v := ?_) rfl (by kernel_rfl) (by kernel_rfl) (by kernel_rfl) (fun _ _ _ h => h) (Or.inl ⟨by kernel_rfl, ?_⟩) (by first | assumption | trivial) ?_
      rotate_left
      · (intro wS hSw; (try dsimp only at hSw); go_simp; try with_reducible rfl)
      (try simp only [List.append_eq, List.cons_append, List.nil_append, List.getElem_toArray, List.getElem_cons_succ, List.getElem_cons_zero, Act.put, List.setIfInBounds_toArray, List.set_cons_zero, List.set_cons_succ])
      refine wpAnyH_ready (rs := [7]) (by kernel_rfl) (by simp) ?_
      refine AllReadyH.cons rfl (fun K hK => ?_) AllReadyH.nil
      go_simp
      (go_at_call 8; refine (HDN.out _).mono ?_; rintro e w5 ⟨rfl, hw5⟩; subst hw5)
      go_wp2_with fail
      refine hK.out _ _ (by first | assumption | trivial) (fun hHeld => ?_)
      clear hK K
      (try simp only [List.append_eq, List.cons_append, List.nil_append, List.getElem_toArray, List.getElem_cons_succ, List.getElem_cons_zero, Act.put, List.setIfInBounds_toArray, List.set_cons_zero, List.set_cons_succ])
      refine wpAnyH_take (i := 8) (v := ?_) rfl (by kernel_rfl) (by kernel_rfl) (by kernel_rfl) (fun _ _ _ h => h) (Or.inl ⟨by kernel_rfl, ?_⟩) (by first | assumption | trivial) ?_
      rotate_left
      · (intro wS hSw; (try dsimp only at hSw); go_simp; try with_reducible rfl)
      (try simp only [List.append_eq, List.cons_append, List.nil_append, List.getElem_toArray, List.getElem_cons_succ, List.getElem_cons_zero, Act.put, List.setIfInBounds_toArray, List.set_cons_zero, List.set_cons_succ])
      refine wpAnyH_take (i := 9) (v := ?_) rfl (by kernel_rfl) (by kernel_rfl) (by kernel_rfl) (fun _ _ _ h => h) (Or.inl ⟨by kernel_rfl, ?_⟩) (by first | assumption | trivial) ?_
      rotate_left
      · (intro wS hSw; (try dsimp only at hSw); go_simp; try with_reducible rfl)
      (try simp only [List.append_eq, List.cons_append, List.nil_append, List.getElem_toArray, List.getElem_cons_succ, List.getElem_cons_zero, Act.put, List.setIfInBounds_toArray, List.set_cons_zero, List.set_cons_succ])
      refine wpAnyH_take (i := 10) (v := ?_) rfl (by kernel_rfl) (by kernel_rfl) (by kernel_rfl) (fun _ _ _ h => h) (Or.inl ⟨by kernel_rfl, ?_⟩) (by first | assumption | trivial) ?_
      rotate_left
      · (intro wS hSw; (try dsimp only at hSw); go_simp; try with_reducible rfl)
      (try simp only [List.append_eq, List.cons_append, List.nil_append, List.getElem_toArray, List.getElem_cons_succ, List.getElem_cons_zero, Act.put, List.setIfInBounds_toArray, List.set_cons_zero, List.set_cons_succ])
      refine wpAnyH_take (i := 11) (v := ?_) rfl (by kernel_rfl) (by kernel_rfl) (by kernel_rfl) (fun _ _ _ h => h) (Or.inl ⟨by kernel_rfl, ?_⟩) (by first | assumption | trivial) ?_
      rotate_left
      · (intro wS hSw; (try dsimp only at hSw); go_simp; try with_reducible rfl)
      (try simp only [List.append_eq, List.cons_append, List.nil_append, List.getElem_toArray, List.getElem_cons_succ, List.getElem_cons_zero, Act.put, List.setIfInBounds_toArray, List.set_cons_zero, List.set_cons_succ])
      refine wpAnyH_take (i := 12) (v := ?_) rfl (by kernel_rfl) (by kernel_rfl) (by kernel_rfl) (fun _ _ _ h => h) (Or.inl ⟨by kernel_rfl, ?_⟩) (by first | assumption | trivial) ?_
      rotate_left
      · (intro wS hSw; (try dsimp only at hSw); go_simp; try with_reducible rfl)
      (try simp only [List.append_eq, List.cons_append, List.nil_append, List.getElem_toArray, List.getElem_cons_succ, List.getElem_cons_zero, Act.put, List.setIfInBounds_toArray, List.set_cons_zero, List.set_cons_succ])
      refine wpAnyH_done (by kernel_rfl) ?_ _
      refine NoPanic.normal ?_
      simp only [Exit.then]
      by_cases hV : Vld a1 M a0
      · have hdm : dmy a1 M a0 = (dayN a1 M a0, 0) := by unfold dmy; rw [if_pos hV]
        have hNr := dayN_range hV
        obtain ⟨N, hN⟩ : ∃ N, dayN a1 M a0 = N := ⟨_, rfl⟩
        rw [hN] at hdm hNr
        rw [hdm]
        have HN := hid hN
        have HV := hid hV
        obtain ⟨hN1, hN2⟩ := hNr
        clear hdm hN hV
        by_cases k2 : 23 < a2
        · have d2 : decide ((23 : Int) < (a2 : Int)) = true := by simp; omega
          have d2' : decide (23 < a2) = true := by simpa using k2
          have HNC := hid (show ¬ (Vld a1 M a0 ∧ a2 ≤ 23 ∧ a3 ≤ 59 ∧ a4 ≤ 59 ∧ a5 ≤ 23 ∧ a6 ≤ 59) from fun h => by omega)
          clear k2
          have HBD := hid (parse_bad4 (l := l) ⟨HF.out, HDG.out, by rw [HM.out]; exact HM0.out⟩ (by unfold clkB; rw [HF0.out, HF1.out, HF2.out, HF3.out, HF4.out, HF5.out, HF6.out, HM.out]; exact HNC.out))
          go_wp2_with fail
          refine bodyPost_ret (ps_res (box2_set HZ.out) rfl rfl) rfl ?_
          rw [HBD.out]
          exact ⟨rfl, bq ((HB.out.setCell (p := ⟨w.heap.size, 0, none⟩) (Nat.le_refl _) _).setCell (p := ⟨w.heap.size, 1, none⟩) (Nat.le_refl _) _) 1⟩
        have d2 : decide ((23 : Int) < (a2 : Int)) = false := by simp; omega
        have d2' : decide (23 < a2) = false := by simpa using k2
        by_cases k3 : 59 < a3
        · have d3 : decide ((59 : Int) < (a3 : Int)) = true := by simp; omega
          have d3' : decide (59 < a3) = true := by simpa using k3
          have HNC := hid (show ¬ (Vld a1 M a0 ∧ a2 ≤ 23 ∧ a3 ≤ 59 ∧ a4 ≤ 59 ∧ a5 ≤ 23 ∧ a6 ≤ 59) from fun h => by omega)
          clear k3
          have HBD := hid (parse_bad4 (l := l) ⟨HF.out, HDG.out, by rw [HM.out]; exact HM0.out⟩ (by unfold clkB; rw [HF0.out, HF1.out, HF2.out, HF3.out, HF4.out, HF5.out, HF6.out, HM.out]; exact HNC.out))
          go_wp2_with fail
          refine bodyPost_ret (ps_res (box2_set HZ.out) rfl rfl) rfl ?_
          rw [HBD.out]
          exact ⟨rfl, bq ((HB.out.setCell (p := ⟨w.heap.size, 0, none⟩) (Nat.le_refl _) _).setCell (p := ⟨w.heap.size, 1, none⟩) (Nat.le_refl _) _) 1⟩
        have d3 : decide ((59 : Int) < (a3 : Int)) = false := by simp; omega
        have d3' : decide (59 < a3) = false := by simpa using k3
        by_cases k4 : 59 < a4
        · have d4 : decide ((59 : Int) < (a4 : Int)) = true := by simp; omega
          have d4' : decide (59 < a4) = true := by simpa using k4
          have HNC := hid (show ¬ (Vld a1 M a0 ∧ a2 ≤ 23 ∧ a3 ≤ 59 ∧ a4 ≤ 59 ∧ a5 ≤ 23 ∧ a6 ≤ 59) from fun h => by omega)
          clear k4
          have HBD := hid (parse_bad4 (l := l) ⟨HF.out, HDG.out, by rw [HM.out]; exact HM0.out⟩ (by unfold clkB; rw [HF0.out, HF1.out, HF2.out, HF3.out, HF4.out, HF5.out, HF6.out, HM.out]; exact HNC.out))
          go_wp2_with fail
          refine bodyPost_ret (ps_res (box2_set HZ.out) rfl rfl) rfl ?_
          rw [HBD.out]
          exact ⟨rfl, bq ((HB.out.setCell (p := ⟨w.heap.size, 0, none⟩) (Nat.le_refl _) _).setCell (p := ⟨w.heap.size, 1, none⟩) (Nat.le_refl _) _) 1⟩
        have d4 : decide ((59 : Int) < (a4 : Int)) = false := by simp; omega
        have d4' : decide (59 < a4) = false := by simpa using k4
        by_cases k5 : 23 < a5
        · have d5 : decide ((23 : Int) < (a5 : Int)) = true := by simp; omega
          have d5' : decide (23 < a5) = true := by simpa using k5
          have HNC := hid (show ¬ (Vld a1 M a0 ∧ a2 ≤ 23 ∧ a3 ≤ 59 ∧ a4 ≤ 59 ∧ a5 ≤ 23 ∧ a6 ≤ 59) from fun h => by omega)
          clear k5
          have HBD := hid (parse_bad4 (l := l) ⟨HF.out, HDG.out, by rw [HM.out]; exact HM0.out⟩ (by unfold clkB; rw [HF0.out, HF1.out, HF2.out, HF3.out, HF4.out, HF5.out, HF6.out, HM.out]; exact HNC.out))
          go_wp2_with fail
          refine bodyPost_ret (ps_res (box2_set HZ.out) rfl rfl) rfl ?_
          rw [HBD.out]
          exact ⟨rfl, bq ((HB.out.setCell (p := ⟨w.heap.size, 0, none⟩) (Nat.le_refl _) _).setCell (p := ⟨w.heap.size, 1, none⟩) (Nat.le_refl _) _) 1⟩
        have d5 : decide ((23 : Int) < (a5 : Int)) = false := by simp; omega
        have d5' : decide (23 < a5) = false := by simpa using k5
        by_cases k6 : 59 < a6
        · have d6 : decide ((59 : Int) < (a6 : Int)) = true := by simp; omega
          have d6' : decide (59 < a6) = true := by simpa using k6
          have HNC := hid (show ¬ (Vld a1 M a0 ∧ a2 ≤ 23 ∧ a3 ≤ 59 ∧ a4 ≤ 59 ∧ a5 ≤ 23 ∧ a6 ≤ 59) from fun h => by omega)
          clear k6
          have HBD := hid (parse_bad4 (l := l) ⟨HF.out, HDG.out, by rw [HM.out]; exact HM0.out⟩ (by unfold clkB; rw [HF0.out, HF1.out, HF2.out, HF3.out, HF4.out, HF5.out, HF6.out, HM.out]; exact HNC.out))
          go_wp2_with fail
          refine bodyPost_ret (ps_res (box2_set HZ.out) rfl rfl) rfl ?_
          rw [HBD.out]
          exact ⟨rfl, bq ((HB.out.setCell (p := ⟨w.heap.size, 0, none⟩) (Nat.le_refl _) _).setCell (p := ⟨w.heap.size, 1, none⟩) (Nat.le_refl _) _) 1⟩
        have d6 : decide ((59 : Int) < (a6 : Int)) = false := by simp; omega
        have d6' : decide (59 < a6) = false := by simpa using k6
        have HBD := hid (parse_good (l := l) ⟨HF.out, HDG.out, by rw [HM.out]; exact HM0.out⟩ (by unfold clkB; rw [HF0.out, HF1.out, HF2.out, HF3.out, HF4.out, HF5.out, HF6.out, HM.out]; exact ⟨HV.out, by omega, by omega, by omega, by omega, by omega⟩))
        go_upto_region 13 with fail
        go_quiet (fail)
        simp only [Exit.then]
        have HRng := hid (show a2 ≤ 23 ∧ a3 ≤ 59 ∧ a4 ≤ 59 ∧ a5 ≤ 23 ∧ a6 ≤ 59 ∧ -719162 ≤ N ∧ N ≤ 2932896 from ⟨by omega, by omega, by omega, by omega, by omega, hN1, hN2⟩)
        clear d2 d2' d3 d3' d4 d4' d5 d5' d6 d6' k2 k3 k4 k5 k6
        rcases H21.out with c21 | c21
        · have hzf : zoneF l = (60 * (a5 : Int) + (a6 : Int)) := by unfold zoneF; rw [if_neg (by rw [c21]; decide), HF5.out, HF6.out]
          have hsf : secF l = 86400 * N + (3600 * (a2 : Int) + 60 * (a3 : Int) + (a4 : Int) - 60 * (60 * (a5 : Int) + (a6 : Int))) := by unfold secF; rw [hzf, HF0.out, HF1.out, HF2.out, HF3.out, HF4.out, HM.out, HN.out]
          have HSF := hid hsf
          have HZF := hid hzf
          have b21 := HB21.out
          rw [c21] at b21
          simp only [Int.cast_ofNat_Int] at b21
          obtain ⟨r2, r3, r4, r5, r6, r7, r8⟩ := HRng.out
          have w0 : IntKind.i64.wrap (86400 * N) = 86400 * N := by rw [IntKind.wrap_i64]; omega
          have w1 : IntKind.i64.wrap (3600 * (a2 : Int)) = 3600 * (a2 : Int) := by rw [IntKind.wrap_i64]; omega
          have w2 : IntKind.i64.wrap (60 * (a3 : Int)) = 60 * (a3 : Int) := by rw [IntKind.wrap_i64]; omega
          have w3 : IntKind.i64.wrap (3600 * (a2 : Int) + 60 * (a3 : Int)) = 3600 * (a2 : Int) + 60 * (a3 : Int) := by rw [IntKind.wrap_i64]; omega
          have w4 : IntKind.i64.wrap (3600 * (a2 : Int) + 60 * (a3 : Int) + (a4 : Int)) = 3600 * (a2 : Int) + 60 * (a3 : Int) + (a4 : Int) := by rw [IntKind.wrap_i64]; omega
          have w5 : IntKind.i64.wrap (60 * (60 * (a5 : Int) + (a6 : Int))) = 60 * (60 * (a5 : Int) + (a6 : Int)) := by rw [IntKind.wrap_i64]; omega
          have w6 : IntKind.i64.wrap (3600 * (a2 : Int) + 60 * (a3 : Int) + (a4 : Int) - 60 * (60 * (a5 : Int) + (a6 : Int))) = 3600 * (a2 : Int) + 60 * (a3 : Int) + (a4 : Int) - 60 * (60 * (a5 : Int) + (a6 : Int)) := by rw [IntKind.wrap_i64]; omega
          have w7 : IntKind.i64.wrap (86400 * N + (3600 * (a2 : Int) + 60 * (a3 : Int) + (a4 : Int) - 60 * (60 * (a5 : Int) + (a6 : Int)))) = 86400 * N + (3600 * (a2 : Int) + 60 * (a3 : Int) + (a4 : Int) - 60 * (60 * (a5 : Int) + (a6 : Int))) := by rw [IntKind.wrap_i64]; omega
          clear hsf hzf c21
          have hgne : g ≠ w.heap.size := by have h1 := HGL.out; have h2 := HBB.out.size; rw [World.size_alloc] at h1; omega
          go_upto_region 16 with fail
          refine wp_region_noPanic ?_
          refine wp_region_held_drew (S := (fun W => W.cell? ⟨g, 2, none⟩ = some (.int .i64 (a2 : Int)) ∧ W.cell? ⟨g, 3, none⟩ = some (.int .i64 (a3 : Int)) ∧ W.cell? ⟨g, 4, none⟩ = some (.int .i64 (a4 : Int)))) (by kernel_rfl) (by first | assumption | trivial) (fun hHeld => ?_)
          refine wpAnyH_take (i := 0) (v := ?_) rfl (by kernel_rfl) (by kernel_rfl) (by kernel_rfl) (fun _ _ _ h => h) (Or.inl ⟨by kernel_rfl, ?_⟩) (by first | assumption | trivial) ?_
          rotate_left
          · (intro wS hSw; (try dsimp only at hSw); go_simp; try with_reducible rfl)
          (try simp only [List.append_eq, List.cons_append, List.nil_append, List.getElem_toArray, List.getElem_cons_succ, List.getElem_cons_zero, Act.put, List.setIfInBounds_toArray, List.set_cons_zero, List.set_cons_succ])
          refine wpAnyH_take (i := 1) (v := ?_) rfl (by kernel_rfl) (by kernel_rfl) (by kernel_rfl) (fun _ _ _ h => h) (Or.inl ⟨by kernel_rfl, ?_⟩) (by first | assumption | trivial) ?_
          rotate_left
          · (intro wS hSw; (try dsimp only at hSw); go_simp; try with_reducible rfl)
          (try simp only [List.append_eq, List.cons_append, List.nil_append, List.getElem_toArray, List.getElem_cons_succ, List.getElem_cons_zero, Act.put, List.setIfInBounds_toArray, List.set_cons_zero, List.set_cons_succ])
          refine wpAnyH_take (i := 2) (v := ?_) rfl (by kernel_rfl) (by kernel_rfl) (by kernel_rfl) (fun _ _ _ h => h) (Or.inl ⟨by kernel_rfl, ?_⟩) (by first | assumption | trivial) ?_
          rotate_left
          · (intro wS hSw; (try dsimp only at hSw); go_simp; try with_reducible rfl)
          (try simp only [List.append_eq, List.cons_append, List.nil_append, List.getElem_toArray, List.getElem_cons_succ, List.getElem_cons_zero, Act.put, List.setIfInBounds_toArray, List.set_cons_zero, List.set_cons_succ])
          refine wpAnyH_take (i := 3) (v := ?_) rfl (by kernel_rfl) (by kernel_rfl) (by kernel_rfl) (fun _ _ _ h => h) (Or.inl ⟨by kernel_rfl, ?_⟩) (by first | assumption | trivial) ?_
          rotate_left
          · (intro wS hSw; (try dsimp only at hSw); go_simp; try with_reducible rfl)
          (try simp only [List.append_eq, List.cons_append, List.nil_append, List.getElem_toArray, List.getElem_cons_succ, List.getElem_cons_zero, Act.put, List.setIfInBounds_toArray, List.set_cons_zero, List.set_cons_succ])
          refine wpAnyH_take (i := 4) (v := ?_) rfl (by kernel_rfl) (by kernel_rfl) (by kernel_rfl) (fun _ _ _ h => h) (Or.inl ⟨by kernel_rfl, ?_⟩) (by first | assumption | trivial) ?_
          rotate_left
          · (intro wS hSw; (try dsimp only at hSw); go_simp; try with_reducible rfl)
          (try simp only [List.append_eq, List.cons_append, List.nil_append, List.getElem_toArray, List.getElem_cons_succ, List.getElem_cons_zero, Act.put, List.setIfInBounds_toArray, List.set_cons_zero, List.set_cons_succ])
          refine wpAnyH_take (i := 5) (v := ?_) rfl (by kernel_rfl) (by kernel_rfl) (by kernel_rfl) (fun _ _ _ h => h) (Or.inl ⟨by kernel_rfl, ?_⟩) (by first | assumption | trivial) ?_
          rotate_left
          · (intro wS hSw; (try dsimp only at hSw); go_simp; try with_reducible rfl)
          (try simp only [List.append_eq, List.cons_append, List.nil_append, List.getElem_toArray, List.getElem_cons_succ, List.getElem_cons_zero, Act.put, List.setIfInBounds_toArray, List.set_cons_zero, List.set_cons_succ])
          refine wpAnyH_take (i := 6) (v := ?_) rfl (by kernel_rfl) (by kernel_rfl) (by kernel_rfl) (fun _ _ _ h => h) (Or.inl ⟨by kernel_rfl, ?_⟩) (by first | assumption | trivial) ?_
          rotate_left
          · (intro wS hSw; (try dsimp only at hSw); go_simp; try with_reducible rfl)
          (try simp only [List.append_eq, List.cons_append, List.nil_append, List.getElem_toArray, List.getElem_cons_succ, List.getElem_cons_zero, Act.put, List.setIfInBounds_toArray, List.set_cons_zero, List.set_cons_succ])
          refine wpAnyH_take (i := 7) (v := ?_) rfl (by kernel_rfl) (by kernel_rfl) (by kernel_rfl) (fun _ _ _ h => h) (Or.inl ⟨by kernel_rfl, ?_⟩) (by first | assumption | trivial) ?_
          rotate_left
          · (intro wS hSw; (try dsimp only at hSw); go_simp; try with_reducible rfl)
          (try simp only [List.append_eq, List.cons_append, List.nil_append, List.getElem_toArray, List.getElem_cons_succ, List.getElem_cons_zero, Act.put, List.setIfInBounds_toArray, List.set_cons_zero, List.set_cons_succ])
          refine wpAnyH_take (i := 8) (v := ?_) rfl (by kernel_rfl) (by kernel_rfl) (by kernel_rfl) (fun _ _ _ h => h) (Or.inl ⟨by kernel_rfl, ?_⟩) (by first | assumption | trivial) ?_
          rotate_left
          · (intro wS hSw; (try dsimp only at hSw); go_simp; try with_reducible rfl)
          (try simp only [List.append_eq, List.cons_append, List.nil_append, List.getElem_toArray, List.getElem_cons_succ, List.getElem_cons_zero, Act.put, List.setIfInBounds_toArray, List.set_cons_zero, List.set_cons_succ])
          refine wpAnyH_take (i := 9) (v := ?_) rfl (by kernel_rfl) (by kernel_rfl) (by kernel_rfl) (fun _ _ _ h => h) (Or.inl ⟨by kernel_rfl, ?_⟩) (by first | assumption | trivial) ?_
          rotate_left
          · (intro wS hSw; (try dsimp only at hSw); go_simp; try with_reducible rfl)
          (try simp only [List.append_eq, List.cons_append, List.nil_append, List.getElem_toArray, List.getElem_cons_succ, List.getElem_cons_zero, Act.put, List.setIfInBounds_toArray, List.set_cons_zero, List.set_cons_succ])
          refine wpAnyH_take (i := 10) (v := ?_) rfl (by kernel_rfl) (by kernel_rfl) (by kernel_rfl) (fun _ _ _ h => h) (Or.inl ⟨by kernel_rfl, ?_⟩) (by first | assumption | trivial) ?_
          rotate_left
          · (intro wS hSw; (try dsimp only at hSw); go_simp; try with_reducible rfl)
          (try simp only [List.append_eq, List.cons_append, List.nil_append, List.getElem_toArray, List.getElem_cons_succ, List.getElem_cons_zero, Act.put, List.setIfInBounds_toArray, List.set_cons_zero, List.set_cons_succ])
          refine wpAnyH_take (i := 11) (v := ?_) rfl (by kernel_rfl) (by kernel_rfl) (by kernel_rfl) (fun _ _ _ h => h) (Or.inl ⟨by kernel_rfl, ?_⟩) (by first | assumption | trivial) ?_
          rotate_left
          · (intro wS hSw; (try dsimp only at hSw); go_simp; try with_reducible rfl)
          (try simp only [List.append_eq, List.cons_append, List.nil_append, List.getElem_toArray, List.getElem_cons_succ, List.getElem_cons_zero, Act.put, List.setIfInBounds_toArray, List.set_cons_zero, List.set_cons_succ])
          refine wpAnyH_take (i := 12) (v := ?_) rfl (by kernel_rfl) (by kernel_rfl) (by kernel_rfl) (fun _ _ _ h => h) (Or.inl ⟨by kernel_rfl, ?_⟩) (by first | assumption | trivial) ?_
          rotate_left
          · (intro wS hSw; (try dsimp only at hSw); go_simp; try with_reducible rfl)
          (try simp only [List.append_eq, List.cons_append, List.nil_append, List.getElem_toArray, List.getElem_cons_succ, List.getElem_cons_zero, Act.put, List.setIfInBounds_toArray, List.set_cons_zero, List.set_cons_succ])
          refine wpAnyH_take (i := 13) (v := ?_) rfl (by kernel_rfl) (by kernel_rfl) (by kernel_rfl) (fun _ _ _ h => h) (Or.inl ⟨by kernel_rfl, ?_⟩) (by first | assumption | trivial) ?_
          rotate_left
          · (intro wS hSw; (try dsimp only at hSw); go_simp; try with_reducible rfl)
          (try simp only [List.append_eq, List.cons_append, List.nil_append, List.getElem_toArray, List.getElem_cons_succ, List.getElem_cons_zero, Act.put, List.setIfInBounds_toArray, List.set_cons_zero, List.set_cons_succ])
          refine wpAnyH_take (i := 14) (v := ?_) rfl (by kernel_rfl) (by kernel_rfl) (by kernel_rfl) (fun _ _ _ h => h) (Or.inl ⟨by kernel_rfl, ?_⟩) (by first | assumption | trivial) ?_
          rotate_left
          · (intro wS hSw; (try dsimp only at hSw); go_simp; try with_reducible rfl)
          (try simp only [List.append_eq, List.cons_append, List.nil_append, List.getElem_toArray, List.getElem_cons_succ, List.getElem_cons_zero, Act.put, List.setIfInBounds_toArray, List.set_cons_zero, List.set_cons_succ])
          refine wpAnyH_take (i := 15) (v := ?_) rfl (by kernel_rfl) (by kernel_rfl) (by kernel_rfl) (fun _ _ _ h => h) (Or.inl ⟨by kernel_rfl, ?_⟩) (by first | assumption | trivial) ?_
          rotate_left
          · (intro wS hSw; (try dsimp only at hSw); go_simp; try with_reducible rfl)
          (try simp only [List.append_eq, List.cons_append, List.nil_append, List.getElem_toArray, List.getElem_cons_succ, List.getElem_cons_zero, Act.put, List.setIfInBounds_toArray, List.set_cons_zero, List.set_cons_succ])
          refine wpAnyH_take (i := 16) (v := ?_) rfl (by kernel_rfl) (by kernel_rfl) (by kernel_rfl) (fun _ _ _ h => h) (Or.inl ⟨by kernel_rfl, ?_⟩) (by first | assumption | trivial) ?_
          rotate_left
          · (intro wS hSw; (try dsimp only at hSw); go_simp; try with_reducible rfl)
          (try simp only [List.append_eq, List.cons_append, List.nil_append, List.getElem_toArray, List.getElem_cons_succ, List.getElem_cons_zero, Act.put, List.setIfInBounds_toArray, List.set_cons_zero, List.set_cons_succ])
          refine wpAnyH_take (i := 17) (v := ?_) rfl (by kernel_rfl) (by kernel_rfl) (by kernel_rfl) (fun _ _ _ h => h) (Or.inl ⟨by kernel_rfl, ?_⟩) (by first | assumption | trivial) ?_
          rotate_left
          · (intro wS hSw; (try dsimp only at hSw); go_simp; try with_reducible rfl)
          (try simp only [List.append_eq, List.cons_append, List.nil_append, List.getElem_toArray, List.getElem_cons_succ, List.getElem_cons_zero, Act.put, List.setIfInBounds_toArray, List.set_cons_zero, List.set_cons_succ])
          refine wpAnyH_take (i := 18) (v := ?_) rfl (by kernel_rfl) (by kernel_rfl) (by kernel_rfl) (fun _ _ _ h => h) (Or.inl ⟨by kernel_rfl, ?_⟩) (by first | assumption | trivial) ?_
          rotate_left
          · (intro wS hSw; (try dsimp only at hSw); go_simp; try with_reducible rfl)
          (try simp only [List.append_eq, List.cons_append, List.nil_append, List.getElem_toArray, List.getElem_cons_succ, List.getElem_cons_zero, Act.put, List.setIfInBounds_toArray, List.set_cons_zero, List.set_cons_succ])
          refine wpAnyH_take (i := 19) (v := ?_) rfl (by kernel_rfl) (by kernel_rfl) (by kernel_rfl) (fun _ _ _ h => h) (Or.inl ⟨by kernel_rfl, ?_⟩) (by first | assumption | trivial) ?_
          rotate_left
          · (intro wS hSw; (try dsimp only at hSw); go_simp; try with_reducible rfl)
          (try simp only [List.append_eq, List.cons_append, List.nil_append, List.getElem_toArray, List.getElem_cons_succ, List.getElem_cons_zero, Act.put, List.setIfInBounds_toArray, List.set_cons_zero, List.set_cons_succ])
          refine wpAnyH_take (i := 20) (v := ?_) rfl (by kernel_rfl) (by kernel_rfl) (by kernel_rfl) (fun _ _ _ h => h) (Or.inl ⟨by kernel_rfl, ?_⟩) (by first | assumption | trivial) ?_
          rotate_left
          · (intro wS hSw; (try dsimp only at hSw); go_simp; try with_reducible rfl)
          (try simp only [List.append_eq, List.cons_append, List.nil_append, List.getElem_toArray, List.getElem_cons_succ, List.getElem_cons_zero, Act.put, List.setIfInBounds_toArray, List.set_cons_zero, List.set_cons_succ])
          refine wpAnyH_ready (rs := [21]) (by kernel_rfl) (by simp) ?_
          refine AllReadyH.cons rfl (fun K hK => ?_) AllReadyH.nil
          go_simp
          refine hK.out _ _ ⟨cell_oth hHeld.1 hgne, cell_oth hHeld.2.1 hgne, cell_oth hHeld.2.2 hgne⟩ (fun hHeld => ?_)
          clear hK K
          (try simp only [List.getElem_toArray, List.getElem_cons_succ, List.getElem_cons_zero, Act.put, List.setIfInBounds_toArray, List.set_cons_zero, List.set_cons_succ])
          refine wpAnyH_take (i := 22) (v := ?_) rfl (by kernel_rfl) (by kernel_rfl) (by kernel_rfl) (fun _ _ _ h => h) (Or.inl ⟨by kernel_rfl, ?_⟩) (by first | assumption | trivial) ?_
          rotate_left
          · (intro wS hSw; (try dsimp only at hSw); go_simp; try with_reducible rfl)
          (try simp only [List.append_eq, List.cons_append, List.nil_append, List.getElem_toArray, List.getElem_cons_succ, List.getElem_cons_zero, Act.put, List.setIfInBounds_toArray, List.set_cons_zero, List.set_cons_succ])
          refine wpAnyH_done (by kernel_rfl) ?_ _
          refine NoPanic.normal ?_
          go_wp2_with fail
          refine bodyPost_ret (ps_res (box2_set HZ.out) rfl rfl) rfl ?_
          rw [HBD.out, HSF.out, HZF.out]
          exact ⟨rfl, ((bq HB.out _).setCell (p := ⟨w.heap.size, 0, none⟩) (Nat.le_refl _) _).setCell (p := ⟨w.heap.size, 1, none⟩) (Nat.le_refl _) _⟩
        · have hzf : zoneF l = (-(60 * (a5 : Int) + (a6 : Int))) := by unfold zoneF; rw [if_pos c21, HF5.out, HF6.out]
          have hsf : secF l = 86400 * N + (3600 * (a2 : Int) + 60 * (a3 : Int) + (a4 : Int) - 60 * (-(60 * (a5 : Int) + (a6 : Int)))) := by unfold secF; rw [hzf, HF0.out, HF1.out, HF2.out, HF3.out, HF4.out, HM.out, HN.out]
          have HSF := hid hsf
          have HZF := hid hzf
          have b21 := HB21.out
          rw [c21] at b21
          simp only [Int.cast_ofNat_Int] at b21
          obtain ⟨r2, r3, r4, r5, r6, r7, r8⟩ := HRng.out
          have w0 : IntKind.i64.wrap (86400 * N) = 86400 * N := by rw [IntKind.wrap_i64]; omega
          have w1 : IntKind.i64.wrap (3600 * (a2 : Int)) = 3600 * (a2 : Int) := by rw [IntKind.wrap_i64]; omega
          have w2 : IntKind.i64.wrap (60 * (a3 : Int)) = 60 * (a3 : Int) := by rw [IntKind.wrap_i64]; omega
          have w3 : IntKind.i64.wrap (3600 * (a2 : Int) + 60 * (a3 : Int)) = 3600 * (a2 : Int) + 60 * (a3 : Int) := by rw [IntKind.wrap_i64]; omega
          have w4 : IntKind.i64.wrap (3600 * (a2 : Int) + 60 * (a3 : Int) + (a4 : Int)) = 3600 * (a2 : Int) + 60 * (a3 : Int) + (a4 : Int) := by rw [IntKind.wrap_i64]; omega
          have w5 : IntKind.i64.wrap (60 * (-(60 * (a5 : Int) + (a6 : Int)))) = 60 * (-(60 * (a5 : Int) + (a6 : Int))) := by rw [IntKind.wrap_i64]; omega
          have w6 : IntKind.i64.wrap (3600 * (a2 : Int) + 60 * (a3 : Int) + (a4 : Int) - 60 * (-(60 * (a5 : Int) + (a6 : Int)))) = 3600 * (a2 : Int) + 60 * (a3 : Int) + (a4 : Int) - 60 * (-(60 * (a5 : Int) + (a6 : Int))) := by rw [IntKind.wrap_i64]; omega
          have w7 : IntKind.i64.wrap (86400 * N + (3600 * (a2 : Int) + 60 * (a3 : Int) + (a4 : Int) - 60 * (-(60 * (a5 : Int) + (a6 : Int))))) = 86400 * N + (3600 * (a2 : Int) + 60 * (a3 : Int) + (a4 : Int) - 60 * (-(60 * (a5 : Int) + (a6 : Int)))) := by rw [IntKind.wrap_i64]; omega
          have w8 : IntKind.i64.wrap ((-(60 * (a5 : Int) + (a6 : Int)))) = (-(60 * (a5 : Int) + (a6 : Int))) := by rw [IntKind.wrap_i64]; omega
          clear hsf hzf c21
          have hgne : g ≠ w.heap.size := by have h1 := HGL.out; have h2 := HBB.out.size; rw [World.size_alloc] at h1; omega
          go_upto_region 16 with fail
          refine wp_region_noPanic ?_
          refine wp_region_held_drew (S := (fun W => W.cell? ⟨g, 2, none⟩ = some (.int .i64 (a2 : Int)) ∧ W.cell? ⟨g, 3, none⟩ = some (.int .i64 (a3 : Int)) ∧ W.cell? ⟨g, 4, none⟩ = some (.int .i64 (a4 : Int)))) (by kernel_rfl) (by first | assumption | trivial) (fun hHeld => ?_)
          refine wpAnyH_take (i := 0) (v := ?_) rfl (by kernel_rfl) (by kernel_rfl) (by kernel_rfl) (fun _ _ _ h => h) (Or.inl ⟨by kernel_rfl, ?_⟩) (by first | assumption | trivial) ?_
          rotate_left
          · (intro wS hSw; (try dsimp only at hSw); go_simp; try with_reducible rfl)
          (try simp only [List.append_eq, List.cons_append, List.nil_append, List.getElem_toArray, List.getElem_cons_succ, List.getElem_cons_zero, Act.put, List.setIfInBounds_toArray, List.set_cons_zero, List.set_cons_succ])
          refine wpAnyH_take (i := 1) (v := ?_) rfl (by kernel_rfl) (by kernel_rfl) (by kernel_rfl) (fun _ _ _ h => h) (Or.inl ⟨by kernel_rfl, ?_⟩) (by first | assumption | trivial) ?_
          rotate_left
          · (intro wS hSw; (try dsimp only at hSw); go_simp; try with_reducible rfl)
          (try simp only [List.append_eq, List.cons_append, List.nil_append, List.getElem_toArray, List.getElem_cons_succ, List.getElem_cons_zero, Act.put, List.setIfInBounds_toArray, List.set_cons_zero, List.set_cons_succ])
          refine wpAnyH_take (i := 2) (v := ?_) rfl (by kernel_rfl) (by kernel_rfl) (by kernel_rfl) (fun _ _ _ h => h) (Or.inl ⟨by kernel_rfl, ?_⟩) (by first | assumption | trivial) ?_
          rotate_left
          · (intro wS hSw; (try dsimp only at hSw); go_simp; try with_reducible rfl)
          (try simp only [List.append_eq, List.cons_append, List.nil_append, List.getElem_toArray, List.getElem_cons_succ, List.getElem_cons_zero, Act.put, List.setIfInBounds_toArray, List.set_cons_zero, List.set_cons_succ])
          refine wpAnyH_take (i := 3) (v := ?_) rfl (by kernel_rfl) (by kernel_rfl) (by kernel_rfl) (fun _ _ _ h => h) (Or.inl ⟨by kernel_rfl, ?_⟩) (by first | assumption | trivial) ?_
          rotate_left
          · (intro wS hSw; (try dsimp only at hSw); go_simp; try with_reducible rfl)
          (try simp only [List.append_eq, List.cons_append, List.nil_append, List.getElem_toArray, List.getElem_cons_succ, List.getElem_cons_zero, Act.put, List.setIfInBounds_toArray, List.set_cons_zero, List.set_cons_succ])
          refine wpAnyH_take (i := 4) (v := ?_) rfl (by kernel_rfl) (by kernel_rfl) (by kernel_rfl) (fun _ _ _ h => h) (Or.inl ⟨by kernel_rfl, ?_⟩) (by first | assumption | trivial) ?_
          rotate_left
          · (intro wS hSw; (try dsimp only at hSw); go_simp; try with_reducible rfl)
          (try simp only [List.append_eq, List.cons_append, List.nil_append, List.getElem_toArray, List.getElem_cons_succ, List.getElem_cons_zero, Act.put, List.setIfInBounds_toArray, List.set_cons_zero, List.set_cons_succ])
          refine wpAnyH_take (i := 5) (v := ?_) rfl (by kernel_rfl) (by kernel_rfl) (by kernel_rfl) (fun _ _ _ h => h) (Or.inl ⟨by kernel_rfl, ?_⟩) (by first | assumption | trivial) ?_
          rotate_left
          · (intro wS hSw; (try dsimp only at hSw); go_simp; try with_reducible rfl)
          (try simp only [List.append_eq, List.cons_append, List.nil_append, List.getElem_toArray, List.getElem_cons_succ, List.getElem_cons_zero, Act.put, List.setIfInBounds_toArray, List.set_cons_zero, List.set_cons_succ])
          refine wpAnyH_take (i := 6) (v := ?_) rfl (by kernel_rfl) (by kernel_rfl) (by kernel_rfl) (fun _ _ _ h => h) (Or.inl ⟨by kernel_rfl, ?_⟩) (by first | assumption | trivial) ?_
          rotate_left
          · (intro wS hSw; (try dsimp only at hSw); go_simp; try with_reducible rfl)
          (try simp only [List.append_eq, List.cons_append, List.nil_append, List.getElem_toArray, List.getElem_cons_succ, List.getElem_cons_zero, Act.put, List.setIfInBounds_toArray, List.set_cons_zero, List.set_cons_succ])
          refine wpAnyH_take (i := 7) (v := ?_) rfl (by kernel_rfl) (by kernel_rfl) (by kernel_rfl) (fun _ _ _ h => h) (Or.inl ⟨by kernel_rfl, ?_⟩) (by first | assumption | trivial) ?_
          rotate_left
          · (intro wS hSw; (try dsimp only at hSw); go_simp; try with_reducible rfl)
          (try simp only [List.append_eq, List.cons_append, List.nil_append, List.getElem_toArray, List.getElem_cons_succ, List.getElem_cons_zero, Act.put, List.setIfInBounds_toArray, List.set_cons_zero, List.set_cons_succ])
          refine wpAnyH_take (i := 8) (v := ?_) rfl (by kernel_rfl) (by kernel_rfl) (by kernel_rfl) (fun _ _ _ h => h) (Or.inl ⟨by kernel_rfl, ?_⟩) (by first | assumption | trivial) ?_
          rotate_left
          · (intro wS hSw; (try dsimp only at hSw); go_simp; try with_reducible rfl)
          (try simp only [List.append_eq, List.cons_append, List.nil_append, List.getElem_toArray, List.getElem_cons_succ, List.getElem_cons_zero, Act.put, List.setIfInBounds_toArray, List.set_cons_zero, List.set_cons_succ])
          refine wpAnyH_take (i := 9) (v := ?_) rfl (by kernel_rfl) (by kernel_rfl) (by kernel_rfl) (fun _ _ _ h => h) (Or.inl ⟨by kernel_rfl, ?_⟩) (by first | assumption | trivial) ?_
          rotate_left
          · (intro wS hSw; (try dsimp only at hSw); go_simp; try with_reducible rfl)
          (try simp only [List.append_eq, List.cons_append, List.nil_append, List.getElem_toArray, List.getElem_cons_succ, List.getElem_cons_zero, Act.put, List.setIfInBounds_toArray, List.set_cons_zero, List.set_cons_succ])
          refine wpAnyH_take (i := 10) (v := ?_) rfl (by kernel_rfl) (by kernel_rfl) (by kernel_rfl) (fun _ _ _ h => h) (Or.inl ⟨by kernel_rfl, ?_⟩) (by first | assumption | trivial) ?_
          rotate_left
          · (intro wS hSw; (try dsimp only at hSw); go_simp; try with_reducible rfl)
          (try simp only [List.append_eq, List.cons_append, List.nil_append, List.getElem_toArray, List.getElem_cons_succ, List.getElem_cons_zero, Act.put, List.setIfInBounds_toArray, List.set_cons_zero, List.set_cons_succ])
          refine wpAnyH_take (i := 11) (v := ?_) rfl (by kernel_rfl) (by kernel_rfl) (by kernel_rfl) (fun _ _ _ h => h) (Or.inl ⟨by kernel_rfl, ?_⟩) (by first | assumption | trivial) ?_
          rotate_left
          · (intro wS hSw; (try dsimp only at hSw); go_simp; try with_reducible rfl)
          (try simp only [List.append_eq, List.cons_append, List.nil_append, List.getElem_toArray, List.getElem_cons_succ, List.getElem_cons_zero, Act.put, List.setIfInBounds_toArray, List.set_cons_zero, List.set_cons_succ])
          refine wpAnyH_take (i := 12) (v := ?_) rfl (by kernel_rfl) (by kernel_rfl) (by kernel_rfl) (fun _ _ _ h => h) (Or.inl ⟨by kernel_rfl, ?_⟩) (by first | assumption | trivial) ?_
          rotate_left
          · (intro wS hSw; (try dsimp only at hSw); go_simp; try with_reducible rfl)
          (try simp only [List.append_eq, List.cons_append, List.nil_append, List.getElem_toArray, List.getElem_cons_succ, List.getElem_cons_zero, Act.put, List.setIfInBounds_toArray, List.set_cons_zero, List.set_cons_succ])
          refine wpAnyH_take (i := 13) (v := ?_) rfl (by kernel_rfl) (by kernel_rfl) (by kernel_rfl) (fun _ _ _ h => h) (Or.inl ⟨by kernel_rfl, ?_⟩) (by first | assumption | trivial) ?_
          rotate_left
          · (intro wS hSw; (try dsimp only at hSw); go_simp; try with_reducible rfl)
          (try simp only [List.append_eq, List.cons_append, List.nil_append, List.getElem_toArray, List.getElem_cons_succ, List.getElem_cons_zero, Act.put, List.setIfInBounds_toArray, List.set_cons_zero, List.set_cons_succ])
          refine wpAnyH_take (i := 14) (v := ?_) rfl (by kernel_rfl) (by kernel_rfl) (by kernel_rfl) (fun _ _ _ h => h) (Or.inl ⟨by kernel_rfl, ?_⟩) (by first | assumption | trivial) ?_
          rotate_left
          · (intro wS hSw; (try dsimp only at hSw); go_simp; try with_reducible rfl)
          (try simp only [List.append_eq, List.cons_append, List.nil_append, List.getElem_toArray, List.getElem_cons_succ, List.getElem_cons_zero, Act.put, List.setIfInBounds_toArray, List.set_cons_zero, List.set_cons_succ])
          refine wpAnyH_take (i := 15) (v := ?_) rfl (by kernel_rfl) (by kernel_rfl) (by kernel_rfl) (fun _ _ _ h => h) (Or.inl ⟨by kernel_rfl, ?_⟩) (by first | assumption | trivial) ?_
          rotate_left
          · (intro wS hSw; (try dsimp only at hSw); go_simp; try with_reducible rfl)
          (try simp only [List.append_eq, List.cons_append, List.nil_append, List.getElem_toArray, List.getElem_cons_succ, List.getElem_cons_zero, Act.put, List.setIfInBounds_toArray, List.set_cons_zero, List.set_cons_succ])
          refine wpAnyH_take (i := 16) (v := ?_) rfl (by kernel_rfl) (by kernel_rfl) (by kernel_rfl) (fun _ _ _ h => h) (Or.inl ⟨by kernel_rfl, ?_⟩) (by first | assumption | trivial) ?_
          rotate_left
          · (intro wS hSw; (try dsimp only at hSw); go_simp; try with_reducible rfl)
          (try simp only [List.append_eq, List.cons_append, List.nil_append, List.getElem_toArray, List.getElem_cons_succ, List.getElem_cons_zero, Act.put, List.setIfInBounds_toArray, List.set_cons_zero, List.set_cons_succ])
          refine wpAnyH_take (i := 17) (v := ?_) rfl (by kernel_rfl) (by kernel_rfl) (by kernel_rfl) (fun _ _ _ h => h) (Or.inl ⟨by kernel_rfl, ?_⟩) (by first | assumption | trivial) ?_
          rotate_left
          · (intro wS hSw; (try dsimp only at hSw); go_simp; try with_reducible rfl)
          (try simp only [List.append_eq, List.cons_append, List.nil_append, List.getElem_toArray, List.getElem_cons_succ, List.getElem_cons_zero, Act.put, List.setIfInBounds_toArray, List.set_cons_zero, List.set_cons_succ])
          refine wpAnyH_take (i := 18) (v := ?_) rfl (by kernel_rfl) (by kernel_rfl) (by kernel_rfl) (fun _ _ _ h => h) (Or.inl ⟨by kernel_rfl, ?_⟩) (by first | assumption | trivial) ?_
          rotate_left
          · (intro wS hSw; (try dsimp only at hSw); go_simp; try with_reducible rfl)
          (try simp only [List.append_eq, List.cons_append, List.nil_append, List.getElem_toArray, List.getElem_cons_succ, List.getElem_cons_zero, Act.put, List.setIfInBounds_toArray, List.set_cons_zero, List.set_cons_succ])
          refine wpAnyH_take (i := 19) (v := ?_) rfl (by kernel_rfl) (by kernel_rfl) (by kernel_rfl) (fun _ _ _ h => h) (Or.inl ⟨by kernel_rfl, ?_⟩) (by first | assumption | trivial) ?_
          rotate_left
          · (intro wS hSw; (try dsimp only at hSw); go_simp; try with_reducible rfl)
          (try simp only [List.append_eq, List.cons_append, List.nil_append, List.getElem_toArray, List.getElem_cons_succ, List.getElem_cons_zero, Act.put, List.setIfInBounds_toArray, List.set_cons_zero, List.set_cons_succ])
          refine wpAnyH_take (i := 20) (v := ?_) rfl (by kernel_rfl) (by kernel_rfl) (by kernel_rfl) (fun _ _ _ h => h) (Or.inl ⟨by kernel_rfl, ?_⟩) (by first | assumption | trivial) ?_
          rotate_left
          · (intro wS hSw; (try dsimp only at hSw); go_simp; try with_reducible rfl)
          (try simp only [List.append_eq, List.cons_append, List.nil_append, List.getElem_toArray, List.getElem_cons_succ, List.getElem_cons_zero, Act.put, List.setIfInBounds_toArray, List.set_cons_zero, List.set_cons_succ])
          refine wpAnyH_ready (rs := [21]) (by kernel_rfl) (by simp) ?_
          refine AllReadyH.cons rfl (fun K hK => ?_) AllReadyH.nil
          go_simp
          refine hK.out _ _ ⟨cell_oth hHeld.1 hgne, cell_oth hHeld.2.1 hgne, cell_oth hHeld.2.2 hgne⟩ (fun hHeld => ?_)
          clear hK K
          (try simp only [List.getElem_toArray, List.getElem_cons_succ, List.getElem_cons_zero, Act.put, List.setIfInBounds_toArray, List.set_cons_zero, List.set_cons_succ])
          refine wpAnyH_take (i := 22) (v := ?_) rfl (by kernel_rfl) (by kernel_rfl) (by kernel_rfl) (fun _ _ _ h => h) (Or.inl ⟨by kernel_rfl, ?_⟩) (by first | assumption | trivial) ?_
          rotate_left
          · (intro wS hSw; (try dsimp only at hSw); go_simp; try with_reducible rfl)
          (try simp only [List.append_eq, List.cons_append, List.nil_append, List.getElem_toArray, List.getElem_cons_succ, List.getElem_cons_zero, Act.put, List.setIfInBounds_toArray, List.set_cons_zero, List.set_cons_succ])
          refine wpAnyH_done (by kernel_rfl) ?_ _
          refine NoPanic.normal ?_
          go_wp2_with fail
          refine bodyPost_ret (ps_res (box2_set HZ.out) rfl rfl) rfl ?_
          rw [HBD.out, HSF.out, HZF.out]
          exact ⟨rfl, ((bq HB.out _).setCell (p := ⟨w.heap.size, 0, none⟩) (Nat.le_refl _) _).setCell (p := ⟨w.heap.size, 1, none⟩) (Nat.le_refl _) _⟩
      · have hdm : dmy a1 M a0 = (0, 4) := by unfold dmy; rw [if_neg hV]
        rw [hdm]
        have HNC := hid (show ¬ (Vld a1 M a0 ∧ a2 ≤ 23 ∧ a3 ≤ 59 ∧ a4 ≤ 59 ∧ a5 ≤ 23 ∧ a6 ≤ 59) from fun h => hV h.1)
        clear hdm hV
        have HBD := hid (parse_bad4 (l := l) ⟨HF.out, HDG.out, by rw [HM.out]; exact HM0.out⟩ (by unfold clkB; rw [HF0.out, HF1.out, HF2.out, HF3.out, HF4.out, HF5.out, HF6.out, HM.out]; exact HNC.out))
        go_wp2_with fail
        refine bodyPost_ret (ps_res (box2_set HZ.out) rfl rfl) rfl ?_
        rw [HBD.out]
        exact ⟨rfl, bq ((HB.out.setCell (p := ⟨w.heap.size, 0, none⟩) (Nat.le_refl _) _).setCell (p := ⟨w.heap.size, 1, none⟩) (Nat.le_refl _) _) 1⟩
  · have HFD := hid (fun w g h => fields_bad l hd g w h HZL.out)
    have HBD := hid (parse_bad3 (l := l) (fun h => hd h.2.1))
    clear hd
    go_wp2_with (first
      | (go_at_call 34; refine (HFD.out _ _ HO1.out).mono ?_; rintro e w2 ⟨rfl, b2⟩; have HZ := hid ((b2.block _ (lt_of_heap HZ.out)).trans HZ.out); have HB := hid (next HB1.out b2); clear b2)
      | (go_at_call 35; (with_reducible refine (HMO.out _).mono ?_); rintro e w3 ⟨rfl, b3⟩; have HZ := hid ((b3.block _ (lt_of_heap HZ.out)).trans HZ.out); have HB := hid (next HB.out b3); clear b3; obtain ⟨z0, z1, f0, f1⟩ := box2 HZ.out))
    refine bodyPost_ret (ps_res (box2_set HZ.out) rfl rfl) rfl ?_
    rw [HBD.out]
    exact ⟨rfl, (HB.out.setCell (p := ⟨w.heap.size, 0, none⟩) (Nat.le_refl _) _).setCell (p := ⟨w.heap.size, 1, none⟩) (Nat.le_refl _) _⟩
end Go.Proofs.YtkjlkkaoaiphcaaDoor
