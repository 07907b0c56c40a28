/-
  A good page is read: the walk (printed by tools/gen06rd.py). A part of the proof: see the head of the text that ends in 'Law'.
-/
import Derived.Test.YtlhngieinmgooaaTr11
namespace Go.Proofs.Ytlhngieinmgooaa
open Go.RowKit
set_option linter.unusedVariables false
set_option linter.unusedSimpArgs false
set_option maxRecDepth 100000
attribute [local go_sem] Oper.semAt_some

set_option maxHeartbeats 8000000 in
theorem read_good1 (A : Option Addr) (c : Nat) (b : List UInt8) (w : World) (ho : Oct w A 128 b) (hnc : 128 ≤ c) (h1 : octA b 0 = 1) (h2 : 0 ≤ octA b 1 ∧ octA b 1 ≤ 7) (hp : pageP (b.take (sizeP b)) = b) :
    Calls Try.prog 27 #[.slice A 128 c] w fun e w' => Below w.heap.size w w' ∧ RdR w w' b e := by
  obtain ⟨g, off, rfl, x0, x1⟩ := rd_cells ho
  have HO := hid ho
  have HL := hid ho.1
  have HF : Hid (isP b = true ∧ octA b 0 = 1 ∧ octA b 1 = octA b 1) := hid ⟨by unfold isP kindP; rw [decide_eq_true hp, ho.1, h1]; simp; omega, h1, rfl⟩
  have hsz : sizeP b = 2 + 16 * octA b 1 := by unfold sizeP eachP; rw [h1]; rfl
  rw [hsz] at hp
  have HP := hid hp
  have HK : Hid (octA b 1 = octA b 1) := hid rfl
  obtain ⟨k1, hk1⟩ : ∃ k1, octA b 1 = k1 := ⟨_, rfl⟩
  have HK1 := hid hk1
  rw [h1] at x0
  rw [hk1] at x1 h2 HP
  obtain ⟨h2a, h2b⟩ := h2
  have w1 : IntKind.i64.wrap (k1 : Int) = (k1 : Int) := by rw [IntKind.wrap_i64]; omega
  clear ho hk1 h1 hsz hp HK
  have dm : decide ((7 : Int) < (k1 : Int)) = false := by rw [decide_eq_false_iff_not]; omega
  have dmn : decide (7 < k1) = false := by rw [decide_eq_false_iff_not]; omega
  have i0 : (0 : Int) ≤ (k1 : Int) := by omega
  have i1 : (k1 : Int) ≤ 7 := by omega
  have z0 : (0 : Int) ≤ 2 + 16 * (k1 : Int) := by omega
  have z1 : 2 + 16 * (k1 : Int) ≤ (c : Int) := by omega
  have z2 : (2 + 16 * (k1 : Int)).toNat = 2 + 16 * k1 := by omega
  have z3 : 2 + 16 * (k1 : Int) ≤ 128 := by omega
  go_enter Try.func27, Try.ntmps27
  go_upto_region 1 with fail
  obtain ⟨w0, hw0⟩ : ∃ w0, w.alloc (.cells #[.slice none 0 0, .slice none 0 0, .bool false] 66) = w0 := ⟨_, rfl⟩
  have hg0 : OwnE w0 w.heap.size 66 [.slice none 0 0, .slice none 0 0, .bool false] := by rw [← hw0]; exact OwnE.new_ w _ _
  have hb0 : Below w.heap.size w w0 := by rw [← hw0]; exact (Below.refl _ w).alloc (Nat.le_refl _) _
  rw [hw0]
  clear hw0
  have c0 := hg0.cell (j := 0) rfl
  have c1 := hg0.cell (j := 1) rfl
  have c2 := hg0.cell (j := 2) rfl
  have f0 := hg0.frozen 0
  have f1 := hg0.frozen 1
  have f2 := hg0.frozen 2
  have HG0 := hid hg0
  have HB0 := hid hb0
  clear hg0 hb0
  have y0 := cells_keep HB0.out x0
  have y1 := cells_keep HB0.out x1
  have HO0 := hid (HO.out.take (2 + 16 * k1) (by omega))
  have X0 := hid x0
  clear x0 x1 c0 c1 c2 f0 f1 f2
  have HPG := hid (page_any (some ⟨g, off, none⟩) (2 + 16 * k1) c (b.take (2 + 16 * k1)) w0 (HO0.out.below HB0.out) (by omega))
  go_wp2_with (first
    | (go_at_call 22; refine HPG.out.mono ?_; rintro e w3 ⟨gp, rfl, hE, hg, b3⟩; have HE3 := hid hE; have HB3 := hid (past HB0.out b3); have HG3 := hid (HG0.out.below b3); clear hE hg b3)
    | (go_at_call 29; refine (beq_any _ _ 128 128 128 c (pageP (b.take (2 + 16 * k1))) b _ ⟨by rw [pageP_len _ (by rw [List.length_take]; omega)], HE3.out.row⟩ (HO.out.below HB3.out)).mono ?_; rintro e w4 ⟨he, hw⟩; rw [decide_eq_true HP.out] at he; subst he hw; have u0 := cells_keep HB3.out X0.out))
  clear HPG HO0 y0 y1 HB0 HG0 HE3 u0
  obtain ⟨gx, hgx0⟩ : ∃ gx, w4.heap.size = gx := ⟨_, rfl⟩
  obtain ⟨wn, hwn⟩ : ∃ wn, w4.alloc (.cells #[.slice none 0 0, .slice none 0 0, .bool false] 66) = wn := ⟨_, rfl⟩
  have hgx : w.heap.size ≠ gx := by have := HG3.out.lt; omega
  have hgy : w.heap.size ≤ gx := by rw [← hgx0]; exact HB3.out.size
  have hbn : Below w4.heap.size w4 wn := by rw [← hwn]; exact (Below.refl _ w4).alloc (Nat.le_refl _) _
  have HXN : Hid (OwnE wn gx 66 [.slice none 0 0, .slice none 0 0, .bool false]) := hid (by rw [← hwn, ← hgx0]; exact OwnE.new_ w4 _ _)
  have HGN := hid (HG3.out.below hbn)
  have HBN := hid (past HB3.out hbn)
  rw [hgx0, hwn]
  clear hwn hbn HG3 HB3 hgx0
  go_loopw [62] (fun v62 wr => ∃ (j : Nat) (A1 : Option Addr) (d1 : Nat), j ≤ k1 ∧ v62 = .int .i64 (j : Int) ∧ Hid (OwnE wr gx 66 [.slice A1 j d1, .slice none 0 0, .bool false]) ∧ Hid (OwnE wr w.heap.size 66 [.slice none 0 0, .slice none 0 0, .bool false]) ∧ Hid (wr.ownsRow w.heap.size 48 2 (.slice A1 j d1) j (((List.range j).map (pairB b)).flatMap paC)) ∧ Hid (Below w.heap.size w wr)) (fun v62 wr => k1 - (intOf v62).toNat)
  case atStart => exact ⟨0, none, 0, Nat.zero_le _, rfl, HXN, HGN, hid (World.ownsRow_nil _ _ _ _), HBN⟩
  case round =>
    clear HXN HGN HBN
    obtain ⟨j, A1, d1, hj, rfl, HXW, HGW, HRW, HBW⟩ := hrel
    rename World => wr
    by_cases hlt : j < k1
    · have g1 := lt_t hlt
      have g1' := lt_nt hlt
      obtain ⟨a, ha⟩ : ∃ a, 2 + 16 * j = a := ⟨_, rfl⟩
      have hai : 2 + 16 * (j : Int) = (a : Int) := by omega
      have ha2 : a + 16 ≤ 128 := by omega
      have q0 : (0 : Int) ≤ (j : Int) := by omega
      have q1 : (j : Int) ≤ 7 := by omega
      have q2 : (0 : Int) ≤ (a : Int) := by omega
      have q3 : (a : Int) ≤ 128 := by omega
      have cb := HXW.out.cell (j := 2) rfl
      go_upto_region 21 with fail
      (try rw [hai])
      clear cb
      obtain ⟨v1, hv1⟩ : ∃ v1, valL (cutL b a 8) = v1 := ⟨_, rfl⟩
      obtain ⟨v2, hv2⟩ : ∃ v2, valL (cutL b (a + 8) 8) = v2 := ⟨_, rfl⟩
      have hv2l : v2 < 256 ^ 8 := by
        rw [← hv2]
        have h := valL_lt (cutL b (a + 8) 8)
        rwa [cutL_length _ _ _ (by rw [HL.out]; omega)] at h
      obtain ⟨wx, hwx⟩ : ∃ wx, wr.drew = wx := ⟨_, rfl⟩
      have hbx : Below wr.heap.size wr wx := by rw [← hwx]; exact bq (Below.refl _ wr) 1
      have HXX := hid (HXW.out.below hbx)
      have HGX := hid (HGW.out.below hbx)
      have HBX := hid (past HBW.out hbx)
      have HOX := hid (HO.out.below HBX.out)
      have HN1 : Hid (Calls Try.prog 41 #[.slice (some ⟨g, off, none⟩) 128 c, .int .i64 (a : Int), .int .i64 8] wx fun e w' => e = .returned (.int .u64 (v1 : Int)) ∧ wx = w') := hid (by rw [← hv1]; exact tnum_any _ 128 c a 8 b wx HOX.out (by omega) (by omega) (by omega) (by omega))
      have HN2 : Hid (Calls Try.prog 41 #[.slice (some ⟨g, off, none⟩) 128 c, .int .i64 ((a : Int) + 8), .int .i64 8] wx fun e w' => e = .returned (.int .u64 (v2 : Int)) ∧ wx = w') := hid (by rw [← hv2]; exact tnum_any _ 128 c (a + 8) 8 b wx HOX.out (by omega) (by omega) (by omega) (by omega))
      have HFB : Hid ([pairB b j].flatMap paC = [.int .u64 (v1 : Int), .int .u64 (v2 : Int)]) := hid (by
        rw [← hv1, ← hv2, ← ha]
        rfl)
      obtain ⟨wy, hwy⟩ : ∃ wy, wx.alloc (.cells #[.int .u64 (v1 : Int), .int .u64 (v2 : Int)] 48) = wy := ⟨_, rfl⟩
      have hby : Below wx.heap.size wx wy := by rw [← hwy]; exact (Below.refl _ wx).alloc (Nat.le_refl _) _
      have hny : wy.heap[wx.heap.size]? = some (.cells #[.int .u64 (v1 : Int), .int .u64 (v2 : Int)] 48) := by rw [← hwy]; exact heap_alloc_new wx _
      have HNY := hid hny
      have HXY := hid (HXX.out.below hby)
      have HGY := hid (HGX.out.below hby)
      have HBY := hid (past HBX.out hby)
      have HRY := hid (own_below (own_below HRW.out hbx) hby)
      have hsy := HBY.out.size
      have HCX : Hid (wx.cell? ⟨gx, 0, none⟩ = some (.slice A1 j d1)) := hid (HXX.out.cell (j := 0) rfl)
      have HCY : Hid (wy.cell? ⟨gx, 0, none⟩ = some (.slice A1 j d1)) := hid (HXY.out.cell (j := 0) rfl)
      clear hbx hby hny ha hv1 hv2 HXW HGW HBW HRW
      have hw8 : IntKind.i64.wrap ((a : Int) + 8) = (a : Int) + 8 := by rw [IntKind.wrap_i64]; omega
      refine wp_region_noPanic ?_
      refine wp_region_held_drew (S := (fun X => True)) (by kernel_rfl) (by first | assumption | trivial) (fun hHeld => ?_)
      rw [hwx]
      clear hwx
      refine wpAnyH_take (i := 0) (v := ?_) rfl (by kernel_rfl) (by kernel_rfl) (by kernel_rfl) (fun _ _ _ h => h) (Or.inl ⟨by kernel_rfl, ?_⟩) (by first | assumption | trivial) ?_
      rotate_left
      · (intro wS hSw; (try dsimp only at hSw); go_simp; try with_reducible rfl)
      (try simp only [List.append_eq, List.cons_append, List.nil_append, List.getElem_toArray, List.getElem_cons_succ, List.getElem_cons_zero, Act.put, List.setIfInBounds_toArray, List.set_cons_zero, List.set_cons_succ])
      refine wpAnyH_take (i := 2) (v := ?_) rfl (by kernel_rfl) (by kernel_rfl) (by kernel_rfl) (fun _ _ _ h => h) (Or.inl ⟨by kernel_rfl, ?_⟩) (by first | assumption | trivial) ?_
      rotate_left
      · (intro wS hSw; (try dsimp only at hSw); go_simp; try with_reducible rfl)
      (try simp only [List.append_eq, List.cons_append, List.nil_append, List.getElem_toArray, List.getElem_cons_succ, List.getElem_cons_zero, Act.put, List.setIfInBounds_toArray, List.set_cons_zero, List.set_cons_succ])
      refine wpAnyH_take (i := 3) (v := ?_) rfl (by kernel_rfl) (by kernel_rfl) (by kernel_rfl) (fun _ _ _ h => h) (Or.inl ⟨by kernel_rfl, ?_⟩) (by first | assumption | trivial) ?_
      rotate_left
      · (intro wS hSw; (try dsimp only at hSw); go_simp; try with_reducible rfl)
      (try simp only [List.append_eq, List.cons_append, List.nil_append, List.getElem_toArray, List.getElem_cons_succ, List.getElem_cons_zero, Act.put, List.setIfInBounds_toArray, List.set_cons_zero, List.set_cons_succ])
      refine wpAnyH_take (i := 5) (v := ?_) rfl (by kernel_rfl) (by kernel_rfl) (by kernel_rfl) (fun _ _ _ h => h) (Or.inl ⟨by kernel_rfl, ?_⟩) (by first | assumption | trivial) ?_
      rotate_left
      · (intro wS hSw; (try dsimp only at hSw); go_simp; try with_reducible rfl)
      (try simp only [List.append_eq, List.cons_append, List.nil_append, List.getElem_toArray, List.getElem_cons_succ, List.getElem_cons_zero, Act.put, List.setIfInBounds_toArray, List.set_cons_zero, List.set_cons_succ])
      refine wpAnyH_take (i := 6) (v := ?_) rfl (by kernel_rfl) (by kernel_rfl) (by kernel_rfl) (fun _ _ _ h => h) (Or.inl ⟨by kernel_rfl, ?_⟩) (by first | assumption | trivial) ?_
      rotate_left
      · (intro wS hSw; (try dsimp only at hSw); go_simp; try with_reducible rfl)
      (try simp only [List.append_eq, List.cons_append, List.nil_append, List.getElem_toArray, List.getElem_cons_succ, List.getElem_cons_zero, Act.put, List.setIfInBounds_toArray, List.set_cons_zero, List.set_cons_succ])
      refine wpAnyH_take (i := 7) (v := ?_) rfl (by kernel_rfl) (by kernel_rfl) (by kernel_rfl) (fun _ _ _ h => h) (Or.inl ⟨by kernel_rfl, ?_⟩) (by first | assumption | trivial) ?_
      rotate_left
      · (intro wS hSw; (try dsimp only at hSw); go_simp; try with_reducible rfl)
      (try simp only [List.append_eq, List.cons_append, List.nil_append, List.getElem_toArray, List.getElem_cons_succ, List.getElem_cons_zero, Act.put, List.setIfInBounds_toArray, List.set_cons_zero, List.set_cons_succ])
      refine wpAnyH_ready (rs := [1, 4]) (by kernel_rfl) (by simp) ?_
      refine AllReadyH.cons rfl (fun K hK => ?_) (AllReadyH.cons rfl (fun K hK => ?_) (AllReadyH.nil))
      · have cx := HCX.out
        go_simp
        (try simp only [hwr])
        go_wp2_with fail
        refine hK.out _ _ (by first | assumption | trivial) (fun hHeld => ?_)
        clear hK K
        (try simp only [List.append_eq, List.cons_append, List.nil_append, List.getElem_toArray, List.getElem_cons_succ, List.getElem_cons_zero, Act.put, List.setIfInBounds_toArray, List.set_cons_zero, List.set_cons_succ])
        clear cx
        refine wpAnyH_ready (rs := [4]) (by kernel_rfl) (by simp) ?_
        refine AllReadyH.cons rfl (fun K hK => ?_) (AllReadyH.nil)
        go_simp
        go_at_call 41
        refine HN1.out.mono ?_
        rintro e wN ⟨rfl, rfl⟩
        go_wp2_with fail
        refine hK.out _ _ (by first | assumption | trivial) (fun hHeld => ?_)
        clear hK K
        (try simp only [List.append_eq, List.cons_append, List.nil_append, List.getElem_toArray, List.getElem_cons_succ, List.getElem_cons_zero, Act.put, List.setIfInBounds_toArray, List.set_cons_zero, List.set_cons_succ])
        refine wpAnyH_ready (rs := [8]) (by kernel_rfl) (by simp) ?_
        refine AllReadyH.cons rfl (fun K hK => ?_) (AllReadyH.nil)
        go_simp
        (try rw [hw8])
        go_at_call 41
        refine HN2.out.mono ?_
        rintro e wN ⟨rfl, rfl⟩
        go_wp2_with fail
        refine hK.out _ _ (by first | assumption | trivial) (fun hHeld => ?_)
        clear hK K
        (try simp only [List.append_eq, List.cons_append, List.nil_append, List.getElem_toArray, List.getElem_cons_succ, List.getElem_cons_zero, Act.put, List.setIfInBounds_toArray, List.set_cons_zero, List.set_cons_succ])
        refine wpAnyH_take (i := 9) (v := ?_) rfl (by kernel_rfl) (by kernel_rfl) (by kernel_rfl) (fun _ _ _ h => h) (Or.inl ⟨by kernel_rfl, ?_⟩) (by first | assumption | trivial) ?_
        rotate_left
        · (intro wS hSw; (try dsimp only at hSw); go_simp; try with_reducible rfl)
        (try simp only [List.append_eq, List.cons_append, List.nil_append, List.getElem_toArray, List.getElem_cons_succ, List.getElem_cons_zero, Act.put, List.setIfInBounds_toArray, List.set_cons_zero, List.set_cons_succ])
        refine wpAnyH_ready (rs := [10]) (by kernel_rfl) (by simp) ?_
        refine AllReadyH.cons rfl (fun K hK => ?_) (AllReadyH.nil)
        go_simp
        (try simp only [hwr])
        go_wp2_with fail
        refine hK.out _ _ (by first | assumption | trivial) (fun hHeld => ?_)
        clear hK K
        (try simp only [List.append_eq, List.cons_append, List.nil_append, List.getElem_toArray, List.getElem_cons_succ, List.getElem_cons_zero, Act.put, List.setIfInBounds_toArray, List.set_cons_zero, List.set_cons_succ])
        (try rw [hwy])
        refine wpAnyH_ready (rs := [11]) (by kernel_rfl) (by simp) ?_
        refine AllReadyH.cons rfl (fun K hK => ?_) AllReadyH.nil
        rw [if_pos (by kernel_rfl)]
        refine wp_append_row _ (.tmp 86) (.tmp 95) paT rfl w.heap.size (.slice A1 j d1) j (((List.range j).map (pairB b)).flatMap paC) rfl HRY.out (some ⟨wx.heap.size, 0, none⟩) 1 1 [.int .u64 (v1 : Int), .int .u64 (v2 : Int)] rfl rfl (Row.of_block HNY.out) (by simp [Value.oneCell']) (by simp only [maxLen]; omega) (by omega) hsy ?_
        intro A5 d5 w5 ho5 hg5 hh5
        have hk5 : KT 48 wy w5 := KT.grown HRY.out hg5
        have HX5 := hid (hk5 gx _ _ _ (by decide) HXY.out)
        have HG5 := hid (hk5 w.heap.size _ _ _ (by decide) HGY.out)
        have HR5 : Hid (w5.ownsRow w.heap.size 48 2 (.slice A5 (j + 1) d5) (j + 1) (((List.range (j + 1)).map (pairB b)).flatMap paC)) := hid (by
          rw [range_snoc, List.flatMap_append, HFB.out]
          exact ho5)
        have HB5 := hid (HBY.out.grown hg5 hsy (own_base HRY.out))
        clear ho5 hg5 hh5 hk5
        refine hK.out _ _ (by first | assumption | trivial) (fun hHeld => ?_)
        clear hK K
        (try simp only [List.append_eq, List.cons_append, List.nil_append, List.getElem_toArray, List.getElem_cons_succ, List.getElem_cons_zero, Act.put, List.setIfInBounds_toArray, List.set_cons_zero, List.set_cons_succ])
        have cxx := OwnE.cell HX5.out (j := 0) rfl
        have fxx := OwnE.frozen HX5.out 0
        refine wpAnyH_take (i := 12) (v := ?_) rfl (by kernel_rfl) (by kernel_rfl) (by kernel_rfl) (fun _ _ _ h => h) (Or.inl ⟨by kernel_rfl, ?_⟩) (by first | assumption | trivial) ?_
        rotate_left
        · (intro wS hSw; (try dsimp only at hSw); go_simp; try with_reducible rfl)
        (try simp only [List.append_eq, List.cons_append, List.nil_append, List.getElem_toArray, List.getElem_cons_succ, List.getElem_cons_zero, Act.put, List.setIfInBounds_toArray, List.set_cons_zero, List.set_cons_succ])
        refine wpAnyH_ready (rs := [13]) (by kernel_rfl) (by simp) ?_
        refine AllReadyH.cons rfl (fun K hK => ?_) AllReadyH.nil
        go_simp
        skip
        go_wp2_with fail
        refine hK.out _ _ (by first | assumption | trivial) (fun hHeld => ?_)
        clear hK K
        (try simp only [List.append_eq, List.cons_append, List.nil_append, List.getElem_toArray, List.getElem_cons_succ, List.getElem_cons_zero, Act.put, List.setIfInBounds_toArray, List.set_cons_zero, List.set_cons_succ])
        refine wpAnyH_done (by kernel_rfl) ?_ _
        refine NoPanic.normal ?_
        clear hHeld cxx fxx
        have HX6 := hid (OwnE.set HX5.out 0 (.slice A5 (j + 1) d5))
        have HG6 : Hid (OwnE (w5.setCell ⟨gx, 0, none⟩ (.slice A5 (j + 1) d5)) w.heap.size 66 [.slice none 0 0, .slice none 0 0, .bool false]) := hid ((heap_setCell_other w5 ⟨gx, 0, none⟩ w.heap.size _ (by intro e; exact hgx (by simpa using e))).trans HG5.out)
        have HR6 : Hid ((w5.setCell ⟨gx, 0, none⟩ (.slice A5 (j + 1) d5)).ownsRow w.heap.size 48 2 (.slice A5 (j + 1) d5) (j + 1) (((List.range (j + 1)).map (pairB b)).flatMap paC)) := hid (own_set HX5.out HR5.out (by decide) 0 _)
        have HB6 := hid (HB5.out.setCell (p := ⟨gx, 0, none⟩) (by show w.heap.size ≤ gx; omega) (.slice A5 (j + 1) d5))
        go_wp2_with fail
        go_roundw
        case rel => exact ⟨j + 1, A5, d5, by omega, by go_num, HX6, HG6, HR6, HB6⟩
        case measure => simp [intOf]; omega
      · go_simp
        go_at_call 41
        refine HN1.out.mono ?_
        rintro e wN ⟨rfl, rfl⟩
        go_wp2_with fail
        refine hK.out _ _ (by first | assumption | trivial) (fun hHeld => ?_)
        clear hK K
        (try simp only [List.append_eq, List.cons_append, List.nil_append, List.getElem_toArray, List.getElem_cons_succ, List.getElem_cons_zero, Act.put, List.setIfInBounds_toArray, List.set_cons_zero, List.set_cons_succ])
        refine wpAnyH_ready (rs := [1, 8]) (by kernel_rfl) (by simp) ?_
        refine AllReadyH.cons rfl (fun K hK => ?_) (AllReadyH.cons rfl (fun K hK => ?_) (AllReadyH.nil))
        · have cx := HCX.out
          go_simp
          (try simp only [hwr])
          go_wp2_with fail
          refine hK.out _ _ (by first | assumption | trivial) (fun hHeld => ?_)
          clear hK K
          (try simp only [List.append_eq, List.cons_append, List.nil_append, List.getElem_toArray, List.getElem_cons_succ, List.getElem_cons_zero, Act.put, List.setIfInBounds_toArray, List.set_cons_zero, List.set_cons_succ])
          clear cx
          refine wpAnyH_ready (rs := [8]) (by kernel_rfl) (by simp) ?_
          refine AllReadyH.cons rfl (fun K hK => ?_) (AllReadyH.nil)
          go_simp
          (try rw [hw8])
          go_at_call 41
          refine HN2.out.mono ?_
          rintro e wN ⟨rfl, rfl⟩
          go_wp2_with fail
          refine hK.out _ _ (by first | assumption | trivial) (fun hHeld => ?_)
          clear hK K
          (try simp only [List.append_eq, List.cons_append, List.nil_append, List.getElem_toArray, List.getElem_cons_succ, List.getElem_cons_zero, Act.put, List.setIfInBounds_toArray, List.set_cons_zero, List.set_cons_succ])
          refine wpAnyH_take (i := 9) (v := ?_) rfl (by kernel_rfl) (by kernel_rfl) (by kernel_rfl) (fun _ _ _ h => h) (Or.inl ⟨by kernel_rfl, ?_⟩) (by first | assumption | trivial) ?_
          rotate_left
          · (intro wS hSw; (try dsimp only at hSw); go_simp; try with_reducible rfl)
          (try simp only [List.append_eq, List.cons_append, List.nil_append, List.getElem_toArray, List.getElem_cons_succ, List.getElem_cons_zero, Act.put, List.setIfInBounds_toArray, List.set_cons_zero, List.set_cons_succ])
          refine wpAnyH_ready (rs := [10]) (by kernel_rfl) (by simp) ?_
          refine AllReadyH.cons rfl (fun K hK => ?_) (AllReadyH.nil)
          go_simp
          (try simp only [hwr])
          go_wp2_with fail
          refine hK.out _ _ (by first | assumption | trivial) (fun hHeld => ?_)
          clear hK K
          (try simp only [List.append_eq, List.cons_append, List.nil_append, List.getElem_toArray, List.getElem_cons_succ, List.getElem_cons_zero, Act.put, List.setIfInBounds_toArray, List.set_cons_zero, List.set_cons_succ])
          (try rw [hwy])
          refine wpAnyH_ready (rs := [11]) (by kernel_rfl) (by simp) ?_
          refine AllReadyH.cons rfl (fun K hK => ?_) AllReadyH.nil
          rw [if_pos (by kernel_rfl)]
          refine wp_append_row _ (.tmp 86) (.tmp 95) paT rfl w.heap.size (.slice A1 j d1) j (((List.range j).map (pairB b)).flatMap paC) rfl HRY.out (some ⟨wx.heap.size, 0, none⟩) 1 1 [.int .u64 (v1 : Int), .int .u64 (v2 : Int)] rfl rfl (Row.of_block HNY.out) (by simp [Value.oneCell']) (by simp only [maxLen]; omega) (by omega) hsy ?_
          intro A5 d5 w5 ho5 hg5 hh5
          have hk5 : KT 48 wy w5 := KT.grown HRY.out hg5
          have HX5 := hid (hk5 gx _ _ _ (by decide) HXY.out)
          have HG5 := hid (hk5 w.heap.size _ _ _ (by decide) HGY.out)
          have HR5 : Hid (w5.ownsRow w.heap.size 48 2 (.slice A5 (j + 1) d5) (j + 1) (((List.range (j + 1)).map (pairB b)).flatMap paC)) := hid (by
            rw [range_snoc, List.flatMap_append, HFB.out]
            exact ho5)
          have HB5 := hid (HBY.out.grown hg5 hsy (own_base HRY.out))
          clear ho5 hg5 hh5 hk5
          refine hK.out _ _ (by first | assumption | trivial) (fun hHeld => ?_)
          clear hK K
          (try simp only [List.append_eq, List.cons_append, List.nil_append, List.getElem_toArray, List.getElem_cons_succ, List.getElem_cons_zero, Act.put, List.setIfInBounds_toArray, List.set_cons_zero, List.set_cons_succ])
          have cxx := OwnE.cell HX5.out (j := 0) rfl
          have fxx := OwnE.frozen HX5.out 0
          refine wpAnyH_take (i := 12) (v := ?_) rfl (by kernel_rfl) (by kernel_rfl) (by kernel_rfl) (fun _ _ _ h => h) (Or.inl ⟨by kernel_rfl, ?_⟩) (by first | assumption | trivial) ?_
          rotate_left
          · (intro wS hSw; (try dsimp only at hSw); go_simp; try with_reducible rfl)
          (try simp only [List.append_eq, List.cons_append, List.nil_append, List.getElem_toArray, List.getElem_cons_succ, List.getElem_cons_zero, Act.put, List.setIfInBounds_toArray, List.set_cons_zero, List.set_cons_succ])
          refine wpAnyH_ready (rs := [13]) (by kernel_rfl) (by simp) ?_
          refine AllReadyH.cons rfl (fun K hK => ?_) AllReadyH.nil
          go_simp
          skip
          go_wp2_with fail
          refine hK.out _ _ (by first | assumption | trivial) (fun hHeld => ?_)
          clear hK K
          (try simp only [List.append_eq, List.cons_append, List.nil_append, List.getElem_toArray, List.getElem_cons_succ, List.getElem_cons_zero, Act.put, List.setIfInBounds_toArray, List.set_cons_zero, List.set_cons_succ])
          refine wpAnyH_done (by kernel_rfl) ?_ _
          refine NoPanic.normal ?_
          clear hHeld cxx fxx
          have HX6 := hid (OwnE.set HX5.out 0 (.slice A5 (j + 1) d5))
          have HG6 : Hid (OwnE (w5.setCell ⟨gx, 0, none⟩ (.slice A5 (j + 1) d5)) w.heap.size 66 [.slice none 0 0, .slice none 0 0, .bool false]) := hid ((heap_setCell_other w5 ⟨gx, 0, none⟩ w.heap.size _ (by intro e; exact hgx (by simpa using e))).trans HG5.out)
          have HR6 : Hid ((w5.setCell ⟨gx, 0, none⟩ (.slice A5 (j + 1) d5)).ownsRow w.heap.size 48 2 (.slice A5 (j + 1) d5) (j + 1) (((List.range (j + 1)).map (pairB b)).flatMap paC)) := hid (own_set HX5.out HR5.out (by decide) 0 _)
          have HB6 := hid (HB5.out.setCell (p := ⟨gx, 0, none⟩) (by show w.heap.size ≤ gx; omega) (.slice A5 (j + 1) d5))
          go_wp2_with fail
          go_roundw
          case rel => exact ⟨j + 1, A5, d5, by omega, by go_num, HX6, HG6, HR6, HB6⟩
          case measure => simp [intOf]; omega
        · go_simp
          (try rw [hw8])
          go_at_call 41
          refine HN2.out.mono ?_
          rintro e wN ⟨rfl, rfl⟩
          go_wp2_with fail
          refine hK.out _ _ (by first | assumption | trivial) (fun hHeld => ?_)
          clear hK K
          (try simp only [List.append_eq, List.cons_append, List.nil_append, List.getElem_toArray, List.getElem_cons_succ, List.getElem_cons_zero, Act.put, List.setIfInBounds_toArray, List.set_cons_zero, List.set_cons_succ])
          refine wpAnyH_take (i := 9) (v := ?_) rfl (by kernel_rfl) (by kernel_rfl) (by kernel_rfl) (fun _ _ _ h => h) (Or.inl ⟨by kernel_rfl, ?_⟩) (by first | assumption | trivial) ?_
          rotate_left
          · (intro wS hSw; (try dsimp only at hSw); go_simp; try with_reducible rfl)
          (try simp only [List.append_eq, List.cons_append, List.nil_append, List.getElem_toArray, List.getElem_cons_succ, List.getElem_cons_zero, Act.put, List.setIfInBounds_toArray, List.set_cons_zero, List.set_cons_succ])
          refine wpAnyH_ready (rs := [1, 10]) (by kernel_rfl) (by simp) ?_
          refine AllReadyH.cons rfl (fun K hK => ?_) (AllReadyH.cons rfl (fun K hK => ?_) (AllReadyH.nil))
          · have cx := HCX.out
            go_simp
            (try simp only [hwr])
            go_wp2_with fail
            refine hK.out _ _ (by first | assumption | trivial) (fun hHeld => ?_)
            clear hK K
            (try simp only [List.append_eq, List.cons_append, List.nil_append, List.getElem_toArray, List.getElem_cons_succ, List.getElem_cons_zero, Act.put, List.setIfInBounds_toArray, List.set_cons_zero, List.set_cons_succ])
            clear cx
            refine wpAnyH_ready (rs := [10]) (by kernel_rfl) (by simp) ?_
            refine AllReadyH.cons rfl (fun K hK => ?_) (AllReadyH.nil)
            go_simp
            (try simp only [hwr])
            go_wp2_with fail
            refine hK.out _ _ (by first | assumption | trivial) (fun hHeld => ?_)
            clear hK K
            (try simp only [List.append_eq, List.cons_append, List.nil_append, List.getElem_toArray, List.getElem_cons_succ, List.getElem_cons_zero, Act.put, List.setIfInBounds_toArray, List.set_cons_zero, List.set_cons_succ])
            (try rw [hwy])
            refine wpAnyH_ready (rs := [11]) (by kernel_rfl) (by simp) ?_
            refine AllReadyH.cons rfl (fun K hK => ?_) AllReadyH.nil
            rw [if_pos (by kernel_rfl)]
            refine wp_append_row _ (.tmp 86) (.tmp 95) paT rfl w.heap.size (.slice A1 j d1) j (((List.range j).map (pairB b)).flatMap paC) rfl HRY.out (some ⟨wx.heap.size, 0, none⟩) 1 1 [.int .u64 (v1 : Int), .int .u64 (v2 : Int)] rfl rfl (Row.of_block HNY.out) (by simp [Value.oneCell']) (by simp only [maxLen]; omega) (by omega) hsy ?_
            intro A5 d5 w5 ho5 hg5 hh5
            have hk5 : KT 48 wy w5 := KT.grown HRY.out hg5
            have HX5 := hid (hk5 gx _ _ _ (by decide) HXY.out)
            have HG5 := hid (hk5 w.heap.size _ _ _ (by decide) HGY.out)
            have HR5 : Hid (w5.ownsRow w.heap.size 48 2 (.slice A5 (j + 1) d5) (j + 1) (((List.range (j + 1)).map (pairB b)).flatMap paC)) := hid (by
              rw [range_snoc, List.flatMap_append, HFB.out]
              exact ho5)
            have HB5 := hid (HBY.out.grown hg5 hsy (own_base HRY.out))
            clear ho5 hg5 hh5 hk5
            refine hK.out _ _ (by first | assumption | trivial) (fun hHeld => ?_)
            clear hK K
            (try simp only [List.append_eq, List.cons_append, List.nil_append, List.getElem_toArray, List.getElem_cons_succ, List.getElem_cons_zero, Act.put, List.setIfInBounds_toArray, List.set_cons_zero, List.set_cons_succ])
            have cxx := OwnE.cell HX5.out (j := 0) rfl
            have fxx := OwnE.frozen HX5.out 0
            refine wpAnyH_take (i := 12) (v := ?_) rfl (by kernel_rfl) (by kernel_rfl) (by kernel_rfl) (fun _ _ _ h => h) (Or.inl ⟨by kernel_rfl, ?_⟩) (by first | assumption | trivial) ?_
            rotate_left
            · (intro wS hSw; (try dsimp only at hSw); go_simp; try with_reducible rfl)
            (try simp only [List.append_eq, List.cons_append, List.nil_append, List.getElem_toArray, List.getElem_cons_succ, List.getElem_cons_zero, Act.put, List.setIfInBounds_toArray, List.set_cons_zero, List.set_cons_succ])
            refine wpAnyH_ready (rs := [13]) (by kernel_rfl) (by simp) ?_
            refine AllReadyH.cons rfl (fun K hK => ?_) AllReadyH.nil
            go_simp
            skip
            go_wp2_with fail
            refine hK.out _ _ (by first | assumption | trivial) (fun hHeld => ?_)
            clear hK K
            (try simp only [List.append_eq, List.cons_append, List.nil_append, List.getElem_toArray, List.getElem_cons_succ, List.getElem_cons_zero, Act.put, List.setIfInBounds_toArray, List.set_cons_zero, List.set_cons_succ])
            refine wpAnyH_done (by kernel_rfl) ?_ _
            refine NoPanic.normal ?_
            clear hHeld cxx fxx
            have HX6 := hid (OwnE.set HX5.out 0 (.slice A5 (j + 1) d5))
            have HG6 : Hid (OwnE (w5.setCell ⟨gx, 0, none⟩ (.slice A5 (j + 1) d5)) w.heap.size 66 [.slice none 0 0, .slice none 0 0, .bool false]) := hid ((heap_setCell_other w5 ⟨gx, 0, none⟩ w.heap.size _ (by intro e; exact hgx (by simpa using e))).trans HG5.out)
            have HR6 : Hid ((w5.setCell ⟨gx, 0, none⟩ (.slice A5 (j + 1) d5)).ownsRow w.heap.size 48 2 (.slice A5 (j + 1) d5) (j + 1) (((List.range (j + 1)).map (pairB b)).flatMap paC)) := hid (own_set HX5.out HR5.out (by decide) 0 _)
            have HB6 := hid (HB5.out.setCell (p := ⟨gx, 0, none⟩) (by show w.heap.size ≤ gx; omega) (.slice A5 (j + 1) d5))
            go_wp2_with fail
            go_roundw
            case rel => exact ⟨j + 1, A5, d5, by omega, by go_num, HX6, HG6, HR6, HB6⟩
            case measure => simp [intOf]; omega
          · go_simp
            (try simp only [hwr])
            go_wp2_with fail
            refine hK.out _ _ (by first | assumption | trivial) (fun hHeld => ?_)
            clear hK K
            (try simp only [List.append_eq, List.cons_append, List.nil_append, List.getElem_toArray, List.getElem_cons_succ, List.getElem_cons_zero, Act.put, List.setIfInBounds_toArray, List.set_cons_zero, List.set_cons_succ])
            (try rw [hwy])
            refine wpAnyH_ready (rs := [1]) (by kernel_rfl) (by simp) ?_
            refine AllReadyH.cons rfl (fun K hK => ?_) (AllReadyH.nil)
            have cx := HCY.out
            go_simp
            (try simp only [hwr])
            go_wp2_with fail
            refine hK.out _ _ (by first | assumption | trivial) (fun hHeld => ?_)
            clear hK K
            (try simp only [List.append_eq, List.cons_append, List.nil_append, List.getElem_toArray, List.getElem_cons_succ, List.getElem_cons_zero, Act.put, List.setIfInBounds_toArray, List.set_cons_zero, List.set_cons_succ])
            clear cx
            refine wpAnyH_ready (rs := [11]) (by kernel_rfl) (by simp) ?_
            refine AllReadyH.cons rfl (fun K hK => ?_) AllReadyH.nil
            rw [if_pos (by kernel_rfl)]
            refine wp_append_row _ (.tmp 86) (.tmp 95) paT rfl w.heap.size (.slice A1 j d1) j (((List.range j).map (pairB b)).flatMap paC) rfl HRY.out (some ⟨wx.heap.size, 0, none⟩) 1 1 [.int .u64 (v1 : Int), .int .u64 (v2 : Int)] rfl rfl (Row.of_block HNY.out) (by simp [Value.oneCell']) (by simp only [maxLen]; omega) (by omega) hsy ?_
            intro A5 d5 w5 ho5 hg5 hh5
            have hk5 : KT 48 wy w5 := KT.grown HRY.out hg5
            have HX5 := hid (hk5 gx _ _ _ (by decide) HXY.out)
            have HG5 := hid (hk5 w.heap.size _ _ _ (by decide) HGY.out)
            have HR5 : Hid (w5.ownsRow w.heap.size 48 2 (.slice A5 (j + 1) d5) (j + 1) (((List.range (j + 1)).map (pairB b)).flatMap paC)) := hid (by
              rw [range_snoc, List.flatMap_append, HFB.out]
              exact ho5)
            have HB5 := hid (HBY.out.grown hg5 hsy (own_base HRY.out))
            clear ho5 hg5 hh5 hk5
            refine hK.out _ _ (by first | assumption | trivial) (fun hHeld => ?_)
            clear hK K
            (try simp only [List.append_eq, List.cons_append, List.nil_append, List.getElem_toArray, List.getElem_cons_succ, List.getElem_cons_zero, Act.put, List.setIfInBounds_toArray, List.set_cons_zero, List.set_cons_succ])
            have cxx := OwnE.cell HX5.out (j := 0) rfl
            have fxx := OwnE.frozen HX5.out 0
            refine wpAnyH_take (i := 12) (v := ?_) rfl (by kernel_rfl) (by kernel_rfl) (by kernel_rfl) (fun _ _ _ h => h) (Or.inl ⟨by kernel_rfl, ?_⟩) (by first | assumption | trivial) ?_
            rotate_left
            · (intro wS hSw; (try dsimp only at hSw); go_simp; try with_reducible rfl)
            (try simp only [List.append_eq, List.cons_append, List.nil_append, List.getElem_toArray, List.getElem_cons_succ, List.getElem_cons_zero, Act.put, List.setIfInBounds_toArray, List.set_cons_zero, List.set_cons_succ])
            refine wpAnyH_ready (rs := [13]) (by kernel_rfl) (by simp) ?_
            refine AllReadyH.cons rfl (fun K hK => ?_) AllReadyH.nil
            go_simp
            skip
            go_wp2_with fail
            refine hK.out _ _ (by first | assumption | trivial) (fun hHeld => ?_)
            clear hK K
            (try simp only [List.append_eq, List.cons_append, List.nil_append, List.getElem_toArray, List.getElem_cons_succ, List.getElem_cons_zero, Act.put, List.setIfInBounds_toArray, List.set_cons_zero, List.set_cons_succ])
            refine wpAnyH_done (by kernel_rfl) ?_ _
            refine NoPanic.normal ?_
            clear hHeld cxx fxx
            have HX6 := hid (OwnE.set HX5.out 0 (.slice A5 (j + 1) d5))
            have HG6 : Hid (OwnE (w5.setCell ⟨gx, 0, none⟩ (.slice A5 (j + 1) d5)) w.heap.size 66 [.slice none 0 0, .slice none 0 0, .bool false]) := hid ((heap_setCell_other w5 ⟨gx, 0, none⟩ w.heap.size _ (by intro e; exact hgx (by simpa using e))).trans HG5.out)
            have HR6 : Hid ((w5.setCell ⟨gx, 0, none⟩ (.slice A5 (j + 1) d5)).ownsRow w.heap.size 48 2 (.slice A5 (j + 1) d5) (j + 1) (((List.range (j + 1)).map (pairB b)).flatMap paC)) := hid (own_set HX5.out HR5.out (by decide) 0 _)
            have HB6 := hid (HB5.out.setCell (p := ⟨gx, 0, none⟩) (by show w.heap.size ≤ gx; omega) (.slice A5 (j + 1) d5))
            go_wp2_with fail
            go_roundw
            case rel => exact ⟨j + 1, A5, d5, by omega, by go_num, HX6, HG6, HR6, HB6⟩
            case measure => simp [intOf]; omega
    · have g1 := lt_f hlt
      have g1' := lt_nf hlt
      have hjk : j = k1 := by omega
      subst hjk
      have c0 := HXW.out.cell (j := 0) rfl
      have c1 := HXW.out.cell (j := 1) rfl
      have c2 := HXW.out.cell (j := 2) rfl
      have r0 := HGW.out.cell (j := 0) rfl
      have r1 := HGW.out.cell (j := 1) rfl
      have r2 := HGW.out.cell (j := 2) rfl
      have f0 := HGW.out.frozen 0
      have f1 := HGW.out.frozen 1
      have f2 := HGW.out.frozen 2
      go_wp2_with fail
      refine bodyPost_ret (nd_res (nd_st HGW.out (.slice A1 j d1) (.slice none 0 0) (.bool false)) rfl rfl) rfl ?_
      refine ⟨nd_bl HBW.out (Nat.le_refl _) _ _ _, .inr ⟨HF.out.1, A1, j, d1, none, 0, 0, by rw [HF.out.2.1]; rfl, ?_, ?_, ?_, ?_⟩⟩
      · unfold pairsB; rw [if_neg (by rw [HF.out.2.1]; decide), List.length_map, List.length_range, HK1.out]
      · unfold kidsB; rw [if_neg (by rw [HF.out.2.1]; decide)]; rfl
      · unfold pairsB
        rw [if_neg (by rw [HF.out.2.1]; decide), HK1.out]
        exact own_nd HGW.out HRW.out (by decide) _ _ _
      · unfold kidsB; rw [if_neg (by rw [HF.out.2.1]; decide)]; exact World.ownsRow_nil _ _ _ _
end Go.Proofs.Ytlhngieinmgooaa
