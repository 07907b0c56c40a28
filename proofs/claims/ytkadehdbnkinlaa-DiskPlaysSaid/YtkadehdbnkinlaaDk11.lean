/-
  What waits is done: the walk. A part of the proof: see the head of the text that ends in 'Law'.
-/
import Derived.Test.YtkadehdbnkinlaaDk10
namespace Go.Proofs.Ytkadehdbnkinlaa
open Go.RowKit
set_option linter.unusedVariables false
set_option linter.unusedSimpArgs false
attribute [local go_sem] Oper.semAt_some

theorem flush1_any (k : Int) (w : World) : Calls Try.prog 30 #[.int .i64 k] w fun e w' => e = .returned (.bool true) ∧ w = w' := by
  go_enter Try.func30, Try.ntmps30
  go_wp2
  go_ret
  exact ⟨rfl, rfl⟩
theorem DkAt.drew_ {W : World} {b0 d hb : Nat} {V : Value} {D : Dsk} (h : DkAt W b0 d hb V D) : DkAt W.drew b0 d hb V D := ⟨h.d0, h.h0, h.cells, h.sect, h.wait, h.len, h.wlen, h.nb, h.bd⟩
theorem cell_sc {W : World} {hb o b' j : Nat} {vs : List Value} {v : Value} (h : W.cell? ⟨b', j, none⟩ = some v) (hne : b' ≠ hb) : (W.setCells hb o vs).cell? ⟨b', j, none⟩ = some v := by
  have h1 := (setCells_only (fun g => g = hb) hb rfl vs o W).block b' (World.block_lt_of_cell? W _ h) hne
  simp only [World.cell?, h1] at h ⊢
  exact h
set_option maxRecDepth 100000 in
set_option maxHeartbeats 8000000 in
theorem done_all {W : World} {b0 d hb : Nat} {V : Value} {D : Dsk} (h : DkAt W b0 d hb V D) (hw : D.waits.length ≤ 100000) :
    Calls Try.prog 29 #[.pointer (some ⟨d, 0, none⟩), .func (.func 30) #[] #[]] W fun e w' => e = .returned (.tuple #[]) ∧
      DkAt w' b0 d hb (.slice none 0 0) { D with has := doneK (fun _ => true) D.waits D.has D.waits.length, waits := [] } ∧ Only (Mine d hb V) W w' := by
  have x1 := h.cells.cell (j := 1) rfl
  have H := hid h
  obtain ⟨zer, zsz⟩ := iss_zero
  have HZS := hid zsz
  have hV : ∃ A c, V = .slice A D.waits.length c := by
    rcases h.wait.2 with ⟨e, e2⟩ | ⟨g, cap, cur, e, _⟩
    · rw [e2]; exact ⟨none, 0, e⟩
    · exact ⟨_, _, e⟩
  obtain ⟨A0, c0, rfl⟩ := hV
  obtain ⟨n, hn⟩ : ∃ n, D.waits.length = n := ⟨_, rfl⟩
  rw [hn] at x1 hw ⊢
  have HN := hid hn
  rw [hn] at H
  clear h zsz hn
  go_enter Try.func29, Try.ntmps29
  go_wp2_with fail
  go_loopw [4, 5, 11] (fun q bx i wr => ∃ k : Nat, k ≤ n ∧ i = .int .i64 (k : Int) ∧ Hid (DkAt wr b0 d hb (.slice A0 n c0) { D with has := doneK (fun _ => true) D.waits D.has k } ∧ Only (Mine d hb (.slice A0 n c0)) W wr)) (fun q bx i wr => n - (intOf i).toNat)
  case atStart => exact ⟨0, by omega, rfl, hid ⟨H.out, Only.refl _ _⟩⟩
  case round =>
    obtain ⟨k, hk, rfl, hI⟩ := hrel
    by_cases hlt : k < n
    · have hd : decide (k < n) = true := by simpa using hlt
      have hd' : decide ((k : Int) < (n : Int)) = true := by simp; omega
      have hkw : k < D.waits.length := by rw [HN.out]; exact hlt
      obtain ⟨g, c1, e1, hr⟩ := wait_range hI.out.1 (show 0 < D.waits.length by omega)
      injection e1 with eA en ec
      clear en
      subst eA
      subst ec
      have hwl := hI.out.1.wlen _ (List.getElem_mem hkw)
      dsimp only at hwl
      rw [doneK_len] at hwl
      have hgd : D.waits.getD k (0, []) = D.waits[k]'hkw := by rw [List.getD_eq_getElem?_getD, List.getElem?_eq_getElem hkw, Option.getD_some]
      have hrk := hr k hkw
      dsimp only at hrk
      obtain ⟨q, hq⟩ : ∃ q, D.waits[k]'hkw = q := ⟨_, rfl⟩
      rw [hq] at hrk hwl hgd
      have HR := hid (fun (w1 : World) (hb : Below wr.heap.size wr w1) => show w1.rangeAt g (k * 129) (isC q) from range_only (T := fun _ => False) hrk (Only.of_below hb) (fun h => h))
      have HWL := hid hwl
      have HGD := hid hgd
      have HSZ := hid (show (Try.prog.info? 66).map (·.size) = some (isC q).length by rw [HZS.out, isC_len q HWL.out.1])
      have i0 : (0 : Int) ≤ (k : Int) := by omega
      have i1 : (k : Int) < (n : Int) := by omega
      have i2 : (k : Int).toNat = k := by omega
      clear hr hrk hq hwl hgd
      go_upto_region 4 with (first
        | (refine wpList_load_mid rfl 66 (.tmp 14) rfl g (k * 129) rfl (isC q) _ (HR.out _ (Below.refl _ _)) Try.underlying66 rfl HSZ.out ?_)
        | (refine wpList_store_row rfl 66 (.tmp 5) (.tmp 15) rfl wr.heap.size (isC q).toArray rfl rfl 66 zIss (heap_alloc_new wr _) (by rw [List.size_toArray]; exact HSZ.out) (by rw [zIss_size, List.size_toArray, isC_len q HWL.out.1]) (all_oneCell_toArray (isC_one q)) ?_; rw [box_iss])
        | (go_at_call 30; (with_reducible refine (flush1_any _ _).mono ?_); rintro e w5 ⟨rfl, hw5⟩; subst hw5))
      have k2 := (hI.out.1.below ((Below.refl _ wr).alloc (Nat.le_refl _) (.cells (isC q).toArray 66))).drew_
      obtain ⟨a, ha⟩ : ∃ a : Nat, q.1 = (a : Int) := ⟨q.1.toNat, by have := HWL.out.2.1; omega⟩
      have haN : a < D.has.length := by have := HWL.out.2.2; omega
      have x0 := k2.cells.cell (j := 0) rfl
      dsimp only at x0
      rw [doneK_len] at x0
      have hbw : hb < wr.heap.size := hI.out.1.sect.lt
      have hdw : d < wr.heap.size := hI.out.1.cells.lt
      have hdh := k2.dh
      have y0 : (wr.alloc (.cells (isC q).toArray 66)).drew.cell? ⟨wr.heap.size, 0, none⟩ = some (.int .i64 (a : Int)) := (OwnC.new_ wr (isC q).toArray 66).cell (j := 0) (by rw [← ha]; unfold isC; rfl)
      have y1 : (wr.alloc (.cells (isC q).toArray 66)).drew.rangeAt wr.heap.size 1 (q.2.map B8) := fun j v hv => (OwnC.new_ wr (isC q).toArray 66).cell (j := 1 + j) (by rw [Nat.add_comm]; show (isC q)[j + 1]? = some v; unfold isC; rw [List.getElem?_cons_succ]; exact hv)
      have HSS := hid (show (Try.prog.info? 64).map (·.size) = some (q.2.map B8).length by rw [sec_info, List.length_map, HWL.out.1])
      have HTH := hid (show (wr.alloc (.cells (isC q).toArray 66)).drew.there hb (a * 128) (q.2.map B8).toArray.size from fun j hj => by
        have hj' : j < 128 := by rw [List.size_toArray, List.length_map, HWL.out.1] at hj; exact hj
        have h1 := k2.sect.frozen (a * 128 + j)
        refine ⟨?_, h1⟩
        have hln := secC_len _ k2.len
        dsimp only at hln
        rw [doneK_len] at hln
        rw [k2.sect.cell (j := a * 128 + j) (List.getElem?_eq_getElem (by rw [List.length_append, hln]; omega))]
        rfl)
      have HK2 := hid k2
      have hS := And.intro x0 (And.intro y0 y1)
      have i3 : (0 : Int) ≤ (a : Int) := by omega
      have i4 : (a : Int) < (D.has.length : Int) := by omega
      have i5 : (a : Int).toNat = a := by omega
      have HA := hid ha
      have HAN := hid haN
      clear x0 y0 y1 k2 ha
      refine wp_region_noPanic ?_
      refine wp_region_held_drew (S := (fun W => W.cell? ⟨d, 0, none⟩ = some (.slice (some ⟨hb, 0, none⟩) D.has.length D.cp) ∧ W.cell? ⟨wr.heap.size, 0, none⟩ = some (.int .i64 (a : Int)) ∧ W.rangeAt wr.heap.size 1 (q.2.map B8))) (by kernel_rfl) (by first | assumption | trivial) (fun hHeld => ?_)
      refine wpAnyH_take (i := 0) (v := ?_) rfl (by kernel_rfl) (by kernel_rfl) (by kernel_rfl) (fun _ _ _ h => h) (Or.inl ⟨by kernel_rfl, ?_⟩) (by first | assumption | trivial) ?_
      rotate_left
      · (intro wS hSw; (try dsimp only at hSw); go_simp; try with_reducible rfl)
      (try simp only [List.append_eq, List.cons_append, List.nil_append, List.getElem_toArray, List.getElem_cons_succ, List.getElem_cons_zero, Act.put, List.setIfInBounds_toArray, List.set_cons_zero, List.set_cons_succ])
      refine wpAnyH_take (i := 1) (v := ?_) rfl (by kernel_rfl) (by kernel_rfl) (by kernel_rfl) (fun _ _ _ h => h) (Or.inl ⟨by kernel_rfl, ?_⟩) (by first | assumption | trivial) ?_
      rotate_left
      · (intro wS hSw; (try dsimp only at hSw); go_simp; try with_reducible rfl)
      (try simp only [List.append_eq, List.cons_append, List.nil_append, List.getElem_toArray, List.getElem_cons_succ, List.getElem_cons_zero, Act.put, List.setIfInBounds_toArray, List.set_cons_zero, List.set_cons_succ])
      refine wpAnyH_take (i := 2) (v := ?_) rfl (by kernel_rfl) (by kernel_rfl) (by kernel_rfl) (fun _ _ _ h => h) (Or.inl ⟨by kernel_rfl, ?_⟩) (by first | assumption | trivial) ?_
      rotate_left
      · (intro wS hSw; (try dsimp only at hSw); go_simp; try with_reducible rfl)
      (try simp only [List.append_eq, List.cons_append, List.nil_append, List.getElem_toArray, List.getElem_cons_succ, List.getElem_cons_zero, Act.put, List.setIfInBounds_toArray, List.set_cons_zero, List.set_cons_succ])
      refine wpAnyH_take (i := 3) (v := ?_) rfl (by kernel_rfl) (by kernel_rfl) (by kernel_rfl) (fun _ _ _ h => h) (Or.inl ⟨by kernel_rfl, ?_⟩) (by first | assumption | trivial) ?_
      rotate_left
      · (intro wS hSw; (try dsimp only at hSw); go_simp; try with_reducible rfl)
      (try simp only [List.append_eq, List.cons_append, List.nil_append, List.getElem_toArray, List.getElem_cons_succ, List.getElem_cons_zero, Act.put, List.setIfInBounds_toArray, List.set_cons_zero, List.set_cons_succ])
      refine wpAnyH_take (i := 4) (v := ?_) rfl (by kernel_rfl) (by kernel_rfl) (by kernel_rfl) (fun _ _ _ h => h) (Or.inl ⟨by kernel_rfl, ?_⟩) (by first | assumption | trivial) ?_
      rotate_left
      · (intro wS hSw; (try dsimp only at hSw); go_simp; try with_reducible rfl)
      (try simp only [List.append_eq, List.cons_append, List.nil_append, List.getElem_toArray, List.getElem_cons_succ, List.getElem_cons_zero, Act.put, List.setIfInBounds_toArray, List.set_cons_zero, List.set_cons_succ])
      refine wpAnyH_take (i := 5) (v := ?_) rfl (by kernel_rfl) (by kernel_rfl) (by kernel_rfl) (fun _ _ _ h => h) (Or.inl ⟨by kernel_rfl, ?_⟩) (by first | assumption | trivial) ?_
      rotate_left
      · (intro wS hSw; (try dsimp only at hSw); go_simp; try with_reducible rfl)
      (try simp only [List.append_eq, List.cons_append, List.nil_append, List.getElem_toArray, List.getElem_cons_succ, List.getElem_cons_zero, Act.put, List.setIfInBounds_toArray, List.set_cons_zero, List.set_cons_succ])
      refine wpAnyH_take (i := 6) (v := ?_) rfl (by kernel_rfl) (by kernel_rfl) (by kernel_rfl) (fun _ _ _ h => h) (Or.inl ⟨by kernel_rfl, ?_⟩) (by first | assumption | trivial) ?_
      rotate_left
      · (intro wS hSw; (try dsimp only at hSw); go_simp; try with_reducible rfl)
      (try simp only [List.append_eq, List.cons_append, List.nil_append, List.getElem_toArray, List.getElem_cons_succ, List.getElem_cons_zero, Act.put, List.setIfInBounds_toArray, List.set_cons_zero, List.set_cons_succ])
      refine wpAnyH_take (i := 7) (v := .agg (q.2.map B8).toArray) rfl (by kernel_rfl) (by kernel_rfl) (by kernel_rfl) (fun _ _ _ h => h) (yieldsIf_load_mid (by kernel_rfl) 64 (.tmp 25) rfl wr.heap.size 1 rfl (q.2.map B8) _ (fun w h => h.2.2) Try.underlying64 rfl HSS.out) (by assumption) ?_
      (try simp only [List.getElem_toArray, List.getElem_cons_succ, List.getElem_cons_zero, Act.put, List.setIfInBounds_toArray, List.set_cons_zero, List.set_cons_succ])
      refine wpAnyH_take (i := 8) (v := ?_) rfl (by kernel_rfl) (by kernel_rfl) (by kernel_rfl) (fun _ _ _ h => h) (Or.inl ⟨by kernel_rfl, ?_⟩) (by first | assumption | trivial) ?_
      rotate_left
      · (intro wS hSw; (try dsimp only at hSw); go_simp; try with_reducible rfl)
      (try simp only [List.append_eq, List.cons_append, List.nil_append, List.getElem_toArray, List.getElem_cons_succ, List.getElem_cons_zero, Act.put, List.setIfInBounds_toArray, List.set_cons_zero, List.set_cons_succ])
      refine wpAnyH_ready (rs := [9]) (by kernel_rfl) (by simp) ?_
      refine AllReadyH.cons rfl (fun K hK => ?_) AllReadyH.nil
      rw [if_pos (by kernel_rfl)]
      refine wp_store_mid 64 (.tmp 27) (.tmp 26) rfl hb (a * 128) (q.2.map B8).toArray rfl rfl HTH.out (by rw [List.size_toArray]; exact HSS.out) (all_oneCell_toArray (one_B8 q.2)) ?_
      refine hK.out _ _ ⟨cell_sc hHeld.1 hdh, cell_sc hHeld.2.1 (by omega), range_only hHeld.2.2 (setCells_only (fun g => g = hb) hb rfl _ _ _) (fun h => by omega)⟩ (fun hHeld => ?_)
      clear hK K
      (try simp only [List.getElem_toArray, List.getElem_cons_succ, List.getElem_cons_zero, Act.put, List.setIfInBounds_toArray, List.set_cons_zero, List.set_cons_succ])
      refine wpAnyH_done (by kernel_rfl) ?_ _
      refine NoPanic.normal ?_
      go_wp2_with fail
      go_roundw
      case rel =>
        refine ⟨k + 1, by omega, by go_num, hid ⟨?_, ?_⟩⟩
        · have h1 := HK2.out.sec_set a (by show a < (doneK _ _ _ k).length; rw [doneK_len]; exact HAN.out) q.2 HWL.out.1
          have e : doneK (fun _ => true) D.waits D.has (k + 1) = (doneK (fun _ => true) D.waits D.has k).set a q.2 := by
            rw [doneK, if_pos rfl, HGD.out, HA.out]
            rfl
          rw [e]
          exact h1
        · exact (hI.out.2.trans (Only.of_below (T := Mine d hb (.slice (some ⟨g, 0, none⟩) n c0)) (show Below wr.heap.size wr (wr.alloc (.cells (isC q).toArray 66)).drew from bq ((Below.refl _ wr).alloc (Nat.le_refl _) _) 1)) (fun g h => .inl h)).trans (setCells_only (Mine d hb (.slice (some ⟨g, 0, none⟩) n c0)) hb (.inr (.inl rfl)) _ _ _) (fun g h => .inl h)
      case measure => simp [intOf]; omega
    · have hd : decide (k < n) = false := by simpa using hlt
      have hd' : decide ((k : Int) < (n : Int)) = false := by simp; omega
      have hkn : k = n := by omega
      have h1 := hI.out
      rw [hkn] at h1
      have H1 := hid h1
      have f1 := hI.out.1.cells.frozen 1
      have x1 := hI.out.1.cells.cell (j := 1) rfl
      clear h1 hkn
      go_wp2
      go_end0
      exact ⟨rfl, H1.out.1.wait_nil, H1.out.2.trans (Only.of_set (T := Mine d hb (.slice A0 n c0)) _ ⟨d, 1, none⟩ _ (.inl rfl)) (fun g h => .inl h)⟩
end Go.Proofs.Ytkadehdbnkinlaa
