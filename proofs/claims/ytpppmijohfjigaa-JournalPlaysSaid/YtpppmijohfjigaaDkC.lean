/-
  What waits is done: the walk; A flush; What waits is done where it is kept; A cut; The library's Backward over what waits. A part of the proof: see the head of the text that ends in 'Law'.
-/
import Derived.Test.YtpppmijohfjigaaDkB
import Derived.RangeFuncNested
import Derived.RangeFuncBound
import Derived.RangeFuncCalls
import Derived.RangeFuncLeaves
import Derived.RangeFuncBox
import Derived.Shelf.Abstract
import Derived.OwnWalkIn
import Derived.TacticsInMore
import Derived.LoopNIn
import Derived.LoopIn
namespace Go.Proofs.Ytpppmijohfjigaa
section
open Go.RowKit
set_option linter.unusedVariables false
set_option linter.unusedSimpArgs false
attribute [local go_sem] Oper.semAt_some
theorem flush1_any (k : Int) (w : World) : Calls Try.prog 59 #[.int .i64 k] w fun e w' => e = .returned (.bool true) ∧ w = w' := by
  go_enter Try.func59, Try.ntmps59
  go_wp2
  go_ret
  exact ⟨rfl, rfl⟩
theorem DkAt.drew_ {W : World} {b0 d hb : Nat} {V : Value} {D : Dsk} (h : DkAt W b0 d hb V D) : DkAt W.drew b0 d hb V D := ⟨h.d0, h.h0, h.cells, h.sect, h.wait, h.len, h.wlen, h.nb, h.bd⟩
theorem cell_sc {W : World} {hb o b' j : Nat} {vs : List Value} {v : Value} (h : W.cell? ⟨b', j, none⟩ = some v) (hne : b' ≠ hb) : (W.setCells hb o vs).cell? ⟨b', j, none⟩ = some v := by
  have h1 := (setCells_only (fun g => g = hb) hb rfl vs o W).block b' (World.block_lt_of_cell? W _ h) hne
  simp only [World.cell?, h1] at h ⊢
  exact h
set_option maxRecDepth 100000 in
set_option maxHeartbeats 8000000 in
theorem done_all {W : World} {b0 d hb : Nat} {V : Value} {D : Dsk} (h : DkAt W b0 d hb V D) (hw : D.waits.length ≤ 100000) :
    Calls Try.prog 53 #[.pointer (some ⟨d, 0, none⟩), .func (.func 59) #[] #[]] W fun e w' => e = .returned (.tuple #[]) ∧
      DkAt w' b0 d hb (.slice none 0 0) { D with has := doneK (fun _ => true) D.waits D.has D.waits.length, waits := [] } ∧ Only (Mine d hb V) W w' := by
  have x1 := h.cells.cell (j := 1) rfl
  have H := hid h
  obtain ⟨zer, zsz⟩ := iss_zero
  have HZS := hid zsz
  have hV : ∃ A c, V = .slice A D.waits.length c := by
    rcases h.wait.2 with ⟨e, e2⟩ | ⟨g, cap, cur, e, _⟩
    · rw [e2]; exact ⟨none, 0, e⟩
    · exact ⟨_, _, e⟩
  obtain ⟨A0, c0, rfl⟩ := hV
  obtain ⟨n, hn⟩ : ∃ n, D.waits.length = n := ⟨_, rfl⟩
  rw [hn] at x1 hw ⊢
  have HN := hid hn
  rw [hn] at H
  clear h zsz hn
  go_enter Try.func53, Try.ntmps53
  go_wp2_with fail
  go_loopw [4, 5, 11] (fun q bx i wr => ∃ k : Nat, k ≤ n ∧ i = .int .i64 (k : Int) ∧ Hid (DkAt wr b0 d hb (.slice A0 n c0) { D with has := doneK (fun _ => true) D.waits D.has k } ∧ Only (Mine d hb (.slice A0 n c0)) W wr)) (fun q bx i wr => n - (intOf i).toNat)
  case atStart => exact ⟨0, by omega, rfl, hid ⟨H.out, Only.refl _ _⟩⟩
  case round =>
    obtain ⟨k, hk, rfl, hI⟩ := hrel
    by_cases hlt : k < n
    · have hd : decide (k < n) = true := by simpa using hlt
      have hd' : decide ((k : Int) < (n : Int)) = true := by simp; omega
      have hkw : k < D.waits.length := by rw [HN.out]; exact hlt
      obtain ⟨g, c1, e1, hr⟩ := wait_range hI.out.1 (show 0 < D.waits.length by omega)
      injection e1 with eA en ec
      clear en
      subst eA
      subst ec
      have hwl := hI.out.1.wlen _ (List.getElem_mem hkw)
      dsimp only at hwl
      rw [doneK_len] at hwl
      have hgd : D.waits.getD k (0, []) = D.waits[k]'hkw := by rw [List.getD_eq_getElem?_getD, List.getElem?_eq_getElem hkw, Option.getD_some]
      have hrk := hr k hkw
      dsimp only at hrk
      obtain ⟨q, hq⟩ : ∃ q, D.waits[k]'hkw = q := ⟨_, rfl⟩
      rw [hq] at hrk hwl hgd
      have HR := hid (fun (w1 : World) (hb : Below wr.heap.size wr w1) => show w1.rangeAt g (k * 129) (isC q) from range_only (T := fun _ => False) hrk (Only.of_below hb) (fun h => h))
      have HWL := hid hwl
      have HGD := hid hgd
      have HSZ := hid (show (Try.prog.info? 101).map (·.size) = some (isC q).length by rw [HZS.out, isC_len q HWL.out.1])
      have i0 : (0 : Int) ≤ (k : Int) := by omega
      have i1 : (k : Int) < (n : Int) := by omega
      have i2 : (k : Int).toNat = k := by omega
      clear hr hrk hq hwl hgd
      go_upto_region 4 with (first
        | (refine wpList_load_mid rfl 101 (.tmp 14) rfl g (k * 129) rfl (isC q) _ (HR.out _ (Below.refl _ _)) Try.underlying101 rfl HSZ.out ?_)
        | (refine wpList_store_row rfl 101 (.tmp 5) (.tmp 15) rfl wr.heap.size (isC q).toArray rfl rfl 101 zIss (heap_alloc_new wr _) (by rw [List.size_toArray]; exact HSZ.out) (by rw [zIss_size, List.size_toArray, isC_len q HWL.out.1]) (all_oneCell_toArray (isC_one q)) ?_; rw [box_iss])
        | (go_at_call 59; (with_reducible refine (flush1_any _ _).mono ?_); rintro e w5 ⟨rfl, hw5⟩; subst hw5))
      have k2 := (hI.out.1.below ((Below.refl _ wr).alloc (Nat.le_refl _) (.cells (isC q).toArray 101))).drew_
      obtain ⟨a, ha⟩ : ∃ a : Nat, q.1 = (a : Int) := ⟨q.1.toNat, by have := HWL.out.2.1; omega⟩
      have haN : a < D.has.length := by have := HWL.out.2.2; omega
      have x0 := k2.cells.cell (j := 0) rfl
      dsimp only at x0
      rw [doneK_len] at x0
      have hbw : hb < wr.heap.size := hI.out.1.sect.lt
      have hdw : d < wr.heap.size := hI.out.1.cells.lt
      have hdh := k2.dh
      have y0 : (wr.alloc (.cells (isC q).toArray 101)).drew.cell? ⟨wr.heap.size, 0, none⟩ = some (.int .i64 (a : Int)) := (OwnC.new_ wr (isC q).toArray 101).cell (j := 0) (by rw [← ha]; unfold isC; rfl)
      have y1 : (wr.alloc (.cells (isC q).toArray 101)).drew.rangeAt wr.heap.size 1 (q.2.map B8) := fun j v hv => (OwnC.new_ wr (isC q).toArray 101).cell (j := 1 + j) (by rw [Nat.add_comm]; show (isC q)[j + 1]? = some v; unfold isC; rw [List.getElem?_cons_succ]; exact hv)
      have HSS := hid (show (Try.prog.info? 99).map (·.size) = some (q.2.map B8).length by rw [sec_info, List.length_map, HWL.out.1])
      have HTH := hid (show (wr.alloc (.cells (isC q).toArray 101)).drew.there hb (a * 128) (q.2.map B8).toArray.size from fun j hj => by
        have hj' : j < 128 := by rw [List.size_toArray, List.length_map, HWL.out.1] at hj; exact hj
        have h1 := k2.sect.frozen (a * 128 + j)
        refine ⟨?_, h1⟩
        have hln := secC_len _ k2.len
        dsimp only at hln
        rw [doneK_len] at hln
        rw [k2.sect.cell (j := a * 128 + j) (List.getElem?_eq_getElem (by rw [List.length_append, hln]; omega))]
        rfl)
      have HK2 := hid k2
      have hS := And.intro x0 (And.intro y0 y1)
      have i3 : (0 : Int) ≤ (a : Int) := by omega
      have i4 : (a : Int) < (D.has.length : Int) := by omega
      have i5 : (a : Int).toNat = a := by omega
      have HA := hid ha
      have HAN := hid haN
      clear x0 y0 y1 k2 ha
      refine wp_region_noPanic ?_
      refine wp_region_held_drew (S := (fun W => W.cell? ⟨d, 0, none⟩ = some (.slice (some ⟨hb, 0, none⟩) D.has.length D.cp) ∧ W.cell? ⟨wr.heap.size, 0, none⟩ = some (.int .i64 (a : Int)) ∧ W.rangeAt wr.heap.size 1 (q.2.map B8))) (by kernel_rfl) (by first | assumption | trivial) (fun hHeld => ?_)
      refine wpAnyH_take (i := 0) (v := ?_) rfl (by kernel_rfl) (by kernel_rfl) (by kernel_rfl) (fun _ _ _ h => h) (Or.inl ⟨by kernel_rfl, ?_⟩) (by first | assumption | trivial) ?_
      rotate_left
      · (intro wS hSw; (try dsimp only at hSw); go_simp; try with_reducible rfl)
      (try simp only [List.append_eq, List.cons_append, List.nil_append, List.getElem_toArray, List.getElem_cons_succ, List.getElem_cons_zero, Act.put, List.setIfInBounds_toArray, List.set_cons_zero, List.set_cons_succ])
      refine wpAnyH_take (i := 1) (v := ?_) rfl (by kernel_rfl) (by kernel_rfl) (by kernel_rfl) (fun _ _ _ h => h) (Or.inl ⟨by kernel_rfl, ?_⟩) (by first | assumption | trivial) ?_
      rotate_left
      · (intro wS hSw; (try dsimp only at hSw); go_simp; try with_reducible rfl)
      (try simp only [List.append_eq, List.cons_append, List.nil_append, List.getElem_toArray, List.getElem_cons_succ, List.getElem_cons_zero, Act.put, List.setIfInBounds_toArray, List.set_cons_zero, List.set_cons_succ])
      refine wpAnyH_take (i := 2) (v := ?_) rfl (by kernel_rfl) (by kernel_rfl) (by kernel_rfl) (fun _ _ _ h => h) (Or.inl ⟨by kernel_rfl, ?_⟩) (by first | assumption | trivial) ?_
      rotate_left
      · (intro wS hSw; (try dsimp only at hSw); go_simp; try with_reducible rfl)
      (try simp only [List.append_eq, List.cons_append, List.nil_append, List.getElem_toArray, List.getElem_cons_succ, List.getElem_cons_zero, Act.put, List.setIfInBounds_toArray, List.set_cons_zero, List.set_cons_succ])
      refine wpAnyH_take (i := 3) (v := ?_) rfl (by kernel_rfl) (by kernel_rfl) (by kernel_rfl) (fun _ _ _ h => h) (Or.inl ⟨by kernel_rfl, ?_⟩) (by first | assumption | trivial) ?_
      rotate_left
      · (intro wS hSw; (try dsimp only at hSw); go_simp; try with_reducible rfl)
      (try simp only [List.append_eq, List.cons_append, List.nil_append, List.getElem_toArray, List.getElem_cons_succ, List.getElem_cons_zero, Act.put, List.setIfInBounds_toArray, List.set_cons_zero, List.set_cons_succ])
      refine wpAnyH_take (i := 4) (v := ?_) rfl (by kernel_rfl) (by kernel_rfl) (by kernel_rfl) (fun _ _ _ h => h) (Or.inl ⟨by kernel_rfl, ?_⟩) (by first | assumption | trivial) ?_
      rotate_left
      · (intro wS hSw; (try dsimp only at hSw); go_simp; try with_reducible rfl)
      (try simp only [List.append_eq, List.cons_append, List.nil_append, List.getElem_toArray, List.getElem_cons_succ, List.getElem_cons_zero, Act.put, List.setIfInBounds_toArray, List.set_cons_zero, List.set_cons_succ])
      refine wpAnyH_take (i := 5) (v := ?_) rfl (by kernel_rfl) (by kernel_rfl) (by kernel_rfl) (fun _ _ _ h => h) (Or.inl ⟨by kernel_rfl, ?_⟩) (by first | assumption | trivial) ?_
      rotate_left
      · (intro wS hSw; (try dsimp only at hSw); go_simp; try with_reducible rfl)
      (try simp only [List.append_eq, List.cons_append, List.nil_append, List.getElem_toArray, List.getElem_cons_succ, List.getElem_cons_zero, Act.put, List.setIfInBounds_toArray, List.set_cons_zero, List.set_cons_succ])
      refine wpAnyH_take (i := 6) (v := ?_) rfl (by kernel_rfl) (by kernel_rfl) (by kernel_rfl) (fun _ _ _ h => h) (Or.inl ⟨by kernel_rfl, ?_⟩) (by first | assumption | trivial) ?_
      rotate_left
      · (intro wS hSw; (try dsimp only at hSw); go_simp; try with_reducible rfl)
      (try simp only [List.append_eq, List.cons_append, List.nil_append, List.getElem_toArray, List.getElem_cons_succ, List.getElem_cons_zero, Act.put, List.setIfInBounds_toArray, List.set_cons_zero, List.set_cons_succ])
      refine wpAnyH_take (i := 7) (v := .agg (q.2.map B8).toArray) rfl (by kernel_rfl) (by kernel_rfl) (by kernel_rfl) (fun _ _ _ h => h) (yieldsIf_load_mid (by kernel_rfl) 99 (.tmp 25) rfl wr.heap.size 1 rfl (q.2.map B8) _ (fun w h => h.2.2) Try.underlying99 rfl HSS.out) (by assumption) ?_
      (try simp only [List.getElem_toArray, List.getElem_cons_succ, List.getElem_cons_zero, Act.put, List.setIfInBounds_toArray, List.set_cons_zero, List.set_cons_succ])
      refine wpAnyH_take (i := 8) (v := ?_) rfl (by kernel_rfl) (by kernel_rfl) (by kernel_rfl) (fun _ _ _ h => h) (Or.inl ⟨by kernel_rfl, ?_⟩) (by first | assumption | trivial) ?_
      rotate_left
      · (intro wS hSw; (try dsimp only at hSw); go_simp; try with_reducible rfl)
      (try simp only [List.append_eq, List.cons_append, List.nil_append, List.getElem_toArray, List.getElem_cons_succ, List.getElem_cons_zero, Act.put, List.setIfInBounds_toArray, List.set_cons_zero, List.set_cons_succ])
      refine wpAnyH_ready (rs := [9]) (by kernel_rfl) (by simp) ?_
      refine AllReadyH.cons rfl (fun K hK => ?_) AllReadyH.nil
      rw [if_pos (by kernel_rfl)]
      refine wp_store_mid 99 (.tmp 27) (.tmp 26) rfl hb (a * 128) (q.2.map B8).toArray rfl rfl HTH.out (by rw [List.size_toArray]; exact HSS.out) (all_oneCell_toArray (one_B8 q.2)) ?_
      refine hK.out _ _ ⟨cell_sc hHeld.1 hdh, cell_sc hHeld.2.1 (by omega), range_only hHeld.2.2 (setCells_only (fun g => g = hb) hb rfl _ _ _) (fun h => by omega)⟩ (fun hHeld => ?_)
      clear hK K
      (try simp only [List.getElem_toArray, List.getElem_cons_succ, List.getElem_cons_zero, Act.put, List.setIfInBounds_toArray, List.set_cons_zero, List.set_cons_succ])
      refine wpAnyH_done (by kernel_rfl) ?_ _
      refine NoPanic.normal ?_
      go_wp2_with fail
      go_roundw
      case rel =>
        refine ⟨k + 1, by omega, by go_num, hid ⟨?_, ?_⟩⟩
        · have h1 := HK2.out.sec_set a (by show a < (doneK _ _ _ k).length; rw [doneK_len]; exact HAN.out) q.2 HWL.out.1
          have e : doneK (fun _ => true) D.waits D.has (k + 1) = (doneK (fun _ => true) D.waits D.has k).set a q.2 := by
            rw [doneK, if_pos rfl, HGD.out, HA.out]
            rfl
          rw [e]
          exact h1
        · exact (hI.out.2.trans (Only.of_below (T := Mine d hb (.slice (some ⟨g, 0, none⟩) n c0)) (show Below wr.heap.size wr (wr.alloc (.cells (isC q).toArray 101)).drew from bq ((Below.refl _ wr).alloc (Nat.le_refl _) _) 1)) (fun g h => .inl h)).trans (setCells_only (Mine d hb (.slice (some ⟨g, 0, none⟩) n c0)) hb (.inr (.inl rfl)) _ _ _) (fun g h => .inl h)
      case measure => simp [intOf]; omega
    · have hd : decide (k < n) = false := by simpa using hlt
      have hd' : decide ((k : Int) < (n : Int)) = false := by simp; omega
      have hkn : k = n := by omega
      have h1 := hI.out
      rw [hkn] at h1
      have H1 := hid h1
      have f1 := hI.out.1.cells.frozen 1
      have x1 := hI.out.1.cells.cell (j := 1) rfl
      clear h1 hkn
      go_wp2
      go_end0
      exact ⟨rfl, H1.out.1.wait_nil, H1.out.2.trans (Only.of_set (T := Mine d hb (.slice A0 n c0)) _ ⟨d, 1, none⟩ _ (.inl rfl)) (fun g h => .inl h)⟩
end
section
open Go.RowKit
set_option linter.unusedVariables false
set_option linter.unusedSimpArgs false
attribute [local go_sem] Oper.semAt_some
theorem spend_has (D : Dsk) : (spendD D).has = D.has ∧ (spendD D).waits = D.waits := by unfold spendD; split; exact ⟨rfl, rfl⟩; split; exact ⟨rfl, rfl⟩; split <;> exact ⟨rfl, rfl⟩
theorem flush_off {W : World} {b0 d hb : Nat} {V : Value} {D : Dsk} (h : DkAt W b0 d hb V D) (ho : onD D = false) :
    Calls Try.prog 21 #[.pointer (some ⟨d, 0, none⟩)] W fun e w' => e = .returned (.int .i64 10) ∧ Left W b0 d hb V (spendD D) w' := by
  have hsp := spend_any h
  rw [ho] at hsp
  have HSP := hid hsp
  clear h ho hsp
  go_enter Try.func21, Try.ntmps21
  go_wp2_with (go_at_call 58; (with_reducible refine HSP.out.mono ?_); rintro e w2 ⟨rfl, hl⟩; have HL := hid hl; clear hl)
  go_ret
  exact ⟨rfl, HL.out⟩
theorem flush_on {W : World} {b0 d hb : Nat} {V : Value} {D : Dsk} (h : DkAt W b0 d hb V D) (ho : onD D = true) (hw : D.waits.length ≤ 100000) :
    Calls Try.prog 21 #[.pointer (some ⟨d, 0, none⟩)] W fun e w' => e = .returned (.int .i64 0) ∧
      DkAt w' b0 d hb (.slice none 0 0) { spendD D with has := doneK (fun _ => true) D.waits D.has D.waits.length, waits := [] } ∧ Only (Mine d hb V) W w' := by
  have hsp := spend_any h
  rw [ho] at hsp
  have HSP := hid hsp
  have HDN := hid (fun (w : World) (k : DkAt w b0 d hb V (spendD D)) => done_all k (by rw [(spend_has D).2]; exact hw))
  clear h ho hsp
  go_enter Try.func21, Try.ntmps21
  go_wp2_with (first
    | (go_at_call 58; (with_reducible refine HSP.out.mono ?_); rintro e w2 ⟨rfl, hl⟩; have HL := hid hl; clear hl)
    | (go_at_call 53; (refine (HDN.out _ HL.out.1).mono ?_); rintro e w3 ⟨rfl, h1, h2⟩; have H1 := hid h1; have H2 := hid h2; clear h1 h2))
  go_ret
  have h1 := H1.out
  rw [(spend_has D).1, (spend_has D).2] at h1
  exact ⟨rfl, h1, HL.out.2.trans H2.out (fun g h => .inl h)⟩
end
section
open Go.RowKit
set_option linter.unusedVariables false
set_option linter.unusedSimpArgs false
attribute [local go_sem] Oper.semAt_some
set_option maxRecDepth 100000 in
set_option maxHeartbeats 8000000 in
theorem done_cut {W : World} {b0 d hb bx : Nat} {V : Value} {D : Dsk} (h : DkAt W b0 d hb V D) (hw : D.waits.length ≤ 100000) (hold : Nat → Bool) (KP : World → Prop) (hKP : KP W) (hKeep : ∀ w w' : World, KP w → Only (Mine d hb V) w w' → KP w')
    (hCall : ∀ (k : Nat) (w : World), KP w → Calls Try.prog 54 #[.int .i64 (k : Int), .pointer (some ⟨bx, 0, none⟩)] w fun e w' => e = .returned (.bool (hold k)) ∧ w = w') :
    Calls Try.prog 53 #[.pointer (some ⟨d, 0, none⟩), .func (.func 54) #[] #[.pointer (some ⟨bx, 0, none⟩)]] W fun e w' => e = .returned (.tuple #[]) ∧
      DkAt w' b0 d hb (.slice none 0 0) { D with has := doneK hold D.waits D.has D.waits.length, waits := [] } ∧ Only (Mine d hb V) W w' := by
  have x1 := h.cells.cell (j := 1) rfl
  have H := hid h
  obtain ⟨zer, zsz⟩ := iss_zero
  have HZS := hid zsz
  have hV : ∃ A c, V = .slice A D.waits.length c := by
    rcases h.wait.2 with ⟨e, e2⟩ | ⟨g, cap, cur, e, _⟩
    · rw [e2]; exact ⟨none, 0, e⟩
    · exact ⟨_, _, e⟩
  obtain ⟨A0, c0, rfl⟩ := hV
  obtain ⟨n, hn⟩ : ∃ n, D.waits.length = n := ⟨_, rfl⟩
  rw [hn] at x1 hw ⊢
  have HN := hid hn
  rw [hn] at H
  have HKP := hid hKP
  have HKEEP := hid hKeep
  have HCALL := hid hCall
  clear h zsz hn hKP hKeep hCall
  go_enter Try.func53, Try.ntmps53
  go_wp2_with fail
  go_loopw [4, 5, 11] (fun q bx i wr => ∃ k : Nat, k ≤ n ∧ i = .int .i64 (k : Int) ∧ Hid (DkAt wr b0 d hb (.slice A0 n c0) { D with has := doneK hold D.waits D.has k } ∧ Only (Mine d hb (.slice A0 n c0)) W wr)) (fun q bx i wr => n - (intOf i).toNat)
  case atStart => exact ⟨0, by omega, rfl, hid ⟨H.out, Only.refl _ _⟩⟩
  case round =>
    obtain ⟨k, hk, rfl, hI⟩ := hrel
    by_cases hlt : k < n
    · have hd : decide (k < n) = true := by simpa using hlt
      have hd' : decide ((k : Int) < (n : Int)) = true := by simp; omega
      have hkw : k < D.waits.length := by rw [HN.out]; exact hlt
      obtain ⟨g, c1, e1, hr⟩ := wait_range hI.out.1 (show 0 < D.waits.length by omega)
      injection e1 with eA en ec
      clear en
      subst eA
      subst ec
      have hwl := hI.out.1.wlen _ (List.getElem_mem hkw)
      dsimp only at hwl
      rw [doneK_len] at hwl
      have hgd : D.waits.getD k (0, []) = D.waits[k]'hkw := by rw [List.getD_eq_getElem?_getD, List.getElem?_eq_getElem hkw, Option.getD_some]
      have hrk := hr k hkw
      dsimp only at hrk
      obtain ⟨q, hq⟩ : ∃ q, D.waits[k]'hkw = q := ⟨_, rfl⟩
      rw [hq] at hrk hwl hgd
      have HR := hid (fun (w1 : World) (hb : Below wr.heap.size wr w1) => show w1.rangeAt g (k * 129) (isC q) from range_only (T := fun _ => False) hrk (Only.of_below hb) (fun h => h))
      have HWL := hid hwl
      have HGD := hid hgd
      have HSZ := hid (show (Try.prog.info? 101).map (·.size) = some (isC q).length by rw [HZS.out, isC_len q HWL.out.1])
      have i0 : (0 : Int) ≤ (k : Int) := by omega
      have i1 : (k : Int) < (n : Int) := by omega
      have i2 : (k : Int).toNat = k := by omega
      clear hr hrk hq hwl hgd
      have HCL := hid (HCALL.out k (wr.alloc (.cells (isC q).toArray 101)) (HKEEP.out _ _ HKP.out (hI.out.2.trans (Only.of_below (T := Mine d hb (.slice (some ⟨g, 0, none⟩) n c0)) ((Below.refl _ wr).alloc (Nat.le_refl _) _)) (fun g h => .inl h))))
      obtain ⟨hv, hhv⟩ : ∃ v, hold k = v := ⟨_, rfl⟩
      rw [hhv] at HCL
      have HHV := hid hhv
      clear hhv
      cases hv with
      | true =>
        go_upto_region 4 with (first
          | (refine wpList_load_mid rfl 101 (.tmp 14) rfl g (k * 129) rfl (isC q) _ (HR.out _ (Below.refl _ _)) Try.underlying101 rfl HSZ.out ?_)
          | (refine wpList_store_row rfl 101 (.tmp 5) (.tmp 15) rfl wr.heap.size (isC q).toArray rfl rfl 101 zIss (heap_alloc_new wr _) (by rw [List.size_toArray]; exact HSZ.out) (by rw [zIss_size, List.size_toArray, isC_len q HWL.out.1]) (all_oneCell_toArray (isC_one q)) ?_; rw [box_iss])
          | (go_at_call 54; (with_reducible refine HCL.out.mono ?_); rintro e w5 ⟨rfl, hw5⟩; subst hw5))
        have k2 := (hI.out.1.below ((Below.refl _ wr).alloc (Nat.le_refl _) (.cells (isC q).toArray 101))).drew_
        obtain ⟨a, ha⟩ : ∃ a : Nat, q.1 = (a : Int) := ⟨q.1.toNat, by have := HWL.out.2.1; omega⟩
        have haN : a < D.has.length := by have := HWL.out.2.2; omega
        have x0 := k2.cells.cell (j := 0) rfl
        dsimp only at x0
        rw [doneK_len] at x0
        have hbw : hb < wr.heap.size := hI.out.1.sect.lt
        have hdw : d < wr.heap.size := hI.out.1.cells.lt
        have hdh := k2.dh
        have y0 : (wr.alloc (.cells (isC q).toArray 101)).drew.cell? ⟨wr.heap.size, 0, none⟩ = some (.int .i64 (a : Int)) := (OwnC.new_ wr (isC q).toArray 101).cell (j := 0) (by rw [← ha]; unfold isC; rfl)
        have y1 : (wr.alloc (.cells (isC q).toArray 101)).drew.rangeAt wr.heap.size 1 (q.2.map B8) := fun j v hv => (OwnC.new_ wr (isC q).toArray 101).cell (j := 1 + j) (by rw [Nat.add_comm]; show (isC q)[j + 1]? = some v; unfold isC; rw [List.getElem?_cons_succ]; exact hv)
        have HSS := hid (show (Try.prog.info? 99).map (·.size) = some (q.2.map B8).length by rw [sec_info, List.length_map, HWL.out.1])
        have HTH := hid (show (wr.alloc (.cells (isC q).toArray 101)).drew.there hb (a * 128) (q.2.map B8).toArray.size from fun j hj => by
          have hj' : j < 128 := by rw [List.size_toArray, List.length_map, HWL.out.1] at hj; exact hj
          have h1 := k2.sect.frozen (a * 128 + j)
          refine ⟨?_, h1⟩
          have hln := secC_len _ k2.len
          dsimp only at hln
          rw [doneK_len] at hln
          rw [k2.sect.cell (j := a * 128 + j) (List.getElem?_eq_getElem (by rw [List.length_append, hln]; omega))]
          rfl)
        have HK2 := hid k2
        have hS := And.intro x0 (And.intro y0 y1)
        have i3 : (0 : Int) ≤ (a : Int) := by omega
        have i4 : (a : Int) < (D.has.length : Int) := by omega
        have i5 : (a : Int).toNat = a := by omega
        have HA := hid ha
        have HAN := hid haN
        clear x0 y0 y1 k2 ha
        refine wp_region_noPanic ?_
        refine wp_region_held_drew (S := (fun W => W.cell? ⟨d, 0, none⟩ = some (.slice (some ⟨hb, 0, none⟩) D.has.length D.cp) ∧ W.cell? ⟨wr.heap.size, 0, none⟩ = some (.int .i64 (a : Int)) ∧ W.rangeAt wr.heap.size 1 (q.2.map B8))) (by kernel_rfl) (by first | assumption | trivial) (fun hHeld => ?_)
        refine wpAnyH_take (i := 0) (v := ?_) rfl (by kernel_rfl) (by kernel_rfl) (by kernel_rfl) (fun _ _ _ h => h) (Or.inl ⟨by kernel_rfl, ?_⟩) (by first | assumption | trivial) ?_
        rotate_left
        · (intro wS hSw; (try dsimp only at hSw); go_simp; try with_reducible rfl)
        (try simp only [List.append_eq, List.cons_append, List.nil_append, List.getElem_toArray, List.getElem_cons_succ, List.getElem_cons_zero, Act.put, List.setIfInBounds_toArray, List.set_cons_zero, List.set_cons_succ])
        refine wpAnyH_take (i := 1) (v := ?_) rfl (by kernel_rfl) (by kernel_rfl) (by kernel_rfl) (fun _ _ _ h => h) (Or.inl ⟨by kernel_rfl, ?_⟩) (by first | assumption | trivial) ?_
        rotate_left
        · (intro wS hSw; (try dsimp only at hSw); go_simp; try with_reducible rfl)
        (try simp only [List.append_eq, List.cons_append, List.nil_append, List.getElem_toArray, List.getElem_cons_succ, List.getElem_cons_zero, Act.put, List.setIfInBounds_toArray, List.set_cons_zero, List.set_cons_succ])
        refine wpAnyH_take (i := 2) (v := ?_) rfl (by kernel_rfl) (by kernel_rfl) (by kernel_rfl) (fun _ _ _ h => h) (Or.inl ⟨by kernel_rfl, ?_⟩) (by first | assumption | trivial) ?_
        rotate_left
        · (intro wS hSw; (try dsimp only at hSw); go_simp; try with_reducible rfl)
        (try simp only [List.append_eq, List.cons_append, List.nil_append, List.getElem_toArray, List.getElem_cons_succ, List.getElem_cons_zero, Act.put, List.setIfInBounds_toArray, List.set_cons_zero, List.set_cons_succ])
        refine wpAnyH_take (i := 3) (v := ?_) rfl (by kernel_rfl) (by kernel_rfl) (by kernel_rfl) (fun _ _ _ h => h) (Or.inl ⟨by kernel_rfl, ?_⟩) (by first | assumption | trivial) ?_
        rotate_left
        · (intro wS hSw; (try dsimp only at hSw); go_simp; try with_reducible rfl)
        (try simp only [List.append_eq, List.cons_append, List.nil_append, List.getElem_toArray, List.getElem_cons_succ, List.getElem_cons_zero, Act.put, List.setIfInBounds_toArray, List.set_cons_zero, List.set_cons_succ])
        refine wpAnyH_take (i := 4) (v := ?_) rfl (by kernel_rfl) (by kernel_rfl) (by kernel_rfl) (fun _ _ _ h => h) (Or.inl ⟨by kernel_rfl, ?_⟩) (by first | assumption | trivial) ?_
        rotate_left
        · (intro wS hSw; (try dsimp only at hSw); go_simp; try with_reducible rfl)
        (try simp only [List.append_eq, List.cons_append, List.nil_append, List.getElem_toArray, List.getElem_cons_succ, List.getElem_cons_zero, Act.put, List.setIfInBounds_toArray, List.set_cons_zero, List.set_cons_succ])
        refine wpAnyH_take (i := 5) (v := ?_) rfl (by kernel_rfl) (by kernel_rfl) (by kernel_rfl) (fun _ _ _ h => h) (Or.inl ⟨by kernel_rfl, ?_⟩) (by first | assumption | trivial) ?_
        rotate_left
        · (intro wS hSw; (try dsimp only at hSw); go_simp; try with_reducible rfl)
        (try simp only [List.append_eq, List.cons_append, List.nil_append, List.getElem_toArray, List.getElem_cons_succ, List.getElem_cons_zero, Act.put, List.setIfInBounds_toArray, List.set_cons_zero, List.set_cons_succ])
        refine wpAnyH_take (i := 6) (v := ?_) rfl (by kernel_rfl) (by kernel_rfl) (by kernel_rfl) (fun _ _ _ h => h) (Or.inl ⟨by kernel_rfl, ?_⟩) (by first | assumption | trivial) ?_
        rotate_left
        · (intro wS hSw; (try dsimp only at hSw); go_simp; try with_reducible rfl)
        (try simp only [List.append_eq, List.cons_append, List.nil_append, List.getElem_toArray, List.getElem_cons_succ, List.getElem_cons_zero, Act.put, List.setIfInBounds_toArray, List.set_cons_zero, List.set_cons_succ])
        refine wpAnyH_take (i := 7) (v := .agg (q.2.map B8).toArray) rfl (by kernel_rfl) (by kernel_rfl) (by kernel_rfl) (fun _ _ _ h => h) (yieldsIf_load_mid (by kernel_rfl) 99 (.tmp 25) rfl wr.heap.size 1 rfl (q.2.map B8) _ (fun w h => h.2.2) Try.underlying99 rfl HSS.out) (by assumption) ?_
        (try simp only [List.getElem_toArray, List.getElem_cons_succ, List.getElem_cons_zero, Act.put, List.setIfInBounds_toArray, List.set_cons_zero, List.set_cons_succ])
        refine wpAnyH_take (i := 8) (v := ?_) rfl (by kernel_rfl) (by kernel_rfl) (by kernel_rfl) (fun _ _ _ h => h) (Or.inl ⟨by kernel_rfl, ?_⟩) (by first | assumption | trivial) ?_
        rotate_left
        · (intro wS hSw; (try dsimp only at hSw); go_simp; try with_reducible rfl)
        (try simp only [List.append_eq, List.cons_append, List.nil_append, List.getElem_toArray, List.getElem_cons_succ, List.getElem_cons_zero, Act.put, List.setIfInBounds_toArray, List.set_cons_zero, List.set_cons_succ])
        refine wpAnyH_ready (rs := [9]) (by kernel_rfl) (by simp) ?_
        refine AllReadyH.cons rfl (fun K hK => ?_) AllReadyH.nil
        rw [if_pos (by kernel_rfl)]
        refine wp_store_mid 99 (.tmp 27) (.tmp 26) rfl hb (a * 128) (q.2.map B8).toArray rfl rfl HTH.out (by rw [List.size_toArray]; exact HSS.out) (all_oneCell_toArray (one_B8 q.2)) ?_
        refine hK.out _ _ ⟨cell_sc hHeld.1 hdh, cell_sc hHeld.2.1 (by omega), range_only hHeld.2.2 (setCells_only (fun g => g = hb) hb rfl _ _ _) (fun h => by omega)⟩ (fun hHeld => ?_)
        clear hK K
        (try simp only [List.getElem_toArray, List.getElem_cons_succ, List.getElem_cons_zero, Act.put, List.setIfInBounds_toArray, List.set_cons_zero, List.set_cons_succ])
        refine wpAnyH_done (by kernel_rfl) ?_ _
        refine NoPanic.normal ?_
        go_wp2_with fail
        go_roundw
        case rel =>
          refine ⟨k + 1, by omega, by go_num, hid ⟨?_, ?_⟩⟩
          · have h1 := HK2.out.sec_set a (by show a < (doneK _ _ _ k).length; rw [doneK_len]; exact HAN.out) q.2 HWL.out.1
            have e : doneK hold D.waits D.has (k + 1) = (doneK hold D.waits D.has k).set a q.2 := by
              rw [doneK, if_pos HHV.out, HGD.out, HA.out]
              rfl
            rw [e]
            exact h1
          · exact (hI.out.2.trans (Only.of_below (T := Mine d hb (.slice (some ⟨g, 0, none⟩) n c0)) (show Below wr.heap.size wr (wr.alloc (.cells (isC q).toArray 101)).drew from bq ((Below.refl _ wr).alloc (Nat.le_refl _) _) 1)) (fun g h => .inl h)).trans (setCells_only (Mine d hb (.slice (some ⟨g, 0, none⟩) n c0)) hb (.inr (.inl rfl)) _ _ _) (fun g h => .inl h)
        case measure => simp [intOf]; omega
      | false =>
        have k2 := hid (hI.out.1.below ((Below.refl _ wr).alloc (Nat.le_refl _) (.cells (isC q).toArray 101)))
        have HE := hid (show doneK hold D.waits D.has (k + 1) = doneK hold D.waits D.has k by rw [doneK, if_neg (by rw [HHV.out]; decide)])
        go_wp2_with (first
          | (refine wpList_load_mid rfl 101 (.tmp 14) rfl g (k * 129) rfl (isC q) _ (HR.out _ (Below.refl _ _)) Try.underlying101 rfl HSZ.out ?_)
          | (refine wpList_store_row rfl 101 (.tmp 5) (.tmp 15) rfl wr.heap.size (isC q).toArray rfl rfl 101 zIss (heap_alloc_new wr _) (by rw [List.size_toArray]; exact HSZ.out) (by rw [zIss_size, List.size_toArray, isC_len q HWL.out.1]) (all_oneCell_toArray (isC_one q)) ?_; rw [box_iss])
          | (go_at_call 54; (with_reducible refine HCL.out.mono ?_); rintro e w5 ⟨rfl, hw5⟩; subst hw5))
        go_roundw
        case rel =>
          refine ⟨k + 1, by omega, by go_num, hid ⟨?_, ?_⟩⟩
          · rw [HE.out]; exact k2.out
          · exact hI.out.2.trans (Only.of_below (T := Mine d hb (.slice (some ⟨g, 0, none⟩) n c0)) ((Below.refl _ wr).alloc (Nat.le_refl _) _)) (fun g h => .inl h)
        case measure => simp [intOf]; omega
    · have hd : decide (k < n) = false := by simpa using hlt
      have hd' : decide ((k : Int) < (n : Int)) = false := by simp; omega
      have hkn : k = n := by omega
      have h1 := hI.out
      rw [hkn] at h1
      have H1 := hid h1
      have f1 := hI.out.1.cells.frozen 1
      have x1 := hI.out.1.cells.cell (j := 1) rfl
      clear h1 hkn
      go_wp2
      go_end0
      exact ⟨rfl, H1.out.1.wait_nil, H1.out.2.trans (Only.of_set (T := Mine d hb (.slice A0 n c0)) _ ⟨d, 1, none⟩ _ (.inl rfl)) (fun g h => .inl h)⟩
end
section
open Go.RowKit
set_option linter.unusedVariables false
set_option linter.unusedSimpArgs false
attribute [local go_sem] Oper.semAt_some
def boolV (b : Bool) : Value := .bool b
theorem cut1_any (bx : Nat) (KA : Option Addr) (kn kc : Nat) (ks : List Bool) (k : Nat) (w : World) (hb : w.cell? ⟨bx, 0, none⟩ = some (.slice KA kn kc)) (hn : kn = ks.length) (hr : Row w KA (ks.map boolV)) :
    Calls Try.prog 54 #[.int .i64 (k : Int), .pointer (some ⟨bx, 0, none⟩)] w fun e w' => e = .returned (.bool (ks.getD k false)) ∧ w = w' := by
  by_cases h : k < kn
  · have d1 : decide (k < kn) = true := by simpa using h
    have d1' : decide ((k : Int) < (kn : Int)) = true := by simp; omega
    have hk : k < ks.length := by omega
    obtain ⟨b, off, rfl, hc⟩ := hr (by intro e; have := congrArg List.length e; rw [List.length_map] at this; simp at this; rw [this] at hk; simp at hk)
    have x0 := hc k _ (by rw [List.getElem?_map, List.getElem?_eq_getElem hk]; rfl)
    have e : ks.getD k false = ks[k] := by rw [List.getD_eq_getElem?_getD, List.getElem?_eq_getElem hk, Option.getD_some]
    obtain ⟨v, hv⟩ : ∃ v, ks[k] = v := ⟨_, rfl⟩
    rw [e, hv]
    rw [hv] at x0
    unfold boolV at x0
    have i0 : (0 : Int) ≤ (k : Int) := by omega
    have i1 : (k : Int) < (kn : Int) := by omega
    have i2 : (k : Int).toNat = k := by omega
    clear hc hr e hv hn hk
    go_enter Try.func54, Try.ntmps54
    go_wp2
    go_ret
    exact ⟨rfl, rfl⟩
  · have d1 : decide (k < kn) = false := by simpa using h
    have d1' : decide ((k : Int) < (kn : Int)) = false := by simp; omega
    have e : ks.getD k false = false := by rw [List.getD_eq_getElem?_getD, List.getElem?_eq_none (by omega), Option.getD_none]
    rw [e]
    clear hr e hn h
    go_enter Try.func54, Try.ntmps54
    go_wp2
    go_ret
    exact ⟨rfl, rfl⟩
set_option maxHeartbeats 1000000 in
theorem cut_any {W : World} {b0 d hb : Nat} {V : Value} {D : Dsk} (h : DkAt W b0 d hb V D) (hw : D.waits.length ≤ 100000) (KA : Option Addr) (kn kc : Nat) (ks : List Bool) (hn : kn = ks.length) (hr : Row W KA (ks.map boolV)) (hA : ∀ a, KA = some a → ¬ Mine d hb V a.block) :
    Calls Try.prog 16 #[.pointer (some ⟨d, 0, none⟩), .slice KA kn kc] W fun e w' => e = .returned (.tuple #[]) ∧
      DkAt w' b0 d hb (.slice none 0 0) { D with has := doneK (fun k => ks.getD k false) D.waits D.has D.waits.length, waits := [], off := true } ∧ Only (Mine d hb V) W w' := by
  have hk1 := h.below ((Below.refl _ W).alloc (Nat.le_refl _) (.cells #[.slice KA kn kc] 40))
  have hbox := (OwnC.new_ W #[.slice KA kn kc] 40).cell (j := 0) rfl
  have hlt := Mine.lt h
  have HDN := hid (done_cut (bx := W.heap.size) hk1 hw (fun k => ks.getD k false) (fun w => w.cell? ⟨W.heap.size, 0, none⟩ = some (.slice KA kn kc) ∧ Row w KA (ks.map boolV)) ⟨hbox, hr.alloc _⟩
    (fun w w' ⟨k1, k2⟩ hO => ⟨by
      have h1 := hO.block W.heap.size (World.block_lt_of_cell? w _ k1) (fun hm => by have := (hlt _ hm).2; omega)
      simp only [World.cell?, h1] at k1 ⊢
      exact k1, row_only k2 hO hA⟩)
    (fun k w ⟨k1, k2⟩ => cut1_any W.heap.size KA kn kc ks k w k1 hn k2))
  clear h hk1 hbox hlt hr hA hn
  go_enter Try.func16, Try.ntmps16
  go_wp2_with (go_at_call 53; (refine HDN.out.mono ?_); rintro e w2 ⟨rfl, h1, h2⟩; have H1 := hid h1; have H2 := hid h2; have x3 := h1.cells.cell (j := 3) rfl; have f3 := h1.cells.frozen 3; clear h1 h2)
  go_end0
  exact ⟨rfl, H1.out.off_set true, ((Only.of_below (T := Mine d hb V) ((Below.refl _ W).alloc (Nat.le_refl _) _)).trans H2.out (fun g h => .inl h)).trans (Only.of_set (T := Mine d hb V) _ ⟨d, 3, none⟩ _ (.inl rfl)) (fun g h => .inl h)⟩
end
section
open Go.RowKit
set_option linter.unusedVariables false
set_option linter.unusedSimpArgs false
attribute [local go_sem] Oper.semAt_some
abbrev Iss : Type := Int × List UInt8
def IV (p : Iss) : Value := .agg (isC p).toArray
def KV (x : Nat) : Value := .int .i64 (x : Int)
/-- What a round keeps: what was there ahead, and the iterator's own box. -/
def KpF (n1 Bf : Nat) (W W' : World) : Prop := Below n1 W W' ∧ ∀ j, W'.cell? ⟨Bf, j, none⟩ = W.cell? ⟨Bf, j, none⟩
theorem grown_of_below {W W' : World} (h : Below W.heap.size W W') : W.grownBy W' none := ⟨h.os, h.tape, h.output, h.size, fun i hi _ => h.block i hi⟩
/-- The places with their indices, the last one ahead. -/
def backL (q : List Iss) : List (Nat × Iss) := (List.range q.length).reverse.map (fun i => (i, q.getD i (0, [])))
theorem backL_len (q : List Iss) : (backL q).length = q.length := by simp [backL]
theorem backL_get (q : List Iss) (k : Nat) (hk : k < q.length) : (backL q)[q.length - (k + 1)]? = some (k, q.getD k (0, [])) := by
  unfold backL
  rw [List.getElem?_map, List.getElem?_reverse (by simp; omega), List.length_range, show q.length - 1 - (q.length - (k + 1)) = k by omega, List.getElem?_range (by omega)]
  rfl
theorem backL_snd (q : List Iss) : (backL q).map Prod.snd = q.reverse := by
  unfold backL
  rw [List.map_map, List.map_reverse]
  congr 1
  apply List.ext_getElem
  · simp
  · intro i h1 h2
    simp at h1 h2 ⊢
    rw [List.getElem?_eq_getElem h2]
    rfl

theorem wpIn_load_mid {F : Fence} {n0 : Nat} {P : Program} {op : Oper} {a : Act} {w : World} {K : Act → World → Prop} {Q : Exit → Act → World → Prop} (ty : TypeId) (x : Operand) (ho : op.op = .load ty x)
    (b o : Nat) (hx : a.eval x = .pointer (some ⟨b, o, none⟩)) (cs : List Value) (d : TypeDesc) (hc : w.rangeAt b o cs)
    (hu : P.underlying ty = some d) (hd : d.isRow = true) (hi : (P.info? ty).map (·.size) = some cs.length)
    (h : K (a.put op.dst (.agg cs.toArray)) w) : op.wpIn F n0 P a w K Q := by
  unfold Oper.wpIn
  refine ⟨by simp [Oper.about, ho], ?_⟩
  rw [Oper.semAt_plain F _ _ (by rw [ho]; intro c hc'; cases hc')]
  unfold execOp
  simp only [ho, hx, Instr.loadAt, Instr.sureAddr, Sem.run_bind, Sem.run_pure, Result.andThen_ok, run_loadVar_mid w b o ty cs d hc hu hd hi]
  exact h
set_option maxRecDepth 100000 in
set_option maxHeartbeats 2000000 in
theorem back1_in {α : Type} (f : α → Nat × Iss) (ys : List α) (m : Nat) (hm : 1 ≤ m) (lp Bf : Nat) (q : List Iss) (A : Option Addr) (g n c : Nat) (hA : 0 < n → A = some ⟨g, 0, none⟩) (w : World) (hr : ∀ (k : Nat) (hk : k < q.length), w.rangeAt g (k * 129) (isC (q[k]'hk))) (hl : ∀ p ∈ q, p.2.length = 128) (hq : q.length = n) (hn : n ≤ 100000) (hys : ys.map f = backL q) (J Jx : List α → World → Prop) (B0 : Nat) (hJ : AbidesFrom B0 J)
    (hY : ∀ pre (x : α) W, J pre W → pre.length < ys.length → YieldAt Fence.wide (m - 1) Try.prog lp #[KV (f x).1, IV (f x).2] W fun e W' =>
      (e = .returned (.bool true) ∧ J (pre ++ [x]) W' ∧ KpF w.heap.size Bf W W') ∨ (e = .returned (.bool false) ∧ Jx (pre ++ [x]) W'))
    (W : World) (hb : Below w.heap.size w W) (h0 : W.cell? ⟨Bf, 0, none⟩ = some (.slice A n c)) (hJ0 : J [] W) :
    CallsIn Fence.wide m Try.prog 75 #[.func (.yield lp) #[] #[], .pointer (some ⟨Bf, 0, none⟩)] W fun e W' => (∃ v, e = .returned v) ∧
      ((∃ zs, zs = ys ∧ J zs W') ∨ (∃ pre, pre <+: ys ∧ Jx pre W')) := by
  have HR := hid hr
  have HLN := hid hl
  have HB := hid hb
  have HJ := hid hJ0
  have HA := hid hJ
  have HY := hid hY
  have hbl : ys.length = q.length := by rw [← backL_len q, ← hys, List.length_map]
  have hw1 : IntKind.i64.wrap ((n : Int) - 1) = (n : Int) - 1 := by rw [IntKind.wrap_i64]; omega
  clear hr hl hb hJ0 hJ hY
  refine callsIn_of_wp Try.func75 rfl trivial ?_ rfl
  simp only [Try.ntmps75, List.size_toArray, List.length_cons, List.length_nil, Nat.reduceAdd, Nat.reduceSub, Array.replicate_succ, Array.replicate_zero, List.push_toArray, List.append_toArray, List.nil_append, List.cons_append]
  gi_wp2
  gi_loopw [3] (fun p wr => ∃ k : Nat, k ≤ n ∧ p = .int .i64 ((k : Int) - 1) ∧ Hid (J (ys.take (n - k)) wr ∧ Below w.heap.size w wr ∧ wr.cell? ⟨Bf, 0, none⟩ = some (.slice A n c))) (fun p wr => (intOf p + 1).toNat)
  case atStart => exact ⟨n, by omega, by first | rfl | simp [hw1], hid ⟨by simpa using HJ.out, HB.out, h0⟩⟩
  case round =>
    obtain ⟨k, hk, rfl, hI⟩ := hrel
    clear h0
    have k0 := hI.out.2.2
    cases k with
    | zero =>
      have hd : decide ((0 : Int) ≤ ((0 : Nat) : Int) - 1) = false := by decide
      gi_wp2
      go_end0
      exact ⟨⟨_, rfl⟩, .inl ⟨_, rfl, by have := hI.out.1; rwa [List.take_of_length_le (by omega)] at this⟩⟩
    | succ k =>
      have hA' := hA (by omega)
      subst hA'
      clear hA
      have hkk : ((k + 1 : Nat) : Int) - 1 = (k : Int) := by omega
      rw [hkk]
      have hd : decide ((0 : Int) ≤ (k : Int)) = true := by simp
      have hd2 : (0 : Int) ≤ (k : Int) := by omega
      have hd3 : (k : Int) < n := by omega
      have hw2 : IntKind.i64.wrap ((k : Int) - 1) = (k : Int) - 1 := by rw [IntKind.wrap_i64]; omega
      have hkq : k < q.length := by omega
      have hqk : q.getD k (0, []) = q[k]'hkq := by rw [List.getD_eq_getElem?_getD, List.getElem?_eq_getElem hkq, Option.getD_some]
      have p0 := range_only (T := fun _ => False) (HR.out k hkq) (Only.of_below hI.out.2.1) (fun h => h)
      rw [← hqk] at p0
      have hxl : (q.getD k (0, [])).2.length = 128 := by rw [hqk]; exact HLN.out _ (List.getElem_mem hkq)
      have hg : (backL q)[n - (k + 1)]? = some (k, q.getD k (0, [])) := by rw [← hq]; exact backL_get q k (by omega)
      obtain ⟨x, hx⟩ : ∃ x, q.getD k (0, []) = x := ⟨_, rfl⟩
      rw [hx] at p0 hg hxl
      rw [← hys, List.getElem?_map] at hg
      obtain ⟨y, hy0, hfy⟩ := Option.map_eq_some_iff.1 hg
      have HG := hid hy0
      have HP0 := hid p0
      have HSZ := hid (show (Try.prog.info? 101).map (·.size) = some (isC x).length by rw [iss_zero.2, isC_len x hxl])
      clear hqk hg hx hy0 p0
      have hln : (ys.take (n - (k + 1))).length < ys.length := by rw [List.length_take]; omega
      have hts : ys.take (n - (k + 1)) ++ [y] = ys.take (n - k) := by
        rw [show n - k = n - (k + 1) + 1 by omega, List.take_add_one, HG.out]
        rfl
      have HTS := hid hts
      have hYy := HY.out (ys.take (n - (k + 1))) y wr hI.out.1 hln
      rw [hfy] at hYy
      obtain ⟨fn, tmps, assign, body, hy, hR⟩ := hYy
      dsimp only [KV, IV] at hy
      clear hts
      gi_wp2
      refine wpIn_load_mid 101 (.tmp 15) rfl g (k * 129) rfl (isC x) _ HP0.out Try.underlying101 rfl HSZ.out ?_
      gi_wp2
      refine hR.mono ?_
      rintro e W' (⟨rfl, hJ', hk'⟩ | ⟨rfl, hJx'⟩)
      · gi_wp2
        go_roundw
        case rel => exact ⟨k, by omega, rfl, hid ⟨by rw [HTS.out] at hJ'; exact hJ', hI.out.2.1.trans hk'.1, (hk'.2 0).trans k0⟩⟩
        case measure => simp [intOf]
      · gi_wp2
        refine bodyPost_ret (results_none rfl _ _ _) rfl ?_
        exact ⟨⟨_, rfl⟩, .inr ⟨_, by rw [HTS.out]; exact List.take_prefix _ _, hJx'⟩⟩
theorem kpf_t {n1 Bf : Nat} {A B C : World} (h : KpF n1 Bf A B) (k : KpF n1 Bf B C) : KpF n1 Bf A C := ⟨h.1.trans k.1, fun j => (k.2 j).trans (h.2 j)⟩
theorem kpf_b {n1 Bf : Nat} {w : World} (hn : n1 ≤ w.heap.size) (hB : Bf < w.heap.size) (W : World) (l : Nat) (o o' : Obj) (hl : w.heap.size ≤ l) (h : W.heap[l]? = some o) (_ : o.isCells = false) (_ : o.isWalk = false) : KpF n1 Bf W (W.putObj l o') :=
  ⟨belowK_b hn W l o o' hl h (by assumption) (by assumption), fun j => by
    have e := World.putObj_heap_other (w := W) (r := l) (k := Bf) (o := o') (by omega)
    simp only [World.cell?, e]⟩
theorem kpf_of {n1 Bf : Nat} {W W' : World} (h : Below n1 W W') (hb : W'.heap[Bf]? = W.heap[Bf]?) : KpF n1 Bf W W' := ⟨h, fun j => by simp only [World.cell?, hb]⟩
theorem back_stops {α : Type} (f : α → Nat × Iss) (ys : List α) (m : Nat) (hm : 1 ≤ m) (Bf : Nat) (q : List Iss) (A : Option Addr) (g n c : Nat) (hA : 0 < n → A = some ⟨g, 0, none⟩) (w : World) (hr : ∀ (k : Nat) (hk : k < q.length), w.rangeAt g (k * 129) (isC (q[k]'hk))) (hl : ∀ p ∈ q, p.2.length = 128) (hq : q.length = n) (hn : n ≤ 100000) (hys : ys.map f = backL q) (w0 : World) (hb : Below w.heap.size w w0)
    (h0 : w0.cell? ⟨Bf, 0, none⟩ = some (.slice A n c)) (hB : Bf < w0.heap.size) :
    SeqStopsK Fence.wide m Try.prog 75 #[.pointer (some ⟨Bf, 0, none⟩)] (fun x : α => #[KV (f x).1, IV (f x).2]) (KpF w.heap.size Bf) (fun zs => zs = ys) (fun pre => pre <+: ys) ys.length w0 := fun lp J Jx W hW hJ _ hY h00 =>
  back1_in f ys m hm lp Bf q A g n c hA w hr hl hq hn hys J Jx W.heap.size hJ hY W (hb.trans (hW.mono hb.size)) ((hW.cell (p := ⟨Bf, 0, none⟩) hB).trans h0) h00
theorem back_any (A : Option Addr) (n c : Nat) (w : World) :
    Calls Try.prog 51 #[.slice A n c] w fun e w' => e = .returned (.func (.func 75) #[] #[.pointer (some ⟨w.heap.size, 0, none⟩)]) ∧ w' = w.alloc (.cells #[.slice A n c] 92) := by
  go_enter Try.func51, Try.ntmps51
  go_wp2
  go_ret
  exact ⟨rfl, rfl⟩
end
end Go.Proofs.Ytpppmijohfjigaa
