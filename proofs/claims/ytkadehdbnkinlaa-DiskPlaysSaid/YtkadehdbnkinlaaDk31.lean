/-
  Clone: a disk of its own. A part of the proof: see the head of the text that ends in 'Law'.
-/
import Derived.Test.YtkadehdbnkinlaaDk30
import Derived.Test.YtkadehdbnkinlaaDk29
namespace Go.Proofs.Ytkadehdbnkinlaa
open Go.RowKit
set_option linter.unusedVariables false
set_option linter.unusedSimpArgs false
attribute [local go_sem] Oper.semAt_some

theorem dsk_info : (Try.prog.info? 61).map (·.size) = some 4 := by kernel_rfl
theorem cl_row {W : World} {b0 d hb : Nat} {V : Value} {D : Dsk} (h : DkAt W b0 d hb V D) : Row W (some ⟨hb, 0, none⟩) (secC D.has) := fun _ => ⟨hb, 0, rfl, fun j v hv => by
  rw [Nat.zero_add]
  have hlt : j < (secC D.has).length := (List.getElem?_eq_some_iff.1 hv).1
  exact h.sect.cell (by rw [List.getElem?_append_left hlt]; exact hv)⟩
theorem own_low {W : World} {b b' n size : Nat} {e : TypeId} {v : Value} {xs : List Value} (h : W.ownsRow b e size v n xs) (hb : b' ≤ b) : W.ownsRow b' e size v n xs := by
  refine ⟨h.1, ?_⟩
  rcases h.2 with hq | ⟨k, cap, cur, e2, h1, h2⟩
  · exact .inl hq
  · exact .inr ⟨k, cap, cur, e2, Nat.le_trans hb h1, h2⟩
theorem cl_keep {X : World} {d n2 i : Nat} {a b v : Value} (hne : d ≠ n2) (h : X.cell? ⟨d, 0, none⟩ = some a ∧ X.cell? ⟨d, 1, none⟩ = some b) : (X.setCell ⟨n2, i, none⟩ v).cell? ⟨d, 0, none⟩ = some a ∧ (X.setCell ⟨n2, i, none⟩ v).cell? ⟨d, 1, none⟩ = some b :=
  ⟨by rw [World.cell?_setCell_other _ _ _ _ (fun e => by injection e; omega)]; exact h.1, by rw [World.cell?_setCell_other _ _ _ _ (fun e => by injection e; omega)]; exact h.2⟩
theorem box_dsk (w : World) (old xs : Array Value) : (w.alloc (.cells old 61)).setRow w.heap.size xs = w.alloc (.cells xs 61) := World.setRow_alloc_new w _ _ _
set_option maxRecDepth 100000 in
set_option maxHeartbeats 2000000 in
theorem clone_two {w0 W : World} {d hb : Nat} {D : Dsk} (h : St w0 W d hb D) (hn : 1 ≤ D.has.length) (hw : D.waits.length ≤ 100000) (hn2 : D.has.length ≤ 2048) :
    Calls Try.prog 26 #[.pointer (some ⟨d, 0, none⟩)] W fun e w' => ∃ d2 hb2 D2, e = .returned (.pointer (some ⟨d2, 0, none⟩)) ∧ Two w0 w' d hb D d2 hb2 D2 ∧ (D2.has = D.has ∧ D2.waits = D.waits ∧ D2.bud = D.bud ∧ D2.off = D.off) ∧ Below W.heap.size W w' := by
  obtain ⟨V, hV⟩ := h.at_
  have x0 := hV.cells.cell (j := 0) rfl
  have x1 := hV.cells.cell (j := 1) rfl
  have x2 := hV.cells.cell (j := 2) rfl
  have x3 := hV.cells.cell (j := 3) rfl
  obtain ⟨AV, cV, rfl, -⟩ := own_slice hV.wait
  obtain ⟨nw, hnw⟩ : ∃ nw, D.waits.length = nw := ⟨_, rfl⟩
  rw [hnw] at x1 hV
  have HNW := hid hnw
  have HB := hid h.bel
  have HV := hid hV
  have HN := hid hn
  have HW := hid hw
  have HN2 := hid hn2
  obtain ⟨nh, hnh⟩ : ∃ nh, D.has.length = nh := ⟨_, rfl⟩
  rw [hnh] at x0
  have HNH := hid hnh
  clear h hV hn hw hn2 hnh hnw
  go_enter Try.func26, Try.ntmps26
  go_upto_region 2 with (
    refine wpList_store_row rfl 61 (.tmp 3) (.tmp 6) rfl W.heap.size #[.slice (some ⟨hb, 0, none⟩) nh D.cp, .slice AV nw cV, .int .i64 D.bud, .bool D.off] rfl rfl 61 #[.slice none 0 0, .slice none 0 0, .int .i64 0, .bool false] (heap_alloc_new W _) dsk_info rfl rfl ?_
    rw [box_dsk])
  have b1 : Below W.heap.size W (W.alloc (.cells #[.slice (some ⟨hb, 0, none⟩) nh D.cp, .slice AV nw cV, .int .i64 D.bud, .bool D.off] 61)).drew := bq ((Below.refl _ W).alloc (Nat.le_refl _) _) 1
  have o1 : OwnE (W.alloc (.cells #[.slice (some ⟨hb, 0, none⟩) nh D.cp, .slice AV nw cV, .int .i64 D.bud, .bool D.off] 61)).drew W.heap.size 61 [.slice (some ⟨hb, 0, none⟩) nh D.cp, .slice AV nw cV, .int .i64 D.bud, .bool D.off] := heap_alloc_new W _
  have s1 : W.heap.size < (W.alloc (.cells #[.slice (some ⟨hb, 0, none⟩) nh D.cp, .slice AV nw cV, .int .i64 D.bud, .bool D.off] 61)).drew.heap.size := o1.lt
  have hS := And.intro (cells_keep b1 x0) (cells_keep b1 x1)
  have B1 := hid b1
  have O1 := hid o1
  have S1 := hid s1
  clear b1 o1 s1 x0 x1 x2 x3
  refine wp_region_noPanic ?_
  refine wp_region_held_drew (S := (fun X => X.cell? ⟨d, 0, none⟩ = some (.slice (some ⟨hb, 0, none⟩) nh D.cp) ∧ X.cell? ⟨d, 1, none⟩ = some (.slice AV nw cV))) (by kernel_rfl) (by first | assumption | trivial) (fun hHeld => ?_)
  refine wpAnyH_take (i := 0) (v := ?_) rfl (by kernel_rfl) (by kernel_rfl) (by kernel_rfl) (fun _ _ _ h => h) (Or.inl ⟨by kernel_rfl, ?_⟩) (by first | assumption | trivial) ?_
  rotate_left
  · (intro wS hSw; (try dsimp only at hSw); go_simp; try with_reducible rfl)
  (try simp only [List.append_eq, List.cons_append, List.nil_append, List.getElem_toArray, List.getElem_cons_succ, List.getElem_cons_zero, Act.put, List.setIfInBounds_toArray, List.set_cons_zero, List.set_cons_succ])
  refine wpAnyH_take (i := 1) (v := ?_) rfl (by kernel_rfl) (by kernel_rfl) (by kernel_rfl) (fun _ _ _ h => h) (Or.inl ⟨by kernel_rfl, ?_⟩) (by first | assumption | trivial) ?_
  rotate_left
  · (intro wS hSw; (try dsimp only at hSw); go_simp; try with_reducible rfl)
  (try simp only [List.append_eq, List.cons_append, List.nil_append, List.getElem_toArray, List.getElem_cons_succ, List.getElem_cons_zero, Act.put, List.setIfInBounds_toArray, List.set_cons_zero, List.set_cons_succ])
  refine wpAnyH_take (i := 2) (v := ?_) rfl (by kernel_rfl) (by kernel_rfl) (by kernel_rfl) (fun _ _ _ h => h) (Or.inl ⟨by kernel_rfl, ?_⟩) (by first | assumption | trivial) ?_
  rotate_left
  · (intro wS hSw; (try dsimp only at hSw); go_simp; try with_reducible rfl)
  (try simp only [List.append_eq, List.cons_append, List.nil_append, List.getElem_toArray, List.getElem_cons_succ, List.getElem_cons_zero, Act.put, List.setIfInBounds_toArray, List.set_cons_zero, List.set_cons_succ])
  refine wpAnyH_take (i := 3) (v := ?_) rfl (by kernel_rfl) (by kernel_rfl) (by kernel_rfl) (fun _ _ _ h => h) (Or.inl ⟨by kernel_rfl, ?_⟩) (by first | assumption | trivial) ?_
  rotate_left
  · (intro wS hSw; (try dsimp only at hSw); go_simp; try with_reducible rfl)
  (try simp only [List.append_eq, List.cons_append, List.nil_append, List.getElem_toArray, List.getElem_cons_succ, List.getElem_cons_zero, Act.put, List.setIfInBounds_toArray, List.set_cons_zero, List.set_cons_succ])
  refine wpAnyH_take (i := 5) (v := ?_) rfl (by kernel_rfl) (by kernel_rfl) (by kernel_rfl) (fun _ _ _ h => h) (Or.inl ⟨by kernel_rfl, ?_⟩) (by first | assumption | trivial) ?_
  rotate_left
  · (intro wS hSw; (try dsimp only at hSw); go_simp; try with_reducible rfl)
  (try simp only [List.append_eq, List.cons_append, List.nil_append, List.getElem_toArray, List.getElem_cons_succ, List.getElem_cons_zero, Act.put, List.setIfInBounds_toArray, List.set_cons_zero, List.set_cons_succ])
  refine wpAnyH_take (i := 6) (v := ?_) rfl (by kernel_rfl) (by kernel_rfl) (by kernel_rfl) (fun _ _ _ h => h) (Or.inl ⟨by kernel_rfl, ?_⟩) (by first | assumption | trivial) ?_
  rotate_left
  · (intro wS hSw; (try dsimp only at hSw); go_simp; try with_reducible rfl)
  (try simp only [List.append_eq, List.cons_append, List.nil_append, List.getElem_toArray, List.getElem_cons_succ, List.getElem_cons_zero, Act.put, List.setIfInBounds_toArray, List.set_cons_zero, List.set_cons_succ])
  refine wpAnyH_take (i := 7) (v := ?_) rfl (by kernel_rfl) (by kernel_rfl) (by kernel_rfl) (fun _ _ _ h => h) (Or.inl ⟨by kernel_rfl, ?_⟩) (by first | assumption | trivial) ?_
  rotate_left
  · (intro wS hSw; (try dsimp only at hSw); go_simp; try with_reducible rfl)
  (try simp only [List.append_eq, List.cons_append, List.nil_append, List.getElem_toArray, List.getElem_cons_succ, List.getElem_cons_zero, Act.put, List.setIfInBounds_toArray, List.set_cons_zero, List.set_cons_succ])
  refine wpAnyH_take (i := 8) (v := ?_) rfl (by kernel_rfl) (by kernel_rfl) (by kernel_rfl) (fun _ _ _ h => h) (Or.inl ⟨by kernel_rfl, ?_⟩) (by first | assumption | trivial) ?_
  rotate_left
  · (intro wS hSw; (try dsimp only at hSw); go_simp; try with_reducible rfl)
  (try simp only [List.append_eq, List.cons_append, List.nil_append, List.getElem_toArray, List.getElem_cons_succ, List.getElem_cons_zero, Act.put, List.setIfInBounds_toArray, List.set_cons_zero, List.set_cons_succ])
  refine wpAnyH_ready (rs := [4]) (by kernel_rfl) (by simp) ?_
  refine AllReadyH.cons rfl (fun K hK => ?_) AllReadyH.nil
  go_simp
  (go_at_call 36; refine (cloneS_any hb nh D.cp (secC D.has) _ (HV.out.below B1.out |> cl_row) (by rw [secC_len D.has HV.out.len, HNH.out]) (secC_one D.has) (by have := HN2.out; rw [HNH.out] at this; exact this)).mono ?_; rintro e w3 ⟨A3, c3, rfl, r3, b3⟩; have hS3 := And.intro (cells_keep b3 hHeld.1) (cells_keep b3 hHeld.2); have B3 := hid (next B1.out b3); have O3 := hid (O1.out.below b3); have R3 := hid r3; have S3 := hid (Nat.le_trans S1.out b3.size); clear r3 b3 hHeld)
  go_wp2_with fail
  refine hK.out _ _ (by first | assumption | trivial) (fun hHeld => ?_)
  clear hK K
  (try simp only [List.append_eq, List.cons_append, List.nil_append, List.getElem_toArray, List.getElem_cons_succ, List.getElem_cons_zero, Act.put, List.setIfInBounds_toArray, List.set_cons_zero, List.set_cons_succ])
  refine wpAnyH_ready (rs := [9]) (by kernel_rfl) (by simp) ?_
  refine AllReadyH.cons rfl (fun K hK => ?_) AllReadyH.nil
  go_simp
  (go_at_call 37; refine (cloneI_any w0.heap.size nw (.slice AV nw cV) (waitC D.waits) _ (by have := (HV.out.below B3.out).wait; rw [HNW.out] at this; exact this) (waitC_one D.waits) (by have := HW.out; rw [HNW.out] at this; exact this)).mono ?_; rintro e w4 ⟨A4, c4, rfl, r4, b4⟩; have hS4 := And.intro (cells_keep b4 hHeld.1) (cells_keep b4 hHeld.2); have B4 := hid (next B3.out b4); have O4 := hid (O3.out.below b4); have R5 := hid (own_low (own_below R3.out b4) (Nat.le_of_lt S1.out)); have R4 := hid (own_low r4 (Nat.le_of_lt S3.out)); clear r4 b4 hHeld hS3)
  go_wp2_with fail
  refine hK.out _ _ (by first | assumption | trivial) (fun hHeld => ?_)
  clear hK K
  (try simp only [List.append_eq, List.cons_append, List.nil_append, List.getElem_toArray, List.getElem_cons_succ, List.getElem_cons_zero, Act.put, List.setIfInBounds_toArray, List.set_cons_zero, List.set_cons_succ])
  have SZ4 := hid B4.out.size
  obtain ⟨n2, hn2⟩ : ∃ n2, W.heap.size = n2 := ⟨_, rfl⟩
  rw [hn2] at B4 O4 R5 R4 SZ4 ⊢
  have HN22 := hid hn2
  clear hS B1 O1 S1 B3 O3 S3 R3 hn2
  have y0 := O4.out.cell (j := 0) rfl
  have z0 := O4.out.frozen 0
  refine wpAnyH_take (i := 10) (v := ?_) rfl (by kernel_rfl) (by kernel_rfl) (by kernel_rfl) (fun _ _ _ h => h) (Or.inl ⟨by kernel_rfl, ?_⟩) (by first | assumption | trivial) ?_
  rotate_left
  · (intro wS hSw; (try dsimp only at hSw); go_simp; try with_reducible rfl)
  (try simp only [List.append_eq, List.cons_append, List.nil_append, List.getElem_toArray, List.getElem_cons_succ, List.getElem_cons_zero, Act.put, List.setIfInBounds_toArray, List.set_cons_zero, List.set_cons_succ])
  have hne : d ≠ n2 := by have := HV.out.cells.lt; have := HN22.out; omega
  have HNE := hid hne
  clear hne
  have hS5 := cl_keep (v := .slice A3 nh c3) (i := 0) HNE.out hHeld
  refine wpAnyH_ready (rs := [11]) (by kernel_rfl) (by simp) ?_
  refine AllReadyH.cons rfl (fun K hK => ?_) AllReadyH.nil
  rw [if_pos (by kernel_rfl)]
  (go_simp; go_wp2_with fail)
  refine hK.out _ _ (by first | assumption | trivial) (fun hHeld => ?_)
  clear hK K
  (try simp only [List.append_eq, List.cons_append, List.nil_append, List.getElem_toArray, List.getElem_cons_succ, List.getElem_cons_zero, Act.put, List.setIfInBounds_toArray, List.set_cons_zero, List.set_cons_succ])
  clear y0 z0
  have O5 := hid (O4.out.set 0 (.slice A3 nh c3))
  have y1 := O5.out.cell (j := 1) rfl
  have z1 := O5.out.frozen 1
  refine wpAnyH_take (i := 12) (v := ?_) rfl (by kernel_rfl) (by kernel_rfl) (by kernel_rfl) (fun _ _ _ h => h) (Or.inl ⟨by kernel_rfl, ?_⟩) (by first | assumption | trivial) ?_
  rotate_left
  · (intro wS hSw; (try dsimp only at hSw); go_simp; try with_reducible rfl)
  (try simp only [List.append_eq, List.cons_append, List.nil_append, List.getElem_toArray, List.getElem_cons_succ, List.getElem_cons_zero, Act.put, List.setIfInBounds_toArray, List.set_cons_zero, List.set_cons_succ])
  have hS6 := cl_keep (v := .slice A4 nw c4) (i := 1) HNE.out hHeld
  refine wpAnyH_ready (rs := [13]) (by kernel_rfl) (by simp) ?_
  refine AllReadyH.cons rfl (fun K hK => ?_) AllReadyH.nil
  rw [if_pos (by kernel_rfl)]
  (go_simp; go_wp2_with fail)
  refine hK.out _ _ (by first | assumption | trivial) (fun hHeld => ?_)
  clear hK K
  (try simp only [List.append_eq, List.cons_append, List.nil_append, List.getElem_toArray, List.getElem_cons_succ, List.getElem_cons_zero, Act.put, List.setIfInBounds_toArray, List.set_cons_zero, List.set_cons_succ])
  refine wpAnyH_done (by kernel_rfl) ?_ _
  refine NoPanic.normal ?_
  clear hS5 hS6 hHeld y1 z1
  go_wp2_with fail
  go_ret
  have e1 := HN22.out
  have e2 := HNH.out
  have e3 := HNW.out
  subst e1 e2 e3
  have o6 := O5.out.set 1 (.slice A4 D.waits.length c4)
  have hn1 : ∀ g, Value.ownBlock (.slice A3 D.has.length c3) = some g → g ≠ W.heap.size := fun g hg e => by
    obtain ⟨cur, hc⟩ := own_type R5.out g hg
    rw [e, show w4.heap[W.heap.size]? = _ from O4.out] at hc
    injection hc with hc
    injection hc with _ ht
    exact absurd ht (by decide)
  have hn2 : ∀ g, Value.ownBlock (.slice A4 D.waits.length c4) = some g → g ≠ W.heap.size := fun g hg e => by
    obtain ⟨cur, hc⟩ := own_type R4.out g hg
    rw [e, show w4.heap[W.heap.size]? = _ from O4.out] at hc
    injection hc with hc
    injection hc with _ ht
    exact absurd ht (by decide)
  have r1 := row_far (b := W.heap.size) (i := 1) (row_far (b := W.heap.size) (i := 0) R5.out (fun e => hn1 _ e rfl) (.slice A3 D.has.length c3)) (fun e => hn1 _ e rfl) (.slice A4 D.waits.length c4)
  have r2 := row_far (b := W.heap.size) (i := 1) (row_far (b := W.heap.size) (i := 0) R4.out (fun e => hn2 _ e rfl) (.slice A3 D.has.length c3)) (fun e => hn2 _ e rfl) (.slice A4 D.waits.length c4)
  have b6 : Below W.heap.size W ((w4.setCell ⟨W.heap.size, 0, none⟩ (.slice A3 D.has.length c3)).setCell ⟨W.heap.size, 1, none⟩ (.slice A4 D.waits.length c4)) := (B4.out.setCell (Nat.le_refl _) _).setCell (Nat.le_refl _) _
  obtain ⟨hb2, V2, D2, k1, k2, k3, k4⟩ := cl_end (W := W) (b0 := w0.heap.size) HV.out HN.out b6 (Nat.le_refl _) o6 r1 r2 HB.out.size
  exact ⟨W.heap.size, hb2, D2, rfl, ⟨_, _, k1, k2, k3, next HB.out b6⟩, k4, b6⟩
end Go.Proofs.Ytkadehdbnkinlaa
