/-
  Octets of a literal. A part of the proof: see the head of the text that ends in 'Law'.
-/
import Derived.Test.YtlddhgnecfgnkaaLi14
namespace Go.Proofs.Ytlddhgnecfgnkaa
open Go.RowKit
set_option linter.unusedVariables false
set_option linter.unusedSimpArgs false
attribute [local go_sem] Oper.semAt_some

/-- A reader's word answers, and leaves a reader. -/
def RdPost (b0 W : World) (r : Nat) (VP VH : Value) (R' : Rdr) (v : Value) (e : Ending) (w' : World) : Prop := e = .returned v ∧ ∃ VP' VH', RdAt w' b0.heap.size r VP' VH' R' ∧ Mv W w' r VP VH VP' VH'
theorem strP {W : World} {A : Option Addr} {n : Nat} {l : List UInt8} (c : Nat) (h : Oct W A n l) : (convert 28 9 (.slice A n c)).run Try.prog W = .ok (.string (str l)) W := run_string_oct c h Try.underlying28 Try.underlying5 Try.underlying9
theorem RdAt.oct {W : World} {b0 r n c : Nat} {VP : Value} {A : Option Addr} {R : Rdr} (h : RdAt W b0 r VP (.slice A n c) R) (hn : R.hv.length = n) : Oct W A n R.hv := ⟨hn, by have := h.hv; rw [hn] at this; exact Row.of_own this⟩
set_option maxRecDepth 100000 in
set_option maxHeartbeats 4000000 in
theorem literal_any (w0 W : World) (r : Nat) (VP VH : Value) (R : Rdr) (c : UInt8) (h : RdAt W w0.heap.size r VP VH R) (bel : w0.heap.size ≤ W.heap.size) (hw : 0 < R.wait) (hok : Rok R) :
    Calls Try.prog 15 #[.pointer (some ⟨r, 0, none⟩), B8 c] W (RdPost w0 W r VP VH (litR R c) (.tuple #[])) := by
  have x1 := h.cells.cell (j := 1) rfl
  have x5 := h.cells.cell (j := 5) rfl
  obtain ⟨AH, cH, rfl, -⟩ := own_slice h.hv
  obtain ⟨n, hn⟩ : ∃ n, R.hv.length = n := ⟨_, rfl⟩
  rw [hn] at x1 h ⊢
  obtain ⟨AP, cP, rfl, -⟩ := own_slice h.ps
  obtain ⟨np, hnp⟩ : ∃ n, R.ps.length = n := ⟨_, rfl⟩
  rw [hnp] at h ⊢
  have HNP := hid hnp
  have HPL := hid (show np ≤ 100 by have := hok.n; have := hok.lits; omega)
  have hnn : n + 1 ≤ 4000 := by have := hok.lit hw; omega
  obtain ⟨ww, hww⟩ : ∃ ww, R.wait = ww := ⟨_, rfl⟩
  have hw4 := hok.wait
  rw [hww] at x5 hw hw4
  have e1 : (ww : Int) ≤ 4000 := by omega
  have e2 : (0 : Int) < (ww : Int) := by omega
  have HN := hid hn
  have HNN := hid hnn
  have HB := hid bel
  have HH := hid h
  have HWW := hid hww
  have HOK := hid hok
  have hlit : litR R c = if ww = 1 then { R with hv := [], wait := 0, ps := R.ps ++ [⟨true, R.hv ++ [c]⟩] } else { R with hv := R.hv ++ [c], wait := ww - 1 } := by unfold litR; rw [hww]
  have HLT := hid hlit
  clear h bel hok hn hnp hnn hww hw4 hlit
  unfold B8
  go_enter Try.func15, Try.ntmps15
  go_upto_region 1 with (
    refine wpList_append_row _ rfl (.tmp 8) (.tmp 10) u8S rfl w0.heap.size (.slice AH n cH) n (R.hv.map B8) rfl (by have := own_alloc HH.out.hv (.cells #[B8 c] 5); rw [HN.out] at this; exact this) (some ⟨W.heap.size, 0, none⟩) 1 1 [B8 c] rfl rfl (Row.of_block (heap_alloc_new W (Obj.cells #[B8 c] 5))) (by simp [B8, Value.oneCell']) (by have := HNN.out; simp only [maxLen]; omega) (by have := HNN.out; omega) (by have := HB.out; simp; omega) ?_
    intro A3 c3 w3 ho3 hg3 hh3
    have hE := HH.out.addH HN.out ho3 hg3 hh3
    have y1 := hE.1.cell (j := 1) rfl
    have z1 := hE.1.frozen 1
    have HE := hid hE
    clear ho3 hg3 hh3 hE)
  obtain ⟨wa, hwa, K⟩ : ∃ X, X = w3.setCell ⟨r, 1, none⟩ (.slice A3 (n + 1) c3) ∧ Hid (RdAt X w0.heap.size r (.slice AP np cP) (.slice A3 (n + 1) c3) { R with hv := R.hv ++ [c] } ∧ Mv W X r (.slice AP np cP) (.slice AH n cH) (.slice AP np cP) (.slice A3 (n + 1) c3)) := ⟨_, rfl, hid ⟨HE.out.2.1, HE.out.2.2⟩⟩
  rw [← hwa]
  clear hwa HE y1 z1 x1 x5
  have x5 := K.out.1.cells.cell (j := 5) rfl
  have z5 := K.out.1.cells.frozen 5
  dsimp only at x5
  rw [HWW.out] at x5
  have K2 : Hid (RdAt (wa.setCell ⟨r, 5, none⟩ (.int .i64 ((ww : Int) - 1))) w0.heap.size r (.slice AP np cP) (.slice A3 (n + 1) c3) { R with hv := R.hv ++ [c], wait := ww - 1 } ∧ Mv W (wa.setCell ⟨r, 5, none⟩ (.int .i64 ((ww : Int) - 1))) r (.slice AP np cP) (.slice AH n cH) (.slice AP np cP) (.slice A3 (n + 1) c3)) := hid (by
    have h2 := K.out.1.num (R' := { R with hv := R.hv ++ [c], wait := ww - 1 }) 5 (.int .i64 ((ww : Int) - 1)) (by show [_, _, _, _, _, Value.int .i64 ((ww : Int) - 1)] = [_, _, _, _, _, Value.int .i64 ((ww - 1 : Nat) : Int)]; rw [show ((ww : Int) - 1) = ((ww - 1 : Nat) : Int) by omega]) rfl rfl
    exact ⟨h2.1, K.out.2.trans h2.2⟩)
  go_upto_region 2 with fail
  obtain ⟨wb, hwb, K⟩ : ∃ X, X = wa.setCell ⟨r, 5, none⟩ (.int .i64 ((ww : Int) - 1)) ∧ Hid (RdAt X w0.heap.size r (.slice AP np cP) (.slice A3 (n + 1) c3) { R with hv := R.hv ++ [c], wait := ww - 1 } ∧ Mv W X r (.slice AP np cP) (.slice AH n cH) (.slice AP np cP) (.slice A3 (n + 1) c3)) := ⟨_, rfl, K2⟩
  rw [← hwb]
  clear hwb x5 z5 K2
  have x5 := K.out.1.cells.cell (j := 5) rfl
  dsimp only at x5
  by_cases h1 : ww = 1
  · have d1 : (((ww - 1 : Nat) : Int) == 0) = true := by rw [h1]; rfl
    have d1' : (ww - 1 == 0) = true := by rw [h1]; rfl
    have HL2 : Hid (litR R c = { R with hv := [], wait := 0, ps := R.ps ++ [⟨true, R.hv ++ [c]⟩] }) := hid (by rw [HLT.out, if_pos h1])
    have hww0 : ww - 1 = 0 := by omega
    rw [hww0] at x5 K
    clear h1 hww0 HLT d1 d1'
    go_upto_region 3 with fail
    have K : Hid (RdAt wb.drew w0.heap.size r (.slice AP np cP) (.slice A3 (n + 1) c3) { R with hv := R.hv ++ [c], wait := 0 } ∧ Mv W wb.drew r (.slice AP np cP) (.slice AH n cH) (.slice AP np cP) (.slice A3 (n + 1) c3)) := hid ⟨K.out.1.below (drew_below _), K.out.2.trans (Mv.of_below (drew_below _))⟩
    have hln : (R.hv ++ [c]).length = n + 1 := by rw [List.length_append, List.length_singleton, HN.out]
    have HLN := hid hln
    obtain ⟨y, hy⟩ : ∃ y, str (R.hv ++ [c]) = y := ⟨_, rfl⟩
    have HY := hid hy
    have hcv : (convert 28 9 (.slice A3 (n + 1) c3)).run Try.prog wb.drew = .ok (.string y) wb.drew := by rw [← hy]; exact strP c3 (K.out.1.oct hln)
    have hS := And.intro (show wb.drew.cell? ⟨r, 1, none⟩ = some (.slice A3 (n + 1) c3) from K.out.1.cells.cell (j := 1) rfl) hcv
    have q0 : wb.drew.cell? ⟨r, 0, none⟩ = some (.slice AP np cP) := by have := K.out.1.cells.cell (j := 0) rfl; exact this
    have bA : Below wb.drew.heap.size wb.drew (wb.drew.alloc (.cells #[.bool true, .string y] 40)) := (Below.refl _ _).alloc (Nat.le_refl _) _
    have K2 := hid (K.out.1.below bA)
    have q2 : (wb.alloc (.cells #[.bool true, .string y] 40)).drew.cell? ⟨r, 0, none⟩ = some (.slice AP np cP) := by have := K2.out.cells.cell (j := 0) rfl; exact this
    have hS2 : (wb.alloc (.cells #[.bool true, .string y] 40)).drew.cell? ⟨r, 1, none⟩ = some (.slice A3 (n + 1) c3) ∧ (convert 28 9 (.slice A3 (n + 1) c3)).run Try.prog (wb.alloc (.cells #[.bool true, .string y] 40)).drew = .ok (.string y) (wb.alloc (.cells #[.bool true, .string y] 40)).drew := ⟨K2.out.cells.cell (j := 1) rfl, by have := strP c3 (K2.out.oct hln); dsimp only at this; rw [hy] at this; exact this⟩
    clear hcv hy hln bA
    refine wp_region_noPanic ?_
    refine wp_region_held_drew (S := (fun X => X.cell? ⟨r, 1, none⟩ = some (.slice A3 (n + 1) c3) ∧ (convert 28 9 (.slice A3 (n + 1) c3)).run Try.prog X = .ok (.string y) X)) (by kernel_rfl) (by first | assumption | trivial) (fun hHeld => ?_)
    refine wpAnyH_take (i := 0) (v := ?_) rfl (by kernel_rfl) (by kernel_rfl) (by kernel_rfl) (fun _ _ _ h => h) (Or.inl ⟨by kernel_rfl, ?_⟩) (by first | assumption | trivial) ?_
    rotate_left
    · (intro wS hSw; (try dsimp only at hSw); go_simp; try with_reducible rfl)
    (try simp only [List.append_eq, List.cons_append, List.nil_append, List.getElem_toArray, List.getElem_cons_succ, List.getElem_cons_zero, Act.put, List.setIfInBounds_toArray, List.set_cons_zero, List.set_cons_succ])
    refine wpAnyH_take (i := 1) (v := ?_) rfl (by kernel_rfl) (by kernel_rfl) (by kernel_rfl) (fun _ _ _ h => h) (Or.inl ⟨by kernel_rfl, ?_⟩) (by first | assumption | trivial) ?_
    rotate_left
    · (intro wS hSw; (try dsimp only at hSw); go_simp; try with_reducible rfl)
    (try simp only [List.append_eq, List.cons_append, List.nil_append, List.getElem_toArray, List.getElem_cons_succ, List.getElem_cons_zero, Act.put, List.setIfInBounds_toArray, List.set_cons_zero, List.set_cons_succ])
    refine wpAnyH_take (i := 2) (v := ?_) rfl (by kernel_rfl) (by kernel_rfl) (by kernel_rfl) (fun _ _ _ h => h) (Or.inl ⟨by kernel_rfl, ?_⟩) (by first | assumption | trivial) ?_
    rotate_left
    · (intro wS hSw; (try dsimp only at hSw); go_simp; try with_reducible rfl)
    (try simp only [List.append_eq, List.cons_append, List.nil_append, List.getElem_toArray, List.getElem_cons_succ, List.getElem_cons_zero, Act.put, List.setIfInBounds_toArray, List.set_cons_zero, List.set_cons_succ])
    refine wpAnyH_take (i := 3) (v := ?_) rfl (by kernel_rfl) (by kernel_rfl) (by kernel_rfl) (fun _ _ _ h => h) (Or.inl ⟨by kernel_rfl, ?_⟩) (by first | assumption | trivial) ?_
    rotate_left
    · (intro wS hSw; (try dsimp only at hSw); go_simp; try with_reducible rfl)
    (try simp only [List.append_eq, List.cons_append, List.nil_append, List.getElem_toArray, List.getElem_cons_succ, List.getElem_cons_zero, Act.put, List.setIfInBounds_toArray, List.set_cons_zero, List.set_cons_succ])
    refine wpAnyH_take (i := 5) (v := ?_) rfl (by kernel_rfl) (by kernel_rfl) (by kernel_rfl) (fun _ _ _ h => h) (Or.inl ⟨by kernel_rfl, ?_⟩) (by first | assumption | trivial) ?_
    rotate_left
    · (intro wS hSw; (try dsimp only at hSw); go_simp; try with_reducible rfl)
    (try simp only [List.append_eq, List.cons_append, List.nil_append, List.getElem_toArray, List.getElem_cons_succ, List.getElem_cons_zero, Act.put, List.setIfInBounds_toArray, List.set_cons_zero, List.set_cons_succ])
    refine wpAnyH_take (i := 6) (v := ?_) rfl (by kernel_rfl) (by kernel_rfl) (by kernel_rfl) (fun _ _ _ h => h) (Or.inl ⟨by kernel_rfl, ?_⟩) (by first | assumption | trivial) ?_
    rotate_left
    · (intro wS hSw; (try dsimp only at hSw); go_simp; try with_reducible rfl)
    (try simp only [List.append_eq, List.cons_append, List.nil_append, List.getElem_toArray, List.getElem_cons_succ, List.getElem_cons_zero, Act.put, List.setIfInBounds_toArray, List.set_cons_zero, List.set_cons_succ])
    refine wpAnyH_take (i := 7) (v := ?_) rfl (by kernel_rfl) (by kernel_rfl) (by kernel_rfl) (fun _ _ _ h => h) (Or.inl ⟨by kernel_rfl, ?_⟩) (by first | assumption | trivial) ?_
    rotate_left
    · (intro wS hSw; (try dsimp only at hSw); go_simp; try with_reducible rfl)
    (try simp only [List.append_eq, List.cons_append, List.nil_append, List.getElem_toArray, List.getElem_cons_succ, List.getElem_cons_zero, Act.put, List.setIfInBounds_toArray, List.set_cons_zero, List.set_cons_succ])
    refine wpAnyH_take (i := 8) (v := ?_) rfl (by kernel_rfl) (by kernel_rfl) (by kernel_rfl) (fun _ _ _ h => h) (Or.inl ⟨by kernel_rfl, ?_⟩) (by first | assumption | trivial) ?_
    rotate_left
    · (intro wS hSw; (try dsimp only at hSw); go_simp; try with_reducible rfl)
    (try simp only [List.append_eq, List.cons_append, List.nil_append, List.getElem_toArray, List.getElem_cons_succ, List.getElem_cons_zero, Act.put, List.setIfInBounds_toArray, List.set_cons_zero, List.set_cons_succ])
    refine wpAnyH_take (i := 9) (v := ?_) rfl (by kernel_rfl) (by kernel_rfl) (by kernel_rfl) (fun _ _ _ h => h) (Or.inl ⟨by kernel_rfl, ?_⟩) (by first | assumption | trivial) ?_
    rotate_left
    · (intro wS hSw; (try dsimp only at hSw); go_simp; try with_reducible rfl)
    (try simp only [List.append_eq, List.cons_append, List.nil_append, List.getElem_toArray, List.getElem_cons_succ, List.getElem_cons_zero, Act.put, List.setIfInBounds_toArray, List.set_cons_zero, List.set_cons_succ])
    refine wpAnyH_take (i := 10) (v := ?_) rfl (by kernel_rfl) (by kernel_rfl) (by kernel_rfl) (fun _ _ _ h => h) (Or.inl ⟨by kernel_rfl, ?_⟩) (by first | assumption | trivial) ?_
    rotate_left
    · (intro wS hSw; (try dsimp only at hSw); go_simp; try with_reducible rfl)
    (try simp only [List.append_eq, List.cons_append, List.nil_append, List.getElem_toArray, List.getElem_cons_succ, List.getElem_cons_zero, Act.put, List.setIfInBounds_toArray, List.set_cons_zero, List.set_cons_succ])
    refine wpAnyH_ready (rs := [4, 11]) (by kernel_rfl) (by simp) ?_
    refine AllReadyH.cons rfl (fun K hK => ?_) (AllReadyH.cons rfl (fun K hK => ?_) AllReadyH.nil)
    · go_simp
      go_wp2_with fail
      refine hK.out _ _ hS (fun hHeld => ?_)
      clear hK K
      (try simp only [List.append_eq, List.cons_append, List.nil_append, List.getElem_toArray, List.getElem_cons_succ, List.getElem_cons_zero, Act.put, List.setIfInBounds_toArray, List.set_cons_zero, List.set_cons_succ])
      refine wpAnyH_ready (rs := [11]) (by kernel_rfl) (by simp) ?_
      refine AllReadyH.cons rfl (fun K hK => ?_) AllReadyH.nil
      go_simp
      skip
      go_wp2_with fail
      refine hK.out _ _ (by first | assumption | trivial) (fun hHeld => ?_)
      clear hK K
      (try simp only [List.append_eq, List.cons_append, List.nil_append, List.getElem_toArray, List.getElem_cons_succ, List.getElem_cons_zero, Act.put, List.setIfInBounds_toArray, List.set_cons_zero, List.set_cons_succ])
      refine wpAnyH_ready (rs := [12]) (by kernel_rfl) (by simp) ?_
      refine AllReadyH.cons rfl (fun K3 hK => ?_) AllReadyH.nil
      rw [if_pos (by kernel_rfl)]
      refine wp_append_row _ (.tmp 30) (.tmp 37) pcS rfl w0.heap.size (.slice AP np cP) np (R.ps.flatMap pcC) rfl (by have := K2.out.ps; dsimp only at this; rw [HNP.out] at this; exact this) (some ⟨wb.drew.heap.size, 0, none⟩) 1 1 [.bool true, .string y] rfl rfl (Row.of_block (heap_alloc_new wb.drew (Obj.cells #[.bool true, .string y] 40))) (by simp [Value.oneCell']) (by have := HPL.out; simp only [maxLen]; omega) (by have := HPL.out; omega) (by have := HB.out; have := K.out.2.o.size; simp at this ⊢; omega) ?_
      intro A4 c4 w4 ho4 hg4 hh4
      have hE := RdAt.addP (p := ⟨true, R.hv ++ [c]⟩) K.out.1 HNP.out rfl HY.out ho4 hg4 hh4
      have z0 := hE.1.cell (j := 0) rfl
      have g0 := hE.1.frozen 0
      have hS4 : w4.cell? ⟨r, 1, none⟩ = some (.slice A3 (n + 1) c3) ∧ (convert 28 9 (.slice A3 (n + 1) c3)).run Try.prog w4 = .ok (.string y) w4 := ⟨hE.1.cell (j := 1) rfl, by rw [← HY.out]; exact strP c3 (show Oct w4 A3 (n + 1) (R.hv ++ [c]) from ⟨HLN.out, by have := hE.2.1; dsimp only at this; rw [HLN.out] at this; exact Row.of_own this⟩)⟩
      have hS5 : (w4.setCell ⟨r, 0, none⟩ (.slice A4 (np + 1) c4)).cell? ⟨r, 1, none⟩ = some (.slice A3 (n + 1) c3) ∧ (convert 28 9 (.slice A3 (n + 1) c3)).run Try.prog (w4.setCell ⟨r, 0, none⟩ (.slice A4 (np + 1) c4)) = .ok (.string y) (w4.setCell ⟨r, 0, none⟩ (.slice A4 (np + 1) c4)) := ⟨hE.2.2.1.cells.cell (j := 1) rfl, by rw [← HY.out]; exact strP c3 (hE.2.2.1.oct HLN.out)⟩
      have K5 : Hid (RdAt (w4.setCell ⟨r, 0, none⟩ (.slice A4 (np + 1) c4)) w0.heap.size r (.slice A4 (np + 1) c4) (.slice A3 (n + 1) c3) { R with ps := R.ps ++ [⟨true, R.hv ++ [c]⟩], hv := R.hv ++ [c], wait := 0 } ∧ Mv W (w4.setCell ⟨r, 0, none⟩ (.slice A4 (np + 1) c4)) r (.slice AP np cP) (.slice AH n cH) (.slice A4 (np + 1) c4) (.slice A3 (n + 1) c3)) := hid ⟨hE.2.2.1, K.out.2.trans hE.2.2.2⟩
      clear ho4 hg4 hh4 hE
      refine hK.out _ _ hS4 (fun hHeld => ?_)
      clear hK K3
      (try simp only [List.append_eq, List.cons_append, List.nil_append, List.getElem_toArray, List.getElem_cons_succ, List.getElem_cons_zero, Act.put, List.setIfInBounds_toArray, List.set_cons_zero, List.set_cons_succ])
      refine wpAnyH_take (i := 13) (v := ?_) rfl (by kernel_rfl) (by kernel_rfl) (by kernel_rfl) (fun _ _ _ h => h) (Or.inl ⟨by kernel_rfl, ?_⟩) (by first | assumption | trivial) ?_
      rotate_left
      · (intro wS hSw; (try dsimp only at hSw); go_simp; try with_reducible rfl)
      (try simp only [List.append_eq, List.cons_append, List.nil_append, List.getElem_toArray, List.getElem_cons_succ, List.getElem_cons_zero, Act.put, List.setIfInBounds_toArray, List.set_cons_zero, List.set_cons_succ])
      refine wpAnyH_take (i := 14) (v := ?_) rfl (by kernel_rfl) (by kernel_rfl) (by kernel_rfl) (fun _ _ _ h => h) (Or.inl ⟨by kernel_rfl, ?_⟩) (by first | assumption | trivial) ?_
      rotate_left
      · (intro wS hSw; (try dsimp only at hSw); go_simp; try with_reducible rfl)
      (try simp only [List.append_eq, List.cons_append, List.nil_append, List.getElem_toArray, List.getElem_cons_succ, List.getElem_cons_zero, Act.put, List.setIfInBounds_toArray, List.set_cons_zero, List.set_cons_succ])
      refine wpAnyH_ready (rs := [15]) (by kernel_rfl) (by simp) ?_
      refine AllReadyH.cons rfl (fun K hK => ?_) AllReadyH.nil
      go_simp
      skip
      go_wp2_with fail
      refine hK.out _ _ (by first | assumption | trivial) (fun hHeld => ?_)
      clear hK K
      (try simp only [List.append_eq, List.cons_append, List.nil_append, List.getElem_toArray, List.getElem_cons_succ, List.getElem_cons_zero, Act.put, List.setIfInBounds_toArray, List.set_cons_zero, List.set_cons_succ])
      refine wpAnyH_done (by kernel_rfl) ?_ _
      refine NoPanic.normal ?_
      have y1 := K5.out.1.cells.cell (j := 1) rfl
      have z1 := K5.out.1.cells.frozen 1
      have K6 := hid K5.out.1.drop
      go_wp2_with fail
      go_end0
      rw [HL2.out]
      exact ⟨rfl, _, _, K6.out.1, K5.out.2.trans K6.out.2⟩
    · go_simp
      go_wp2_with fail
      refine hK.out _ _ hS2 (fun hHeld => ?_)
      clear hK K
      (try simp only [List.append_eq, List.cons_append, List.nil_append, List.getElem_toArray, List.getElem_cons_succ, List.getElem_cons_zero, Act.put, List.setIfInBounds_toArray, List.set_cons_zero, List.set_cons_succ])
      refine wpAnyH_ready (rs := [4]) (by kernel_rfl) (by simp) ?_
      refine AllReadyH.cons rfl (fun K hK => ?_) AllReadyH.nil
      go_simp
      skip
      go_wp2_with fail
      refine hK.out _ _ (by first | assumption | trivial) (fun hHeld => ?_)
      clear hK K
      (try simp only [List.append_eq, List.cons_append, List.nil_append, List.getElem_toArray, List.getElem_cons_succ, List.getElem_cons_zero, Act.put, List.setIfInBounds_toArray, List.set_cons_zero, List.set_cons_succ])
      refine wpAnyH_ready (rs := [12]) (by kernel_rfl) (by simp) ?_
      refine AllReadyH.cons rfl (fun K3 hK => ?_) AllReadyH.nil
      rw [if_pos (by kernel_rfl)]
      refine wp_append_row _ (.tmp 30) (.tmp 37) pcS rfl w0.heap.size (.slice AP np cP) np (R.ps.flatMap pcC) rfl (by have := K2.out.ps; dsimp only at this; rw [HNP.out] at this; exact this) (some ⟨wb.drew.heap.size, 0, none⟩) 1 1 [.bool true, .string y] rfl rfl (Row.of_block (heap_alloc_new wb.drew (Obj.cells #[.bool true, .string y] 40))) (by simp [Value.oneCell']) (by have := HPL.out; simp only [maxLen]; omega) (by have := HPL.out; omega) (by have := HB.out; have := K.out.2.o.size; simp at this ⊢; omega) ?_
      intro A4 c4 w4 ho4 hg4 hh4
      have hE := RdAt.addP (p := ⟨true, R.hv ++ [c]⟩) K.out.1 HNP.out rfl HY.out ho4 hg4 hh4
      have z0 := hE.1.cell (j := 0) rfl
      have g0 := hE.1.frozen 0
      have hS4 : w4.cell? ⟨r, 1, none⟩ = some (.slice A3 (n + 1) c3) ∧ (convert 28 9 (.slice A3 (n + 1) c3)).run Try.prog w4 = .ok (.string y) w4 := ⟨hE.1.cell (j := 1) rfl, by rw [← HY.out]; exact strP c3 (show Oct w4 A3 (n + 1) (R.hv ++ [c]) from ⟨HLN.out, by have := hE.2.1; dsimp only at this; rw [HLN.out] at this; exact Row.of_own this⟩)⟩
      have hS5 : (w4.setCell ⟨r, 0, none⟩ (.slice A4 (np + 1) c4)).cell? ⟨r, 1, none⟩ = some (.slice A3 (n + 1) c3) ∧ (convert 28 9 (.slice A3 (n + 1) c3)).run Try.prog (w4.setCell ⟨r, 0, none⟩ (.slice A4 (np + 1) c4)) = .ok (.string y) (w4.setCell ⟨r, 0, none⟩ (.slice A4 (np + 1) c4)) := ⟨hE.2.2.1.cells.cell (j := 1) rfl, by rw [← HY.out]; exact strP c3 (hE.2.2.1.oct HLN.out)⟩
      have K5 : Hid (RdAt (w4.setCell ⟨r, 0, none⟩ (.slice A4 (np + 1) c4)) w0.heap.size r (.slice A4 (np + 1) c4) (.slice A3 (n + 1) c3) { R with ps := R.ps ++ [⟨true, R.hv ++ [c]⟩], hv := R.hv ++ [c], wait := 0 } ∧ Mv W (w4.setCell ⟨r, 0, none⟩ (.slice A4 (np + 1) c4)) r (.slice AP np cP) (.slice AH n cH) (.slice A4 (np + 1) c4) (.slice A3 (n + 1) c3)) := hid ⟨hE.2.2.1, K.out.2.trans hE.2.2.2⟩
      clear ho4 hg4 hh4 hE
      refine hK.out _ _ hS4 (fun hHeld => ?_)
      clear hK K3
      (try simp only [List.append_eq, List.cons_append, List.nil_append, List.getElem_toArray, List.getElem_cons_succ, List.getElem_cons_zero, Act.put, List.setIfInBounds_toArray, List.set_cons_zero, List.set_cons_succ])
      refine wpAnyH_take (i := 13) (v := ?_) rfl (by kernel_rfl) (by kernel_rfl) (by kernel_rfl) (fun _ _ _ h => h) (Or.inl ⟨by kernel_rfl, ?_⟩) (by first | assumption | trivial) ?_
      rotate_left
      · (intro wS hSw; (try dsimp only at hSw); go_simp; try with_reducible rfl)
      (try simp only [List.append_eq, List.cons_append, List.nil_append, List.getElem_toArray, List.getElem_cons_succ, List.getElem_cons_zero, Act.put, List.setIfInBounds_toArray, List.set_cons_zero, List.set_cons_succ])
      refine wpAnyH_take (i := 14) (v := ?_) rfl (by kernel_rfl) (by kernel_rfl) (by kernel_rfl) (fun _ _ _ h => h) (Or.inl ⟨by kernel_rfl, ?_⟩) (by first | assumption | trivial) ?_
      rotate_left
      · (intro wS hSw; (try dsimp only at hSw); go_simp; try with_reducible rfl)
      (try simp only [List.append_eq, List.cons_append, List.nil_append, List.getElem_toArray, List.getElem_cons_succ, List.getElem_cons_zero, Act.put, List.setIfInBounds_toArray, List.set_cons_zero, List.set_cons_succ])
      refine wpAnyH_ready (rs := [15]) (by kernel_rfl) (by simp) ?_
      refine AllReadyH.cons rfl (fun K hK => ?_) AllReadyH.nil
      go_simp
      skip
      go_wp2_with fail
      refine hK.out _ _ (by first | assumption | trivial) (fun hHeld => ?_)
      clear hK K
      (try simp only [List.append_eq, List.cons_append, List.nil_append, List.getElem_toArray, List.getElem_cons_succ, List.getElem_cons_zero, Act.put, List.setIfInBounds_toArray, List.set_cons_zero, List.set_cons_succ])
      refine wpAnyH_done (by kernel_rfl) ?_ _
      refine NoPanic.normal ?_
      have y1 := K5.out.1.cells.cell (j := 1) rfl
      have z1 := K5.out.1.cells.frozen 1
      have K6 := hid K5.out.1.drop
      go_wp2_with fail
      go_end0
      rw [HL2.out]
      exact ⟨rfl, _, _, K6.out.1, K5.out.2.trans K6.out.2⟩
  · have d1 : (((ww - 1 : Nat) : Int) == 0) = false := by simp; omega
    have d1' : (ww - 1 == 0) = false := by simp; omega
    obtain ⟨w1, hw1⟩ : ∃ w1, ww - 1 = w1 := ⟨_, rfl⟩
    have HL2 : Hid (litR R c = { R with hv := R.hv ++ [c], wait := w1 }) := hid (by rw [HLT.out, if_neg h1, hw1])
    rw [hw1] at x5 K d1 d1'
    clear h1 HLT hw1
    go_wp2_with fail
    go_end0
    rw [HL2.out]
    exact ⟨rfl, _, _, K.out.1, K.out.2⟩
end Go.Proofs.Ytlddhgnecfgnkaa
