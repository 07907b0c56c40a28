/-
  The document's disk: Flush, Cut. A part of the proof: see the head of the text that ends in 'Law'.
-/
import Derived.Test.YtkadehdbnkinlaaDk27
namespace Go.Proofs.Ytkadehdbnkinlaa
open Go.RowKit
set_option linter.unusedVariables false
set_option linter.unusedSimpArgs false
attribute [local go_sem] Oper.semAt_some

theorem set_map_SV (h : List (List UInt8)) (a : Nat) (s : List UInt8) : (h.map SV).set a (SV s) = (h.set a s).map SV := by rw [List.map_set]
/-- A sector is written. -/
theorem RfAt.store {W : World} {b0 m gH cH : Nat} {VL : Value} {D : Dsk} (h : RfAt W b0 m (.slice (some ⟨gH, 0, none⟩) D.has.length cH) VL D) (a : Nat) (s : List UInt8) :
    RfAt (W.setCell ⟨gH, a, none⟩ (SV s)) b0 m (.slice (some ⟨gH, 0, none⟩) D.has.length cH) VL { D with has := D.has.set a s } ∧ Only (RMine m (.slice (some ⟨gH, 0, none⟩) D.has.length cH) VL) W (W.setCell ⟨gH, a, none⟩ (SV s)) := by
  have hne : m ≠ gH := fun e => h.mh (by rw [e]; rfl)
  have hst := (h.hs.stored a (SV s)).1
  rw [set_map_SV] at hst
  refine ⟨⟨h.m0, h.cells.far hne _, ?_, row_far h.ls (h.hl gH rfl) _, ?_, ?_, h.bd⟩, Only.of_set W ⟨gH, a, none⟩ _ (.inr (.inl rfl))⟩
  · show (W.setCell ⟨gH, a, none⟩ (SV s)).ownsRow b0 9 1 _ (D.has.set a s).length ((D.has.set a s).map SV)
    rw [List.length_set]
    exact hst
  · intro p hp
    have := h.wl p hp
    show 0 ≤ p.1 ∧ p.1 < ((D.has.set a s).length : Int)
    rw [List.length_set]
    exact this
  · show (D.has.set a s).length ≤ 2048
    rw [List.length_set]
    exact h.nb
theorem doneK_cut (hold : Nat → Bool) (ws : List Iss) (h : List (List UInt8)) (m : Nat) (hm : ∀ k, m ≤ k → hold k = false) : ∀ n, doneK hold ws h (m + n) = doneK hold ws h m
  | 0 => rfl
  | n + 1 => by rw [← Nat.add_assoc, doneK, if_neg (by rw [hm _ (by omega)]; decide)]; exact doneK_cut hold ws h m hm n
theorem RfAt.drew_ {W : World} {b0 m : Nat} {VH VL : Value} {D : Dsk} (h : RfAt W b0 m VH VL D) : RfAt W.drew b0 m VH VL D := ⟨h.m0, h.cells, h.hs, h.ls, h.wl, h.nb, h.bd⟩
theorem Only.drew_ {T : Nat → Prop} {W w' : World} (h : Only T W w') : Only T W w'.drew := h.trans (Only.of_below (drew_below w')) (fun g h => .inl h)
set_option maxRecDepth 100000 in
set_option maxHeartbeats 4000000 in
theorem rflush_any {w0 W : World} {m : Nat} {D0 : Dsk} (h : RSt w0 W m D0) (hs : w0.heap.size ≤ W.heap.size) (hw : D0.waits.length ≤ 100000) :
    Calls Try.prog 22 #[.pointer (some ⟨m, 0, none⟩)] W (RPost w0 W m (flushD D0).1 (.int .i64 ((flushD D0).2 : Int))) := by
  have HF := hid (rfails_any h hs)
  cases hon : onD D0 with
  | false =>
    have e2 : flushD D0 = (spendD D0, 10) := by unfold flushD; rw [hon]; rfl
    rw [e2]
    rw [hon] at HF
    clear h hs hw hon e2
    go_enter Try.func22, Try.ntmps22
    go_wp2_with (go_at_call 35; (with_reducible refine HF.out.mono ?_); rintro e w2 ⟨rfl, r2, l2⟩; have R2 := hid r2; have L2 := hid l2; clear r2 l2)
    go_ret
    exact ⟨rfl, R2.out, L2.out⟩
  | true =>
    have e2 : flushD D0 = ({ spendD D0 with has := doneK (fun _ => true) D0.waits D0.has D0.waits.length, waits := [] }, 0) := by unfold flushD; rw [if_pos hon]
    rw [hon] at HF
    have HE2 := hid e2
    have hw2 := (spend_has D0).2
    have hh2 := (spend_has D0).1
    obtain ⟨D, hD⟩ : ∃ D, spendD D0 = D := ⟨_, rfl⟩
    rw [hD] at hw2 hh2 HF HE2
    rw [← hw2, ← hh2] at HE2
    rw [← hw2] at hw
    clear hw2 hh2 hD h hon e2
    obtain ⟨hold, hho⟩ : ∃ hold : Nat → Bool, (fun _ => true) = hold := ⟨_, rfl⟩
    rw [hho] at HE2
    have hhold : ∀ j, hold j = true := fun j => by rw [← hho]
    have HHO := hid hhold
    clear hho hhold
    rw [HE2.out]
    go_enter Try.func22, Try.ntmps22
    go_wp2_with (go_at_call 35; (with_reducible refine HF.out.mono ?_); rintro e w2 ⟨rfl, r2, l2⟩; have R2 := hid r2; have L2 := hid l2; clear r2 l2)
    obtain ⟨VH, VL, hr⟩ := R2.out
    have x1 := hr.cells.cell (j := 1) rfl
    obtain ⟨AH, cH, rfl, hAH⟩ := own_slice hr.hs
    obtain ⟨AL, cL, rfl, hAL⟩ := own_slice hr.ls
    have H := hid hr
    obtain ⟨nh, hnh⟩ : ∃ n, D.has.length = n := ⟨_, rfl⟩
    obtain ⟨nw, hnw⟩ : ∃ n, D.waits.length = n := ⟨_, rfl⟩
    have HNH := hid hnh
    have HNW := hid hnw
    rw [hnh] at hAH
    rw [hnw] at x1 hw hAL
    rw [hnw, hnh] at H
    have HAH := hid hAH
    have HAL := hid hAL
    clear hr hnh hnw hAH hAL
    go_loopw [3] (fun k wr => ∃ j : Nat, j ≤ nw ∧ k = .int .i64 (j : Int) ∧ Hid (RfAt wr w0.heap.size m (.slice AH (doneK hold D.waits D.has j).length cH) (.slice AL D.waits.length cL) { D with has := doneK hold D.waits D.has j } ∧ Only (RMine m (.slice AH nh cH) (.slice AL nw cL)) w2 wr)) (fun k wr => nw - (intOf k).toNat)
    case atStart => exact ⟨0, by omega, rfl, hid ⟨by have := H.out; rw [← HNH.out, ← HNW.out] at this; exact this, Only.refl _ _⟩⟩
    case round =>
      obtain ⟨j, hj, rfl, hI⟩ := hrel
      clear x1
      by_cases hlt : j < nw
      · have d5 : decide ((j : Int) < (nw : Int)) = true := by simp; omega
        have d5' : decide (j < nw) = true := by simp; omega
        have hhold := HHO.out j
        have hjl : j < D.waits.length := by rw [HNW.out]; omega
        have hwl := H.out.wl _ (List.getElem_mem hjl)
        obtain ⟨gL, rfl⟩ := HAL.out (by omega)
        obtain ⟨gH, rfl⟩ := HAH.out (by have := HNH.out; omega)
        have r := hI.out.1
        have c0 := (RfAt.wcell (D := { D with has := doneK hold D.waits D.has j }) r j hjl).1
        have c1 := (RfAt.wcell (D := { D with has := doneK hold D.waits D.has j }) r j hjl).2
        (try dsimp only at c0 c1)
        have x0 := r.cells.cell (j := 0) rfl
        have x1 := r.cells.cell (j := 1) rfl
        have hgd : D.waits.getD j (0, []) = D.waits[j]'hjl := by rw [List.getD_eq_getElem?_getD, List.getElem?_eq_getElem hjl, Option.getD_some]
        obtain ⟨q, hq⟩ : ∃ q, D.waits[j]'hjl = q := ⟨_, rfl⟩
        rw [hq] at c0 c1 hwl hgd
        obtain ⟨a, haq⟩ : ∃ a : Nat, q.1 = (a : Int) := ⟨q.1.toNat, by omega⟩
        rw [haq] at c0 hwl
        have hal : a < D.has.length := by omega
        have rl : (doneK hold D.waits D.has j).length = D.has.length := doneK_len _ _ _ _
        have hne : gH ≠ m := fun e => r.mh (by rw [← e]; rfl)
        have hne2 : gH ≠ gL := fun e => r.hl gH rfl (by rw [← e]; rfl)
        have hfz : wr.frozen? ⟨gH, a, none⟩ = false := by
          obtain ⟨cur, hcur⟩ := own_type r.hs gH rfl
          exact frozen_of_row wr gH a cur _ hcur
        have hce : ∃ u, wr.cell? ⟨gH, a, none⟩ = some u := by
          have := r.hs.cellAt a (by show a < (doneK hold D.waits D.has j).length * 1; rw [rl]; omega)
          exact ⟨_, this.trans (List.getElem?_eq_getElem (by rw [List.length_map]; show a < (doneK hold D.waits D.has j).length; rw [rl]; exact hal))⟩
        obtain ⟨uo, hce⟩ := hce
        have hst := RfAt.store (D := { D with has := doneK hold D.waits D.has j }) r a q.2
        have hdk : doneK hold D.waits D.has (j + 1) = (doneK hold D.waits D.has j).set a q.2 := by rw [doneK, if_pos hhold, hgd, haq]; rfl
        (try dsimp only at hst x0 x1)
        rw [rl] at hst x0
        rw [← hdk] at hst
        rw [HNW.out] at x1
        rw [HNH.out] at x0 hst hal
        have rl2 : (doneK hold D.waits D.has (j + 1)).length = nh := by rw [doneK_len]; exact HNH.out
        have hst1 := hst.1.drew_
        have hst2 := hst.2.drew_
        rw [← rl2] at hst1
        rw [HNW.out] at hst2
        have HST := hid (And.intro hst1 hst2)
        clear hst1 hst2 rl2
        unfold SV at c1 HST
        have i0 : (0 : Int) ≤ (j : Int) := by omega
        have i1 : (j : Int) < (nw : Int) := by omega
        have i2 : (j : Int).toNat = j := by omega
        have i3 : (0 : Int) ≤ (a : Int) := by omega
        have i4 : (a : Int) < (nh : Int) := by omega
        have i5 : (a : Int).toNat = a := by omega
        have hS0 : ∀ X : World, (X.cell? ⟨m, 0, none⟩ = some (.slice (some ⟨gH, 0, none⟩) nh cH) ∧ X.cell? ⟨m, 1, none⟩ = some (.slice (some ⟨gL, 0, none⟩) nw cL) ∧ X.cell? ⟨gL, j * 2, none⟩ = some (.int .i64 (a : Int)) ∧ X.cell? ⟨gL, j * 2 + 1, none⟩ = some (.string (str q.2))) → ((X.setCell ⟨gH, a, none⟩ (.string (str q.2))).drew.cell? ⟨m, 0, none⟩ = some (.slice (some ⟨gH, 0, none⟩) nh cH) ∧ (X.setCell ⟨gH, a, none⟩ (.string (str q.2))).drew.cell? ⟨m, 1, none⟩ = some (.slice (some ⟨gL, 0, none⟩) nw cL) ∧ (X.setCell ⟨gH, a, none⟩ (.string (str q.2))).drew.cell? ⟨gL, j * 2, none⟩ = some (.int .i64 (a : Int)) ∧ (X.setCell ⟨gH, a, none⟩ (.string (str q.2))).drew.cell? ⟨gL, j * 2 + 1, none⟩ = some (.string (str q.2))) := fun X hX => by
          refine ⟨?_, ?_, ?_, ?_⟩
          · show (X.setCell ⟨gH, a, none⟩ (.string (str q.2))).cell? _ = _
            rw [World.cell?_setCell_other _ _ _ _ (fun e => by injection e; omega)]; exact hX.1
          · show (X.setCell ⟨gH, a, none⟩ (.string (str q.2))).cell? _ = _
            rw [World.cell?_setCell_other _ _ _ _ (fun e => by injection e; omega)]; exact hX.2.1
          · show (X.setCell ⟨gH, a, none⟩ (.string (str q.2))).cell? _ = _
            rw [World.cell?_setCell_other _ _ _ _ (fun e => by injection e; omega)]; exact hX.2.2.1
          · show (X.setCell ⟨gH, a, none⟩ (.string (str q.2))).cell? _ = _
            rw [World.cell?_setCell_other _ _ _ _ (fun e => by injection e; omega)]; exact hX.2.2.2
        have hS1 := hS0 wr ⟨x0, x1, c0, c1⟩
        have hS : wr.drew.cell? ⟨m, 0, none⟩ = some (.slice (some ⟨gH, 0, none⟩) nh cH) ∧ wr.drew.cell? ⟨m, 1, none⟩ = some (.slice (some ⟨gL, 0, none⟩) nw cL) ∧ wr.drew.cell? ⟨gL, j * 2, none⟩ = some (.int .i64 (a : Int)) ∧ wr.drew.cell? ⟨gL, j * 2 + 1, none⟩ = some (.string (str q.2)) := ⟨x0, x1, c0, c1⟩
        have HI2 := hid hI.out.2
        clear hS0 hst hq hwl hgd haq hal rl hdk r hI c0 c1 x0 hjl
        go_upto_region 6 with fail
        refine wp_region_noPanic ?_
        refine wp_region_held_drew (S := (fun X => X.cell? ⟨m, 0, none⟩ = some (.slice (some ⟨gH, 0, none⟩) nh cH) ∧ X.cell? ⟨m, 1, none⟩ = some (.slice (some ⟨gL, 0, none⟩) nw cL) ∧ X.cell? ⟨gL, j * 2, none⟩ = some (.int .i64 (a : Int)) ∧ X.cell? ⟨gL, j * 2 + 1, none⟩ = some (.string (str q.2)))) (by kernel_rfl) (by first | assumption | trivial) (fun hHeld => ?_)
        refine wpAnyH_take (i := 0) (v := ?_) rfl (by kernel_rfl) (by kernel_rfl) (by kernel_rfl) (fun _ _ _ h => h) (Or.inl ⟨by kernel_rfl, ?_⟩) (by first | assumption | trivial) ?_
        rotate_left
        · (intro wS hSw; (try dsimp only at hSw); go_simp; try with_reducible rfl)
        (try simp only [List.append_eq, List.cons_append, List.nil_append, List.getElem_toArray, List.getElem_cons_succ, List.getElem_cons_zero, Act.put, List.setIfInBounds_toArray, List.set_cons_zero, List.set_cons_succ])
        refine wpAnyH_take (i := 1) (v := ?_) rfl (by kernel_rfl) (by kernel_rfl) (by kernel_rfl) (fun _ _ _ h => h) (Or.inl ⟨by kernel_rfl, ?_⟩) (by first | assumption | trivial) ?_
        rotate_left
        · (intro wS hSw; (try dsimp only at hSw); go_simp; try with_reducible rfl)
        (try simp only [List.append_eq, List.cons_append, List.nil_append, List.getElem_toArray, List.getElem_cons_succ, List.getElem_cons_zero, Act.put, List.setIfInBounds_toArray, List.set_cons_zero, List.set_cons_succ])
        refine wpAnyH_take (i := 2) (v := ?_) rfl (by kernel_rfl) (by kernel_rfl) (by kernel_rfl) (fun _ _ _ h => h) (Or.inl ⟨by kernel_rfl, ?_⟩) (by first | assumption | trivial) ?_
        rotate_left
        · (intro wS hSw; (try dsimp only at hSw); go_simp; try with_reducible rfl)
        (try simp only [List.append_eq, List.cons_append, List.nil_append, List.getElem_toArray, List.getElem_cons_succ, List.getElem_cons_zero, Act.put, List.setIfInBounds_toArray, List.set_cons_zero, List.set_cons_succ])
        refine wpAnyH_take (i := 3) (v := ?_) rfl (by kernel_rfl) (by kernel_rfl) (by kernel_rfl) (fun _ _ _ h => h) (Or.inl ⟨by kernel_rfl, ?_⟩) (by first | assumption | trivial) ?_
        rotate_left
        · (intro wS hSw; (try dsimp only at hSw); go_simp; try with_reducible rfl)
        (try simp only [List.append_eq, List.cons_append, List.nil_append, List.getElem_toArray, List.getElem_cons_succ, List.getElem_cons_zero, Act.put, List.setIfInBounds_toArray, List.set_cons_zero, List.set_cons_succ])
        refine wpAnyH_take (i := 4) (v := ?_) rfl (by kernel_rfl) (by kernel_rfl) (by kernel_rfl) (fun _ _ _ h => h) (Or.inl ⟨by kernel_rfl, ?_⟩) (by first | assumption | trivial) ?_
        rotate_left
        · (intro wS hSw; (try dsimp only at hSw); go_simp; try with_reducible rfl)
        (try simp only [List.append_eq, List.cons_append, List.nil_append, List.getElem_toArray, List.getElem_cons_succ, List.getElem_cons_zero, Act.put, List.setIfInBounds_toArray, List.set_cons_zero, List.set_cons_succ])
        refine wpAnyH_take (i := 5) (v := ?_) rfl (by kernel_rfl) (by kernel_rfl) (by kernel_rfl) (fun _ _ _ h => h) (Or.inl ⟨by kernel_rfl, ?_⟩) (by first | assumption | trivial) ?_
        rotate_left
        · (intro wS hSw; (try dsimp only at hSw); go_simp; try with_reducible rfl)
        (try simp only [List.append_eq, List.cons_append, List.nil_append, List.getElem_toArray, List.getElem_cons_succ, List.getElem_cons_zero, Act.put, List.setIfInBounds_toArray, List.set_cons_zero, List.set_cons_succ])
        refine wpAnyH_take (i := 6) (v := ?_) rfl (by kernel_rfl) (by kernel_rfl) (by kernel_rfl) (fun _ _ _ h => h) (Or.inl ⟨by kernel_rfl, ?_⟩) (by first | assumption | trivial) ?_
        rotate_left
        · (intro wS hSw; (try dsimp only at hSw); go_simp; try with_reducible rfl)
        (try simp only [List.append_eq, List.cons_append, List.nil_append, List.getElem_toArray, List.getElem_cons_succ, List.getElem_cons_zero, Act.put, List.setIfInBounds_toArray, List.set_cons_zero, List.set_cons_succ])
        refine wpAnyH_take (i := 7) (v := ?_) rfl (by kernel_rfl) (by kernel_rfl) (by kernel_rfl) (fun _ _ _ h => h) (Or.inl ⟨by kernel_rfl, ?_⟩) (by first | assumption | trivial) ?_
        rotate_left
        · (intro wS hSw; (try dsimp only at hSw); go_simp; try with_reducible rfl)
        (try simp only [List.append_eq, List.cons_append, List.nil_append, List.getElem_toArray, List.getElem_cons_succ, List.getElem_cons_zero, Act.put, List.setIfInBounds_toArray, List.set_cons_zero, List.set_cons_succ])
        refine wpAnyH_take (i := 8) (v := ?_) rfl (by kernel_rfl) (by kernel_rfl) (by kernel_rfl) (fun _ _ _ h => h) (Or.inl ⟨by kernel_rfl, ?_⟩) (by first | assumption | trivial) ?_
        rotate_left
        · (intro wS hSw; (try dsimp only at hSw); go_simp; try with_reducible rfl)
        (try simp only [List.append_eq, List.cons_append, List.nil_append, List.getElem_toArray, List.getElem_cons_succ, List.getElem_cons_zero, Act.put, List.setIfInBounds_toArray, List.set_cons_zero, List.set_cons_succ])
        refine wpAnyH_take (i := 9) (v := ?_) rfl (by kernel_rfl) (by kernel_rfl) (by kernel_rfl) (fun _ _ _ h => h) (Or.inl ⟨by kernel_rfl, ?_⟩) (by first | assumption | trivial) ?_
        rotate_left
        · (intro wS hSw; (try dsimp only at hSw); go_simp; try with_reducible rfl)
        (try simp only [List.append_eq, List.cons_append, List.nil_append, List.getElem_toArray, List.getElem_cons_succ, List.getElem_cons_zero, Act.put, List.setIfInBounds_toArray, List.set_cons_zero, List.set_cons_succ])
        refine wpAnyH_take (i := 10) (v := ?_) rfl (by kernel_rfl) (by kernel_rfl) (by kernel_rfl) (fun _ _ _ h => h) (Or.inl ⟨by kernel_rfl, ?_⟩) (by first | assumption | trivial) ?_
        rotate_left
        · (intro wS hSw; (try dsimp only at hSw); go_simp; try with_reducible rfl)
        (try simp only [List.append_eq, List.cons_append, List.nil_append, List.getElem_toArray, List.getElem_cons_succ, List.getElem_cons_zero, Act.put, List.setIfInBounds_toArray, List.set_cons_zero, List.set_cons_succ])
        refine wpAnyH_take (i := 11) (v := ?_) rfl (by kernel_rfl) (by kernel_rfl) (by kernel_rfl) (fun _ _ _ h => h) (Or.inl ⟨by kernel_rfl, ?_⟩) (by first | assumption | trivial) ?_
        rotate_left
        · (intro wS hSw; (try dsimp only at hSw); go_simp; try with_reducible rfl)
        (try simp only [List.append_eq, List.cons_append, List.nil_append, List.getElem_toArray, List.getElem_cons_succ, List.getElem_cons_zero, Act.put, List.setIfInBounds_toArray, List.set_cons_zero, List.set_cons_succ])
        refine wpAnyH_take (i := 12) (v := ?_) rfl (by kernel_rfl) (by kernel_rfl) (by kernel_rfl) (fun _ _ _ h => h) (Or.inl ⟨by kernel_rfl, ?_⟩) (by first | assumption | trivial) ?_
        rotate_left
        · (intro wS hSw; (try dsimp only at hSw); go_simp; try with_reducible rfl)
        (try simp only [List.append_eq, List.cons_append, List.nil_append, List.getElem_toArray, List.getElem_cons_succ, List.getElem_cons_zero, Act.put, List.setIfInBounds_toArray, List.set_cons_zero, List.set_cons_succ])
        refine wpAnyH_take (i := 13) (v := ?_) rfl (by kernel_rfl) (by kernel_rfl) (by kernel_rfl) (fun _ _ _ h => h) (Or.inl ⟨by kernel_rfl, ?_⟩) (by first | assumption | trivial) ?_
        rotate_left
        · (intro wS hSw; (try dsimp only at hSw); go_simp; try with_reducible rfl)
        (try simp only [List.append_eq, List.cons_append, List.nil_append, List.getElem_toArray, List.getElem_cons_succ, List.getElem_cons_zero, Act.put, List.setIfInBounds_toArray, List.set_cons_zero, List.set_cons_succ])
        refine wpAnyH_take (i := 14) (v := ?_) rfl (by kernel_rfl) (by kernel_rfl) (by kernel_rfl) (fun _ _ _ h => h) (Or.inl ⟨by kernel_rfl, ?_⟩) (by first | assumption | trivial) ?_
        rotate_left
        · (intro wS hSw; (try dsimp only at hSw); go_simp; try with_reducible rfl)
        (try simp only [List.append_eq, List.cons_append, List.nil_append, List.getElem_toArray, List.getElem_cons_succ, List.getElem_cons_zero, Act.put, List.setIfInBounds_toArray, List.set_cons_zero, List.set_cons_succ])
        refine wpAnyH_take (i := 15) (v := ?_) rfl (by kernel_rfl) (by kernel_rfl) (by kernel_rfl) (fun _ _ _ h => h) (Or.inl ⟨by kernel_rfl, ?_⟩) (by first | assumption | trivial) ?_
        rotate_left
        · (intro wS hSw; (try dsimp only at hSw); go_simp; try with_reducible rfl)
        (try simp only [List.append_eq, List.cons_append, List.nil_append, List.getElem_toArray, List.getElem_cons_succ, List.getElem_cons_zero, Act.put, List.setIfInBounds_toArray, List.set_cons_zero, List.set_cons_succ])
        refine wpAnyH_take (i := 16) (v := ?_) rfl (by kernel_rfl) (by kernel_rfl) (by kernel_rfl) (fun _ _ _ h => h) (Or.inl ⟨by kernel_rfl, ?_⟩) (by first | assumption | trivial) ?_
        rotate_left
        · (intro wS hSw; (try dsimp only at hSw); go_simp; try with_reducible rfl)
        (try simp only [List.append_eq, List.cons_append, List.nil_append, List.getElem_toArray, List.getElem_cons_succ, List.getElem_cons_zero, Act.put, List.setIfInBounds_toArray, List.set_cons_zero, List.set_cons_succ])
        refine wpAnyH_take (i := 17) (v := ?_) rfl (by kernel_rfl) (by kernel_rfl) (by kernel_rfl) (fun _ _ _ h => h) (Or.inl ⟨by kernel_rfl, ?_⟩) (by first | assumption | trivial) ?_
        rotate_left
        · (intro wS hSw; (try dsimp only at hSw); go_simp; try with_reducible rfl)
        (try simp only [List.append_eq, List.cons_append, List.nil_append, List.getElem_toArray, List.getElem_cons_succ, List.getElem_cons_zero, Act.put, List.setIfInBounds_toArray, List.set_cons_zero, List.set_cons_succ])
        refine wpAnyH_take (i := 18) (v := ?_) rfl (by kernel_rfl) (by kernel_rfl) (by kernel_rfl) (fun _ _ _ h => h) (Or.inl ⟨by kernel_rfl, ?_⟩) (by first | assumption | trivial) ?_
        rotate_left
        · (intro wS hSw; (try dsimp only at hSw); go_simp; try with_reducible rfl)
        (try simp only [List.append_eq, List.cons_append, List.nil_append, List.getElem_toArray, List.getElem_cons_succ, List.getElem_cons_zero, Act.put, List.setIfInBounds_toArray, List.set_cons_zero, List.set_cons_succ])
        refine wpAnyH_take (i := 19) (v := ?_) rfl (by kernel_rfl) (by kernel_rfl) (by kernel_rfl) (fun _ _ _ h => h) (Or.inl ⟨by kernel_rfl, ?_⟩) (by first | assumption | trivial) ?_
        rotate_left
        · (intro wS hSw; (try dsimp only at hSw); go_simp; try with_reducible rfl)
        (try simp only [List.append_eq, List.cons_append, List.nil_append, List.getElem_toArray, List.getElem_cons_succ, List.getElem_cons_zero, Act.put, List.setIfInBounds_toArray, List.set_cons_zero, List.set_cons_succ])
        refine wpAnyH_take (i := 20) (v := ?_) rfl (by kernel_rfl) (by kernel_rfl) (by kernel_rfl) (fun _ _ _ h => h) (Or.inl ⟨by kernel_rfl, ?_⟩) (by first | assumption | trivial) ?_
        rotate_left
        · (intro wS hSw; (try dsimp only at hSw); go_simp; try with_reducible rfl)
        (try simp only [List.append_eq, List.cons_append, List.nil_append, List.getElem_toArray, List.getElem_cons_succ, List.getElem_cons_zero, Act.put, List.setIfInBounds_toArray, List.set_cons_zero, List.set_cons_succ])
        refine wpAnyH_ready (rs := [21]) (by kernel_rfl) (by simp) ?_
        refine AllReadyH.cons rfl (fun K hK => ?_) AllReadyH.nil
        go_simp
        skip
        go_wp2_with fail
        refine hK.out _ _ (by first | assumption | trivial) (fun hHeld => ?_)
        clear hK K
        (try simp only [List.append_eq, List.cons_append, List.nil_append, List.getElem_toArray, List.getElem_cons_succ, List.getElem_cons_zero, Act.put, List.setIfInBounds_toArray, List.set_cons_zero, List.set_cons_succ])
        refine wpAnyH_done (by kernel_rfl) ?_ _
        refine NoPanic.normal ?_
        go_wp2_with fail
        go_roundw
        case rel => exact ⟨j + 1, by omega, by go_num, hid ⟨HST.out.1, HI2.out.trans HST.out.2 (fun g h => .inl h)⟩⟩
        case measure => simp [intOf]; omega
      · have d5 : decide ((j : Int) < (nw : Int)) = false := by simp; omega
        have d5' : decide (j < nw) = false := by simp; omega
        have hjn : j = D.waits.length := by rw [HNW.out]; omega
        have r := hI.out.1
        have y1 := r.cells.cell (j := 1) rfl
        have z1 := r.cells.frozen 1
        have r2 := r.wait_nil
        have hs2 : w0.heap.size ≤ w2.heap.size := Nat.le_trans hs L2.out.bel.size
        have hl2 := RLets.of_only H.out (hI.out.2.trans (Only.of_set (T := RMine m (.slice AH nh cH) (.slice AL nw cL)) wr ⟨m, 1, none⟩ (.slice none 0 0) rm_m) (fun g h => .inl h)) hs2
        rw [hjn] at r2
        have HR2 := hid r2
        have HL2 := hid hl2
        rw [HNW.out] at y1
        clear r r2 hl2 hI hjn hs2
        go_wp2
        go_ret
        exact ⟨rfl, ⟨_, _, HR2.out⟩, L2.out.trans HL2.out⟩
set_option maxRecDepth 100000 in
set_option maxHeartbeats 4000000 in
theorem rcut_any {w0 W : World} {m : Nat} {D : Dsk} (h : RSt w0 W m D) (hb0 : Below w0.heap.size w0 W) (hw : D.waits.length ≤ 100000) (KA : Option Addr) (kn kc : Nat) (ks : List Bool) (hkn : ks.length = kn) (hr0 : Row w0 KA (ks.map boolV)) :
    Calls Try.prog 23 #[.pointer (some ⟨m, 0, none⟩), .slice KA kn kc] W (RPost w0 W m (cutD D ks) (.tuple #[])) := by
  obtain ⟨VH, VL, hr⟩ := h
  have hs := hb0.size
  obtain ⟨AH, cH, rfl, hAH⟩ := own_slice hr.hs
  obtain ⟨AL, cL, rfl, hAL⟩ := own_slice hr.ls
  have H := hid hr
  obtain ⟨hold, hho⟩ : ∃ hold : Nat → Bool, (fun k => ks.getD k false) = hold := ⟨_, rfl⟩
  have hcd : cutD D ks = { D with has := doneK hold D.waits D.has D.waits.length, waits := [], off := true } := by rw [← hho]; rfl
  have HCD := hid hcd
  have hhk : ∀ k, kn ≤ k → hold k = false := fun k hk => by rw [← hho]; show ks.getD k false = false; rw [List.getD_eq_getElem?_getD, List.getElem?_eq_none (by omega), Option.getD_none]
  have HHK := hid hhk
  have HHO := hid hho
  obtain ⟨nh, hnh⟩ : ∃ n, D.has.length = n := ⟨_, rfl⟩
  obtain ⟨nw, hnw⟩ : ∃ n, D.waits.length = n := ⟨_, rfl⟩
  have HNH := hid hnh
  have HNW := hid hnw
  rw [hnh] at hAH
  rw [hnw] at hw hAL
  rw [hnw, hnh] at H
  have HAH := hid hAH
  have HAL := hid hAL
  have HB0 := hid hb0
  clear hr hnh hnw hAH hAL hho hhk hcd hb0
  rw [HCD.out]
  obtain ⟨w2, hw2⟩ : ∃ w2, W = w2 := ⟨_, rfl⟩
  rw [hw2] at H ⊢
  have HW2 := hid hw2
  clear hw2
  go_enter Try.func23, Try.ntmps23
  go_wp2_with fail
  go_loopw [4] (fun k wr => ∃ j : Nat, j ≤ nw ∧ j ≤ kn ∧ k = .int .i64 (j : Int) ∧ Hid (RfAt wr w0.heap.size m (.slice AH (doneK hold D.waits D.has j).length cH) (.slice AL D.waits.length cL) { D with has := doneK hold D.waits D.has j } ∧ Only (RMine m (.slice AH nh cH) (.slice AL nw cL)) w2 wr)) (fun k wr => nw - (intOf k).toNat)
  case atStart => exact ⟨0, by omega, by omega, rfl, hid ⟨by have := H.out; rw [← HNH.out, ← HNW.out] at this; exact this, Only.refl _ _⟩⟩
  case round =>
    obtain ⟨j, hj, hjk, rfl, hI⟩ := hrel
    have x1 := hI.out.1.cells.cell (j := 1) rfl
    (try dsimp only at x1)
    rw [HNW.out] at x1
    by_cases hlt : j < nw ∧ j < kn
    · have d5 : decide ((j : Int) < (nw : Int)) = true := by simp; omega
      have d5' : decide (j < nw) = true := by simp; omega
      have d6 : decide ((j : Int) < (kn : Int)) = true := by simp; omega
      have d6' : decide (j < kn) = true := by simp; omega
      have k0 : (0 : Int) ≤ (j : Int) := by omega
      have k1 : (j : Int) < (kn : Int) := by omega
      have k2 : (j : Int).toNat = j := by omega
      have hjks : j < ks.length := by rw [hkn]; exact hlt.2
      obtain ⟨bk, ok, rfl, hck⟩ := hr0 (by intro e; have := congrArg List.length e; rw [List.length_map] at this; simp at this; rw [this] at hjks; simp at hjks)
      have xk := hck j _ (by rw [List.getElem?_map, List.getElem?_eq_getElem hjks]; rfl)
      have hhold0 : ks[j]'hjks = hold j := by rw [← HHO.out]; show _ = ks.getD j false; rw [List.getD_eq_getElem?_getD, List.getElem?_eq_getElem hjks, Option.getD_some]
      rw [hhold0] at xk
      have hbw : Below w0.heap.size w0 wr := (HW2.out ▸ HB0.out : Below w0.heap.size w0 w2).trans (hI.out.2.below (HW2.out ▸ hs) (fun g hg => (H.out.mine g hg).1))
      have xk := cells_keep hbw xk
      unfold boolV at xk
      clear hck hjks hhold0 hbw
      cases hv : hold j with
      | true =>
        rw [hv] at xk
        have hhold := hv
        clear x1
        have hjl : j < D.waits.length := by rw [HNW.out]; omega
        have hwl := H.out.wl _ (List.getElem_mem hjl)
        obtain ⟨gL, rfl⟩ := HAL.out (by omega)
        obtain ⟨gH, rfl⟩ := HAH.out (by have := HNH.out; omega)
        have r := hI.out.1
        have c0 := (RfAt.wcell (D := { D with has := doneK hold D.waits D.has j }) r j hjl).1
        have c1 := (RfAt.wcell (D := { D with has := doneK hold D.waits D.has j }) r j hjl).2
        (try dsimp only at c0 c1)
        have x0 := r.cells.cell (j := 0) rfl
        have x1 := r.cells.cell (j := 1) rfl
        have hgd : D.waits.getD j (0, []) = D.waits[j]'hjl := by rw [List.getD_eq_getElem?_getD, List.getElem?_eq_getElem hjl, Option.getD_some]
        obtain ⟨q, hq⟩ : ∃ q, D.waits[j]'hjl = q := ⟨_, rfl⟩
        rw [hq] at c0 c1 hwl hgd
        obtain ⟨a, haq⟩ : ∃ a : Nat, q.1 = (a : Int) := ⟨q.1.toNat, by omega⟩
        rw [haq] at c0 hwl
        have hal : a < D.has.length := by omega
        have rl : (doneK hold D.waits D.has j).length = D.has.length := doneK_len _ _ _ _
        have hne : gH ≠ m := fun e => r.mh (by rw [← e]; rfl)
        have hne2 : gH ≠ gL := fun e => r.hl gH rfl (by rw [← e]; rfl)
        have hfz : wr.frozen? ⟨gH, a, none⟩ = false := by
          obtain ⟨cur, hcur⟩ := own_type r.hs gH rfl
          exact frozen_of_row wr gH a cur _ hcur
        have hce : ∃ u, wr.cell? ⟨gH, a, none⟩ = some u := by
          have := r.hs.cellAt a (by show a < (doneK hold D.waits D.has j).length * 1; rw [rl]; omega)
          exact ⟨_, this.trans (List.getElem?_eq_getElem (by rw [List.length_map]; show a < (doneK hold D.waits D.has j).length; rw [rl]; exact hal))⟩
        obtain ⟨uo, hce⟩ := hce
        have hst := RfAt.store (D := { D with has := doneK hold D.waits D.has j }) r a q.2
        have hdk : doneK hold D.waits D.has (j + 1) = (doneK hold D.waits D.has j).set a q.2 := by rw [doneK, if_pos hhold, hgd, haq]; rfl
        (try dsimp only at hst x0 x1)
        rw [rl] at hst x0
        rw [← hdk] at hst
        rw [HNW.out] at x1
        rw [HNH.out] at x0 hst hal
        have rl2 : (doneK hold D.waits D.has (j + 1)).length = nh := by rw [doneK_len]; exact HNH.out
        have hst1 := hst.1.drew_
        have hst2 := hst.2.drew_
        rw [← rl2] at hst1
        rw [HNW.out] at hst2
        have HST := hid (And.intro hst1 hst2)
        clear hst1 hst2 rl2
        unfold SV at c1 HST
        have i0 : (0 : Int) ≤ (j : Int) := by omega
        have i1 : (j : Int) < (nw : Int) := by omega
        have i2 : (j : Int).toNat = j := by omega
        have i3 : (0 : Int) ≤ (a : Int) := by omega
        have i4 : (a : Int) < (nh : Int) := by omega
        have i5 : (a : Int).toNat = a := by omega
        have hS0 : ∀ X : World, (X.cell? ⟨m, 0, none⟩ = some (.slice (some ⟨gH, 0, none⟩) nh cH) ∧ X.cell? ⟨m, 1, none⟩ = some (.slice (some ⟨gL, 0, none⟩) nw cL) ∧ X.cell? ⟨gL, j * 2, none⟩ = some (.int .i64 (a : Int)) ∧ X.cell? ⟨gL, j * 2 + 1, none⟩ = some (.string (str q.2))) → ((X.setCell ⟨gH, a, none⟩ (.string (str q.2))).drew.cell? ⟨m, 0, none⟩ = some (.slice (some ⟨gH, 0, none⟩) nh cH) ∧ (X.setCell ⟨gH, a, none⟩ (.string (str q.2))).drew.cell? ⟨m, 1, none⟩ = some (.slice (some ⟨gL, 0, none⟩) nw cL) ∧ (X.setCell ⟨gH, a, none⟩ (.string (str q.2))).drew.cell? ⟨gL, j * 2, none⟩ = some (.int .i64 (a : Int)) ∧ (X.setCell ⟨gH, a, none⟩ (.string (str q.2))).drew.cell? ⟨gL, j * 2 + 1, none⟩ = some (.string (str q.2))) := fun X hX => by
          refine ⟨?_, ?_, ?_, ?_⟩
          · show (X.setCell ⟨gH, a, none⟩ (.string (str q.2))).cell? _ = _
            rw [World.cell?_setCell_other _ _ _ _ (fun e => by injection e; omega)]; exact hX.1
          · show (X.setCell ⟨gH, a, none⟩ (.string (str q.2))).cell? _ = _
            rw [World.cell?_setCell_other _ _ _ _ (fun e => by injection e; omega)]; exact hX.2.1
          · show (X.setCell ⟨gH, a, none⟩ (.string (str q.2))).cell? _ = _
            rw [World.cell?_setCell_other _ _ _ _ (fun e => by injection e; omega)]; exact hX.2.2.1
          · show (X.setCell ⟨gH, a, none⟩ (.string (str q.2))).cell? _ = _
            rw [World.cell?_setCell_other _ _ _ _ (fun e => by injection e; omega)]; exact hX.2.2.2
        have hS1 := hS0 wr ⟨x0, x1, c0, c1⟩
        have hS : wr.drew.cell? ⟨m, 0, none⟩ = some (.slice (some ⟨gH, 0, none⟩) nh cH) ∧ wr.drew.cell? ⟨m, 1, none⟩ = some (.slice (some ⟨gL, 0, none⟩) nw cL) ∧ wr.drew.cell? ⟨gL, j * 2, none⟩ = some (.int .i64 (a : Int)) ∧ wr.drew.cell? ⟨gL, j * 2 + 1, none⟩ = some (.string (str q.2)) := ⟨x0, x1, c0, c1⟩
        have HI2 := hid hI.out.2
        clear hS0 hst hq hwl hgd haq hal rl hdk r hI c0 c1 x0 hjl
        clear hv
        go_upto_region 4 with fail
        refine wp_region_noPanic ?_
        refine wp_region_held_drew (S := (fun X => X.cell? ⟨m, 0, none⟩ = some (.slice (some ⟨gH, 0, none⟩) nh cH) ∧ X.cell? ⟨m, 1, none⟩ = some (.slice (some ⟨gL, 0, none⟩) nw cL) ∧ X.cell? ⟨gL, j * 2, none⟩ = some (.int .i64 (a : Int)) ∧ X.cell? ⟨gL, j * 2 + 1, none⟩ = some (.string (str q.2)))) (by kernel_rfl) (by first | assumption | trivial) (fun hHeld => ?_)
        refine wpAnyH_take (i := 0) (v := ?_) rfl (by kernel_rfl) (by kernel_rfl) (by kernel_rfl) (fun _ _ _ h => h) (Or.inl ⟨by kernel_rfl, ?_⟩) (by first | assumption | trivial) ?_
        rotate_left
        · (intro wS hSw; (try dsimp only at hSw); go_simp; try with_reducible rfl)
        (try simp only [List.append_eq, List.cons_append, List.nil_append, List.getElem_toArray, List.getElem_cons_succ, List.getElem_cons_zero, Act.put, List.setIfInBounds_toArray, List.set_cons_zero, List.set_cons_succ])
        refine wpAnyH_take (i := 1) (v := ?_) rfl (by kernel_rfl) (by kernel_rfl) (by kernel_rfl) (fun _ _ _ h => h) (Or.inl ⟨by kernel_rfl, ?_⟩) (by first | assumption | trivial) ?_
        rotate_left
        · (intro wS hSw; (try dsimp only at hSw); go_simp; try with_reducible rfl)
        (try simp only [List.append_eq, List.cons_append, List.nil_append, List.getElem_toArray, List.getElem_cons_succ, List.getElem_cons_zero, Act.put, List.setIfInBounds_toArray, List.set_cons_zero, List.set_cons_succ])
        refine wpAnyH_take (i := 2) (v := ?_) rfl (by kernel_rfl) (by kernel_rfl) (by kernel_rfl) (fun _ _ _ h => h) (Or.inl ⟨by kernel_rfl, ?_⟩) (by first | assumption | trivial) ?_
        rotate_left
        · (intro wS hSw; (try dsimp only at hSw); go_simp; try with_reducible rfl)
        (try simp only [List.append_eq, List.cons_append, List.nil_append, List.getElem_toArray, List.getElem_cons_succ, List.getElem_cons_zero, Act.put, List.setIfInBounds_toArray, List.set_cons_zero, List.set_cons_succ])
        refine wpAnyH_take (i := 3) (v := ?_) rfl (by kernel_rfl) (by kernel_rfl) (by kernel_rfl) (fun _ _ _ h => h) (Or.inl ⟨by kernel_rfl, ?_⟩) (by first | assumption | trivial) ?_
        rotate_left
        · (intro wS hSw; (try dsimp only at hSw); go_simp; try with_reducible rfl)
        (try simp only [List.append_eq, List.cons_append, List.nil_append, List.getElem_toArray, List.getElem_cons_succ, List.getElem_cons_zero, Act.put, List.setIfInBounds_toArray, List.set_cons_zero, List.set_cons_succ])
        refine wpAnyH_take (i := 4) (v := ?_) rfl (by kernel_rfl) (by kernel_rfl) (by kernel_rfl) (fun _ _ _ h => h) (Or.inl ⟨by kernel_rfl, ?_⟩) (by first | assumption | trivial) ?_
        rotate_left
        · (intro wS hSw; (try dsimp only at hSw); go_simp; try with_reducible rfl)
        (try simp only [List.append_eq, List.cons_append, List.nil_append, List.getElem_toArray, List.getElem_cons_succ, List.getElem_cons_zero, Act.put, List.setIfInBounds_toArray, List.set_cons_zero, List.set_cons_succ])
        refine wpAnyH_take (i := 5) (v := ?_) rfl (by kernel_rfl) (by kernel_rfl) (by kernel_rfl) (fun _ _ _ h => h) (Or.inl ⟨by kernel_rfl, ?_⟩) (by first | assumption | trivial) ?_
        rotate_left
        · (intro wS hSw; (try dsimp only at hSw); go_simp; try with_reducible rfl)
        (try simp only [List.append_eq, List.cons_append, List.nil_append, List.getElem_toArray, List.getElem_cons_succ, List.getElem_cons_zero, Act.put, List.setIfInBounds_toArray, List.set_cons_zero, List.set_cons_succ])
        refine wpAnyH_take (i := 6) (v := ?_) rfl (by kernel_rfl) (by kernel_rfl) (by kernel_rfl) (fun _ _ _ h => h) (Or.inl ⟨by kernel_rfl, ?_⟩) (by first | assumption | trivial) ?_
        rotate_left
        · (intro wS hSw; (try dsimp only at hSw); go_simp; try with_reducible rfl)
        (try simp only [List.append_eq, List.cons_append, List.nil_append, List.getElem_toArray, List.getElem_cons_succ, List.getElem_cons_zero, Act.put, List.setIfInBounds_toArray, List.set_cons_zero, List.set_cons_succ])
        refine wpAnyH_take (i := 7) (v := ?_) rfl (by kernel_rfl) (by kernel_rfl) (by kernel_rfl) (fun _ _ _ h => h) (Or.inl ⟨by kernel_rfl, ?_⟩) (by first | assumption | trivial) ?_
        rotate_left
        · (intro wS hSw; (try dsimp only at hSw); go_simp; try with_reducible rfl)
        (try simp only [List.append_eq, List.cons_append, List.nil_append, List.getElem_toArray, List.getElem_cons_succ, List.getElem_cons_zero, Act.put, List.setIfInBounds_toArray, List.set_cons_zero, List.set_cons_succ])
        refine wpAnyH_take (i := 8) (v := ?_) rfl (by kernel_rfl) (by kernel_rfl) (by kernel_rfl) (fun _ _ _ h => h) (Or.inl ⟨by kernel_rfl, ?_⟩) (by first | assumption | trivial) ?_
        rotate_left
        · (intro wS hSw; (try dsimp only at hSw); go_simp; try with_reducible rfl)
        (try simp only [List.append_eq, List.cons_append, List.nil_append, List.getElem_toArray, List.getElem_cons_succ, List.getElem_cons_zero, Act.put, List.setIfInBounds_toArray, List.set_cons_zero, List.set_cons_succ])
        refine wpAnyH_take (i := 9) (v := ?_) rfl (by kernel_rfl) (by kernel_rfl) (by kernel_rfl) (fun _ _ _ h => h) (Or.inl ⟨by kernel_rfl, ?_⟩) (by first | assumption | trivial) ?_
        rotate_left
        · (intro wS hSw; (try dsimp only at hSw); go_simp; try with_reducible rfl)
        (try simp only [List.append_eq, List.cons_append, List.nil_append, List.getElem_toArray, List.getElem_cons_succ, List.getElem_cons_zero, Act.put, List.setIfInBounds_toArray, List.set_cons_zero, List.set_cons_succ])
        refine wpAnyH_take (i := 10) (v := ?_) rfl (by kernel_rfl) (by kernel_rfl) (by kernel_rfl) (fun _ _ _ h => h) (Or.inl ⟨by kernel_rfl, ?_⟩) (by first | assumption | trivial) ?_
        rotate_left
        · (intro wS hSw; (try dsimp only at hSw); go_simp; try with_reducible rfl)
        (try simp only [List.append_eq, List.cons_append, List.nil_append, List.getElem_toArray, List.getElem_cons_succ, List.getElem_cons_zero, Act.put, List.setIfInBounds_toArray, List.set_cons_zero, List.set_cons_succ])
        refine wpAnyH_take (i := 11) (v := ?_) rfl (by kernel_rfl) (by kernel_rfl) (by kernel_rfl) (fun _ _ _ h => h) (Or.inl ⟨by kernel_rfl, ?_⟩) (by first | assumption | trivial) ?_
        rotate_left
        · (intro wS hSw; (try dsimp only at hSw); go_simp; try with_reducible rfl)
        (try simp only [List.append_eq, List.cons_append, List.nil_append, List.getElem_toArray, List.getElem_cons_succ, List.getElem_cons_zero, Act.put, List.setIfInBounds_toArray, List.set_cons_zero, List.set_cons_succ])
        refine wpAnyH_take (i := 12) (v := ?_) rfl (by kernel_rfl) (by kernel_rfl) (by kernel_rfl) (fun _ _ _ h => h) (Or.inl ⟨by kernel_rfl, ?_⟩) (by first | assumption | trivial) ?_
        rotate_left
        · (intro wS hSw; (try dsimp only at hSw); go_simp; try with_reducible rfl)
        (try simp only [List.append_eq, List.cons_append, List.nil_append, List.getElem_toArray, List.getElem_cons_succ, List.getElem_cons_zero, Act.put, List.setIfInBounds_toArray, List.set_cons_zero, List.set_cons_succ])
        refine wpAnyH_take (i := 13) (v := ?_) rfl (by kernel_rfl) (by kernel_rfl) (by kernel_rfl) (fun _ _ _ h => h) (Or.inl ⟨by kernel_rfl, ?_⟩) (by first | assumption | trivial) ?_
        rotate_left
        · (intro wS hSw; (try dsimp only at hSw); go_simp; try with_reducible rfl)
        (try simp only [List.append_eq, List.cons_append, List.nil_append, List.getElem_toArray, List.getElem_cons_succ, List.getElem_cons_zero, Act.put, List.setIfInBounds_toArray, List.set_cons_zero, List.set_cons_succ])
        refine wpAnyH_take (i := 14) (v := ?_) rfl (by kernel_rfl) (by kernel_rfl) (by kernel_rfl) (fun _ _ _ h => h) (Or.inl ⟨by kernel_rfl, ?_⟩) (by first | assumption | trivial) ?_
        rotate_left
        · (intro wS hSw; (try dsimp only at hSw); go_simp; try with_reducible rfl)
        (try simp only [List.append_eq, List.cons_append, List.nil_append, List.getElem_toArray, List.getElem_cons_succ, List.getElem_cons_zero, Act.put, List.setIfInBounds_toArray, List.set_cons_zero, List.set_cons_succ])
        refine wpAnyH_take (i := 15) (v := ?_) rfl (by kernel_rfl) (by kernel_rfl) (by kernel_rfl) (fun _ _ _ h => h) (Or.inl ⟨by kernel_rfl, ?_⟩) (by first | assumption | trivial) ?_
        rotate_left
        · (intro wS hSw; (try dsimp only at hSw); go_simp; try with_reducible rfl)
        (try simp only [List.append_eq, List.cons_append, List.nil_append, List.getElem_toArray, List.getElem_cons_succ, List.getElem_cons_zero, Act.put, List.setIfInBounds_toArray, List.set_cons_zero, List.set_cons_succ])
        refine wpAnyH_take (i := 16) (v := ?_) rfl (by kernel_rfl) (by kernel_rfl) (by kernel_rfl) (fun _ _ _ h => h) (Or.inl ⟨by kernel_rfl, ?_⟩) (by first | assumption | trivial) ?_
        rotate_left
        · (intro wS hSw; (try dsimp only at hSw); go_simp; try with_reducible rfl)
        (try simp only [List.append_eq, List.cons_append, List.nil_append, List.getElem_toArray, List.getElem_cons_succ, List.getElem_cons_zero, Act.put, List.setIfInBounds_toArray, List.set_cons_zero, List.set_cons_succ])
        refine wpAnyH_take (i := 17) (v := ?_) rfl (by kernel_rfl) (by kernel_rfl) (by kernel_rfl) (fun _ _ _ h => h) (Or.inl ⟨by kernel_rfl, ?_⟩) (by first | assumption | trivial) ?_
        rotate_left
        · (intro wS hSw; (try dsimp only at hSw); go_simp; try with_reducible rfl)
        (try simp only [List.append_eq, List.cons_append, List.nil_append, List.getElem_toArray, List.getElem_cons_succ, List.getElem_cons_zero, Act.put, List.setIfInBounds_toArray, List.set_cons_zero, List.set_cons_succ])
        refine wpAnyH_take (i := 18) (v := ?_) rfl (by kernel_rfl) (by kernel_rfl) (by kernel_rfl) (fun _ _ _ h => h) (Or.inl ⟨by kernel_rfl, ?_⟩) (by first | assumption | trivial) ?_
        rotate_left
        · (intro wS hSw; (try dsimp only at hSw); go_simp; try with_reducible rfl)
        (try simp only [List.append_eq, List.cons_append, List.nil_append, List.getElem_toArray, List.getElem_cons_succ, List.getElem_cons_zero, Act.put, List.setIfInBounds_toArray, List.set_cons_zero, List.set_cons_succ])
        refine wpAnyH_take (i := 19) (v := ?_) rfl (by kernel_rfl) (by kernel_rfl) (by kernel_rfl) (fun _ _ _ h => h) (Or.inl ⟨by kernel_rfl, ?_⟩) (by first | assumption | trivial) ?_
        rotate_left
        · (intro wS hSw; (try dsimp only at hSw); go_simp; try with_reducible rfl)
        (try simp only [List.append_eq, List.cons_append, List.nil_append, List.getElem_toArray, List.getElem_cons_succ, List.getElem_cons_zero, Act.put, List.setIfInBounds_toArray, List.set_cons_zero, List.set_cons_succ])
        refine wpAnyH_take (i := 20) (v := ?_) rfl (by kernel_rfl) (by kernel_rfl) (by kernel_rfl) (fun _ _ _ h => h) (Or.inl ⟨by kernel_rfl, ?_⟩) (by first | assumption | trivial) ?_
        rotate_left
        · (intro wS hSw; (try dsimp only at hSw); go_simp; try with_reducible rfl)
        (try simp only [List.append_eq, List.cons_append, List.nil_append, List.getElem_toArray, List.getElem_cons_succ, List.getElem_cons_zero, Act.put, List.setIfInBounds_toArray, List.set_cons_zero, List.set_cons_succ])
        refine wpAnyH_ready (rs := [21]) (by kernel_rfl) (by simp) ?_
        refine AllReadyH.cons rfl (fun K hK => ?_) AllReadyH.nil
        go_simp
        skip
        go_wp2_with fail
        refine hK.out _ _ (by first | assumption | trivial) (fun hHeld => ?_)
        clear hK K
        (try simp only [List.append_eq, List.cons_append, List.nil_append, List.getElem_toArray, List.getElem_cons_succ, List.getElem_cons_zero, Act.put, List.setIfInBounds_toArray, List.set_cons_zero, List.set_cons_succ])
        refine wpAnyH_done (by kernel_rfl) ?_ _
        refine NoPanic.normal ?_
        go_wp2_with fail
        go_roundw
        case rel => exact ⟨j + 1, by omega, by omega, by go_num, hid ⟨HST.out.1, HI2.out.trans HST.out.2 (fun g h => .inl h)⟩⟩
        case measure => simp [intOf]; omega
      | false =>
        rw [hv] at xk
        have hdk : doneK hold D.waits D.has (j + 1) = doneK hold D.waits D.has j := by rw [doneK, if_neg (by rw [hv]; decide)]
        have HDK := hid hdk
        clear hdk hv
        go_wp2
        go_roundw
        case rel => exact ⟨j + 1, by omega, by omega, by go_num, by rw [HDK.out]; exact hI⟩
        case measure => simp [intOf]; omega
    · have hdd : decide ((j : Int) < (nw : Int)) = false ∨ (decide ((j : Int) < (nw : Int)) = true ∧ decide ((j : Int) < (kn : Int)) = false) := by
        by_cases h1 : j < nw
        · exact .inr ⟨by simp; omega, by simp; omega⟩
        · exact .inl (by simp; omega)
      have hdk : doneK hold D.waits D.has j = doneK hold D.waits D.has D.waits.length := by
        rw [HNW.out]
        by_cases h1 : j < nw
        · have hj2 : j = kn := by omega
          rw [show nw = kn + (nw - kn) by omega, doneK_cut hold D.waits D.has kn HHK.out, hj2]
        · rw [show j = nw by omega]
      have r := hI.out.1
      rw [hdk] at r
      have y1 := r.cells.cell (j := 1) rfl
      have z1 := r.cells.frozen 1
      have y3 := r.cells.cell (j := 3) rfl
      have z3 := r.cells.frozen 3
      have r2 := r.wait_nil.off_set true
      have hs2 : w0.heap.size ≤ w2.heap.size := HW2.out ▸ hs
      have hl2 := RLets.of_only H.out ((hI.out.2.trans (Only.of_set (T := RMine m (.slice AH nh cH) (.slice AL nw cL)) wr ⟨m, 1, none⟩ (.slice none 0 0) rm_m) (fun g h => .inl h)).trans (Only.of_set (T := RMine m (.slice AH nh cH) (.slice AL nw cL)) _ ⟨m, 3, none⟩ (.bool true) rm_m) (fun g h => .inl h)) hs2
      have HR2 := hid r2
      have HL2 := hid hl2
      rw [HNW.out] at y1
      clear r r2 hl2 hI hdk hs2
      rcases hdd with d5 | ⟨d5, d6⟩
      · have d5' : decide (j < nw) = false := by simpa using d5
        go_wp2
        go_end0
        exact ⟨rfl, ⟨_, _, HR2.out⟩, HL2.out⟩
      · have d5' : decide (j < nw) = true := by simpa using d5
        have d6' : decide (j < kn) = false := by simpa using d6
        go_wp2
        go_end0
        exact ⟨rfl, ⟨_, _, HR2.out⟩, HL2.out⟩
end Go.Proofs.Ytkadehdbnkinlaa
