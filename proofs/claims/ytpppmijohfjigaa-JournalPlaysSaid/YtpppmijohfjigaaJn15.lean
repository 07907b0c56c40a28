/-
  The document's home and Commit. A part of the proof: see the head of the text that ends in 'Law'.
-/
import Derived.Test.YtpppmijohfjigaaJn14
namespace Go.Proofs.Ytpppmijohfjigaa
open Go.RowKit
set_option linter.unusedVariables false
set_option linter.unusedSimpArgs false
set_option maxRecDepth 100000
attribute [local go_sem] Oper.semAt_some

theorem runD_cons (s : Stp) (r : List Stp) (D : Dsk) : runD (s :: r) D = if (stepD D s).2 = 0 then runD r (stepD D s).1 else stepD D s := rfl
theorem runD_wr {i : Int} {s : List UInt8} {r : List Stp} {D D2 : Dsk} {e : Nat} (h1 : (writeD D i s).2 = e) (h2 : (writeD D i s).1 = D2) : runD (.wr i s :: r) D = if e = 0 then runD r D2 else (D2, e) := by
  rw [runD_cons]
  show (if (writeD D i s).2 = 0 then runD r (writeD D i s).1 else writeD D i s) = _
  rw [h1, h2]
  by_cases h : e = 0
  · rw [if_pos h, if_pos h]
  · rw [if_neg h, if_neg h, ← h1, ← h2]
theorem runD_fl {r : List Stp} {D D2 : Dsk} {e : Nat} (h1 : (flushD D).2 = e) (h2 : (flushD D).1 = D2) : runD (.fl :: r) D = if e = 0 then runD r D2 else (D2, e) := by
  rw [runD_cons]
  show (if (flushD D).2 = 0 then runD r (flushD D).1 else flushD D) = _
  rw [h1, h2]
  by_cases h : e = 0
  · rw [if_pos h, if_pos h]
  · rw [if_neg h, if_neg h, ← h1, ← h2]
theorem homeS_drop (l : List Iss) (j : Nat) (h : j < l.length) : (homeS l).drop j = .wr (l[j]).1 (l[j]).2 :: (homeS l).drop (j + 1) := by
  unfold homeS
  rw [List.drop_eq_getElem_cons (by rw [List.length_map]; exact h), List.getElem_map]
theorem putS_drop (l : List Iss) (j : Nat) (h : j < l.length) : (putS l).drop j = .wr (1 + (j : Int)) (l[j]).2 :: (putS l).drop (j + 1) := by
  unfold putS putK
  rw [List.drop_eq_getElem_cons (by rw [List.length_map, List.length_range]; exact h), List.getElem_map, List.getElem_range, List.getD_eq_getElem?_getD, List.getElem?_eq_getElem h]
  rfl
/-- A run so far. -/
def RunI (w0 W : World) (m : Nat) (R : Dsk × Nat) (b : Nat) (ss : List Stp) (wr : World) : Prop := ∃ D', R = runD ss D' ∧ RSt w0 wr m D' ∧ RLets w0 W wr ∧ D'.waits.length ≤ b
set_option maxHeartbeats 8000000 in
theorem home_any {w0 W : World} {m : Nat} {D : Dsk} (h : RSt w0 W m D) (hs : w0.heap.size ≤ W.heap.size) (hw : D.waits.length ≤ 80000) (A : Option Addr) (n c : Nat) (vs : List PuV) (hp : PutsT W A n vs) (hn : n ≤ 100) (h128 : ∀ v ∈ vs, v.n = 128) :
    Calls Try.prog 61 #[.pointer (some ⟨m, 0, none⟩), .slice A n c] W (RunR w0 W m (runD (settleS (vs.map PuV.p)) D)) := by
  have HP := hid hp
  have HN := hid hp.len
  have H128 := hid h128
  have HSZ := hid hs
  obtain ⟨l, hl⟩ : ∃ l, vs.map PuV.p = l := ⟨_, rfl⟩
  rw [hl]
  have HLL : Hid (l.length = n) := hid (by rw [← hl, List.length_map, hp.len])
  have HLG : Hid (∀ (j : Nat) (h1 : j < l.length) (h2 : j < vs.length), l[j]'h1 = (vs[j]'h2).p) := hid (fun j h1 h2 => by subst hl; rw [List.getElem_map])
  obtain ⟨R, hR⟩ : ∃ R, runD (settleS l) D = R := ⟨_, rfl⟩
  rw [hR]
  have I0 : Hid (RunI w0 W m R (D.waits.length + 0) ((homeS l).drop 0 ++ tailS) W) := hid ⟨D, hR.symm, h, RLets.refl _ _, Nat.le_refl _⟩
  have HD := hid hw
  clear h hs hw hp h128 hl hR
  go_enter Try.func61, Try.ntmps61
  go_wp2_with fail
  go_loopw [5] (fun v5 wr => ∃ j : Nat, j ≤ n ∧ v5 = .int .i64 (j : Int) ∧ Hid (RunI w0 W m R (D.waits.length + j) ((homeS l).drop j ++ tailS) wr)) (fun v5 wr => n - (intOf v5).toNat)
  case atStart => exact ⟨0, Nat.zero_le _, rfl, I0⟩
  case round =>
    clear I0
    obtain ⟨j, hj, rfl, HI⟩ := hrel
    rename World => wr
    obtain ⟨D', q1, q2, q3, q4⟩ := HI.out
    have Q2 := hid q2
    have Q3 := hid q3
    have Q4 := hid q4
    have hsz : w0.heap.size ≤ wr.heap.size := Nat.le_trans HSZ.out q3.sz
    by_cases hlt : j < n
    · have e1 := lt_t hlt
      have e1n := lt_nt hlt
      have j0 : (0 : Int) ≤ (j : Int) := by omega
      have j1 : (j : Int) < (n : Int) := by omega
      have j2 : (j : Int).toNat = j := by omega
      have hjv : j < vs.length := by rw [HN.out]; exact hlt
      have hjl : j < l.length := by rw [HLL.out]; exact hlt
      have hpt := HP.out.rlets q3
      obtain ⟨b, off, rfl, hc⟩ := pu_at hpt.row.row hjv
      have x0 := (hc j hjv).1
      have x1 := (hc j hjv).2
      obtain ⟨v, hv⟩ : ∃ v, vs[j] = v := ⟨_, rfl⟩
      have hvm : v ∈ vs := hv ▸ List.getElem_mem hjv
      have hoct := hpt.puts.oct v hvm
      have h128 := H128.out v hvm
      have hel := HLG.out j hjl hjv
      rw [hv] at x0 x1 hel
      have HCX := hid (fun (X : World) (hL : RLets w0 wr X) => (by have h1 := (pu_at (hpt.rlets hL).row.row hjv); obtain ⟨b', off', he, hc'⟩ := h1; injection he with he; injection he with e1 e2; subst e1 e2; have h2 := hc' j hjv; rw [hv] at h2; exact h2 : X.cell? ⟨b, off + j * 2, none⟩ = some (.int .i64 v.at_) ∧ X.cell? ⟨b, off + j * 2 + 1, none⟩ = some (.slice v.A v.n v.c)))
      rw [homeS_drop l j hjl, hel] at q1
      obtain ⟨at_, B, k, dd, bs⟩ := v
      dsimp only at x0 x1 h128 hoct
      subst h128
      dsimp only at HCX
      obtain ⟨e2, he2⟩ : ∃ e2, (writeD D' at_ bs).2 = e2 := ⟨_, rfl⟩
      obtain ⟨D2, hD2⟩ : ∃ D2, (writeD D' at_ bs).1 = D2 := ⟨_, rfl⟩
      have hrw := runD_wr (r := (homeS l).drop (j + 1) ++ tailS) he2 hD2
      have Q1 : Hid (R = if e2 = 0 then runD ((homeS l).drop (j + 1) ++ tailS) D2 else (D2, e2)) := hid (q1.trans hrw)
      have HW := hid (by have := rwrite_d q2 hsz at_ bs (by have := HD.out; omega) hoct.len; rw [he2, hD2] at this; exact this : Calls Try.prog 31 #[.pointer (some ⟨m, 0, none⟩), .int .i64 at_, .string (str bs)] wr fun e w' => e = .returned (.int .i64 (e2 : Int)) ∧ RSt w0 w' m D2 ∧ RLets w0 wr w')
      have HW2 : Hid (D2.waits.length ≤ D.waits.length + (j + 1)) := hid (by have := step_wl D' at_ bs; rw [hD2] at this; omega)
      have hcv := strP dd hoct
      have h0 : wr.drew.cell? ⟨b, off + j * 2, none⟩ = some (.int .i64 at_) ∧ wr.drew.cell? ⟨b, off + j * 2 + 1, none⟩ = some (.slice B 128 dd) := ⟨x0, x1⟩
      have hcv2 := strP dd hoct.drew
      have HWD := hid (by have := rwrite_d (q2.below (drew_below wr)) hsz at_ bs (by have := HD.out; omega) hoct.len; rw [he2, hD2] at this; exact this : Calls Try.prog 31 #[.pointer (some ⟨m, 0, none⟩), .int .i64 at_, .string (str bs)] wr.drew fun e w' => e = .returned (.int .i64 (e2 : Int)) ∧ RSt w0 w' m D2 ∧ RLets w0 wr.drew w')
      have HRD : Hid (RLets w0 wr wr.drew) := hid (RLets.of_below (drew_below wr) hsz)
      clear hc hv hvm hjv hel hjl hpt hoct q1 q2 q3 q4 HI hrw he2 hD2 x0 x1 hcv HW
      go_upto_region 4 with fail
      refine wp_region_noPanic ?_
      refine wp_region_held_drew (S := (fun X => X.cell? ⟨b, off + j * 2, none⟩ = some (.int .i64 at_) ∧ X.cell? ⟨b, off + j * 2 + 1, none⟩ = some (.slice B 128 dd))) (by kernel_rfl) (by first | assumption | trivial) (fun hHeld => ?_)
      refine wpAnyH_take (i := 0) (v := ?_) rfl (by kernel_rfl) (by kernel_rfl) (by kernel_rfl) (fun _ _ _ h => h) (Or.inl ⟨by kernel_rfl, ?_⟩) (by first | assumption | trivial) ?_
      rotate_left
      · (intro wS hSw; (try dsimp only at hSw); go_simp; try with_reducible rfl)
      (try simp only [List.append_eq, List.cons_append, List.nil_append, List.getElem_toArray, List.getElem_cons_succ, List.getElem_cons_zero, Act.put, List.setIfInBounds_toArray, List.set_cons_zero, List.set_cons_succ])
      refine wpAnyH_take (i := 1) (v := ?_) rfl (by kernel_rfl) (by kernel_rfl) (by kernel_rfl) (fun _ _ _ h => h) (Or.inl ⟨by kernel_rfl, ?_⟩) (by first | assumption | trivial) ?_
      rotate_left
      · (intro wS hSw; (try dsimp only at hSw); go_simp; try with_reducible rfl)
      (try simp only [List.append_eq, List.cons_append, List.nil_append, List.getElem_toArray, List.getElem_cons_succ, List.getElem_cons_zero, Act.put, List.setIfInBounds_toArray, List.set_cons_zero, List.set_cons_succ])
      refine wpAnyH_take (i := 2) (v := ?_) rfl (by kernel_rfl) (by kernel_rfl) (by kernel_rfl) (fun _ _ _ h => h) (Or.inl ⟨by kernel_rfl, ?_⟩) (by first | assumption | trivial) ?_
      rotate_left
      · (intro wS hSw; (try dsimp only at hSw); go_simp; try with_reducible rfl)
      (try simp only [List.append_eq, List.cons_append, List.nil_append, List.getElem_toArray, List.getElem_cons_succ, List.getElem_cons_zero, Act.put, List.setIfInBounds_toArray, List.set_cons_zero, List.set_cons_succ])
      refine wpAnyH_take (i := 3) (v := ?_) rfl (by kernel_rfl) (by kernel_rfl) (by kernel_rfl) (fun _ _ _ h => h) (Or.inl ⟨by kernel_rfl, ?_⟩) (by first | assumption | trivial) ?_
      rotate_left
      · (intro wS hSw; (try dsimp only at hSw); go_simp; try with_reducible rfl)
      (try simp only [List.append_eq, List.cons_append, List.nil_append, List.getElem_toArray, List.getElem_cons_succ, List.getElem_cons_zero, Act.put, List.setIfInBounds_toArray, List.set_cons_zero, List.set_cons_succ])
      refine wpAnyH_take (i := 4) (v := ?_) rfl (by kernel_rfl) (by kernel_rfl) (by kernel_rfl) (fun _ _ _ h => h) (Or.inl ⟨by kernel_rfl, ?_⟩) (by first | assumption | trivial) ?_
      rotate_left
      · (intro wS hSw; (try dsimp only at hSw); go_simp; try with_reducible rfl)
      (try simp only [List.append_eq, List.cons_append, List.nil_append, List.getElem_toArray, List.getElem_cons_succ, List.getElem_cons_zero, Act.put, List.setIfInBounds_toArray, List.set_cons_zero, List.set_cons_succ])
      refine wpAnyH_take (i := 5) (v := ?_) rfl (by kernel_rfl) (by kernel_rfl) (by kernel_rfl) (fun _ _ _ h => h) (Or.inl ⟨by kernel_rfl, ?_⟩) (by first | assumption | trivial) ?_
      rotate_left
      · (intro wS hSw; (try dsimp only at hSw); go_simp; try with_reducible rfl)
      (try simp only [List.append_eq, List.cons_append, List.nil_append, List.getElem_toArray, List.getElem_cons_succ, List.getElem_cons_zero, Act.put, List.setIfInBounds_toArray, List.set_cons_zero, List.set_cons_succ])
      refine wpAnyH_take (i := 6) (v := ?_) rfl (by kernel_rfl) (by kernel_rfl) (by kernel_rfl) (fun _ _ _ h => h) (Or.inl ⟨by kernel_rfl, ?_⟩) (by first | assumption | trivial) ?_
      rotate_left
      · (intro wS hSw; (try dsimp only at hSw); go_simp; try with_reducible rfl)
      (try simp only [List.append_eq, List.cons_append, List.nil_append, List.getElem_toArray, List.getElem_cons_succ, List.getElem_cons_zero, Act.put, List.setIfInBounds_toArray, List.set_cons_zero, List.set_cons_succ])
      refine wpAnyH_take (i := 7) (v := ?_) rfl (by kernel_rfl) (by kernel_rfl) (by kernel_rfl) (fun _ _ _ h => h) (Or.inl ⟨by kernel_rfl, ?_⟩) (by first | assumption | trivial) ?_
      rotate_left
      · (intro wS hSw; (try dsimp only at hSw); go_simp; try with_reducible rfl)
      (try simp only [List.append_eq, List.cons_append, List.nil_append, List.getElem_toArray, List.getElem_cons_succ, List.getElem_cons_zero, Act.put, List.setIfInBounds_toArray, List.set_cons_zero, List.set_cons_succ])
      refine wpAnyH_take (i := 8) (v := ?_) rfl (by kernel_rfl) (by kernel_rfl) (by kernel_rfl) (fun _ _ _ h => h) (Or.inl ⟨by kernel_rfl, ?_⟩) (by first | assumption | trivial) ?_
      rotate_left
      · (intro wS hSw; (try dsimp only at hSw); go_simp; try with_reducible rfl)
      (try simp only [List.append_eq, List.cons_append, List.nil_append, List.getElem_toArray, List.getElem_cons_succ, List.getElem_cons_zero, Act.put, List.setIfInBounds_toArray, List.set_cons_zero, List.set_cons_succ])
      refine wpAnyH_take (i := 9) (v := ?_) rfl (by kernel_rfl) (by kernel_rfl) (by kernel_rfl) (fun _ _ _ h => h) (Or.inl ⟨by kernel_rfl, ?_⟩) (by first | assumption | trivial) ?_
      rotate_left
      · (intro wS hSw; (try dsimp only at hSw); go_simp; try with_reducible rfl)
      (try simp only [List.append_eq, List.cons_append, List.nil_append, List.getElem_toArray, List.getElem_cons_succ, List.getElem_cons_zero, Act.put, List.setIfInBounds_toArray, List.set_cons_zero, List.set_cons_succ])
      refine wpAnyH_take (i := 10) (v := ?_) rfl (by kernel_rfl) (by kernel_rfl) (by kernel_rfl) (fun _ _ _ h => h) (Or.inl ⟨by kernel_rfl, ?_⟩) (by first | assumption | trivial) ?_
      rotate_left
      · (intro wS hSw; (try dsimp only at hSw); go_simp; try with_reducible rfl)
      (try simp only [List.append_eq, List.cons_append, List.nil_append, List.getElem_toArray, List.getElem_cons_succ, List.getElem_cons_zero, Act.put, List.setIfInBounds_toArray, List.set_cons_zero, List.set_cons_succ])
      refine wpAnyH_ready (rs := [11]) (by kernel_rfl) (by simp) ?_
      refine AllReadyH.cons rfl (fun K hK => ?_) AllReadyH.nil
      go_simp
      skip
      go_wp2_with fail
      refine hK.out _ _ (by first | assumption | trivial) (fun hHeld => ?_)
      clear hK K
      (try simp only [List.append_eq, List.cons_append, List.nil_append, List.getElem_toArray, List.getElem_cons_succ, List.getElem_cons_zero, Act.put, List.setIfInBounds_toArray, List.set_cons_zero, List.set_cons_succ])
      refine wpAnyH_ready (rs := [12]) (by kernel_rfl) (by simp) ?_
      refine AllReadyH.cons rfl (fun K hK => ?_) AllReadyH.nil
      go_simp
      (go_at_call 31; refine HWD.out.mono ?_; rintro e w2 ⟨rfl, k1, k2⟩; have HK1 := hid k1; have HL2 := hid (HRD.out.trans k2); have hS2 := HCX.out _ (HRD.out.trans k2); clear k1 k2 hHeld)
      go_wp2_with fail
      refine hK.out _ _ (by first | assumption | trivial) (fun hHeld => ?_)
      clear hK K
      (try simp only [List.append_eq, List.cons_append, List.nil_append, List.getElem_toArray, List.getElem_cons_succ, List.getElem_cons_zero, Act.put, List.setIfInBounds_toArray, List.set_cons_zero, List.set_cons_succ])
      refine wpAnyH_take (i := 13) (v := ?_) rfl (by kernel_rfl) (by kernel_rfl) (by kernel_rfl) (fun _ _ _ h => h) (Or.inl ⟨by kernel_rfl, ?_⟩) (by first | assumption | trivial) ?_
      rotate_left
      · (intro wS hSw; (try dsimp only at hSw); go_simp; try with_reducible rfl)
      (try simp only [List.append_eq, List.cons_append, List.nil_append, List.getElem_toArray, List.getElem_cons_succ, List.getElem_cons_zero, Act.put, List.setIfInBounds_toArray, List.set_cons_zero, List.set_cons_succ])
      refine wpAnyH_done (by kernel_rfl) ?_ _
      refine NoPanic.normal ?_
      by_cases hz : e2 = 0
      · subst hz
        have Q5 : Hid (R = runD ((homeS l).drop (j + 1) ++ tailS) D2) := hid Q1.out
        clear Q1
        go_wp2_with fail
        go_roundw
        case rel => exact ⟨j + 1, by omega, by go_num, hid ⟨D2, Q5.out, HK1.out, Q3.out.trans HL2.out, HW2.out⟩⟩
        case measure => simp [intOf]; omega
      · have HF : Hid (R = (D2, e2)) := hid (by rw [Q1.out, if_neg hz])
        have g1 : ((e2 : Int) != 0) = true := by rw [bne_iff_ne]; omega
        have g1n : (e2 != 0) = true := by rw [bne_iff_ne]; exact hz
        clear Q1
        go_wp2_with fail
        go_ret
        unfold RunR
        rw [HF.out]
        exact ⟨rfl, HK1.out, Q3.out.trans HL2.out⟩
    · have e1 := lt_f hlt
      have e1n := lt_nf hlt
      rw [List.drop_of_length_le (by unfold homeS; rw [List.length_map, HLL.out]; omega), List.nil_append] at q1
      obtain ⟨e2, he2⟩ : ∃ e2, (flushD D').2 = e2 := ⟨_, rfl⟩
      obtain ⟨D2, hD2⟩ : ∃ D2, (flushD D').1 = D2 := ⟨_, rfl⟩
      have Q1 : Hid (R = if e2 = 0 then runD formatS D2 else (D2, e2)) := hid (q1.trans (runD_fl he2 hD2))
      have HFL := hid (by have := rflush_any q2 hsz (by have := HD.out; omega); rw [he2, hD2] at this; exact this : Calls Try.prog 32 #[.pointer (some ⟨m, 0, none⟩)] wr (RPost w0 wr m D2 (.int .i64 (e2 : Int))))
      have hw2 : D2.waits.length ≤ 90000 := by have := flush_wl D'; rw [hD2] at this; have := HD.out; omega
      have HFO := hid (fun (X : World) (hr : RSt w0 X m D2) (hz : w0.heap.size ≤ X.heap.size) => rformat_any hr hz hw2)
      clear q1 q2 q3 q4 HI he2 hD2
      by_cases hz : e2 = 0
      · subst hz
        have Q5 : Hid (R = runD formatS D2) := hid Q1.out
        clear Q1
        go_wp2_with (first
          | (go_at_call 32; refine HFL.out.mono ?_; rintro e w2 ⟨rfl, k1, k2⟩; have HK1 := hid k1; have HL2 := hid (Q3.out.trans k2); clear k1 k2)
          | (go_at_call 29; refine (HFO.out _ HK1.out (Nat.le_trans HSZ.out HL2.out.sz)).mono ?_; rintro e w3 ⟨rfl, k1, k2⟩; have HK3 := hid k1; have HL3 := hid (HL2.out.trans k2); clear k1 k2))
        go_ret
        unfold RunR
        rw [Q5.out]
        exact ⟨rfl, HK3.out, HL3.out⟩
      · have HF : Hid (R = (D2, e2)) := hid (by rw [Q1.out, if_neg hz])
        have g1 : ((e2 : Int) != 0) = true := by rw [bne_iff_ne]; omega
        have g1n : (e2 != 0) = true := by rw [bne_iff_ne]; exact hz
        clear Q1
        go_wp2_with (go_at_call 32; refine HFL.out.mono ?_; rintro e w2 ⟨rfl, k1, k2⟩; have HK1 := hid k1; have HL2 := hid (Q3.out.trans k2); clear k1 k2)
        go_ret
        unfold RunR
        rw [HF.out]
        exact ⟨rfl, HK1.out, HL2.out⟩
end Go.Proofs.Ytpppmijohfjigaa
