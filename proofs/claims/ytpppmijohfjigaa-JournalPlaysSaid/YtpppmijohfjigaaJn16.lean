/-
  The document's Commit. A part of the proof: see the head of the text that ends in 'Law'.
-/
import Derived.Test.YtpppmijohfjigaaJn15
namespace Go.Proofs.Ytpppmijohfjigaa
open Go.RowKit
set_option linter.unusedVariables false
set_option maxRecDepth 100000
attribute [local go_sem] Oper.semAt_some

set_option maxHeartbeats 16000000 in
theorem rcommit_any {w0 W : World} {m : Nat} {D : Dsk} (h : RSt w0 W m D) (hs : w0.heap.size ≤ W.heap.size) (hw : D.waits.length ≤ 70000) (A : Option Addr) (n c : Nat) (vs : List PuV) (hp : PutsT W A n vs) (hm : mayJ (vs.map PuV.p) 2048 = true) :
    Calls Try.prog 25 #[.pointer (some ⟨m, 0, none⟩), .slice A n c] W (RunR w0 W m (runD (commitS (vs.map PuV.p)) D)) := by
  have HP := hid hp
  have HN := hid hp.len
  have HSZ := hid hs
  have HMM := hid hm
  have hm' := mayJ_true hm
  have h128 : ∀ v ∈ vs, v.n = 128 := fun v hv => by
    have h1 := (hm'.one v.p (List.mem_map_of_mem hv)).2.2
    rw [← (hp.puts.oct v hv).len]
    exact h1
  have H128 := hid h128
  have hn40 : n ≤ 40 := by have := hm'.l40; rw [List.length_map, hp.len] at this; exact this
  have HHD := hid (fun (X : World) (hl : PutsT X A n vs) => rhead_any A n c vs X hl.puts hm)
  have HHO := hid (fun (X : World) (E : Dsk) (hr : RSt w0 X m E) (hz : w0.heap.size ≤ X.heap.size) (hw : E.waits.length ≤ 80000) (hl : PutsT X A n vs) => home_any hr hz hw A n c vs hl (by omega) h128)
  obtain ⟨l, hl⟩ : ∃ l, vs.map PuV.p = l := ⟨_, rfl⟩
  rw [hl] at HHD HHO ⊢
  have HLL : Hid (l.length = n) := hid (by rw [← hl, List.length_map, hp.len])
  have HLG : Hid (∀ (j : Nat) (h1 : j < l.length) (h2 : j < vs.length), l[j]'h1 = (vs[j]'h2).p) := hid (fun j h1 h2 => by subst hl; rw [List.getElem_map])
  have HLH := hid (headL_len l (by rw [HLL.out]; exact hn40))
  obtain ⟨R, hR⟩ : ∃ R, runD (commitS l) D = R := ⟨_, rfl⟩
  rw [hR]
  have I0 : Hid (RunI w0 W m R (D.waits.length + 0) ((putS l).drop 0 ++ ([.fl, .wr 0 (headL l), .fl] ++ settleS l)) W) := hid ⟨D, by rw [List.drop_zero, ← List.append_assoc]; exact hR.symm, h, RLets.refl _ _, Nat.le_refl _⟩
  have HD := hid hw
  clear h hs hw hp hm hm' h128 hl hR
  go_enter Try.func25, Try.ntmps25
  go_wp2_with fail
  go_loopw [5] (fun v5 wr => ∃ j : Nat, j ≤ n ∧ v5 = .int .i64 (j : Int) ∧ Hid (RunI w0 W m R (D.waits.length + j) ((putS l).drop j ++ ([.fl, .wr 0 (headL l), .fl] ++ settleS l)) wr)) (fun v5 wr => n - (intOf v5).toNat)
  case atStart => exact ⟨0, Nat.zero_le _, rfl, I0⟩
  case round =>
    clear I0
    obtain ⟨j, hj, rfl, HI⟩ := hrel
    rename World => wr
    obtain ⟨D', q1, q2, q3, q4⟩ := HI.out
    have Q2 := hid q2
    have Q3 := hid q3
    have Q4 := hid q4
    have hsz : w0.heap.size ≤ wr.heap.size := Nat.le_trans HSZ.out q3.sz
    by_cases hlt : j < n
    · have e1 := lt_t hlt
      have e1n := lt_nt hlt
      have j0 : (0 : Int) ≤ (j : Int) := by omega
      have j1 : (j : Int) < (n : Int) := by omega
      have j2 : (j : Int).toNat = j := by omega
      have hjv : j < vs.length := by rw [HN.out]; exact hlt
      have hjl : j < l.length := by rw [HLL.out]; exact hlt
      have hpt := HP.out.rlets q3
      obtain ⟨b, off, rfl, hc⟩ := pu_at hpt.row.row hjv
      have x1 := (hc j hjv).2
      obtain ⟨v, hv⟩ : ∃ v, vs[j] = v := ⟨_, rfl⟩
      have hvm : v ∈ vs := hv ▸ List.getElem_mem hjv
      have hoct := hpt.puts.oct v hvm
      have h128 := H128.out v hvm
      have hel := HLG.out j hjl hjv
      rw [hv] at x1 hel
      rw [putS_drop l j hjl, hel] at q1
      obtain ⟨at_, B, k, dd, bs⟩ := v
      dsimp only at x1 h128 hoct
      subst h128
      obtain ⟨e2, he2⟩ : ∃ e2, (writeD D' (1 + (j : Int)) bs).2 = e2 := ⟨_, rfl⟩
      obtain ⟨D2, hD2⟩ : ∃ D2, (writeD D' (1 + (j : Int)) bs).1 = D2 := ⟨_, rfl⟩
      have Q1 : Hid (R = if e2 = 0 then runD ((putS l).drop (j + 1) ++ ([.fl, .wr 0 (headL l), .fl] ++ settleS l)) D2 else (D2, e2)) := hid (q1.trans (runD_wr (r := (putS l).drop (j + 1) ++ (([Stp.fl, Stp.wr 0 (headL l), Stp.fl] : List Stp) ++ settleS l)) he2 hD2))
      have HW := hid (by have := rwrite_d q2 hsz ((j : Int) + 1) bs (by have := HD.out; omega) hoct.len; rw [Int.add_comm, he2, hD2] at this; exact this : Calls Try.prog 31 #[.pointer (some ⟨m, 0, none⟩), .int .i64 (1 + (j : Int)), .string (str bs)] wr fun e w' => e = .returned (.int .i64 (e2 : Int)) ∧ RSt w0 w' m D2 ∧ RLets w0 wr w')
      have HW2 : Hid (D2.waits.length ≤ D.waits.length + (j + 1)) := hid (by have := step_wl D' (1 + (j : Int)) bs; rw [hD2] at this; omega)
      have hcv := strP dd hoct
      have jw : IntKind.i64.wrap ((j : Int) + 1) = 1 + (j : Int) := by rw [IntKind.wrap_i64]; omega
      have jc : (j : Int) + 1 = 1 + (j : Int) := Int.add_comm _ _
      have JC := hid jc
      clear jc
      clear hc hv hvm hjv hel hjl hpt hoct q1 q2 q3 q4 HI he2 hD2
      by_cases hz : e2 = 0
      · subst hz
        have Q5 : Hid (R = runD ((putS l).drop (j + 1) ++ ([.fl, .wr 0 (headL l), .fl] ++ settleS l)) D2) := hid Q1.out
        clear Q1
        go_wp2_with (go_at_call 31; (first | refine HW.out.mono ?_ | (rw [JC.out]; refine HW.out.mono ?_)); rintro e w2 ⟨rfl, k1, k2⟩; have HK1 := hid k1; have HL2 := hid (Q3.out.trans k2); clear k1 k2)
        go_roundw
        case rel => exact ⟨j + 1, by omega, by go_num, hid ⟨D2, Q5.out, HK1.out, HL2.out, HW2.out⟩⟩
        case measure => simp [intOf]; omega
      · have HF : Hid (R = (D2, e2)) := hid (by rw [Q1.out, if_neg hz])
        have g1 : ((e2 : Int) != 0) = true := by rw [bne_iff_ne]; omega
        have g1n : (e2 != 0) = true := by rw [bne_iff_ne]; exact hz
        clear Q1
        go_wp2_with (go_at_call 31; (first | refine HW.out.mono ?_ | (rw [JC.out]; refine HW.out.mono ?_)); rintro e w2 ⟨rfl, k1, k2⟩; have HK1 := hid k1; have HL2 := hid (Q3.out.trans k2); clear k1 k2)
        go_ret
        unfold RunR
        rw [HF.out]
        exact ⟨rfl, HK1.out, HL2.out⟩
    · have e1 := lt_f hlt
      have e1n := lt_nf hlt
      rw [List.drop_of_length_le (by unfold putS putK; rw [List.length_map, List.length_range, HLL.out]; omega), List.nil_append] at q1
      obtain ⟨e2, he2⟩ : ∃ e2, (flushD D').2 = e2 := ⟨_, rfl⟩
      obtain ⟨D2, hD2⟩ : ∃ D2, (flushD D').1 = D2 := ⟨_, rfl⟩
      obtain ⟨e3, he3⟩ : ∃ e3, (writeD D2 0 (headL l)).2 = e3 := ⟨_, rfl⟩
      obtain ⟨D3, hD3⟩ : ∃ D3, (writeD D2 0 (headL l)).1 = D3 := ⟨_, rfl⟩
      obtain ⟨e4, he4⟩ : ∃ e4, (flushD D3).2 = e4 := ⟨_, rfl⟩
      obtain ⟨D4, hD4⟩ : ∃ D4, (flushD D3).1 = D4 := ⟨_, rfl⟩
      have Q1 : Hid (R = if e2 = 0 then (if e3 = 0 then (if e4 = 0 then runD (settleS l) D4 else (D4, e4)) else (D3, e3)) else (D2, e2)) := hid (by
        refine q1.trans ((runD_fl (r := .wr 0 (headL l) :: .fl :: settleS l) he2 hD2).trans ?_)
        rw [runD_wr (r := .fl :: settleS l) he3 hD3, runD_fl (r := settleS l) he4 hD4])
      have HFL := hid (by have := rflush_any q2 hsz (by have := HD.out; omega); rw [he2, hD2] at this; exact this : Calls Try.prog 32 #[.pointer (some ⟨m, 0, none⟩)] wr (RPost w0 wr m D2 (.int .i64 (e2 : Int))))
      have hw2 : D2.waits.length ≤ 71000 := by have := flush_wl D'; rw [hD2] at this; have := HD.out; omega
      have hw3 : D3.waits.length ≤ 72000 := by have := step_wl D2 0 (headL l); rw [hD3] at this; omega
      have hw4 : D4.waits.length ≤ 73000 := by have := flush_wl D3; rw [hD4] at this; omega
      have HWH := hid (fun (X : World) (hr : RSt w0 X m D2) (hz : w0.heap.size ≤ X.heap.size) => (by have := rwrite_d hr hz 0 (headL l) (by omega) HLH.out; rw [he3, hD3] at this; exact this : Calls Try.prog 31 #[.pointer (some ⟨m, 0, none⟩), .int .i64 0, .string (str (headL l))] X fun e w' => e = .returned (.int .i64 (e3 : Int)) ∧ RSt w0 w' m D3 ∧ RLets w0 X w'))
      have HFM := hid (fun (X : World) (hr : RSt w0 X m D3) (hz : w0.heap.size ≤ X.heap.size) => (by have := rflush_any hr hz (by omega); rw [he4, hD4] at this; exact this : Calls Try.prog 32 #[.pointer (some ⟨m, 0, none⟩)] X (RPost w0 X m D4 (.int .i64 (e4 : Int)))))
      have HOM := hid (fun (X : World) (hr : RSt w0 X m D4) (hL : RLets w0 W X) => HHO.out X D4 hr (Nat.le_trans HSZ.out hL.sz) (by omega) (HP.out.rlets hL))
      have HHE := hid (fun (X : World) (hL : RLets w0 W X) => HHD.out X (HP.out.rlets hL))
      clear q1 q2 q3 q4 HI he2 hD2 he3 hD3 he4 hD4 hw2 hw3 hw4 hlt
      by_cases hz2 : e2 = 0
      · subst hz2
        have Q5 : Hid (R = if e3 = 0 then (if e4 = 0 then runD (settleS l) D4 else (D4, e4)) else (D3, e3)) := hid Q1.out
        clear Q1
        by_cases hz3 : e3 = 0
        · subst hz3
          have Q6 : Hid (R = if e4 = 0 then runD (settleS l) D4 else (D4, e4)) := hid Q5.out
          clear Q5
          by_cases hz4 : e4 = 0
          · subst hz4
            have Q7 : Hid (R = runD (settleS l) D4) := hid Q6.out
            clear Q6
            go_wp2_with (first
              | (go_at_call 32; (with_reducible refine HFL.out.mono ?_); rintro e w2 ⟨rfl, k1, k2⟩; have HK1 := hid k1; have HL2 := hid (Q3.out.trans k2); clear k1 k2)
              | (go_at_call 11; refine (HHE.out _ HL2.out).mono ?_; rintro e w3 ⟨rfl, b3⟩; have HK2 := hid (HK1.out.below b3); have HL3 := hid (HL2.out.trans (RLets.of_below b3 (Nat.le_trans HSZ.out HL2.out.sz))); clear b3)
              | (go_at_call 31; refine (HWH.out _ HK2.out (Nat.le_trans HSZ.out HL3.out.sz)).mono ?_; rintro e w4 ⟨rfl, k1, k2⟩; have HK3 := hid k1; have HL4 := hid (HL3.out.trans k2); clear k1 k2)
              | (go_at_call 32; (with_reducible refine (HFM.out _ HK3.out (Nat.le_trans HSZ.out HL4.out.sz)).mono ?_); rintro e w5 ⟨rfl, k1, k2⟩; have HK4 := hid k1; have HL5 := hid (HL4.out.trans k2); clear k1 k2)
              | (go_at_call 61; refine (HOM.out _ HK4.out HL5.out).mono ?_; rintro e w6 ⟨rfl, k1, k2⟩; have HK5 := hid k1; have HL6 := hid (HL5.out.trans k2); clear k1 k2))
            go_ret
            unfold RunR
            rw [Q7.out]
            exact ⟨rfl, HK5.out, HL6.out⟩
          · have HF : Hid (R = (D4, e4)) := hid (by rw [Q6.out, if_neg hz4])
            have g4 : ((e4 : Int) != 0) = true := by rw [bne_iff_ne]; omega
            have nn : (e4 != 0) = true := by rw [bne_iff_ne]; exact hz4
            clear Q6
            go_wp2_with (first
              | (go_at_call 32; (with_reducible refine HFL.out.mono ?_); rintro e w2 ⟨rfl, k1, k2⟩; have HK1 := hid k1; have HL2 := hid (Q3.out.trans k2); clear k1 k2)
              | (go_at_call 11; refine (HHE.out _ HL2.out).mono ?_; rintro e w3 ⟨rfl, b3⟩; have HK2 := hid (HK1.out.below b3); have HL3 := hid (HL2.out.trans (RLets.of_below b3 (Nat.le_trans HSZ.out HL2.out.sz))); clear b3)
              | (go_at_call 31; refine (HWH.out _ HK2.out (Nat.le_trans HSZ.out HL3.out.sz)).mono ?_; rintro e w4 ⟨rfl, k1, k2⟩; have HK3 := hid k1; have HL4 := hid (HL3.out.trans k2); clear k1 k2)
              | (go_at_call 32; (with_reducible refine (HFM.out _ HK3.out (Nat.le_trans HSZ.out HL4.out.sz)).mono ?_); rintro e w5 ⟨rfl, k1, k2⟩; have HK4 := hid k1; have HL5 := hid (HL4.out.trans k2); clear k1 k2))
            go_ret
            unfold RunR
            rw [HF.out]
            exact ⟨rfl, HK4.out, HL5.out⟩
        · have HF : Hid (R = (D3, e3)) := hid (by rw [Q5.out, if_neg hz3])
          have g3 : ((e3 : Int) != 0) = true := by rw [bne_iff_ne]; omega
          have nn : (e3 != 0) = true := by rw [bne_iff_ne]; exact hz3
          clear Q5
          go_wp2_with (first
            | (go_at_call 32; (with_reducible refine HFL.out.mono ?_); rintro e w2 ⟨rfl, k1, k2⟩; have HK1 := hid k1; have HL2 := hid (Q3.out.trans k2); clear k1 k2)
            | (go_at_call 11; refine (HHE.out _ HL2.out).mono ?_; rintro e w3 ⟨rfl, b3⟩; have HK2 := hid (HK1.out.below b3); have HL3 := hid (HL2.out.trans (RLets.of_below b3 (Nat.le_trans HSZ.out HL2.out.sz))); clear b3)
            | (go_at_call 31; refine (HWH.out _ HK2.out (Nat.le_trans HSZ.out HL3.out.sz)).mono ?_; rintro e w4 ⟨rfl, k1, k2⟩; have HK3 := hid k1; have HL4 := hid (HL3.out.trans k2); clear k1 k2))
          go_ret
          unfold RunR
          rw [HF.out]
          exact ⟨rfl, HK3.out, HL4.out⟩
      · have HF : Hid (R = (D2, e2)) := hid (by rw [Q1.out, if_neg hz2])
        have g2 : ((e2 : Int) != 0) = true := by rw [bne_iff_ne]; omega
        have nn : (e2 != 0) = true := by rw [bne_iff_ne]; exact hz2
        clear Q1
        go_wp2_with (go_at_call 32; (with_reducible refine HFL.out.mono ?_); rintro e w2 ⟨rfl, k1, k2⟩; have HK1 := hid k1; have HL2 := hid (Q3.out.trans k2); clear k1 k2)
        go_ret
        unfold RunR
        rw [HF.out]
        exact ⟨rfl, HK1.out, HL2.out⟩
end Go.Proofs.Ytpppmijohfjigaa
