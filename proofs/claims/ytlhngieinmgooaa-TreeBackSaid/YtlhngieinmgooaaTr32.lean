/-
  The law TreeBack: its walk. A part of the proof: see the head of the text that ends in 'Law'.
-/
import Derived.Test.YtlhngieinmgooaaTr31
namespace Go.Proofs.Ytlhngieinmgooaa
open Go.RowKit
set_option linter.unusedVariables false
set_option maxRecDepth 100000
attribute [local go_sem] Oper.semAt_some

theorem may_uniq (l : List Pa) (hm : mayP l = true) (p q : Pa) (hp : p ∈ l) (hq : q ∈ l) (h : q.key = p.key) : q = p := by
  unfold mayP at hm
  simp only [Bool.and_eq_true, decide_eq_true_eq] at hm
  obtain ⟨i, hi, rfl⟩ := List.getElem_of_mem hp
  obtain ⟨j, hj, rfl⟩ := List.getElem_of_mem hq
  rcases Nat.lt_trichotomy i j with hij | rfl | hij
  · obtain ⟨d, rfl⟩ : ∃ d, j = i + d + 1 := ⟨j - i - 1, by omega⟩
    have := asc_lt l hm.1 d i hj
    omega
  · rfl
  · obtain ⟨d, rfl⟩ : ∃ d, i = j + d + 1 := ⟨i - j - 1, by omega⟩
    have := asc_lt l hm.1 d j hi
    omega
def hasK (key : Nat) (l : List Pa) : Bool := l.any fun p => p.key == key
theorem hasK_succ (key : Nat) (l : List Pa) (j : Nat) (h : j < l.length) : hasK key (l.take (j + 1)) = (hasK key (l.take j) || (l[j].key == key)) := by
  unfold hasK
  rw [List.take_succ_eq_append_getElem h, List.any_append]
  simp
set_option maxHeartbeats 8000000 in
theorem walkTreeBack (A0 : Option Addr) (n0 c0 : Nat) (l0 : List Pa) (key : Nat) (w : World) (hn0 : n0 ≤ c0) (hc0 : c0 ≤ maxLen) (hl0 : l0.length = n0) (hr0 : Row w A0 (l0.flatMap paC)) (hk0 : ∀ p ∈ l0, p.ok) (hkey : (key : Int) ≤ IntKind.u64.max) :
    Calls Try.prog 5 #[.slice A0 n0 c0, .int .u64 (key : Int)] w fun e w' => e = .returned (.bool true) ∧ Below w.heap.size w w' := by
  have HFW := hid (few_any A0 n0 c0 l0 w hr0 hl0 hn0)
  obtain ⟨l, hl⟩ : ∃ l, l0.take 601 = l := ⟨_, rfl⟩
  have hok : ∀ p ∈ l, p.ok := fun p hp => hk0 p (List.mem_of_mem_take (hl ▸ hp))
  have hl601 : l.length ≤ 601 := by rw [← hl, List.length_take]; omega
  rw [hl] at HFW
  have HOK := hid hok
  have HL6 := hid hl601
  have HBD := hid (fun (W : World) (A : Option Addr) (n c : Nat) (hr : Row W A (l.flatMap paC)) (hn : l.length = n) (hc : n ≤ c) => build_any A n c l W hr hn hc (by omega) hok)
  have HMY := hid (fun (W : World) (A : Option Addr) (n c : Nat) (hr : Row W A (l.flatMap paC)) (hn : l.length = n) => rmay_any A n c l W hr hn (by omega))
  clear hl hok hl601 hr0 hl0 hk0 hkey
  cases hmb : mayP l with
  | false =>
    have HBX := hid (fun (W : World) (A : Option Addr) (n c : Nat) (hr : Row W A (l.flatMap paC)) (hn : l.length = n) (hc : n ≤ c) => (HBD.out W A n c hr hn hc).mono (R' := fun e w' => Below W.heap.size W w' ∧ e = .returned (.tuple #[.slice none 0 0, .int .i64 1])) (by
      rintro e w' ⟨k1, ⟨k2, k3⟩ | ⟨k2, -⟩⟩
      · exact ⟨k1, k3⟩
      · rw [hmb] at k2; cases k2))
    rw [hmb] at HMY
    clear HBD hmb
    go_enter Try.func5, Try.ntmps5
    go_wp2_with (first
      | (go_at_call 6; refine HFW.out.mono ?_; rintro e w1 ⟨rfl, n, c, rfl, hnc, h1, h2⟩; have H1 := hid h1; have H2 := hid h2; clear h1 h2)
      | (go_at_call 7; refine (HBX.out _ A0 n c H2.out H1.out hnc).mono ?_; rintro e w2 ⟨b2, rfl⟩; have H3 := hid b2; clear b2)
      | (go_at_call 11; refine (HMY.out _ A0 n c (H2.out.below H3.out) H1.out).mono ?_; rintro e w6 ⟨rfl, b6⟩; have H9 := hid (past H3.out b6); clear b6)
      | (go_at_call 12; refine (awake_any _).mono ?_; rintro e w7 ⟨rfl, b7⟩; have HA := hid (past H9.out b7); clear b7))
    go_ret
    exact ⟨rfl, HA.out⟩
  | true =>
    have HMB := hid hmb
    have hm2 := hmb
    unfold mayP at hm2
    simp only [Bool.and_eq_true, decide_eq_true_eq] at hm2
    obtain ⟨pm, hpm⟩ : ∃ pm, (buildP l).length = pm := ⟨_, rfl⟩
    have hpm1 : 1 ≤ pm ∧ pm ≤ 200 := by
      have h2 := above7_le _ hm2.2
      have h3 := pagesF_le (aboveN l.length 7) (aboveN l.length 7)
      have h4 := aboveN_pos l.length 7
      rw [← hpm, build_len]
      refine ⟨?_, by omega⟩
      obtain ⟨f, hf⟩ : ∃ f, aboveN l.length 7 = f + 1 := ⟨aboveN l.length 7 - 1, by omega⟩
      rw [hf, pagesF]
      split <;> omega
    obtain ⟨hp1, hp2⟩ := hpm1
    obtain ⟨lev, hlev⟩ : ∃ lev, levN l.length = lev := ⟨_, rfl⟩
    have hlev3 : 1 ≤ lev ∧ lev ≤ 3 := by rw [← hlev]; unfold levN; split <;> (try split) <;> omega
    obtain ⟨hv1, hv3⟩ := hlev3
    have HBX := hid (fun (W : World) (A : Option Addr) (n c : Nat) (hr : Row W A (l.flatMap paC)) (hn : l.length = n) (hc : n ≤ c) => (HBD.out W A n c hr hn hc).mono (R' := fun e w' => Below W.heap.size W w' ∧ ∃ A3 c3, e = .returned (.tuple #[.slice A3 pm c3, .int .i64 0]) ∧ PIn w' A3 (buildP l)) (by
      rintro e w' ⟨k1, ⟨k2, -⟩ | ⟨k2, A3, m3, c3, vs, k3, k4⟩⟩
      · rw [hmb] at k2; cases k2
      · have := k4.pl
        rw [hpm] at this
        subst this
        exact ⟨k1, A3, c3, k3, k4.pin⟩))
    have HHIT := hid (fun (W : World) (A : Option Addr) (c : Nat) (p : Pa) (hp : p ∈ l) (hi : PIn W A (buildP l)) => (show Calls Try.prog 17 #[.slice A pm c, .int .u64 (p.key : Int)] W (fun e w' => Below W.heap.size W w' ∧ e = .returned (.tuple #[.int .u64 (p.val : Int), .int .i64 (lev : Int), .int .i64 0])) from by
      rw [← hlev]
      exact find_hit l hmb HOK.out A pm c p hp (fun q hq h => may_uniq l hmb p q hp hq h) W hi hpm hp1 hp2))
    have HMISS := hid (fun (W : World) (A : Option Addr) (c : Nat) (hk : ∀ p ∈ l, p.key ≠ key) (hi : PIn W A (buildP l)) => (show Calls Try.prog 17 #[.slice A pm c, .int .u64 (key : Int)] W (fun e w' => Below W.heap.size W w' ∧ ∃ v m : Nat, e = .returned (.tuple #[.int .u64 (v : Int), .int .i64 (m : Int), .int .i64 6]) ∧ 1 ≤ m ∧ m ≤ lev) from by
      rw [← hlev]
      exact find_miss l hmb HOK.out A pm c key hk W hi hpm hp1 hp2))
    have HALL := hid (fun (W : World) (A : Option Addr) (c : Nat) (hi : PIn W A (buildP l)) => (all_any A pm c (buildP l) W hi hpm (by
      have h2 := above7_le _ hm2.2
      have h3 := pagesI_len l hmb l.length rfl
      have h4 : ∀ k : Nat, k ≤ 600 → pagesI (k : Int) ≤ 99 := by
        intro k hk
        unfold pagesI
        rw [if_neg (by omega), Int.toNat_natCast]
        have h5 := above7_le k hk
        have h6 := aboveN_pos k 7
        generalize aboveN k 7 = a at h5 h6
        obtain ⟨f, rfl⟩ : ∃ f, a = f + 1 := ⟨a - 1, by omega⟩
        rw [pagesF]
        split
        · omega
        · have h7 : aboveN (f + 1) 12 ≤ 8 := by unfold aboveN; split <;> omega
          have h8 := aboveN_pos (f + 1) 12
          generalize aboveN (f + 1) 12 = b at h7 h8
          cases f with
          | zero => rw [pagesF]; omega
          | succ f =>
            rw [pagesF]
            split
            · omega
            · have h9 : aboveN b 12 = 1 := by unfold aboveN; split <;> omega
              rw [h9]
              cases f with
              | zero => rw [pagesF]; omega
              | succ f => rw [pagesF, if_pos (by omega)]; omega
      have h10 := h4 l.length hm2.2
      rw [h3, hpm] at h10
      exact h10)).mono (R' := fun e w' => Below W.heap.size W w' ∧ ∃ A1 q c1, e = .returned (.tuple #[.slice A1 q c1, .int .i64 0]) ∧ l.length = q ∧ Row w' A1 (l.flatMap paC)) (by
      rintro e w' ⟨k1, ⟨k2, -⟩ | ⟨l', A1, q, c1, k2, k3, k4, k5⟩⟩
      · rw [all_build l hmb HOK.out] at k2; cases k2
      · rw [all_build l hmb HOK.out] at k2
        injection k2 with k2
        subst k2
        exact ⟨k1, A1, q, c1, k3, k4, k5⟩))
    have HLV := hid hlev
    clear HBD hmb HMY hm2 hpm hlev
    go_enter Try.func5, Try.ntmps5
    have q1 : ((pm : Int) == 0) = false := ne_f (b := 0) (by omega)
    have q1n : (pm == 0) = false := ne_n (by omega)
    go_upto_if 43 with (first
      | (go_at_call 6; refine HFW.out.mono ?_; rintro e w1 ⟨rfl, n, c, rfl, hnc, h1, h2⟩; have H1 := hid h1; have H2 := hid h2; clear h1 h2)
      | (go_at_call 7; refine (HBX.out _ A0 n c H2.out H1.out hnc).mono ?_; rintro e w2 ⟨b2, A3, c3, rfl, p3⟩; have H3 := hid b2; have HP3 := hid p3; clear b2 p3))
    obtain ⟨lv1, hlv1⟩ : ∃ lv1, (if 7 < n then 2 else 1) = lv1 := ⟨_, rfl⟩
    go_cut [7] (fun s7 wx => s7 = .int .i64 (lv1 : Int) ∧ w2 = wx)
    case first =>
      by_cases h7 : 7 < n
      · have g7 : decide ((7 : Int) < (n : Int)) = true := by rw [decide_eq_true_iff]; omega
        have g7n : decide (7 < n) = true := by simpa using h7
        rw [if_pos h7] at hlv1
        subst hlv1
        go_wp2_with fail
        go_meet
        exact ⟨rfl, rfl⟩
      · have g7 : decide ((7 : Int) < (n : Int)) = false := by rw [decide_eq_false_iff_not]; omega
        have g7n : decide (7 < n) = false := by rw [decide_eq_false_iff_not]; exact h7
        rw [if_neg h7] at hlv1
        subst hlv1
        go_wp2_with fail
        go_meet
        exact ⟨rfl, rfl⟩
    case rest =>
    obtain ⟨rfl, rfl⟩ := hcut
    have HLW : Hid (lev = if 84 < n then 3 else lv1) := hid (by
      rw [← HLV.out, H1.out, ← hlv1]
      unfold levN
      rfl)
    clear hlv1
    go_upto_if 46 with fail
    go_cut [7] (fun s7 wx => s7 = .int .i64 (lev : Int) ∧ w2 = wx)
    case first =>
      by_cases h7 : 84 < n
      · have g7 : decide ((84 : Int) < (n : Int)) = true := by rw [decide_eq_true_iff]; omega
        have g7n : decide (84 < n) = true := by simpa using h7
        have HF : Hid (lev = 3) := hid (by rw [HLW.out, if_pos h7])
        go_wp2_with fail
        go_meet
        exact ⟨by rw [HF.out]; rfl, rfl⟩
      · have g7 : decide ((84 : Int) < (n : Int)) = false := by rw [decide_eq_false_iff_not]; omega
        have g7n : decide (84 < n) = false := by rw [decide_eq_false_iff_not]; exact h7
        have HF : Hid (lv1 = lev) := hid (by rw [HLW.out, if_neg h7])
        go_wp2_with fail
        go_meet
        exact ⟨by rw [HF.out], rfl⟩
    case rest =>
    obtain ⟨rfl, rfl⟩ := hcut
    clear HLW HLV
    have hn601 : n ≤ 601 := by have := HL6.out; have := H1.out; omega
    go_wp2_with fail
    have J0 : Hid (hasK key (l.take 0) = false) := hid rfl
    go_loopw [8, 9] (fun v8 v9 wr => ∃ (j : Nat) (t : Bool), j ≤ n ∧ v8 = .bool t ∧ v9 = .int .i64 (j : Int) ∧ Hid (hasK key (l.take j) = t) ∧ Hid (Below w2.heap.size w2 wr)) (fun v8 v9 wr => n - (intOf v9).toNat)
    case atStart => exact ⟨0, false, Nat.zero_le _, rfl, rfl, J0, hid (Below.refl _ _)⟩
    case round =>
      clear J0
      obtain ⟨j, t, hj, rfl, rfl, HT, HB⟩ := hrel
      rename World => wr
      by_cases hlt : j < n
      · have e1 := lt_t hlt
        have e1n := lt_nt hlt
        have k0 : (0 : Int) ≤ (j : Int) := by omega
        have k1 : (j : Int) < (n : Int) := by omega
        have k2 : (j : Int).toNat = j := by omega
        have hj1 : j < l.length := by rw [H1.out]; exact hlt
        obtain ⟨b, off, rfl, rx⟩ := pa_at H2.out hj1
        have hbw := past H3.out HB.out
        have x0 := cells_keep hbw (rx j hj1).1
        have x1 := cells_keep hbw (rx j hj1).2
        obtain ⟨p, hp⟩ : ∃ p, l[j] = p := ⟨_, rfl⟩
        rw [hp] at x0 x1
        have hpm : p ∈ l := hp ▸ List.getElem_mem hj1
        have HST : Hid (hasK key (l.take (j + 1)) = (t || (p.key == key))) := hid (by rw [hasK_succ key l j hj1, HT.out, hp])
        have n1 : ((p.val : Int) != (p.val : Int)) = false := by simp
        have n2 : ((lev : Int) != (lev : Int)) = false := by simp
        clear rx hp hj1 hbw
        cases t with
        | true =>
          have HS2 : Hid (hasK key (l.take (j + 1)) = true) := hid (by rw [HST.out]; rfl)
          clear HST
          go_wp2_with (go_at_call 17; (with_reducible refine (HHIT.out wr A3 c3 p hpm (HP3.out.below HB.out)).mono ?_); rintro e w5 ⟨b5, rfl⟩; have HB5 := hid (past HB.out b5); have y0 := cells_keep b5 x0; have y1 := cells_keep b5 x1; clear b5)
          go_roundw
          case rel => exact ⟨j + 1, true, by omega, rfl, by go_num, HS2, HB5⟩
          case measure => simp [intOf]; omega
        | false =>
          by_cases hpk : p.key = key
          · have m1 : ((p.key : Int) == (key : Int)) = true := by rw [hpk]; simp
            have m1n : (p.key == key) = true := by rw [hpk]; simp
            have HS2 : Hid (hasK key (l.take (j + 1)) = true) := hid (by rw [HST.out, m1n]; rfl)
            clear HST hpk
            go_wp2_with (go_at_call 17; (with_reducible refine (HHIT.out wr A3 c3 p hpm (HP3.out.below HB.out)).mono ?_); rintro e w5 ⟨b5, rfl⟩; have HB5 := hid (past HB.out b5); have y0 := cells_keep b5 x0; have y1 := cells_keep b5 x1; clear b5)
            go_roundw
            case rel => exact ⟨j + 1, true, by omega, by first | rfl | (rw [m1]; rfl), by go_num, HS2, HB5⟩
            case measure => simp [intOf]; omega
          · have m1 : ((p.key : Int) == (key : Int)) = false := ne_f hpk
            have m1n : (p.key == key) = false := ne_n hpk
            have HS2 : Hid (hasK key (l.take (j + 1)) = false) := hid (by rw [HST.out, m1n]; rfl)
            clear HST hpk
            go_wp2_with (go_at_call 17; (with_reducible refine (HHIT.out wr A3 c3 p hpm (HP3.out.below HB.out)).mono ?_); rintro e w5 ⟨b5, rfl⟩; have HB5 := hid (past HB.out b5); have y0 := cells_keep b5 x0; have y1 := cells_keep b5 x1; clear b5)
            go_roundw
            case rel => exact ⟨j + 1, false, by omega, by first | rfl | (rw [m1]; rfl), by go_num, HS2, HB5⟩
            case measure => simp [intOf]; omega
      · have e1 := lt_f hlt
        have e1n := lt_nf hlt
        have hjn : j = n := by omega
        have ht2 := HT.out
        rw [List.take_of_length_le (by rw [H1.out]; omega)] at ht2
        have HTL := hid ht2
        clear HT ht2 hlt
        subst hjn
        cases t with
        | true =>
          have hex : ∃ p ∈ l, p.key = key := by
            have := HTL.out
            unfold hasK at this
            obtain ⟨p, hp, hpk⟩ := List.any_eq_true.1 this
            exact ⟨p, hp, by simpa using hpk⟩
          obtain ⟨p, hp, hpk⟩ := hex
          have HF := hid (fun (W : World) (A : Option Addr) (c : Nat) (hi : PIn W A (buildP l)) => HHIT.out W A c p hp hi)
          rw [hpk] at HF
          have d1 : decide ((1 : Int) ≤ (lev : Int)) = true := by rw [decide_eq_true_iff]; omega
          have d2 : decide ((lev : Int) ≤ (lev : Int)) = true := by simp
          have d1n : decide (1 ≤ lev) = true := by rw [decide_eq_true_iff]; omega
          clear hpk
          go_wp2_with (first
            | (go_at_call 17; refine (HF.out wr A3 c3 (HP3.out.below HB.out)).mono ?_; rintro e w5 ⟨b5, rfl⟩; have HB5 := hid (past HB.out b5); clear b5)
            | (go_at_call 14; refine (HALL.out w5 A3 c3 (HP3.out.below HB5.out)).mono ?_; rintro e w6 ⟨b6, A6, q6, c6, rfl, h6, r6⟩; have HB6 := hid (past HB5.out b6); have H6 := hid h6; have R6 := hid r6; clear b6 h6 r6)
            | (go_at_call 16; refine (same_any A6 A0 q6 c6 j c l l w6 R6.out (H2.out.below (past H3.out HB6.out)) H6.out H1.out (by have := H6.out; have := HL6.out; omega)).mono ?_; rintro e w7 ⟨he, b7⟩; (rw [show decide (l = l) = true by simp] at he); subst he; have HB7 := hid (past HB6.out b7); clear b7)
            | (go_at_call 12; refine (awake_any _).mono ?_; rintro e w8 ⟨rfl, b8⟩; have HB8 := hid (past HB7.out b8); clear b8))
          go_ret
          exact ⟨rfl, past H3.out HB8.out⟩
        | false =>
          have hno : ∀ p ∈ l, p.key ≠ key := by
            intro p hp hpk
            have := HTL.out
            unfold hasK at this
            rw [List.any_eq_false] at this
            exact this p hp (by simpa using hpk)
          have HF := hid (fun (W : World) (A : Option Addr) (c : Nat) (hi : PIn W A (buildP l)) => HMISS.out W A c hno hi)
          go_wp2_with (first
            | (go_at_call 17; refine (HF.out wr A3 c3 (HP3.out.below HB.out)).mono ?_; rintro e w5 ⟨b5, v5, m5, rfl, hm5, hm6⟩; have HB5 := hid (past HB.out b5)
               have d1 : decide ((1 : Int) ≤ (m5 : Int)) = true := by (rw [decide_eq_true_iff]; omega)
               have d1n : decide (1 ≤ m5) = true := by (rw [decide_eq_true_iff]; omega)
               have d2 : decide ((m5 : Int) ≤ (lev : Int)) = true := by (rw [decide_eq_true_iff]; omega)
               have d2n : decide (m5 ≤ lev) = true := by (rw [decide_eq_true_iff]; omega)
               clear b5)
            | (go_at_call 14; refine (HALL.out w5 A3 c3 (HP3.out.below HB5.out)).mono ?_; rintro e w6 ⟨b6, A6, q6, c6, rfl, h6, r6⟩; have HB6 := hid (past HB5.out b6); have H6 := hid h6; have R6 := hid r6; clear b6 h6 r6)
            | (go_at_call 16; refine (same_any A6 A0 q6 c6 j c l l w6 R6.out (H2.out.below (past H3.out HB6.out)) H6.out H1.out (by have := H6.out; have := HL6.out; omega)).mono ?_; rintro e w7 ⟨he, b7⟩; (rw [show decide (l = l) = true by simp] at he); subst he; have HB7 := hid (past HB6.out b7); clear b7)
            | (go_at_call 12; refine (awake_any _).mono ?_; rintro e w8 ⟨rfl, b8⟩; have HB8 := hid (past HB7.out b8); clear b8))
          go_ret
          exact ⟨rfl, past H3.out HB8.out⟩
end Go.Proofs.Ytlhngieinmgooaa
