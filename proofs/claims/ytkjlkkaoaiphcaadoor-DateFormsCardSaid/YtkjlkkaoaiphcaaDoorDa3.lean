/-
  A day's number, and a number's day, as the document reckons them: the walks. A part of the proof: see the head of the text that ends in 'Law'.
-/
import Derived.Test.YtkjlkkaoaiphcaaDoorDa2
namespace Go.Proofs.YtkjlkkaoaiphcaaDoor
open Go.RowKit
set_option linter.unusedVariables false

set_option maxHeartbeats 2000000 in
theorem rdays_no (y m d : Int) (w : World) (h : ¬ okD y m d) :
    Calls Tryd.prog 9 #[.int .i64 y, .int .i64 m, .int .i64 d] w fun e w' => e = .returned (.tuple #[.int .i64 0, .bool false]) ∧ w = w' := by
  have h := not_okD h
  by_cases h1 : y < 1
  · have d1 : decide (y < 1) = true := by simpa using h1
    clear h h1
    go_enter Tryd.func9, Tryd.ntmps9
    go_wp2
    go_ret2
    exact ⟨rfl, rfl⟩
  · have d1 : decide (y < 1) = false := by simpa using h1
    by_cases h2 : 9999 < y
    · have d2 : decide (9999 < y) = true := by simpa using h2
      clear h h1 h2
      go_enter Tryd.func9, Tryd.ntmps9
      go_wp2
      go_ret2
      exact ⟨rfl, rfl⟩
    · have d2 : decide (9999 < y) = false := by simpa using h2
      by_cases h3 : m < 1
      · have d3 : decide (m < 1) = true := by simpa using h3
        clear h h1 h2 h3
        go_enter Tryd.func9, Tryd.ntmps9
        go_wp2
        go_ret2
        exact ⟨rfl, rfl⟩
      · have d3 : decide (m < 1) = false := by simpa using h3
        by_cases h4 : 12 < m
        · have d4 : decide (12 < m) = true := by simpa using h4
          clear h h1 h2 h3 h4
          go_enter Tryd.func9, Tryd.ntmps9
          go_wp2
          go_ret2
          exact ⟨rfl, rfl⟩
        · have d4 : decide (12 < m) = false := by simpa using h4
          by_cases h5 : d < 1
          · have d5 : decide (d < 1) = true := by simpa using h5
            clear h h1 h2 h3 h4 h5
            go_enter Tryd.func9, Tryd.ntmps9
            go_wp2
            go_ret2
            exact ⟨rfl, rfl⟩
          · have d5 : decide (d < 1) = false := by simpa using h5
            obtain ⟨a, rfl⟩ : ∃ a : Nat, y = a := ⟨y.toNat, by omega⟩
            obtain ⟨b, rfl⟩ : ∃ b : Nat, m = b := ⟨m.toNat, by omega⟩
            rw [Int.toNat_natCast, Int.toNat_natCast] at h
            have hlg := refLong_any a b w (by omega) (by omega) (by omega)
            obtain ⟨L, hL⟩ : ∃ L, longN a b = L := ⟨_, rfl⟩
            rw [hL] at h hlg
            have d6 : decide ((L : Int) < d) = true := by simp; omega
            have HLG := hid hlg
            clear hlg h h1 h2 h3 h4 h5 hL
            go_enter Tryd.func9, Tryd.ntmps9
            go_wp2_with (go_at_call 27; (with_reducible refine HLG.out.mono ?_); rintro e w1 ⟨rfl, rfl⟩)
            go_ret2
            exact ⟨rfl, rfl⟩
theorem cast_mono {a b : Nat} (h : a ≤ b) : (ahd a : Int) ≤ ahd b := by
  have := ahd_mono h
  omega
set_option maxHeartbeats 4000000 in
theorem rdays_yes (y m d : Nat) (w : World) (h : Vld y m d) :
    Calls Tryd.prog 9 #[.int .i64 (y : Int), .int .i64 (m : Int), .int .i64 (d : Int)] w fun e w' => e = .returned (.tuple #[.int .i64 (dayN y m d), .bool true]) ∧ w = w' := by
  have hlg := fun (k : Nat) (hk : 1 ≤ k) (hk2 : k ≤ 12) => refLong_any y k w (by have := h.2.1; omega) hk hk2
  have hwh := fun (k : Nat) (hk : k ≤ 10000) => whole_any k w (by omega)
  have hcm := fun (k : Nat) (hk : k ≤ 12) => cum_le y k (by omega)
  have hll := fun (k : Nat) => long_le y k
  have hcs := fun (k : Nat) (hk : 1 ≤ k) => cum_succ y k hk
  have hc1 := cum_one y
  obtain ⟨h1, h2, h3, h4, h5, h6⟩ := h
  have d1 : decide ((y : Int) < 1) = false := by simp; omega
  have d2 : decide (9999 < (y : Int)) = false := by simp; omega
  have d2' : decide (9999 < y) = false := by simp; omega
  have d3 : decide ((m : Int) < 1) = false := by simp; omega
  have d4 : decide (12 < (m : Int)) = false := by simp; omega
  have d4' : decide (12 < m) = false := by simp; omega
  have d5 : decide ((d : Int) < 1) = false := by simp; omega
  have hd31 : d ≤ 31 := Nat.le_trans h6 (hll m).2
  have d6 : decide ((longN y m : Int) < d) = false := by simp; omega
  have d6' : decide (longN y m < d) = false := by simp; omega
  have HLG := hid hlg
  have HWH := hid hwh
  have HCM := hid hcm
  have HLL := hid hll
  have HCS := hid hcs
  have HC1 := hid hc1
  have HL0 := hid (hlg m (by omega) (by omega))
  clear hlg hcm hll hcs hc1 h6 hwh
  go_enter Tryd.func9, Tryd.ntmps9
  go_wp2_with (go_at_call 27; (with_reducible refine HL0.out.mono ?_); rintro e w1 ⟨rfl, rfl⟩)
  go_loop [8, 9] (fun t i => ∃ k c : Nat, 1 ≤ k ∧ k ≤ m ∧ i = .int .i64 (k : Int) ∧ Hid (c = cum y k) ∧ c ≤ 366 ∧ t = .int .i64 ((d : Int) - 1 + (c : Int))) (fun _ i => m - (intOf i).toNat)
  case atStart => exact ⟨1, 0, by omega, by omega, rfl, hid HC1.out.symm, by omega, by simp⟩
  case round =>
    obtain ⟨k, c, hk1, hk, rfl, hc, hc3, rfl⟩ := hrel
    by_cases hlt : k < m
    · have e1 : decide (k < m) = true := by simpa using hlt
      have c2 := HLL.out k
      have hL := HLG.out k (by omega) (by omega)
      obtain ⟨L, hL'⟩ : ∃ L, longN y k = L := ⟨_, rfl⟩
      rw [hL'] at c2 hL
      have c3 := hid (show c + L = cum y (k + 1) by rw [HCS.out k hk1, hc.out, hL'])
      have c4 := HCM.out (k + 1) (by omega)
      rw [← c3.out] at c4
      have HL1 := hid hL
      clear hL hL'
      go_wp2_with (go_at_call 27; (with_reducible refine HL1.out.mono ?_); rintro e w1 ⟨rfl, rfl⟩)
      go_round
      case rel => exact ⟨k + 1, c + L, by omega, by omega, by go_num, c3, by omega, by go_num⟩
      case measure => simp [intOf]; omega
    · have e1 : decide (k < m) = false := by simpa using hlt
      obtain rfl : k = m := by omega
      go_wp2
      have e1970 : ahd 1970 = 719162 := by decide +kernel
      have HE := hid e1970
      clear e1970
      go_loop [8, 10] (fun t i => ∃ j a : Nat, 1970 ≤ j ∧ j ≤ max y 1970 ∧ i = .int .i64 (j : Int) ∧ Hid (a = ahd j) ∧ 719162 ≤ a ∧ a ≤ 3652059 ∧ t = .int .i64 ((d : Int) - 1 + (c : Int) + ((a : Int) - 719162))) (fun _ i => y - (intOf i).toNat)
      case atStart => exact ⟨1970, 719162, by omega, by omega, rfl, hid HE.out.symm, by omega, by omega, by simp⟩
      case round =>
        obtain ⟨j, a, hj1, hj2, rfl, ha, ha1, ha2, rfl⟩ := hrel
        by_cases hjy : j < y
        · have e2 : decide (j < y) = true := by simpa using hjy
          have hW := HWH.out j (by omega)
          have hwl := whole_le j
          obtain ⟨W, hW'⟩ : ∃ W, wholeN j = W := ⟨_, rfl⟩
          have c5 := hid (show a + W = ahd (j + 1) by rw [ahd_succ j (by omega), ha.out, hW'])
          have c6 := ahd_le (j + 1) (by omega)
          rw [← c5.out] at c6
          rw [hW'] at hW hwl
          have HW := hid hW
          clear hW hW'
          go_wp2_with (go_at_call 28; (with_reducible refine HW.out.mono ?_); rintro e w1 ⟨rfl, rfl⟩)
          go_round
          case rel => exact ⟨j + 1, a + W, by omega, by omega, by go_num, c5, by omega, by omega, by go_num⟩
          case measure => simp [intOf]; omega
        · have e2 : decide (j < y) = false := by simpa using hjy
          go_wp2
          by_cases hy7 : y < 1970
          · have HA7 := hid (show a = 719162 by rw [ha.out, show j = 1970 by omega]; exact HE.out)
            go_loop [8, 11] (fun t i => ∃ q b : Nat, y ≤ q ∧ q ≤ 1970 ∧ i = .int .i64 (q : Int) ∧ Hid ((b : Int) = (ahd q : Int) - ahd y) ∧ b ≤ 719162 ∧ t = .int .i64 ((d : Int) - 1 + (c : Int) - (b : Int))) (fun _ i => 1970 - (intOf i).toNat)
            case atStart => exact ⟨y, 0, by omega, by omega, rfl, hid (by omega), by omega, by rw [HA7.out]; simp⟩
            case round =>
              obtain ⟨q, b, hq1, hq2, rfl, hb, hb1, rfl⟩ := hrel
              by_cases hqy : q < 1970
              · have e3 : decide ((q : Int) < 1970) = true := by simp; omega
                have e3' : decide (q < 1970) = true := by simpa using hqy
                have hW := HWH.out q (by omega)
                have hwl := whole_le q
                obtain ⟨W, hW'⟩ : ∃ W, wholeN q = W := ⟨_, rfl⟩
                have hs := ahd_succ q (by omega)
                have c6 := cast_mono (show q + 1 ≤ 1970 by omega)
                rw [HE.out] at c6
                have c7 : ((b + W : Nat) : Int) = (ahd (q + 1) : Int) - ahd y := by
                  have := hb.out
                  rw [hs, hW']
                  omega
                have c8 : b + W ≤ 719162 := by omega
                rw [hW'] at hW hwl
                have HW := hid hW
                have c7 := hid c7
                clear hW hW' hs c6
                go_wp2_with (go_at_call 28; (with_reducible refine HW.out.mono ?_); rintro e w1 ⟨rfl, rfl⟩)
                go_round
                case rel => exact ⟨q + 1, b + W, by omega, by omega, by go_num, c7, by omega, by go_num⟩
                case measure => simp [intOf]; omega
              · have e3 : decide ((q : Int) < 1970) = false := by simp; omega
                have e3' : decide (q < 1970) = false := by simpa using hqy
                obtain rfl : q = 1970 := by omega
                have HOUT := hid (show dayN y k d = (d : Int) - 1 + (c : Int) - (b : Int) by
                  have := hb.out
                  rw [HE.out] at this
                  unfold dayN
                  rw [← hc.out]
                  omega)
                go_wp2
                go_ret2
                exact ⟨by rw [HOUT.out]; rfl, rfl⟩
          · obtain rfl : j = y := by omega
            have HOUT := hid (show dayN j k d = (d : Int) - 1 + (c : Int) + ((a : Int) - 719162) by
              unfold dayN
              rw [← hc.out, ← ha.out]
              omega)
            have e3 : decide ((j : Int) < 1970) = false := by simp; omega
            have e3' : decide (j < 1970) = false := by simpa using hy7
            go_loop [8, 11] (fun t i => i = .int .i64 (j : Int) ∧ t = .int .i64 ((d : Int) - 1 + (c : Int) + ((a : Int) - 719162))) (fun _ i => 0)
            case atStart => exact ⟨rfl, rfl⟩
            case round =>
              obtain ⟨rfl, rfl⟩ := hrel
              go_wp2
              go_ret2
              exact ⟨by rw [HOUT.out]; rfl, rfl⟩
set_option maxHeartbeats 2000000 in
theorem rcivil_no (n : Int) (w : World) (h : n < -719162 ∨ 2932896 < n) :
    Calls Tryd.prog 11 #[.int .i64 n] w fun e w' => e = .returned (.tuple #[.int .i64 0, .int .i64 0, .int .i64 0, .bool false]) ∧ w = w' := by
  by_cases h1 : n < -719162
  · have d1 : decide (n < -719162) = true := by simpa using h1
    clear h h1
    go_enter Tryd.func11, Tryd.ntmps11
    go_wp2
    exact bodyPost_ret (v := .tuple #[.int .i64 0, .int .i64 0, .int .i64 0, .bool false]) (by simp [results, Tryd.results11, go_sem]) rfl ⟨rfl, rfl⟩
  · have d1 : decide (n < -719162) = false := by simpa using h1
    have d2 : decide (2932896 < n) = true := by simp; omega
    clear h h1
    go_enter Tryd.func11, Tryd.ntmps11
    go_wp2
    exact bodyPost_ret (v := .tuple #[.int .i64 0, .int .i64 0, .int .i64 0, .bool false]) (by simp [results, Tryd.results11, go_sem]) rfl ⟨rfl, rfl⟩
set_option maxHeartbeats 4000000 in
theorem rcivil_yes (n : Int) (w : World) (h1 : -719162 ≤ n) (h2 : n ≤ 2932896) :
    Calls Tryd.prog 11 #[.int .i64 n] w fun e w' => e = .returned (.tuple #[.int .i64 ((civ n).1 : Int), .int .i64 ((civ n).2.1 : Int), .int .i64 ((civ n).2.2 : Int), .bool true]) ∧ w = w' := by
  have d1 : decide (n < -719162) = false := by simp; omega
  have d2 : decide (2932896 < n) = false := by simp; omega
  obtain ⟨N, hN⟩ : ∃ N : Nat, n + 719162 = N := ⟨(n + 719162).toNat, by omega⟩
  have HN := hid hN
  have hNb : N ≤ 3652058 := by omega
  have HE := hid (show ahd 1970 = 719162 by decide +kernel)
  have HZ := hid (show ahd 1 = 0 by decide)
  have HM := hid (show ahd 10000 = 3652059 by decide +kernel)
  have HW := hid (fun (k : Nat) (hk : k ≤ 10000) => whole_any k w (by omega))
  clear hN
  go_enter Tryd.func11, Tryd.ntmps11
  go_wp2
  go_loop [0, 6] (fun t i => ∃ (R : Int) (y : Nat), 1 ≤ y ∧ y ≤ 1970 ∧ -719162 ≤ R ∧ R ≤ 2932896 ∧ Hid (R + (ahd y : Int) = (N : Int)) ∧ t = .int .i64 R ∧ i = .int .i64 (y : Int)) (fun _ i => (intOf i).toNat)
  case atStart => exact ⟨n, 1970, by omega, by omega, h1, h2, hid (by rw [HE.out]; exact HN.out), rfl, rfl⟩
  case round =>
    obtain ⟨R, y, hy1, hy2, hR1, hR2, hS, rfl, rfl⟩ := hrel
    by_cases hneg : R < 0
    · have e1 : decide (R < 0) = true := by simpa using hneg
      have hy0 : 2 ≤ y := by
        apply Classical.byContradiction
        intro hc
        obtain rfl : y = 1 := by omega
        have := hS.out
        rw [HZ.out] at this
        omega
      obtain ⟨x, rfl⟩ : ∃ x, y = x + 1 := ⟨y - 1, by omega⟩
      have hw := HW.out x (by omega)
      have hwl := whole_le x
      have hs := ahd_succ x (by omega)
      obtain ⟨W, hW⟩ : ∃ W, wholeN x = W := ⟨_, rfl⟩
      rw [hW] at hw hwl hs
      have HS := hid (show R + (W : Int) + (ahd x : Int) = (N : Int) by have := hS.out; rw [hs] at this; omega)
      have HW1 := hid hw
      clear hw hW hs
      go_wp2_with (go_at_call 28; (with_reducible refine HW1.out.mono ?_); rintro e w1 ⟨rfl, rfl⟩)
      go_round
      case rel => exact ⟨R + W, x, by omega, by omega, by omega, by omega, HS, by go_num, by go_num⟩
      case measure => simp [intOf]
    · have e1 : decide (R < 0) = false := by simpa using hneg
      go_wp2
      obtain ⟨r, rfl⟩ : ∃ r : Nat, R = r := ⟨R.toNat, by omega⟩
      go_loop [0, 6] (fun t i => ∃ (R y : Nat), 1 ≤ y ∧ y ≤ 9999 ∧ R ≤ 2932896 ∧ Hid (R + ahd y = N) ∧ t = .int .i64 (R : Int) ∧ i = .int .i64 (y : Int)) (fun _ i => 10000 - (intOf i).toNat)
      case atStart => exact ⟨r, y, by omega, by omega, by omega, hid (by have := hS.out; omega), rfl, rfl⟩
      case round =>
        obtain ⟨R, y, hy1, hy2, hR2, hS, rfl, rfl⟩ := hrel
        have hw := HW.out y (by omega)
        have hwl := whole_le y
        have hs := ahd_succ y hy1
        by_cases hge : wholeN y ≤ R
        · have hy9 : y + 1 ≤ 9999 := by
            apply Classical.byContradiction
            intro hc
            obtain rfl : y = 9999 := by omega
            have h1 := HM.out
            have h2 := hS.out
            rw [show (10000 : Nat) = 9999 + 1 from rfl] at h1
            omega
          obtain ⟨W, hW⟩ : ∃ W, wholeN y = W := ⟨_, rfl⟩
          rw [hW] at hw hwl hs hge
          have HS := hid (show R - W + ahd (y + 1) = N by have := hS.out; rw [hs]; omega)
          have e2 : decide (W ≤ R) = true := by simpa using hge
          have HW1 := hid hw
          clear hw hW hs
          go_wp2_with (go_at_call 28; (with_reducible refine HW1.out.mono ?_); rintro e w1 ⟨rfl, rfl⟩)
          go_round
          case rel => exact ⟨R - W, y + 1, by omega, by omega, by omega, HS, by go_num, by go_num⟩
          case measure => simp [intOf]; omega
        · have HNW := hid (show N < ahd y + wholeN y by have := hS.out; omega)
          obtain ⟨W, hW⟩ : ∃ W, wholeN y = W := ⟨_, rfl⟩
          rw [hW] at hw hwl hs hge
          have e2 : decide (W ≤ R) = false := by simpa using hge
          have HW1 := hid hw
          have HLG := hid (fun k hk1 hk2 => refLong_any y k w (by omega) hk1 hk2)
          have HC1 := hid (show ahd y + cum y 1 + R = N by have := hS.out; rw [cum_one]; omega)
          clear hw hW hs
          go_wp2_with (go_at_call 28; (with_reducible refine HW1.out.mono ?_); rintro e w1 ⟨rfl, rfl⟩)
          go_loop [0, 7] (fun t k => ∃ m Q : Nat, 1 ≤ m ∧ m ≤ 12 ∧ Q ≤ R ∧ Hid (ahd y + cum y m + Q = N) ∧ t = .int .i64 (Q : Int) ∧ k = .int .i64 (m : Int)) (fun _ k => 13 - (intOf k).toNat)
          case atStart => exact ⟨1, R, by omega, by omega, by omega, HC1, rfl, rfl⟩
          case round =>
            obtain ⟨m, Q, hm1, hm2, hQ, hS, rfl, rfl⟩ := hrel
            have hlm := HLG.out m hm1 hm2
            have hll := long_le y m
            by_cases hge : longN y m ≤ Q
            · have hme := month_end hm2 hm1 hS.out HNW.out hge
              have hm3 := hme.1
              have HME := hid hme.2
              obtain ⟨L, hL⟩ : ∃ L, longN y m = L := ⟨_, rfl⟩
              rw [hL] at hge hlm hll HME
              have d4 : decide (L ≤ Q) = true := by simpa using hge
              have HLM := hid hlm
              clear hlm hme hL
              go_wp2_with (go_at_call 27; (with_reducible refine HLM.out.mono ?_); rintro e w1 ⟨rfl, rfl⟩)
              go_round
              case rel => exact ⟨m + 1, Q - L, by omega, by omega, by omega, HME, by go_num, by go_num⟩
              case measure => simp [intOf]; omega
            · have HCV := hid (civ_at (y := y) (m := m) (R := Q) (N := N) (n := n) hy1 HN.out h2 hm1 hm2 hS.out (by omega))
              obtain ⟨L, hL⟩ : ∃ L, longN y m = L := ⟨_, rfl⟩
              rw [hL] at hge hlm hll
              have d4 : decide (L ≤ Q) = false := by simpa using hge
              have HLM := hid hlm
              clear hlm hL hge
              go_wp2_with (go_at_call 27; (with_reducible refine HLM.out.mono ?_); rintro e w1 ⟨rfl, rfl⟩)
              exact bodyPost_ret (v := .tuple #[.int .i64 (y : Int), .int .i64 (m : Int), .int .i64 ((Q : Int) + 1), .bool true]) (by simp [results, Tryd.results11, go_sem]) rfl ⟨results4 _ y m Q _ w HCV.out, rfl⟩
end Go.Proofs.YtkjlkkaoaiphcaaDoor
