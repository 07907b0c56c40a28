/-
  A day's number, and a number's day: the walks. A part of the proof: see the head of the text that ends in 'Law'.
-/
import Derived.Test.YtkjlkkaoaiphcaaDoorDa1
namespace Go.Proofs.YtkjlkkaoaiphcaaDoor
open Go.RowKit
set_option linter.unusedVariables false

/-- There is such a day, of whatever numbers. -/
def okD (y m d : Int) : Prop := ∃ a b c : Nat, y = a ∧ m = b ∧ d = c ∧ Vld a b c
theorem not_okD {y m d : Int} (h : ¬ okD y m d) : y < 1 ∨ 9999 < y ∨ m < 1 ∨ 12 < m ∨ d < 1 ∨ (longN y.toNat m.toNat : Int) < d := by
  apply Classical.byContradiction
  intro hn
  exact h ⟨y.toNat, m.toNat, d.toNat, by omega, by omega, by omega, by omega, by omega, by omega, by omega, by omega, by omega⟩
set_option maxHeartbeats 2000000 in
theorem days_no (y m d : Int) (w : World) (h : ¬ okD y m d) :
    Calls Tryd.prog 8 #[.int .i64 y, .int .i64 m, .int .i64 d] w fun e w' => e = .returned (.tuple #[.int .i64 0, .int .i64 4]) ∧ w = w' := by
  have h := not_okD h
  by_cases h1 : y < 1
  · have d1 : decide (y < 1) = true := by simpa using h1
    clear h h1
    go_enter Tryd.func8, Tryd.ntmps8
    go_wp2
    go_ret2
    exact ⟨rfl, rfl⟩
  · have d1 : decide (y < 1) = false := by simpa using h1
    by_cases h2 : 9999 < y
    · have d2 : decide (9999 < y) = true := by simpa using h2
      clear h h1 h2
      go_enter Tryd.func8, Tryd.ntmps8
      go_wp2
      go_ret2
      exact ⟨rfl, rfl⟩
    · have d2 : decide (9999 < y) = false := by simpa using h2
      by_cases h3 : m < 1
      · have d3 : decide (m < 1) = true := by simpa using h3
        clear h h1 h2 h3
        go_enter Tryd.func8, Tryd.ntmps8
        go_wp2
        go_ret2
        exact ⟨rfl, rfl⟩
      · have d3 : decide (m < 1) = false := by simpa using h3
        by_cases h4 : 12 < m
        · have d4 : decide (12 < m) = true := by simpa using h4
          clear h h1 h2 h3 h4
          go_enter Tryd.func8, Tryd.ntmps8
          go_wp2
          go_ret2
          exact ⟨rfl, rfl⟩
        · have d4 : decide (12 < m) = false := by simpa using h4
          by_cases h5 : d < 1
          · have d5 : decide (d < 1) = true := by simpa using h5
            clear h h1 h2 h3 h4 h5
            go_enter Tryd.func8, Tryd.ntmps8
            go_wp2
            go_ret2
            exact ⟨rfl, rfl⟩
          · have d5 : decide (d < 1) = false := by simpa using h5
            obtain ⟨a, rfl⟩ : ∃ a : Nat, y = a := ⟨y.toNat, by omega⟩
            obtain ⟨b, rfl⟩ : ∃ b : Nat, m = b := ⟨m.toNat, by omega⟩
            rw [Int.toNat_natCast, Int.toNat_natCast] at h
            have hlg := long_any a b w (by omega) (by omega) (by omega)
            obtain ⟨L, hL⟩ : ∃ L, longN a b = L := ⟨_, rfl⟩
            rw [hL] at h hlg
            have d6 : decide ((L : Int) < d) = true := by simp; omega
            have HLG := hid hlg
            clear hlg h h1 h2 h3 h4 h5 hL
            go_enter Tryd.func8, Tryd.ntmps8
            go_wp2_with (go_at_call 25; (with_reducible refine HLG.out.mono ?_); rintro e w1 ⟨rfl, rfl⟩)
            go_ret2
            exact ⟨rfl, rfl⟩
set_option maxHeartbeats 2000000 in
theorem days_yes (y m d : Nat) (w : World) (h : Vld y m d) :
    Calls Tryd.prog 8 #[.int .i64 (y : Int), .int .i64 (m : Int), .int .i64 (d : Int)] w fun e w' => e = .returned (.tuple #[.int .i64 (dayN y m d), .int .i64 0]) ∧ w = w' := by
  have hlg := fun (k : Nat) (hk : 1 ≤ k) (hk2 : k ≤ 12) => long_any y k w (by have := h.2.1; omega) hk hk2
  have hah := ahead_any y w h.1 (by have := h.2.1; omega)
  have hcm := fun (k : Nat) (hk : k ≤ 12) => cum_le y (k + 1) (by omega)
  have hll := fun (k : Nat) => long_le y k
  have hcs := fun (k : Nat) => cum_succ y (k + 1) (by omega)
  have hal := ahd_le y (by have := h.2.1; omega)
  have hc1 := cum_one y
  obtain ⟨h1, h2, h3, h4, h5, h6⟩ := h
  have d1 : decide ((y : Int) < 1) = false := by simp; omega
  have d2 : decide (9999 < (y : Int)) = false := by simp; omega
  have d2' : decide (9999 < y) = false := by simp; omega
  have d3 : decide ((m : Int) < 1) = false := by simp; omega
  have d4 : decide (12 < (m : Int)) = false := by simp; omega
  have d4' : decide (12 < m) = false := by simp; omega
  have d5 : decide ((d : Int) < 1) = false := by simp; omega
  have hd31 : d ≤ 31 := Nat.le_trans h6 (hll m).2
  obtain ⟨a, ha⟩ : ∃ a, ahd y = a := ⟨_, rfl⟩
  have hout : dayN y m d = (a : Int) + d - 1 + (cum y m : Int) - 719162 := by unfold dayN; rw [ha]; omega
  rw [hout]
  rw [ha] at hah hal
  have d6 : decide ((longN y m : Int) < d) = false := by simp; omega
  have d6' : decide (longN y m < d) = false := by simp; omega
  have HLG := hid hlg
  have HCM := hid hcm
  have HLL := hid hll
  have HCS := hid hcs
  have HC1 := hid hc1
  have HAH := hid hah
  have HL0 := hid (hlg m (by omega) (by omega))
  clear hlg hcm hll hcs hc1 hah ha hout h6
  go_enter Tryd.func8, Tryd.ntmps8
  go_wp2_with (first
    | (go_at_call 25; (with_reducible refine HL0.out.mono ?_); rintro e w1 ⟨rfl, rfl⟩)
    | (go_at_call 26; (with_reducible refine HAH.out.mono ?_); rintro e w1 ⟨rfl, rfl⟩))
  go_loop [8, 42] (fun t i => ∃ k : Nat, k + 1 ≤ m ∧ i = .int .i64 (k : Int) ∧ t = .int .i64 ((a : Int) + d - 1 + (cum y (k + 1) : Int))) (fun _ i => m - (intOf i).toNat)
  case atStart => exact ⟨0, by omega, rfl, by rw [HC1.out]; simp⟩
  case round =>
    obtain ⟨k, hk, rfl, rfl⟩ := hrel
    by_cases hlt : k + 1 < m
    · have e1 : decide ((k : Int) < (m : Int) - 1) = true := by simp; omega
      have c1 := HCM.out k (by omega)
      have c2 := HLL.out (k + 1)
      have c3 := hid (HCS.out k)
      have hL : Calls Tryd.prog 25 #[.int .i64 (y : Int), .int .i64 ((k : Int) + 1)] w fun e w' => e = .returned (.int .i64 (longN y (k + 1) : Int)) ∧ w = w' := HLG.out (k + 1) (by omega) (by omega)
      have HL1 := hid hL
      clear hL
      obtain ⟨c, hc⟩ : ∃ c, cum y (k + 1) = c := ⟨_, rfl⟩
      obtain ⟨L, hL⟩ : ∃ L, longN y (k + 1) = L := ⟨_, rfl⟩
      rw [hc] at c1 c3 ⊢
      rw [hL] at c2 c3 HL1
      clear hc hL
      go_wp2_with (go_at_call 25; (with_reducible refine HL1.out.mono ?_); rintro e w1 ⟨rfl, rfl⟩)
      go_round
      case rel => exact ⟨k + 1, by omega, by go_num, by rw [c3.out]; go_num⟩
      case measure => simp [intOf]; omega
    · have e1 : decide ((k : Int) < (m : Int) - 1) = false := by simp; omega
      have c1 := HCM.out k (by omega)
      obtain rfl : m = k + 1 := by omega
      obtain ⟨c, hc⟩ : ∃ c, cum y (k + 1) = c := ⟨_, rfl⟩
      rw [hc] at c1 ⊢
      have HCC := hid hc
      clear hc
      go_wp2
      go_ret2
      exact ⟨by rw [HCC.out]; rfl, rfl⟩
theorem month_end {y N m R : Nat} (hm : m ≤ 12) (hm1 : 1 ≤ m) (h : ahd y + cum y m + R = N) (hN : N < ahd y + wholeN y) : (longN y m ≤ R → m + 1 ≤ 12 ∧ ahd y + cum y (m + 1) + (R - longN y m) = N) := by
  intro hl
  have e := cum_succ y m hm1
  refine ⟨?_, by omega⟩
  apply Classical.byContradiction
  intro hc
  obtain rfl : m = 12 := by omega
  have he := cum_end y
  rw [show (13 : Nat) = 12 + 1 from rfl] at he
  omega
theorem civ_at {y m R N : Nat} {n : Int} (hy : 1 ≤ y) (hN : n + 719162 = N) (hn : n ≤ 2932896) (hm1 : 1 ≤ m) (hm : m ≤ 12) (h : ahd y + cum y m + R = N) (hR : R < longN y m) : civ n = (y, m, R + 1) := by
  have hy9 : y ≤ 9999 := by
    apply Classical.byContradiction
    intro hc
    have := ahd_mono (show 10000 ≤ y by omega)
    have e : ahd 10000 = 3652059 := by decide +kernel
    omega
  refine civ_eq ⟨hy, hy9, hm1, hm, by omega, by omega⟩ ?_
  unfold dayN
  omega
theorem results4 (n : Int) (y m R : Nat) (k : Value) (w : World) (h : civ n = (y, m, R + 1)) : Ending.returned (.tuple #[.int .i64 (y : Int), .int .i64 (m : Int), .int .i64 ((R : Int) + 1), k]) = .returned (.tuple #[.int .i64 ((civ n).1 : Int), .int .i64 ((civ n).2.1 : Int), .int .i64 ((civ n).2.2 : Int), k]) := by
  rw [h]
  rfl
set_option maxHeartbeats 2000000 in
theorem civil_no (n : Int) (w : World) (h : n < -719162 ∨ 2932896 < n) :
    Calls Tryd.prog 10 #[.int .i64 n] w fun e w' => e = .returned (.tuple #[.int .i64 0, .int .i64 0, .int .i64 0, .int .i64 4]) ∧ w = w' := by
  by_cases h1 : n < -719162
  · have d1 : decide (n < -719162) = true := by simpa using h1
    clear h h1
    go_enter Tryd.func10, Tryd.ntmps10
    go_wp2
    exact bodyPost_ret (v := .tuple #[.int .i64 0, .int .i64 0, .int .i64 0, .int .i64 4]) (by simp [results, Tryd.results10, go_sem]) rfl ⟨rfl, rfl⟩
  · have d1 : decide (n < -719162) = false := by simpa using h1
    have d2 : decide (2932897 ≤ n) = true := by simp; omega
    have hah : Calls Tryd.prog 26 #[.int .i64 10000] w fun e w' => e = .returned (.int .i64 3652059) ∧ w = w' := ahead_any 10000 w (by omega) (by omega)
    have HAH := hid hah
    clear h h1 hah
    go_enter Tryd.func10, Tryd.ntmps10
    go_wp2_with (go_at_call 26; (with_reducible refine HAH.out.mono ?_); rintro e w1 ⟨rfl, rfl⟩)
    exact bodyPost_ret (v := .tuple #[.int .i64 0, .int .i64 0, .int .i64 0, .int .i64 4]) (by simp [results, Tryd.results10, go_sem]) rfl ⟨rfl, rfl⟩
set_option maxHeartbeats 4000000 in
theorem civil_yes (n : Int) (w : World) (h1 : -719162 ≤ n) (h2 : n ≤ 2932896) :
    Calls Tryd.prog 10 #[.int .i64 n] w fun e w' => e = .returned (.tuple #[.int .i64 ((civ n).1 : Int), .int .i64 ((civ n).2.1 : Int), .int .i64 ((civ n).2.2 : Int), .int .i64 0]) ∧ w = w' := by
  have d1 : decide (n < -719162) = false := by simp; omega
  have d2 : decide (2932897 ≤ n) = false := by simp; omega
  have hah : Calls Tryd.prog 26 #[.int .i64 10000] w fun e w' => e = .returned (.int .i64 3652059) ∧ w = w' := ahead_any 10000 w (by omega) (by omega)
  have HAH := hid hah
  obtain ⟨N, hN⟩ : ∃ N : Nat, n + 719162 = N := ⟨(n + 719162).toNat, by omega⟩
  obtain rfl : n = (N : Int) - 719162 := by omega
  have hNb : N ≤ 3652058 := by omega
  have hst := ahd_ge (N / 365 + 1 + 1) (by omega)
  have HST := hid (show N < ahd (N / 365 + 1 + 1) by omega)
  clear hah hN hst
  go_enter Tryd.func10, Tryd.ntmps10
  go_wp2_with (go_at_call 26; (with_reducible refine HAH.out.mono ?_); rintro e w1 ⟨rfl, rfl⟩)
  go_loop [6] (fun t => ∃ y : Nat, 1 ≤ y ∧ y ≤ 10007 ∧ Hid (N < ahd (y + 1)) ∧ t = .int .i64 (y : Int)) (fun t => (intOf t).toNat)
  case atStart => exact ⟨N / 365 + 1, by omega, by omega, HST, by go_num⟩
  case round =>
    obtain ⟨y, hy1, hy2, hy3, rfl⟩ := hrel
    have hay := ahead_any y w hy1 (by omega)
    have hal := ahd_mono (show y ≤ 10007 by omega)
    have e107 : ahd 10007 = 3654616 := by decide +kernel
    rw [e107] at hal
    by_cases hlt : N < ahd y
    · have hy0 : 2 ≤ y := by
        apply Classical.byContradiction
        intro hc
        obtain rfl : y = 1 := by omega
        have : ahd 1 = 0 := by decide
        omega
      have HY := hid (show N < ahd (y - 1 + 1) by rw [show y - 1 + 1 = y by omega]; exact hlt)
      obtain ⟨a, ha⟩ : ∃ a, ahd y = a := ⟨_, rfl⟩
      rw [ha] at hlt hay hal
      have d3 : decide ((N : Int) < a) = true := by simp; omega
      have d3' : decide (N < a) = true := by simpa using hlt
      have HAY := hid hay
      clear hay ha hlt e107
      go_wp2_with (go_at_call 26; (with_reducible refine HAY.out.mono ?_); rintro e w1 ⟨rfl, rfl⟩)
      go_round
      case rel => exact ⟨y - 1, by omega, by omega, HY, by go_num⟩
      case measure => simp [intOf]; omega
    · have hsu := ahd_succ y hy1
      have HNW := hid (show N < ahd y + wholeN y by have := hy3.out; omega)
      have HLG := hid (fun k hk1 hk2 => long_any y k w (by omega) hk1 hk2)
      have HC1 := hid (show ahd y + cum y 1 + (N - ahd y) = N by rw [cum_one]; omega)
      obtain ⟨a, ha⟩ : ∃ a, ahd y = a := ⟨_, rfl⟩
      have HA := hid ha
      rw [ha] at hlt hay hal HC1
      have d3 : decide ((N : Int) < a) = false := by simp; omega
      have d3' : decide (N < a) = false := by simpa using hlt
      have HAY := hid hay
      clear hay ha e107 hsu
      go_wp2_with (go_at_call 26; (with_reducible refine HAY.out.mono ?_); rintro e w1 ⟨rfl, rfl⟩)
      go_loop [0, 7] (fun t k => ∃ m R : Nat, 1 ≤ m ∧ m ≤ 12 ∧ R ≤ N ∧ Hid (a + cum y m + R = N) ∧ t = .int .i64 (R : Int) ∧ k = .int .i64 (m : Int)) (fun _ k => 13 - (intOf k).toNat)
      case atStart => exact ⟨1, N - a, by omega, by omega, by omega, HC1, by go_num, rfl⟩
      case round =>
        obtain ⟨m, R, hm1, hm2, hR, hS, rfl, rfl⟩ := hrel
        have hlm := HLG.out m hm1 hm2
        have hll := long_le y m
        by_cases hge : longN y m ≤ R
        · have hme := month_end hm2 hm1 (by rw [HA.out]; exact hS.out) HNW.out hge
          have hm3 := hme.1
          have HME := hid hme.2
          obtain ⟨L, hL⟩ : ∃ L, longN y m = L := ⟨_, rfl⟩
          rw [hL] at hge hlm hll HME
          rw [HA.out] at HME
          have d4 : decide (L ≤ R) = true := by simpa using hge
          have HLM := hid hlm
          clear hlm hme hL
          go_wp2_with (go_at_call 25; (with_reducible refine HLM.out.mono ?_); rintro e w1 ⟨rfl, rfl⟩)
          go_round
          case rel => exact ⟨m + 1, R - L, by omega, by omega, by omega, HME, by go_num, by go_num⟩
          case measure => simp [intOf]; omega
        · have HCV := hid (civ_at (y := y) (m := m) (R := R) (N := N) (n := (N : Int) - 719162) hy1 (by omega) (by omega) hm1 hm2 (by rw [HA.out]; exact hS.out) (by omega))
          obtain ⟨L, hL⟩ : ∃ L, longN y m = L := ⟨_, rfl⟩
          rw [hL] at hge hlm hll
          have d4 : decide (L ≤ R) = false := by simpa using hge
          have HLM := hid hlm
          clear hlm hL hge
          go_wp2_with (go_at_call 25; (with_reducible refine HLM.out.mono ?_); rintro e w1 ⟨rfl, rfl⟩)
          exact bodyPost_ret (v := .tuple #[.int .i64 (y : Int), .int .i64 (m : Int), .int .i64 ((R : Int) + 1), .int .i64 0]) (by simp [results, Tryd.results10, go_sem]) rfl ⟨results4 _ y m R _ w HCV.out, rfl⟩
end Go.Proofs.YtkjlkkaoaiphcaaDoor
