/-
  The calendar: plain; Years and months: the walks; A day's number, and a number's day: the walks; A day's number, and a number's day, as the document reckons them: the walks; A place's clock; which dates may be: the walks; Small letters, and texts that are alike; A text cut at an octet. A part of the proof: see the head of the text that ends in 'Law'.
-/
import Derived.Test.YtonjadmldgloaaaGreatDoorCarry
import Derived.Test.YtonjadmldgloaaaGreatDoorSlim
import Derived.Test.YtonjadmldgloaaaGreatDoorProg
import Derived.Test.YtonjadmldgloaaaGreatDoorShelf
namespace Go.Proofs.YtonjadmldgloaaaGreatDoor.D16
section
set_option linter.unusedVariables false
set_option linter.unusedSimpArgs false
def leapB (y : Nat) : Bool := decide ((y % 4 = 0 ∧ y % 100 ≠ 0) ∨ y % 400 = 0)
def longN (y m : Nat) : Nat := if m = 2 then (if leapB y = true then 29 else 28) else if m = 4 ∨ m = 6 ∨ m = 9 ∨ m = 11 then 30 else 31
def wholeN (y : Nat) : Nat := if leapB y = true then 366 else 365
/-- The days ahead of a year, from year 1 on. -/
def ahd (y : Nat) : Nat := 365 * (y - 1) + (y - 1) / 4 - (y - 1) / 100 + (y - 1) / 400
/-- The days ahead of a month in its year. -/
def cum (y : Nat) : Nat → Nat
  | 0 => 0
  | m + 1 => if m = 0 then 0 else cum y m + longN y m
theorem ahd_succ (y : Nat) (h : 1 ≤ y) : ahd (y + 1) = ahd y + wholeN y := by
  obtain ⟨n, rfl⟩ : ∃ n, y = n + 1 := ⟨y - 1, by omega⟩
  have hb : n / 100 ≤ n / 4 := Nat.div_le_div_left (by omega) (by omega)
  have e4 : (n + 1) / 4 = n / 4 + if (n + 1) % 4 = 0 then 1 else 0 := by
    rw [Nat.succ_div]; simp only [Nat.dvd_iff_mod_eq_zero]
  have e100 : (n + 1) / 100 = n / 100 + if (n + 1) % 100 = 0 then 1 else 0 := by
    rw [Nat.succ_div]; simp only [Nat.dvd_iff_mod_eq_zero]
  have e400 : (n + 1) / 400 = n / 400 + if (n + 1) % 400 = 0 then 1 else 0 := by
    rw [Nat.succ_div]; simp only [Nat.dvd_iff_mod_eq_zero]
  have d1 : (n + 1) % 400 = 0 → (n + 1) % 100 = 0 := by omega
  have d2 : (n + 1) % 100 = 0 → (n + 1) % 4 = 0 := by omega
  unfold ahd wholeN leapB
  rw [show n + 1 + 1 - 1 = n + 1 by omega, show n + 1 - 1 = n by omega, e4, e100, e400]
  generalize n / 4 = a at *
  generalize n / 100 = b at *
  generalize n / 400 = c at *
  generalize (n + 1) % 4 = x at *
  generalize (n + 1) % 100 = z at *
  generalize (n + 1) % 400 = u at *
  by_cases h4 : x = 0
  · by_cases h100 : z = 0
    · by_cases h400 : u = 0 <;> simp [h4, h100, h400] <;> omega
    · have : u ≠ 0 := fun h => h100 (d1 h)
      simp [h4, h100, this]; omega
  · have : z ≠ 0 := fun h => h4 (d2 h)
    have h400 : u ≠ 0 := fun h => this (d1 h)
    simp [h4, this, h400]; omega
theorem ahd_mono {a : Nat} : ∀ {b : Nat}, a ≤ b → ahd a ≤ ahd b := by
  intro b
  induction b with
  | zero => intro h; obtain rfl : a = 0 := by omega
            exact Nat.le_refl _
  | succ b ih =>
    intro h
    by_cases he : a = b + 1
    · subst he; exact Nat.le_refl _
    · have h1 := ih (by omega)
      by_cases hb : b = 0
      · subst hb
        obtain rfl : a = 0 := by omega
        exact Nat.le_of_eq rfl
      · rw [ahd_succ b (by omega)]; omega
theorem ahd_le (y : Nat) (h : y ≤ 10000) : ahd y ≤ 3652059 := by
  have := ahd_mono h
  have e : ahd 10000 = 3652059 := by decide +kernel
  omega
theorem ahd_ge (y : Nat) (h : 1 ≤ y) : 365 * (y - 1) ≤ ahd y := by
  have hb : (y - 1) / 100 ≤ (y - 1) / 4 := Nat.div_le_div_left (by omega) (by omega)
  unfold ahd
  generalize (y - 1) / 400 = c
  omega
theorem whole_le (y : Nat) : 365 ≤ wholeN y ∧ wholeN y ≤ 366 := by
  unfold wholeN
  split <;> omega
theorem long_le (y m : Nat) : 28 ≤ longN y m ∧ longN y m ≤ 31 := by
  unfold longN
  split
  · split <;> omega
  · split <;> omega
theorem cum_succ (y m : Nat) (h : 1 ≤ m) : cum y (m + 1) = cum y m + longN y m := by
  rw [cum, if_neg (by omega)]
theorem cum_one (y : Nat) : cum y 1 = 0 := by rw [cum, if_pos rfl]
theorem cum_end (y : Nat) : cum y 13 = wholeN y := by
  rw [cum_succ, cum_succ, cum_succ, cum_succ, cum_succ, cum_succ, cum_succ, cum_succ, cum_succ, cum_succ, cum_succ, cum_succ, cum_one] <;> try omega
  unfold longN wholeN
  by_cases h : leapB y = true <;> simp [h]
theorem cum_mono (y : Nat) : ∀ (b a : Nat), a ≤ b → cum y a ≤ cum y b := by
  intro b
  induction b with
  | zero => intro a h; have : a = 0 := by omega
            subst this; exact Nat.le_refl _
  | succ b ih =>
    intro a h
    by_cases he : a = b + 1
    · subst he; exact Nat.le_refl _
    · have h1 := ih a (by omega)
      have h2 : cum y b ≤ cum y (b + 1) := by
        by_cases hb : b = 0
        · subst hb; exact Nat.zero_le _
        · rw [cum_succ y b (by omega)]; omega
      omega
theorem cum_le (y m : Nat) (h : m ≤ 13) : cum y m ≤ 366 := by
  have := cum_mono y 13 m h
  rw [cum_end] at this
  have := whole_le y
  omega
/-- There is such a day. -/
def Vld (y m d : Nat) : Prop := 1 ≤ y ∧ y ≤ 9999 ∧ 1 ≤ m ∧ m ≤ 12 ∧ 1 ≤ d ∧ d ≤ longN y m
/-- Its number. -/
def dayN (y m d : Nat) : Int := (ahd y : Int) + cum y m + d - 1 - 719162
theorem dayN_range {y m d : Nat} (h : Vld y m d) : -719162 ≤ dayN y m d ∧ dayN y m d ≤ 2932896 := by
  obtain ⟨h1, h2, h3, h4, h5, h6⟩ := h
  unfold dayN
  have e := ahd_succ y h1
  have c := cum_mono y 13 (m + 1) (by omega)
  rw [cum_end, cum_succ y m h3] at c
  have := ahd_le (y + 1) (by omega)
  omega
theorem day_uniq {y m d u v w : Nat} (h : Vld y m d) (k : Vld u v w) (e : dayN y m d = dayN u v w) : y = u ∧ m = v ∧ d = w := by
  obtain ⟨h1, h2, h3, h4, h5, h6⟩ := h
  obtain ⟨k1, k2, k3, k4, k5, k6⟩ := k
  unfold dayN at e
  have e1 := ahd_succ y h1
  have e2 := ahd_succ u k1
  have c1 := cum_mono y 13 (m + 1) (by omega)
  rw [cum_end, cum_succ y m h3] at c1
  have c2 := cum_mono u 13 (v + 1) (by omega)
  rw [cum_end, cum_succ u v k3] at c2
  have hy : y = u := by
    rcases Nat.lt_trichotomy y u with h | h | h
    · have := ahd_mono (show y + 1 ≤ u by omega); omega
    · exact h
    · have := ahd_mono (show u + 1 ≤ y by omega); omega
  subst hy
  have hm : m = v := by
    rcases Nat.lt_trichotomy m v with h | h | h
    · have := cum_mono y v (m + 1) (by omega); rw [cum_succ y m h3] at this; omega
    · exact h
    · have := cum_mono y m (v + 1) (by omega); rw [cum_succ y v k3] at this; omega
  subst hm
  exact ⟨rfl, rfl, by omega⟩
theorem year_ex (N : Nat) : ∀ Y, 1 ≤ Y → N < ahd (Y + 1) → ∃ y, 1 ≤ y ∧ y ≤ Y ∧ ahd y ≤ N ∧ N < ahd (y + 1) := by
  intro Y
  induction Y with
  | zero => intro h; omega
  | succ Y ih =>
    intro _ h
    by_cases hc : ahd (Y + 1) ≤ N
    · exact ⟨Y + 1, by omega, by omega, hc, h⟩
    · by_cases h0 : Y = 0
      · subst h0
        exact absurd (Nat.zero_le N) (by have : ahd (0 + 1) = 0 := by decide
                                         omega)
      · obtain ⟨y, h1, h2, h3, h4⟩ := ih (by omega) (by omega)
        exact ⟨y, h1, by omega, h3, h4⟩
theorem month_ex (y N : Nat) : ∀ M, N < cum y (M + 1) → ∃ m, 1 ≤ m ∧ m ≤ M ∧ cum y m ≤ N ∧ N < cum y (m + 1) := by
  intro M
  induction M with
  | zero => intro h; rw [cum_one] at h; omega
  | succ M ih =>
    intro h
    by_cases hc : cum y (M + 1) ≤ N
    · exact ⟨M + 1, by omega, by omega, hc, h⟩
    · obtain ⟨m, h1, h2, h3, h4⟩ := ih (by omega)
      exact ⟨m, h1, by omega, h3, h4⟩
theorem day_ex (n : Int) (h1 : -719162 ≤ n) (h2 : n ≤ 2932896) : ∃ t : Nat × Nat × Nat, Vld t.1 t.2.1 t.2.2 ∧ dayN t.1 t.2.1 t.2.2 = n := by
  obtain ⟨N, hN⟩ : ∃ N : Nat, n + 719162 = N := ⟨(n + 719162).toNat, by omega⟩
  have e : ahd (9999 + 1) = 3652059 := by decide +kernel
  obtain ⟨y, y1, y2, y3, y4⟩ := year_ex N 9999 (by omega) (by omega)
  rw [ahd_succ y y1] at y4
  obtain ⟨m, m1, m2, m3, m4⟩ := month_ex y (N - ahd y) 12 (by rw [cum_end]; omega)
  rw [cum_succ y m m1] at m4
  refine ⟨(y, m, N - ahd y - cum y m + 1), ⟨y1, y2, m1, m2, by simp only; omega, by simp only; omega⟩, ?_⟩
  simp only [dayN]
  omega
open Classical in
/-- The day of a number. -/
noncomputable def civ (n : Int) : Nat × Nat × Nat := if h : -719162 ≤ n ∧ n ≤ 2932896 then (day_ex n h.1 h.2).choose else (0, 0, 0)
theorem civ_is {n : Int} (h1 : -719162 ≤ n) (h2 : n ≤ 2932896) : Vld (civ n).1 (civ n).2.1 (civ n).2.2 ∧ dayN (civ n).1 (civ n).2.1 (civ n).2.2 = n := by
  unfold civ
  rw [dif_pos ⟨h1, h2⟩]
  exact (day_ex n h1 h2).choose_spec
theorem civ_eq {y m d : Nat} {n : Int} (h : Vld y m d) (e : dayN y m d = n) : civ n = (y, m, d) := by
  have hr := dayN_range h
  rw [e] at hr
  obtain ⟨k1, k2⟩ := civ_is hr.1 hr.2
  obtain ⟨a, b, c⟩ := day_uniq k1 h (k2.trans e.symm)
  exact Prod.ext a (Prod.ext b c)
theorem civ_dayN {y m d : Nat} (h : Vld y m d) : civ (dayN y m d) = (y, m, d) := civ_eq h rfl
end
section
open Go.RowKit
set_option linter.unusedVariables false
set_option linter.unusedSimpArgs false
theorem leapB_is (y : Nat) : leapB y = ((decide (y % 4 = 0) && !decide (y % 100 = 0)) || decide (y % 400 = 0)) := by
  unfold leapB
  rw [Bool.eq_iff_iff]
  simp
set_option maxHeartbeats 2000000 in
theorem leap_any (y : Nat) (w : World) (hy : y ≤ 20000) :
    Calls Tryz.prog 122 #[.int .i64 (y : Int)] w fun e w' => e = .returned (.bool (leapB y)) ∧ w = w' := by
  have hl := leapB_is y
  obtain ⟨a, ha⟩ : ∃ a, y % 4 = a := ⟨_, rfl⟩
  obtain ⟨b, hb⟩ : ∃ b, y % 100 = b := ⟨_, rfl⟩
  obtain ⟨c, hc⟩ : ∃ c, y % 400 = c := ⟨_, rfl⟩
  rw [ha, hb, hc] at hl
  have a1 : (y : Int) % 4 = (a : Int) := by omega
  have b1 : (y : Int) % 100 = (b : Int) := by omega
  have c1 : (y : Int) % 400 = (c : Int) := by omega
  have a2 : Int.tmod (y : Int) 4 = (a : Int) := by rw [Int.tmod_eq_emod_of_nonneg (by omega)]; exact a1
  have b2 : Int.tmod (y : Int) 100 = (b : Int) := by rw [Int.tmod_eq_emod_of_nonneg (by omega)]; exact b1
  have c2 : Int.tmod (y : Int) 400 = (c : Int) := by rw [Int.tmod_eq_emod_of_nonneg (by omega)]; exact c1
  clear ha hb hc
  have e4 : ((a : Int) == 0) = decide (a = 0) := by rw [Bool.eq_iff_iff]; simp
  have e100 : ((b : Int) == 0) = decide (b = 0) := by rw [Bool.eq_iff_iff]; simp
  have e100' : ((b : Int) != 0) = !decide (b = 0) := by unfold bne; rw [e100]
  have e400 : ((c : Int) == 0) = decide (c = 0) := by rw [Bool.eq_iff_iff]; simp
  obtain ⟨p, hp⟩ : ∃ p, decide (a = 0) = p := ⟨_, rfl⟩
  obtain ⟨q, hq⟩ : ∃ q, decide (b = 0) = q := ⟨_, rfl⟩
  obtain ⟨r, hr⟩ : ∃ r, decide (c = 0) = r := ⟨_, rfl⟩
  rw [hp] at e4 hl
  rw [hq] at e100 e100' hl
  rw [hr] at e400 hl
  rw [hl]
  clear hl hp hq hr
  cases p <;> cases q <;> cases r
  all_goals
    simp only [Bool.not_true, Bool.not_false] at e100'
    go_enter Tryz.func122, Tryz.ntmps122
    go_wp2
    go_ret
    exact ⟨rfl, rfl⟩
set_option maxHeartbeats 2000000 in
theorem refLeap_any (y : Nat) (w : World) (hy : y ≤ 20000) :
    Calls Tryz.prog 106 #[.int .i64 (y : Int)] w fun e w' => e = .returned (.bool (leapB y)) ∧ w = w' := by
  have hl := leapB_is y
  obtain ⟨a, ha⟩ : ∃ a, y % 4 = a := ⟨_, rfl⟩
  obtain ⟨b, hb⟩ : ∃ b, y % 100 = b := ⟨_, rfl⟩
  obtain ⟨c, hc⟩ : ∃ c, y % 400 = c := ⟨_, rfl⟩
  rw [ha, hb, hc] at hl
  have a1 : (y : Int) % 4 = (a : Int) := by omega
  have b1 : (y : Int) % 100 = (b : Int) := by omega
  have c1 : (y : Int) % 400 = (c : Int) := by omega
  have a2 : Int.tmod (y : Int) 4 = (a : Int) := by rw [Int.tmod_eq_emod_of_nonneg (by omega)]; exact a1
  have b2 : Int.tmod (y : Int) 100 = (b : Int) := by rw [Int.tmod_eq_emod_of_nonneg (by omega)]; exact b1
  have c2 : Int.tmod (y : Int) 400 = (c : Int) := by rw [Int.tmod_eq_emod_of_nonneg (by omega)]; exact c1
  clear ha hb hc
  have e4 : ((a : Int) == 0) = decide (a = 0) := by rw [Bool.eq_iff_iff]; simp
  have e100 : ((b : Int) == 0) = decide (b = 0) := by rw [Bool.eq_iff_iff]; simp
  have e100' : ((b : Int) != 0) = !decide (b = 0) := by unfold bne; rw [e100]
  have e400 : ((c : Int) == 0) = decide (c = 0) := by rw [Bool.eq_iff_iff]; simp
  obtain ⟨p, hp⟩ : ∃ p, decide (a = 0) = p := ⟨_, rfl⟩
  obtain ⟨q, hq⟩ : ∃ q, decide (b = 0) = q := ⟨_, rfl⟩
  obtain ⟨r, hr⟩ : ∃ r, decide (c = 0) = r := ⟨_, rfl⟩
  rw [hp] at e4 hl
  rw [hq] at e100 e100' hl
  rw [hr] at e400 hl
  rw [hl]
  clear hl hp hq hr
  cases p <;> cases q <;> cases r
  all_goals
    simp only [Bool.not_true, Bool.not_false] at e100'
    go_enter Tryz.func106, Tryz.ntmps106
    go_wp2
    go_ret
    exact ⟨rfl, rfl⟩
theorem ahead_any (y : Nat) (w : World) (h1 : 1 ≤ y) (hy : y ≤ 20000) :
    Calls Tryz.prog 107 #[.int .i64 (y : Int)] w fun e w' => e = .returned (.int .i64 (ahd y : Int)) ∧ w = w' := by
  have hA : (ahd y : Int) = 365 * ((y : Int) - 1) + ((y : Int) - 1) / 4 - ((y : Int) - 1) / 100 + ((y : Int) - 1) / 400 := by
    obtain ⟨n, rfl⟩ : ∃ n, y = n + 1 := ⟨y - 1, by omega⟩
    have hb : n / 100 ≤ n / 4 := Nat.div_le_div_left (by omega) (by omega)
    have e1 : ((n + 1 : Nat) : Int) - 1 = (n : Int) := by omega
    have e4 : (n : Int) / 4 = ((n / 4 : Nat) : Int) := by omega
    have e100 : (n : Int) / 100 = ((n / 100 : Nat) : Int) := by omega
    have e400 : (n : Int) / 400 = ((n / 400 : Nat) : Int) := by omega
    rw [e1, e4, e100, e400]
    unfold ahd
    rw [show n + 1 - 1 = n by omega]
    generalize n / 4 = a at *
    generalize n / 100 = b at *
    generalize n / 400 = c at *
    omega
  rw [hA]
  clear hA
  go_enter Tryz.func107, Tryz.ntmps107
  go_wp2
  go_ret
  exact ⟨rfl, rfl⟩
def len12 (m : Nat) : Nat := if m = 2 then 28 else if m = 4 ∨ m = 6 ∨ m = 9 ∨ m = 11 then 30 else 31
theorem index12 (m : Nat) (h1 : 1 ≤ m) (h2 : m ≤ 12) (w : World) : (Instr.index 149 (.agg #[.int .i64 31, .int .i64 28, .int .i64 31, .int .i64 30, .int .i64 31, .int .i64 30, .int .i64 31, .int .i64 31, .int .i64 30, .int .i64 31, .int .i64 30, .int .i64 31]) (.int .i64 ((m : Int) - 1))).run Tryz.prog w = .ok (.int .i64 (len12 m : Int)) w := by
  obtain rfl | rfl | rfl | rfl | rfl | rfl | rfl | rfl | rfl | rfl | rfl | rfl : m = 1 ∨ m = 2 ∨ m = 3 ∨ m = 4 ∨ m = 5 ∨ m = 6 ∨ m = 7 ∨ m = 8 ∨ m = 9 ∨ m = 10 ∨ m = 11 ∨ m = 12 := by omega
  all_goals kernel_rfl
set_option maxHeartbeats 1000000 in
theorem long_any (y m : Nat) (w : World) (hy : y ≤ 20000) (h1 : 1 ≤ m) (h2 : m ≤ 12) :
    Calls Tryz.prog 108 #[.int .i64 (y : Int), .int .i64 (m : Int)] w fun e w' => e = .returned (.int .i64 (longN y m : Int)) ∧ w = w' := by
  have hi := index12 m h1 h2
  have hlp := leap_any y w hy
  by_cases hm : m = 2
  · have d : ((m : Int) == 2) = true := by simp; omega
    cases hl : leapB y with
    | true =>
      have e : longN y m = 29 := by unfold longN; rw [if_pos hm, if_pos hl]
      rw [hl] at hlp
      rw [e]
      have HLP := hid hlp
      clear hl e hm hlp
      go_enter Tryz.func108, Tryz.ntmps108
      go_wp2_with (go_at_call 122; (with_reducible refine HLP.out.mono ?_); rintro e w1 ⟨rfl, rfl⟩)
      go_ret
      exact ⟨rfl, rfl⟩
    | false =>
      have e : longN y m = len12 m := by unfold longN len12; rw [if_pos hm, if_neg (by rw [hl]; decide), if_pos hm]
      rw [hl] at hlp
      rw [e]
      have HLP := hid hlp
      clear hl e hm hlp
      go_enter Tryz.func108, Tryz.ntmps108
      go_wp2_with (go_at_call 122; (with_reducible refine HLP.out.mono ?_); rintro e w1 ⟨rfl, rfl⟩)
      go_ret
      exact ⟨rfl, rfl⟩
  · have d : ((m : Int) == 2) = false := by simp; omega
    have e : longN y m = len12 m := by unfold longN len12; rw [if_neg hm, if_neg hm]
    rw [e]
    clear e hm hlp
    go_enter Tryz.func108, Tryz.ntmps108
    go_wp2
    go_ret
    exact ⟨rfl, rfl⟩
set_option maxHeartbeats 2000000 in
theorem refLong_any (y m : Nat) (w : World) (hy : y ≤ 20000) (h1 : 1 ≤ m) (h2 : m ≤ 12) :
    Calls Tryz.prog 83 #[.int .i64 (y : Int), .int .i64 (m : Int)] w fun e w' => e = .returned (.int .i64 (longN y m : Int)) ∧ w = w' := by
  have hlp := refLeap_any y w hy
  by_cases hm : m = 2
  · subst hm
    cases hl : leapB y with
    | true =>
      have e : longN y 2 = 29 := by unfold longN; rw [if_pos rfl, if_pos hl]
      rw [hl] at hlp
      rw [e]
      have HLP := hid hlp
      clear hl e hlp
      go_enter Tryz.func83, Tryz.ntmps83
      go_wp2_with (go_at_call 106; (with_reducible refine HLP.out.mono ?_); rintro e w1 ⟨rfl, rfl⟩)
      go_ret
      exact ⟨rfl, rfl⟩
    | false =>
      have e : longN y 2 = 28 := by unfold longN; rw [if_pos rfl, if_neg (by rw [hl]; decide)]
      rw [hl] at hlp
      rw [e]
      have HLP := hid hlp
      clear hl e hlp
      go_enter Tryz.func83, Tryz.ntmps83
      go_wp2_with (go_at_call 106; (with_reducible refine HLP.out.mono ?_); rintro e w1 ⟨rfl, rfl⟩)
      go_ret
      exact ⟨rfl, rfl⟩
  · clear hlp
    obtain rfl | rfl | rfl | rfl | rfl | rfl | rfl | rfl | rfl | rfl | rfl : m = 1 ∨ m = 3 ∨ m = 4 ∨ m = 5 ∨ m = 6 ∨ m = 7 ∨ m = 8 ∨ m = 9 ∨ m = 10 ∨ m = 11 ∨ m = 12 := by omega
    all_goals
      clear hm h1 h2
      rw [show longN y _ = _ from rfl]
      go_enter Tryz.func83, Tryz.ntmps83
      go_wp2
      go_ret
      exact ⟨rfl, rfl⟩
set_option maxHeartbeats 1000000 in
theorem whole_any (y : Nat) (w : World) (hy : y ≤ 20000) :
    Calls Tryz.prog 82 #[.int .i64 (y : Int)] w fun e w' => e = .returned (.int .i64 (wholeN y : Int)) ∧ w = w' := by
  have hlp := refLeap_any y w hy
  cases hl : leapB y with
  | true =>
    have e : wholeN y = 366 := by unfold wholeN; rw [if_pos hl]
    rw [hl] at hlp
    rw [e]
    have HLP := hid hlp
    clear hl e hlp
    go_enter Tryz.func82, Tryz.ntmps82
    go_wp2_with (go_at_call 106; (with_reducible refine HLP.out.mono ?_); rintro e w1 ⟨rfl, rfl⟩)
    go_ret
    exact ⟨rfl, rfl⟩
  | false =>
    have e : wholeN y = 365 := by unfold wholeN; rw [if_neg (by rw [hl]; decide)]
    rw [hl] at hlp
    rw [e]
    have HLP := hid hlp
    clear hl e hlp
    go_enter Tryz.func82, Tryz.ntmps82
    go_wp2_with (go_at_call 106; (with_reducible refine HLP.out.mono ?_); rintro e w1 ⟨rfl, rfl⟩)
    go_ret
    exact ⟨rfl, rfl⟩
end
section
open Go.RowKit
set_option linter.unusedVariables false
set_option linter.unusedSimpArgs false
/-- There is such a day, of whatever numbers. -/
def okD (y m d : Int) : Prop := ∃ a b c : Nat, y = a ∧ m = b ∧ d = c ∧ Vld a b c
theorem not_okD {y m d : Int} (h : ¬ okD y m d) : y < 1 ∨ 9999 < y ∨ m < 1 ∨ 12 < m ∨ d < 1 ∨ (longN y.toNat m.toNat : Int) < d := by
  apply Classical.byContradiction
  intro hn
  exact h ⟨y.toNat, m.toNat, d.toNat, by omega, by omega, by omega, by omega, by omega, by omega, by omega, by omega, by omega⟩
set_option maxHeartbeats 2000000 in
theorem days_no (y m d : Int) (w : World) (h : ¬ okD y m d) :
    Calls Tryz.prog 118 #[.int .i64 y, .int .i64 m, .int .i64 d] w fun e w' => e = .returned (.tuple #[.int .i64 0, .int .i64 4]) ∧ w = w' := by
  have h := not_okD h
  by_cases h1 : y < 1
  · have d1 : decide (y < 1) = true := by simpa using h1
    clear h h1
    go_enter Tryz.func118, Tryz.ntmps118
    go_wp2
    go_ret2
    exact ⟨rfl, rfl⟩
  · have d1 : decide (y < 1) = false := by simpa using h1
    by_cases h2 : 9999 < y
    · have d2 : decide (9999 < y) = true := by simpa using h2
      clear h h1 h2
      go_enter Tryz.func118, Tryz.ntmps118
      go_wp2
      go_ret2
      exact ⟨rfl, rfl⟩
    · have d2 : decide (9999 < y) = false := by simpa using h2
      by_cases h3 : m < 1
      · have d3 : decide (m < 1) = true := by simpa using h3
        clear h h1 h2 h3
        go_enter Tryz.func118, Tryz.ntmps118
        go_wp2
        go_ret2
        exact ⟨rfl, rfl⟩
      · have d3 : decide (m < 1) = false := by simpa using h3
        by_cases h4 : 12 < m
        · have d4 : decide (12 < m) = true := by simpa using h4
          clear h h1 h2 h3 h4
          go_enter Tryz.func118, Tryz.ntmps118
          go_wp2
          go_ret2
          exact ⟨rfl, rfl⟩
        · have d4 : decide (12 < m) = false := by simpa using h4
          by_cases h5 : d < 1
          · have d5 : decide (d < 1) = true := by simpa using h5
            clear h h1 h2 h3 h4 h5
            go_enter Tryz.func118, Tryz.ntmps118
            go_wp2
            go_ret2
            exact ⟨rfl, rfl⟩
          · have d5 : decide (d < 1) = false := by simpa using h5
            obtain ⟨a, rfl⟩ : ∃ a : Nat, y = a := ⟨y.toNat, by omega⟩
            obtain ⟨b, rfl⟩ : ∃ b : Nat, m = b := ⟨m.toNat, by omega⟩
            rw [Int.toNat_natCast, Int.toNat_natCast] at h
            have hlg := long_any a b w (by omega) (by omega) (by omega)
            obtain ⟨L, hL⟩ : ∃ L, longN a b = L := ⟨_, rfl⟩
            rw [hL] at h hlg
            have d6 : decide ((L : Int) < d) = true := by simp; omega
            have HLG := hid hlg
            clear hlg h h1 h2 h3 h4 h5 hL
            go_enter Tryz.func118, Tryz.ntmps118
            go_wp2_with (go_at_call 108; (with_reducible refine HLG.out.mono ?_); rintro e w1 ⟨rfl, rfl⟩)
            go_ret2
            exact ⟨rfl, rfl⟩
set_option maxHeartbeats 2000000 in
theorem days_yes (y m d : Nat) (w : World) (h : Vld y m d) :
    Calls Tryz.prog 118 #[.int .i64 (y : Int), .int .i64 (m : Int), .int .i64 (d : Int)] w fun e w' => e = .returned (.tuple #[.int .i64 (dayN y m d), .int .i64 0]) ∧ w = w' := by
  have hlg := fun (k : Nat) (hk : 1 ≤ k) (hk2 : k ≤ 12) => long_any y k w (by have := h.2.1; omega) hk hk2
  have hah := ahead_any y w h.1 (by have := h.2.1; omega)
  have hcm := fun (k : Nat) (hk : k ≤ 12) => cum_le y (k + 1) (by omega)
  have hll := fun (k : Nat) => long_le y k
  have hcs := fun (k : Nat) => cum_succ y (k + 1) (by omega)
  have hal := ahd_le y (by have := h.2.1; omega)
  have hc1 := cum_one y
  obtain ⟨h1, h2, h3, h4, h5, h6⟩ := h
  have d1 : decide ((y : Int) < 1) = false := by simp; omega
  have d2 : decide (9999 < (y : Int)) = false := by simp; omega
  have d2' : decide (9999 < y) = false := by simp; omega
  have d3 : decide ((m : Int) < 1) = false := by simp; omega
  have d4 : decide (12 < (m : Int)) = false := by simp; omega
  have d4' : decide (12 < m) = false := by simp; omega
  have d5 : decide ((d : Int) < 1) = false := by simp; omega
  have hd31 : d ≤ 31 := Nat.le_trans h6 (hll m).2
  obtain ⟨a, ha⟩ : ∃ a, ahd y = a := ⟨_, rfl⟩
  have hout : dayN y m d = (a : Int) + d - 1 + (cum y m : Int) - 719162 := by unfold dayN; rw [ha]; omega
  rw [hout]
  rw [ha] at hah hal
  have d6 : decide ((longN y m : Int) < d) = false := by simp; omega
  have d6' : decide (longN y m < d) = false := by simp; omega
  have HLG := hid hlg
  have HCM := hid hcm
  have HLL := hid hll
  have HCS := hid hcs
  have HC1 := hid hc1
  have HAH := hid hah
  have HL0 := hid (hlg m (by omega) (by omega))
  clear hlg hcm hll hcs hc1 hah ha hout h6
  go_enter Tryz.func118, Tryz.ntmps118
  go_wp2_with (first
    | (go_at_call 108; (with_reducible refine HL0.out.mono ?_); rintro e w1 ⟨rfl, rfl⟩)
    | (go_at_call 107; (with_reducible refine HAH.out.mono ?_); rintro e w1 ⟨rfl, rfl⟩))
  go_loop [8, 42] (fun t i => ∃ k : Nat, k + 1 ≤ m ∧ i = .int .i64 (k : Int) ∧ t = .int .i64 ((a : Int) + d - 1 + (cum y (k + 1) : Int))) (fun _ i => m - (intOf i).toNat)
  case atStart => exact ⟨0, by omega, rfl, by rw [HC1.out]; simp⟩
  case round =>
    obtain ⟨k, hk, rfl, rfl⟩ := hrel
    by_cases hlt : k + 1 < m
    · have e1 : decide ((k : Int) < (m : Int) - 1) = true := by simp; omega
      have c1 := HCM.out k (by omega)
      have c2 := HLL.out (k + 1)
      have c3 := hid (HCS.out k)
      have hL : Calls Tryz.prog 108 #[.int .i64 (y : Int), .int .i64 ((k : Int) + 1)] w fun e w' => e = .returned (.int .i64 (longN y (k + 1) : Int)) ∧ w = w' := HLG.out (k + 1) (by omega) (by omega)
      have HL1 := hid hL
      clear hL
      obtain ⟨c, hc⟩ : ∃ c, cum y (k + 1) = c := ⟨_, rfl⟩
      obtain ⟨L, hL⟩ : ∃ L, longN y (k + 1) = L := ⟨_, rfl⟩
      rw [hc] at c1 c3 ⊢
      rw [hL] at c2 c3 HL1
      clear hc hL
      go_wp2_with (go_at_call 108; (with_reducible refine HL1.out.mono ?_); rintro e w1 ⟨rfl, rfl⟩)
      go_round
      case rel => exact ⟨k + 1, by omega, by go_num, by rw [c3.out]; go_num⟩
      case measure => simp [intOf]; omega
    · have e1 : decide ((k : Int) < (m : Int) - 1) = false := by simp; omega
      have c1 := HCM.out k (by omega)
      obtain rfl : m = k + 1 := by omega
      obtain ⟨c, hc⟩ : ∃ c, cum y (k + 1) = c := ⟨_, rfl⟩
      rw [hc] at c1 ⊢
      have HCC := hid hc
      clear hc
      go_wp2
      go_ret2
      exact ⟨by rw [HCC.out]; rfl, rfl⟩
theorem month_end {y N m R : Nat} (hm : m ≤ 12) (hm1 : 1 ≤ m) (h : ahd y + cum y m + R = N) (hN : N < ahd y + wholeN y) : (longN y m ≤ R → m + 1 ≤ 12 ∧ ahd y + cum y (m + 1) + (R - longN y m) = N) := by
  intro hl
  have e := cum_succ y m hm1
  refine ⟨?_, by omega⟩
  apply Classical.byContradiction
  intro hc
  obtain rfl : m = 12 := by omega
  have he := cum_end y
  rw [show (13 : Nat) = 12 + 1 from rfl] at he
  omega
theorem civ_at {y m R N : Nat} {n : Int} (hy : 1 ≤ y) (hN : n + 719162 = N) (hn : n ≤ 2932896) (hm1 : 1 ≤ m) (hm : m ≤ 12) (h : ahd y + cum y m + R = N) (hR : R < longN y m) : civ n = (y, m, R + 1) := by
  have hy9 : y ≤ 9999 := by
    apply Classical.byContradiction
    intro hc
    have := ahd_mono (show 10000 ≤ y by omega)
    have e : ahd 10000 = 3652059 := by decide +kernel
    omega
  refine civ_eq ⟨hy, hy9, hm1, hm, by omega, by omega⟩ ?_
  unfold dayN
  omega
theorem results4 (n : Int) (y m R : Nat) (k : Value) (w : World) (h : civ n = (y, m, R + 1)) : Ending.returned (.tuple #[.int .i64 (y : Int), .int .i64 (m : Int), .int .i64 ((R : Int) + 1), k]) = .returned (.tuple #[.int .i64 ((civ n).1 : Int), .int .i64 ((civ n).2.1 : Int), .int .i64 ((civ n).2.2 : Int), k]) := by
  rw [h]
  rfl
set_option maxHeartbeats 2000000 in
theorem civil_no (n : Int) (w : World) (h : n < -719162 ∨ 2932896 < n) :
    Calls Tryz.prog 89 #[.int .i64 n] w fun e w' => e = .returned (.tuple #[.int .i64 0, .int .i64 0, .int .i64 0, .int .i64 4]) ∧ w = w' := by
  by_cases h1 : n < -719162
  · have d1 : decide (n < -719162) = true := by simpa using h1
    clear h h1
    go_enter Tryz.func89, Tryz.ntmps89
    go_wp2
    exact bodyPost_ret (v := .tuple #[.int .i64 0, .int .i64 0, .int .i64 0, .int .i64 4]) (by simp [results, Tryz.results89, go_sem]) rfl ⟨rfl, rfl⟩
  · have d1 : decide (n < -719162) = false := by simpa using h1
    have d2 : decide (2932897 ≤ n) = true := by simp; omega
    have hah : Calls Tryz.prog 107 #[.int .i64 10000] w fun e w' => e = .returned (.int .i64 3652059) ∧ w = w' := ahead_any 10000 w (by omega) (by omega)
    have HAH := hid hah
    clear h h1 hah
    go_enter Tryz.func89, Tryz.ntmps89
    go_wp2_with (go_at_call 107; (with_reducible refine HAH.out.mono ?_); rintro e w1 ⟨rfl, rfl⟩)
    exact bodyPost_ret (v := .tuple #[.int .i64 0, .int .i64 0, .int .i64 0, .int .i64 4]) (by simp [results, Tryz.results89, go_sem]) rfl ⟨rfl, rfl⟩
set_option maxHeartbeats 4000000 in
theorem civil_yes (n : Int) (w : World) (h1 : -719162 ≤ n) (h2 : n ≤ 2932896) :
    Calls Tryz.prog 89 #[.int .i64 n] w fun e w' => e = .returned (.tuple #[.int .i64 ((civ n).1 : Int), .int .i64 ((civ n).2.1 : Int), .int .i64 ((civ n).2.2 : Int), .int .i64 0]) ∧ w = w' := by
  have d1 : decide (n < -719162) = false := by simp; omega
  have d2 : decide (2932897 ≤ n) = false := by simp; omega
  have hah : Calls Tryz.prog 107 #[.int .i64 10000] w fun e w' => e = .returned (.int .i64 3652059) ∧ w = w' := ahead_any 10000 w (by omega) (by omega)
  have HAH := hid hah
  obtain ⟨N, hN⟩ : ∃ N : Nat, n + 719162 = N := ⟨(n + 719162).toNat, by omega⟩
  obtain rfl : n = (N : Int) - 719162 := by omega
  have hNb : N ≤ 3652058 := by omega
  have hst := ahd_ge (N / 365 + 1 + 1) (by omega)
  have HST := hid (show N < ahd (N / 365 + 1 + 1) by omega)
  clear hah hN hst
  go_enter Tryz.func89, Tryz.ntmps89
  go_wp2_with (go_at_call 107; (with_reducible refine HAH.out.mono ?_); rintro e w1 ⟨rfl, rfl⟩)
  go_loop [6] (fun t => ∃ y : Nat, 1 ≤ y ∧ y ≤ 10007 ∧ Hid (N < ahd (y + 1)) ∧ t = .int .i64 (y : Int)) (fun t => (intOf t).toNat)
  case atStart => exact ⟨N / 365 + 1, by omega, by omega, HST, by go_num⟩
  case round =>
    obtain ⟨y, hy1, hy2, hy3, rfl⟩ := hrel
    have hay := ahead_any y w hy1 (by omega)
    have hal := ahd_mono (show y ≤ 10007 by omega)
    have e107 : ahd 10007 = 3654616 := by decide +kernel
    rw [e107] at hal
    by_cases hlt : N < ahd y
    · have hy0 : 2 ≤ y := by
        apply Classical.byContradiction
        intro hc
        obtain rfl : y = 1 := by omega
        have : ahd 1 = 0 := by decide
        omega
      have HY := hid (show N < ahd (y - 1 + 1) by rw [show y - 1 + 1 = y by omega]; exact hlt)
      obtain ⟨a, ha⟩ : ∃ a, ahd y = a := ⟨_, rfl⟩
      rw [ha] at hlt hay hal
      have d3 : decide ((N : Int) < a) = true := by simp; omega
      have d3' : decide (N < a) = true := by simpa using hlt
      have HAY := hid hay
      clear hay ha hlt e107
      go_wp2_with (go_at_call 107; (with_reducible refine HAY.out.mono ?_); rintro e w1 ⟨rfl, rfl⟩)
      go_round
      case rel => exact ⟨y - 1, by omega, by omega, HY, by go_num⟩
      case measure => simp [intOf]; omega
    · have hsu := ahd_succ y hy1
      have HNW := hid (show N < ahd y + wholeN y by have := hy3.out; omega)
      have HLG := hid (fun k hk1 hk2 => long_any y k w (by omega) hk1 hk2)
      have HC1 := hid (show ahd y + cum y 1 + (N - ahd y) = N by rw [cum_one]; omega)
      obtain ⟨a, ha⟩ : ∃ a, ahd y = a := ⟨_, rfl⟩
      have HA := hid ha
      rw [ha] at hlt hay hal HC1
      have d3 : decide ((N : Int) < a) = false := by simp; omega
      have d3' : decide (N < a) = false := by simpa using hlt
      have HAY := hid hay
      clear hay ha e107 hsu
      go_wp2_with (go_at_call 107; (with_reducible refine HAY.out.mono ?_); rintro e w1 ⟨rfl, rfl⟩)
      go_loop [0, 7] (fun t k => ∃ m R : Nat, 1 ≤ m ∧ m ≤ 12 ∧ R ≤ N ∧ Hid (a + cum y m + R = N) ∧ t = .int .i64 (R : Int) ∧ k = .int .i64 (m : Int)) (fun _ k => 13 - (intOf k).toNat)
      case atStart => exact ⟨1, N - a, by omega, by omega, by omega, HC1, by go_num, rfl⟩
      case round =>
        obtain ⟨m, R, hm1, hm2, hR, hS, rfl, rfl⟩ := hrel
        have hlm := HLG.out m hm1 hm2
        have hll := long_le y m
        by_cases hge : longN y m ≤ R
        · have hme := month_end hm2 hm1 (by rw [HA.out]; exact hS.out) HNW.out hge
          have hm3 := hme.1
          have HME := hid hme.2
          obtain ⟨L, hL⟩ : ∃ L, longN y m = L := ⟨_, rfl⟩
          rw [hL] at hge hlm hll HME
          rw [HA.out] at HME
          have d4 : decide (L ≤ R) = true := by simpa using hge
          have HLM := hid hlm
          clear hlm hme hL
          go_wp2_with (go_at_call 108; (with_reducible refine HLM.out.mono ?_); rintro e w1 ⟨rfl, rfl⟩)
          go_round
          case rel => exact ⟨m + 1, R - L, by omega, by omega, by omega, HME, by go_num, by go_num⟩
          case measure => simp [intOf]; omega
        · have HCV := hid (civ_at (y := y) (m := m) (R := R) (N := N) (n := (N : Int) - 719162) hy1 (by omega) (by omega) hm1 hm2 (by rw [HA.out]; exact hS.out) (by omega))
          obtain ⟨L, hL⟩ : ∃ L, longN y m = L := ⟨_, rfl⟩
          rw [hL] at hge hlm hll
          have d4 : decide (L ≤ R) = false := by simpa using hge
          have HLM := hid hlm
          clear hlm hL hge
          go_wp2_with (go_at_call 108; (with_reducible refine HLM.out.mono ?_); rintro e w1 ⟨rfl, rfl⟩)
          exact bodyPost_ret (v := .tuple #[.int .i64 (y : Int), .int .i64 (m : Int), .int .i64 ((R : Int) + 1), .int .i64 0]) (by simp [results, Tryz.results89, go_sem]) rfl ⟨results4 _ y m R _ w HCV.out, rfl⟩
end
section
open Go.RowKit
set_option linter.unusedVariables false
set_option linter.unusedSimpArgs false
set_option maxHeartbeats 2000000 in
theorem rdays_no (y m d : Int) (w : World) (h : ¬ okD y m d) :
    Calls Tryz.prog 86 #[.int .i64 y, .int .i64 m, .int .i64 d] w fun e w' => e = .returned (.tuple #[.int .i64 0, .bool false]) ∧ w = w' := by
  have h := not_okD h
  by_cases h1 : y < 1
  · have d1 : decide (y < 1) = true := by simpa using h1
    clear h h1
    go_enter Tryz.func86, Tryz.ntmps86
    go_wp2
    go_ret2
    exact ⟨rfl, rfl⟩
  · have d1 : decide (y < 1) = false := by simpa using h1
    by_cases h2 : 9999 < y
    · have d2 : decide (9999 < y) = true := by simpa using h2
      clear h h1 h2
      go_enter Tryz.func86, Tryz.ntmps86
      go_wp2
      go_ret2
      exact ⟨rfl, rfl⟩
    · have d2 : decide (9999 < y) = false := by simpa using h2
      by_cases h3 : m < 1
      · have d3 : decide (m < 1) = true := by simpa using h3
        clear h h1 h2 h3
        go_enter Tryz.func86, Tryz.ntmps86
        go_wp2
        go_ret2
        exact ⟨rfl, rfl⟩
      · have d3 : decide (m < 1) = false := by simpa using h3
        by_cases h4 : 12 < m
        · have d4 : decide (12 < m) = true := by simpa using h4
          clear h h1 h2 h3 h4
          go_enter Tryz.func86, Tryz.ntmps86
          go_wp2
          go_ret2
          exact ⟨rfl, rfl⟩
        · have d4 : decide (12 < m) = false := by simpa using h4
          by_cases h5 : d < 1
          · have d5 : decide (d < 1) = true := by simpa using h5
            clear h h1 h2 h3 h4 h5
            go_enter Tryz.func86, Tryz.ntmps86
            go_wp2
            go_ret2
            exact ⟨rfl, rfl⟩
          · have d5 : decide (d < 1) = false := by simpa using h5
            obtain ⟨a, rfl⟩ : ∃ a : Nat, y = a := ⟨y.toNat, by omega⟩
            obtain ⟨b, rfl⟩ : ∃ b : Nat, m = b := ⟨m.toNat, by omega⟩
            rw [Int.toNat_natCast, Int.toNat_natCast] at h
            have hlg := refLong_any a b w (by omega) (by omega) (by omega)
            obtain ⟨L, hL⟩ : ∃ L, longN a b = L := ⟨_, rfl⟩
            rw [hL] at h hlg
            have d6 : decide ((L : Int) < d) = true := by simp; omega
            have HLG := hid hlg
            clear hlg h h1 h2 h3 h4 h5 hL
            go_enter Tryz.func86, Tryz.ntmps86
            go_wp2_with (go_at_call 83; (with_reducible refine HLG.out.mono ?_); rintro e w1 ⟨rfl, rfl⟩)
            go_ret2
            exact ⟨rfl, rfl⟩
theorem cast_mono {a b : Nat} (h : a ≤ b) : (ahd a : Int) ≤ ahd b := by
  have := ahd_mono h
  omega
set_option maxHeartbeats 4000000 in
theorem rdays_yes (y m d : Nat) (w : World) (h : Vld y m d) :
    Calls Tryz.prog 86 #[.int .i64 (y : Int), .int .i64 (m : Int), .int .i64 (d : Int)] w fun e w' => e = .returned (.tuple #[.int .i64 (dayN y m d), .bool true]) ∧ w = w' := by
  have hlg := fun (k : Nat) (hk : 1 ≤ k) (hk2 : k ≤ 12) => refLong_any y k w (by have := h.2.1; omega) hk hk2
  have hwh := fun (k : Nat) (hk : k ≤ 10000) => whole_any k w (by omega)
  have hcm := fun (k : Nat) (hk : k ≤ 12) => cum_le y k (by omega)
  have hll := fun (k : Nat) => long_le y k
  have hcs := fun (k : Nat) (hk : 1 ≤ k) => cum_succ y k hk
  have hc1 := cum_one y
  obtain ⟨h1, h2, h3, h4, h5, h6⟩ := h
  have d1 : decide ((y : Int) < 1) = false := by simp; omega
  have d2 : decide (9999 < (y : Int)) = false := by simp; omega
  have d2' : decide (9999 < y) = false := by simp; omega
  have d3 : decide ((m : Int) < 1) = false := by simp; omega
  have d4 : decide (12 < (m : Int)) = false := by simp; omega
  have d4' : decide (12 < m) = false := by simp; omega
  have d5 : decide ((d : Int) < 1) = false := by simp; omega
  have hd31 : d ≤ 31 := Nat.le_trans h6 (hll m).2
  have d6 : decide ((longN y m : Int) < d) = false := by simp; omega
  have d6' : decide (longN y m < d) = false := by simp; omega
  have HLG := hid hlg
  have HWH := hid hwh
  have HCM := hid hcm
  have HLL := hid hll
  have HCS := hid hcs
  have HC1 := hid hc1
  have HL0 := hid (hlg m (by omega) (by omega))
  clear hlg hcm hll hcs hc1 h6 hwh
  go_enter Tryz.func86, Tryz.ntmps86
  go_wp2_with (go_at_call 83; (with_reducible refine HL0.out.mono ?_); rintro e w1 ⟨rfl, rfl⟩)
  go_loop [8, 9] (fun t i => ∃ k c : Nat, 1 ≤ k ∧ k ≤ m ∧ i = .int .i64 (k : Int) ∧ Hid (c = cum y k) ∧ c ≤ 366 ∧ t = .int .i64 ((d : Int) - 1 + (c : Int))) (fun _ i => m - (intOf i).toNat)
  case atStart => exact ⟨1, 0, by omega, by omega, rfl, hid HC1.out.symm, by omega, by simp⟩
  case round =>
    obtain ⟨k, c, hk1, hk, rfl, hc, hc3, rfl⟩ := hrel
    by_cases hlt : k < m
    · have e1 : decide (k < m) = true := by simpa using hlt
      have c2 := HLL.out k
      have hL := HLG.out k (by omega) (by omega)
      obtain ⟨L, hL'⟩ : ∃ L, longN y k = L := ⟨_, rfl⟩
      rw [hL'] at c2 hL
      have c3 := hid (show c + L = cum y (k + 1) by rw [HCS.out k hk1, hc.out, hL'])
      have c4 := HCM.out (k + 1) (by omega)
      rw [← c3.out] at c4
      have HL1 := hid hL
      clear hL hL'
      go_wp2_with (go_at_call 83; (with_reducible refine HL1.out.mono ?_); rintro e w1 ⟨rfl, rfl⟩)
      go_round
      case rel => exact ⟨k + 1, c + L, by omega, by omega, by go_num, c3, by omega, by go_num⟩
      case measure => simp [intOf]; omega
    · have e1 : decide (k < m) = false := by simpa using hlt
      obtain rfl : k = m := by omega
      go_wp2
      have e1970 : ahd 1970 = 719162 := by decide +kernel
      have HE := hid e1970
      clear e1970
      go_loop [8, 10] (fun t i => ∃ j a : Nat, 1970 ≤ j ∧ j ≤ max y 1970 ∧ i = .int .i64 (j : Int) ∧ Hid (a = ahd j) ∧ 719162 ≤ a ∧ a ≤ 3652059 ∧ t = .int .i64 ((d : Int) - 1 + (c : Int) + ((a : Int) - 719162))) (fun _ i => y - (intOf i).toNat)
      case atStart => exact ⟨1970, 719162, by omega, by omega, rfl, hid HE.out.symm, by omega, by omega, by simp⟩
      case round =>
        obtain ⟨j, a, hj1, hj2, rfl, ha, ha1, ha2, rfl⟩ := hrel
        by_cases hjy : j < y
        · have e2 : decide (j < y) = true := by simpa using hjy
          have hW := HWH.out j (by omega)
          have hwl := whole_le j
          obtain ⟨W, hW'⟩ : ∃ W, wholeN j = W := ⟨_, rfl⟩
          have c5 := hid (show a + W = ahd (j + 1) by rw [ahd_succ j (by omega), ha.out, hW'])
          have c6 := ahd_le (j + 1) (by omega)
          rw [← c5.out] at c6
          rw [hW'] at hW hwl
          have HW := hid hW
          clear hW hW'
          go_wp2_with (go_at_call 82; (with_reducible refine HW.out.mono ?_); rintro e w1 ⟨rfl, rfl⟩)
          go_round
          case rel => exact ⟨j + 1, a + W, by omega, by omega, by go_num, c5, by omega, by omega, by go_num⟩
          case measure => simp [intOf]; omega
        · have e2 : decide (j < y) = false := by simpa using hjy
          go_wp2
          by_cases hy7 : y < 1970
          · have HA7 := hid (show a = 719162 by rw [ha.out, show j = 1970 by omega]; exact HE.out)
            go_loop [8, 11] (fun t i => ∃ q b : Nat, y ≤ q ∧ q ≤ 1970 ∧ i = .int .i64 (q : Int) ∧ Hid ((b : Int) = (ahd q : Int) - ahd y) ∧ b ≤ 719162 ∧ t = .int .i64 ((d : Int) - 1 + (c : Int) - (b : Int))) (fun _ i => 1970 - (intOf i).toNat)
            case atStart => exact ⟨y, 0, by omega, by omega, rfl, hid (by omega), by omega, by rw [HA7.out]; simp⟩
            case round =>
              obtain ⟨q, b, hq1, hq2, rfl, hb, hb1, rfl⟩ := hrel
              by_cases hqy : q < 1970
              · have e3 : decide ((q : Int) < 1970) = true := by simp; omega
                have e3' : decide (q < 1970) = true := by simpa using hqy
                have hW := HWH.out q (by omega)
                have hwl := whole_le q
                obtain ⟨W, hW'⟩ : ∃ W, wholeN q = W := ⟨_, rfl⟩
                have hs := ahd_succ q (by omega)
                have c6 := cast_mono (show q + 1 ≤ 1970 by omega)
                rw [HE.out] at c6
                have c7 : ((b + W : Nat) : Int) = (ahd (q + 1) : Int) - ahd y := by
                  have := hb.out
                  rw [hs, hW']
                  omega
                have c8 : b + W ≤ 719162 := by omega
                rw [hW'] at hW hwl
                have HW := hid hW
                have c7 := hid c7
                clear hW hW' hs c6
                go_wp2_with (go_at_call 82; (with_reducible refine HW.out.mono ?_); rintro e w1 ⟨rfl, rfl⟩)
                go_round
                case rel => exact ⟨q + 1, b + W, by omega, by omega, by go_num, c7, by omega, by go_num⟩
                case measure => simp [intOf]; omega
              · have e3 : decide ((q : Int) < 1970) = false := by simp; omega
                have e3' : decide (q < 1970) = false := by simpa using hqy
                obtain rfl : q = 1970 := by omega
                have HOUT := hid (show dayN y k d = (d : Int) - 1 + (c : Int) - (b : Int) by
                  have := hb.out
                  rw [HE.out] at this
                  unfold dayN
                  rw [← hc.out]
                  omega)
                go_wp2
                go_ret2
                exact ⟨by rw [HOUT.out]; rfl, rfl⟩
          · obtain rfl : j = y := by omega
            have HOUT := hid (show dayN j k d = (d : Int) - 1 + (c : Int) + ((a : Int) - 719162) by
              unfold dayN
              rw [← hc.out, ← ha.out]
              omega)
            have e3 : decide ((j : Int) < 1970) = false := by simp; omega
            have e3' : decide (j < 1970) = false := by simpa using hy7
            go_loop [8, 11] (fun t i => i = .int .i64 (j : Int) ∧ t = .int .i64 ((d : Int) - 1 + (c : Int) + ((a : Int) - 719162))) (fun _ i => 0)
            case atStart => exact ⟨rfl, rfl⟩
            case round =>
              obtain ⟨rfl, rfl⟩ := hrel
              go_wp2
              go_ret2
              exact ⟨by rw [HOUT.out]; rfl, rfl⟩
set_option maxHeartbeats 2000000 in
theorem rcivil_no (n : Int) (w : World) (h : n < -719162 ∨ 2932896 < n) :
    Calls Tryz.prog 53 #[.int .i64 n] w fun e w' => e = .returned (.tuple #[.int .i64 0, .int .i64 0, .int .i64 0, .bool false]) ∧ w = w' := by
  by_cases h1 : n < -719162
  · have d1 : decide (n < -719162) = true := by simpa using h1
    clear h h1
    go_enter Tryz.func53, Tryz.ntmps53
    go_wp2
    exact bodyPost_ret (v := .tuple #[.int .i64 0, .int .i64 0, .int .i64 0, .bool false]) (by simp [results, Tryz.results53, go_sem]) rfl ⟨rfl, rfl⟩
  · have d1 : decide (n < -719162) = false := by simpa using h1
    have d2 : decide (2932896 < n) = true := by simp; omega
    clear h h1
    go_enter Tryz.func53, Tryz.ntmps53
    go_wp2
    exact bodyPost_ret (v := .tuple #[.int .i64 0, .int .i64 0, .int .i64 0, .bool false]) (by simp [results, Tryz.results53, go_sem]) rfl ⟨rfl, rfl⟩
set_option maxHeartbeats 4000000 in
theorem rcivil_yes (n : Int) (w : World) (h1 : -719162 ≤ n) (h2 : n ≤ 2932896) :
    Calls Tryz.prog 53 #[.int .i64 n] w fun e w' => e = .returned (.tuple #[.int .i64 ((civ n).1 : Int), .int .i64 ((civ n).2.1 : Int), .int .i64 ((civ n).2.2 : Int), .bool true]) ∧ w = w' := by
  have d1 : decide (n < -719162) = false := by simp; omega
  have d2 : decide (2932896 < n) = false := by simp; omega
  obtain ⟨N, hN⟩ : ∃ N : Nat, n + 719162 = N := ⟨(n + 719162).toNat, by omega⟩
  have HN := hid hN
  have hNb : N ≤ 3652058 := by omega
  have HE := hid (show ahd 1970 = 719162 by decide +kernel)
  have HZ := hid (show ahd 1 = 0 by decide)
  have HM := hid (show ahd 10000 = 3652059 by decide +kernel)
  have HW := hid (fun (k : Nat) (hk : k ≤ 10000) => whole_any k w (by omega))
  clear hN
  go_enter Tryz.func53, Tryz.ntmps53
  go_wp2
  go_loop [0, 6] (fun t i => ∃ (R : Int) (y : Nat), 1 ≤ y ∧ y ≤ 1970 ∧ -719162 ≤ R ∧ R ≤ 2932896 ∧ Hid (R + (ahd y : Int) = (N : Int)) ∧ t = .int .i64 R ∧ i = .int .i64 (y : Int)) (fun _ i => (intOf i).toNat)
  case atStart => exact ⟨n, 1970, by omega, by omega, h1, h2, hid (by rw [HE.out]; exact HN.out), rfl, rfl⟩
  case round =>
    obtain ⟨R, y, hy1, hy2, hR1, hR2, hS, rfl, rfl⟩ := hrel
    by_cases hneg : R < 0
    · have e1 : decide (R < 0) = true := by simpa using hneg
      have hy0 : 2 ≤ y := by
        apply Classical.byContradiction
        intro hc
        obtain rfl : y = 1 := by omega
        have := hS.out
        rw [HZ.out] at this
        omega
      obtain ⟨x, rfl⟩ : ∃ x, y = x + 1 := ⟨y - 1, by omega⟩
      have hw := HW.out x (by omega)
      have hwl := whole_le x
      have hs := ahd_succ x (by omega)
      obtain ⟨W, hW⟩ : ∃ W, wholeN x = W := ⟨_, rfl⟩
      rw [hW] at hw hwl hs
      have HS := hid (show R + (W : Int) + (ahd x : Int) = (N : Int) by have := hS.out; rw [hs] at this; omega)
      have HW1 := hid hw
      clear hw hW hs
      go_wp2_with (go_at_call 82; (with_reducible refine HW1.out.mono ?_); rintro e w1 ⟨rfl, rfl⟩)
      go_round
      case rel => exact ⟨R + W, x, by omega, by omega, by omega, by omega, HS, by go_num, by go_num⟩
      case measure => simp [intOf]
    · have e1 : decide (R < 0) = false := by simpa using hneg
      go_wp2
      obtain ⟨r, rfl⟩ : ∃ r : Nat, R = r := ⟨R.toNat, by omega⟩
      go_loop [0, 6] (fun t i => ∃ (R y : Nat), 1 ≤ y ∧ y ≤ 9999 ∧ R ≤ 2932896 ∧ Hid (R + ahd y = N) ∧ t = .int .i64 (R : Int) ∧ i = .int .i64 (y : Int)) (fun _ i => 10000 - (intOf i).toNat)
      case atStart => exact ⟨r, y, by omega, by omega, by omega, hid (by have := hS.out; omega), rfl, rfl⟩
      case round =>
        obtain ⟨R, y, hy1, hy2, hR2, hS, rfl, rfl⟩ := hrel
        have hw := HW.out y (by omega)
        have hwl := whole_le y
        have hs := ahd_succ y hy1
        by_cases hge : wholeN y ≤ R
        · have hy9 : y + 1 ≤ 9999 := by
            apply Classical.byContradiction
            intro hc
            obtain rfl : y = 9999 := by omega
            have h1 := HM.out
            have h2 := hS.out
            rw [show (10000 : Nat) = 9999 + 1 from rfl] at h1
            omega
          obtain ⟨W, hW⟩ : ∃ W, wholeN y = W := ⟨_, rfl⟩
          rw [hW] at hw hwl hs hge
          have HS := hid (show R - W + ahd (y + 1) = N by have := hS.out; rw [hs]; omega)
          have e2 : decide (W ≤ R) = true := by simpa using hge
          have HW1 := hid hw
          clear hw hW hs
          go_wp2_with (go_at_call 82; (with_reducible refine HW1.out.mono ?_); rintro e w1 ⟨rfl, rfl⟩)
          go_round
          case rel => exact ⟨R - W, y + 1, by omega, by omega, by omega, HS, by go_num, by go_num⟩
          case measure => simp [intOf]; omega
        · have HNW := hid (show N < ahd y + wholeN y by have := hS.out; omega)
          obtain ⟨W, hW⟩ : ∃ W, wholeN y = W := ⟨_, rfl⟩
          rw [hW] at hw hwl hs hge
          have e2 : decide (W ≤ R) = false := by simpa using hge
          have HW1 := hid hw
          have HLG := hid (fun k hk1 hk2 => refLong_any y k w (by omega) hk1 hk2)
          have HC1 := hid (show ahd y + cum y 1 + R = N by have := hS.out; rw [cum_one]; omega)
          clear hw hW hs
          go_wp2_with (go_at_call 82; (with_reducible refine HW1.out.mono ?_); rintro e w1 ⟨rfl, rfl⟩)
          go_loop [0, 7] (fun t k => ∃ m Q : Nat, 1 ≤ m ∧ m ≤ 12 ∧ Q ≤ R ∧ Hid (ahd y + cum y m + Q = N) ∧ t = .int .i64 (Q : Int) ∧ k = .int .i64 (m : Int)) (fun _ k => 13 - (intOf k).toNat)
          case atStart => exact ⟨1, R, by omega, by omega, by omega, HC1, rfl, rfl⟩
          case round =>
            obtain ⟨m, Q, hm1, hm2, hQ, hS, rfl, rfl⟩ := hrel
            have hlm := HLG.out m hm1 hm2
            have hll := long_le y m
            by_cases hge : longN y m ≤ Q
            · have hme := month_end hm2 hm1 hS.out HNW.out hge
              have hm3 := hme.1
              have HME := hid hme.2
              obtain ⟨L, hL⟩ : ∃ L, longN y m = L := ⟨_, rfl⟩
              rw [hL] at hge hlm hll HME
              have d4 : decide (L ≤ Q) = true := by simpa using hge
              have HLM := hid hlm
              clear hlm hme hL
              go_wp2_with (go_at_call 83; (with_reducible refine HLM.out.mono ?_); rintro e w1 ⟨rfl, rfl⟩)
              go_round
              case rel => exact ⟨m + 1, Q - L, by omega, by omega, by omega, HME, by go_num, by go_num⟩
              case measure => simp [intOf]; omega
            · have HCV := hid (civ_at (y := y) (m := m) (R := Q) (N := N) (n := n) hy1 HN.out h2 hm1 hm2 hS.out (by omega))
              obtain ⟨L, hL⟩ : ∃ L, longN y m = L := ⟨_, rfl⟩
              rw [hL] at hge hlm hll
              have d4 : decide (L ≤ Q) = false := by simpa using hge
              have HLM := hid hlm
              clear hlm hL hge
              go_wp2_with (go_at_call 83; (with_reducible refine HLM.out.mono ?_); rintro e w1 ⟨rfl, rfl⟩)
              exact bodyPost_ret (v := .tuple #[.int .i64 (y : Int), .int .i64 (m : Int), .int .i64 ((Q : Int) + 1), .bool true]) (by simp [results, Tryz.results53, go_sem]) rfl ⟨results4 _ y m Q _ w HCV.out, rfl⟩
end
section
open Go.RowKit
set_option linter.unusedVariables false
set_option linter.unusedSimpArgs false
/-- May a date be? -/
def mayD (s z : Int) : Bool := decide (-1439 ≤ z ∧ z ≤ 1439 ∧ -719162 ≤ (s + 60 * z) / 86400 ∧ (s + 60 * z) / 86400 ≤ 2932896)
theorem tdiv_facts (s : Int) : ∃ q r : Int, Int.tdiv s 86400 = q ∧ Int.tmod s 86400 = r ∧ s = 86400 * q + r ∧ (r < 0 → s / 86400 = q - 1 ∧ s % 86400 = r + 86400) ∧ (¬ r < 0 → s / 86400 = q ∧ s % 86400 = r) ∧ -86400 < r ∧ r < 86400 := by
  refine ⟨_, _, rfl, rfl, ?_⟩
  have h := Int.mul_tdiv_add_tmod s 86400
  have h1 := Int.tmod_lt_of_pos s (show (0 : Int) < 86400 by omega)
  have h2 : -86400 < Int.tmod s 86400 := by
    have := Int.tmod_lt_of_pos (-s) (show (0 : Int) < 86400 by omega)
    rw [Int.neg_tmod] at this
    omega
  generalize Int.tdiv s 86400 = q at *
  generalize Int.tmod s 86400 = r at *
  refine ⟨by omega, fun hr => ⟨by omega, by omega⟩, fun hr => ⟨?_, ?_⟩, h2, h1⟩ <;> omega
set_option maxHeartbeats 1000000 in
theorem split_any (s : Int) (w : World) (h1 : -2000000000000 ≤ s) (h2 : s ≤ 2000000000000) :
    Calls Tryz.prog 64 #[.int .i64 s] w fun e w' => e = .returned (.tuple #[.int .i64 (s / 86400), .int .i64 (s % 86400)]) ∧ w = w' := by
  obtain ⟨q, r, hq, hr, hs, hn, hp, r1, r2⟩ := tdiv_facts s
  by_cases h : r < 0
  · have d1 : decide (r < 0) = true := by simpa using h
    obtain ⟨e1, e2⟩ := hn h
    rw [e1, e2]
    have b1 : -30000000 ≤ q := by omega
    have b2 : q ≤ 30000000 := by omega
    clear hn hp hs e1 e2 h
    go_enter Tryz.func64, Tryz.ntmps64
    go_wp2
    go_ret2
    exact ⟨rfl, rfl⟩
  · have d1 : decide (r < 0) = false := by simpa using h
    obtain ⟨e1, e2⟩ := hp h
    rw [e1, e2]
    have b1 : -30000000 ≤ q := by omega
    have b2 : q ≤ 30000000 := by omega
    clear hn hp hs e1 e2 h
    go_enter Tryz.func64, Tryz.ntmps64
    go_wp2
    go_ret2
    exact ⟨rfl, rfl⟩
theorem date_box (w : World) (s z : Int) : (w.alloc (.cells #[.int .i64 s, .int .i64 z] 23)).cell? ⟨w.heap.size, 0, none⟩ = some (.int .i64 s) ∧
    (w.alloc (.cells #[.int .i64 s, .int .i64 z] 23)).cell? ⟨w.heap.size, 1, none⟩ = some (.int .i64 z) := by
  have c := OwnC.new_ w #[.int .i64 s, .int .i64 z] 23
  exact ⟨c.cell rfl, c.cell rfl⟩
theorem box_below (w : World) (s z : Int) : Below w.heap.size w (w.alloc (.cells #[.int .i64 s, .int .i64 z] 23)) := (Below.refl _ _).alloc (Nat.le_refl _) _
theorem local_any (s z : Int) (w : World) (h1 : -1500000000000 ≤ s) (h2 : s ≤ 1500000000000) (h3 : -1439 ≤ z) (h4 : z ≤ 1439) :
    Calls Tryz.prog 65 #[.agg #[.int .i64 s, .int .i64 z]] w fun e w' => e = .returned (.int .i64 (s + 60 * z)) ∧ Below w.heap.size w w' := by
  obtain ⟨x0, x1⟩ := date_box w s z
  have HB := hid (box_below w s z)
  go_enter Tryz.func65, Tryz.ntmps65
  go_wp2
  go_ret
  exact ⟨rfl, HB.out⟩
set_option maxHeartbeats 2000000 in
theorem dmay_any (s z : Int) (w : World) (hs : -9223372036854775808 ≤ s ∧ s ≤ 9223372036854775807) (hz : -9223372036854775808 ≤ z ∧ z ≤ 9223372036854775807) :
    Calls Tryz.prog 63 #[.agg #[.int .i64 s, .int .i64 z]] w fun e w' => e = .returned (.bool (mayD s z)) ∧ Below w.heap.size w w' := by
  obtain ⟨x0, x1⟩ := date_box w s z
  have HB := hid (box_below w s z)
  by_cases h1 : z < -1439
  · have d1 : decide (z < -1439) = true := by simpa using h1
    have hm : mayD s z = false := by unfold mayD; rw [decide_eq_false_iff_not]; omega
    rw [hm]
    clear hm hs hz h1
    go_enter Tryz.func63, Tryz.ntmps63
    go_wp2
    go_ret
    exact ⟨rfl, HB.out⟩
  · have d1 : decide (z < -1439) = false := by simpa using h1
    by_cases h2 : 1439 < z
    · have d2 : decide (1439 < z) = true := by simpa using h2
      have hm : mayD s z = false := by unfold mayD; rw [decide_eq_false_iff_not]; omega
      rw [hm]
      clear hm hs hz h1 h2
      go_enter Tryz.func63, Tryz.ntmps63
      go_wp2
      go_ret
      exact ⟨rfl, HB.out⟩
    · have d2 : decide (1439 < z) = false := by simpa using h2
      by_cases h3 : 1099511627776 < s
      · have d3 : decide (1099511627776 < s) = true := by simpa using h3
        have hm : mayD s z = false := by unfold mayD; rw [decide_eq_false_iff_not]; omega
        rw [hm]
        clear hm hs hz h1 h2 h3
        go_enter Tryz.func63, Tryz.ntmps63
        go_wp2
        go_ret
        exact ⟨rfl, HB.out⟩
      · have d3 : decide (1099511627776 < s) = false := by simpa using h3
        by_cases h4 : s < -1099511627776
        · have d4 : decide (s < -1099511627776) = true := by simpa using h4
          have hm : mayD s z = false := by unfold mayD; rw [decide_eq_false_iff_not]; omega
          rw [hm]
          clear hm hs hz h1 h2 h3 h4
          go_enter Tryz.func63, Tryz.ntmps63
          go_wp2
          go_ret
          exact ⟨rfl, HB.out⟩
        · have d4 : decide (s < -1099511627776) = false := by simpa using h4
          have HLO := hid (fun w => local_any s z w (by omega) (by omega) (by omega) (by omega))
          have HSP := hid (fun w => split_any (s + 60 * z) w (by omega) (by omega))
          obtain ⟨D, hD⟩ : ∃ D, (s + 60 * z) / 86400 = D := ⟨_, rfl⟩
          rw [hD] at HSP
          have hm : mayD s z = decide (-719162 ≤ D ∧ D ≤ 2932896) := by
            unfold mayD
            rw [hD, Bool.eq_iff_iff, decide_eq_true_eq, decide_eq_true_eq]
            constructor
            · intro h; exact ⟨h.2.2.1, h.2.2.2⟩
            · intro h; exact ⟨by omega, by omega, h.1, h.2⟩
          rw [hm]
          have hDb : -20000000 ≤ D ∧ D ≤ 20000000 := by omega
          obtain ⟨D1, D2⟩ := hDb
          clear hm hs hz hD
          by_cases h5 : -719162 ≤ D ∧ D ≤ 2932896
          · rw [decide_eq_true h5]
            have HCI := hid (fun w => civil_yes D w h5.1 h5.2)
            clear h1 h2 h3 h4 h5
            go_enter Tryz.func63, Tryz.ntmps63
            go_wp2_with (first
              | (go_at_call 65; (with_reducible refine (HLO.out _).mono ?_); rintro e w1 ⟨rfl, b1⟩)
              | (go_at_call 64; (with_reducible refine (HSP.out _).mono ?_); rintro e w2 ⟨rfl, rfl⟩)
              | (go_at_call 89; (with_reducible refine (HCI.out _).mono ?_); rintro e w3 ⟨rfl, rfl⟩))
            go_ret
            exact ⟨rfl, next HB.out b1⟩
          · rw [decide_eq_false h5]
            have HCI := hid (fun w => civil_no D w (by omega))
            clear h1 h2 h3 h4 h5
            go_enter Tryz.func63, Tryz.ntmps63
            go_wp2_with (first
              | (go_at_call 65; (with_reducible refine (HLO.out _).mono ?_); rintro e w1 ⟨rfl, b1⟩)
              | (go_at_call 64; (with_reducible refine (HSP.out _).mono ?_); rintro e w2 ⟨rfl, rfl⟩)
              | (go_at_call 89; (with_reducible refine (HCI.out _).mono ?_); rintro e w3 ⟨rfl, rfl⟩))
            go_ret
            exact ⟨rfl, next HB.out b1⟩
theorem mayD_facts {s z : Int} (h : mayD s z = true) : -1439 ≤ z ∧ z ≤ 1439 ∧ -719162 ≤ (s + 60 * z) / 86400 ∧ (s + 60 * z) / 86400 ≤ 2932896 ∧ -100000000000 ≤ s ∧ s ≤ 1000000000000 := by
  unfold mayD at h
  have := of_decide_eq_true h
  omega
set_option maxHeartbeats 2000000 in
theorem dday_any (s z : Int) (w : World) (hs : -9223372036854775808 ≤ s ∧ s ≤ 9223372036854775807) (hz : -9223372036854775808 ≤ z ∧ z ≤ 9223372036854775807) :
    Calls Tryz.prog 39 #[.agg #[.int .i64 s, .int .i64 z]] w fun e w' => e = .returned (.int .i64 (if mayD s z = true then (s + 60 * z) / 86400 else 0)) ∧ Below w.heap.size w w' := by
  obtain ⟨x0, x1⟩ := date_box w s z
  have HB := hid (box_below w s z)
  have hma := fun w => dmay_any s z w hs hz
  by_cases hm : mayD s z = true
  · rw [if_pos hm]
    rw [hm] at hma
    have hf := mayD_facts hm
    have HMA := hid hma
    have HLO := hid (fun w => local_any s z w (by omega) (by omega) (by omega) (by omega))
    have HSP := hid (fun w => split_any (s + 60 * z) w (by omega) (by omega))
    clear hma hm hf hs hz
    go_enter Tryz.func39, Tryz.ntmps39
    go_wp2_with (first
      | (go_at_call 63; (with_reducible refine (HMA.out _).mono ?_); rintro e w1 ⟨rfl, b1⟩; have x0 := cells_keep b1 x0; have x1 := cells_keep b1 x1; have HB := hid (next HB.out b1); clear b1)
      | (go_at_call 65; (with_reducible refine (HLO.out _).mono ?_); rintro e w1 ⟨rfl, b1⟩; have HB := hid (next HB.out b1); clear b1)
      | (go_at_call 64; (with_reducible refine (HSP.out _).mono ?_); rintro e w2 ⟨rfl, rfl⟩))
    go_ret
    exact ⟨rfl, HB.out⟩
  · rw [if_neg hm]
    have hm : mayD s z = false := by simpa using hm
    rw [hm] at hma
    have HMA := hid hma
    clear hma hm hs hz
    go_enter Tryz.func39, Tryz.ntmps39
    go_wp2_with (go_at_call 63; (with_reducible refine (HMA.out _).mono ?_); rintro e w1 ⟨rfl, b1⟩; have HB := hid (next HB.out b1); clear b1)
    go_ret
    exact ⟨rfl, HB.out⟩
end
section
open Go.RowKit Go.Shelf
set_option linter.unusedVariables false
set_option linter.unusedSimpArgs false
/-- The small letter of a great one. -/
def smallU (x : UInt8) : UInt8 := if 65 ≤ x.toNat ∧ x.toNat ≤ 90 then UInt8.ofNat (x.toNat + 32) else x
theorem small_any (x : UInt8) (w : World) :
    Calls Tryz.prog 36 #[.int .u8 x.toNat] w fun e w' => e = .returned (.int .u8 (smallU x).toNat) ∧ w' = w := by
  have hx := x.toNat_lt
  unfold smallU
  generalize hn : x.toNat = n at hx
  go_enter Tryz.func36, Tryz.ntmps36
  by_cases h1 : 65 ≤ n
  · have d1 : decide (65 ≤ n) = true := by simpa using h1
    by_cases h2 : n ≤ 90
    · have d2 : decide (n ≤ 90) = true := by simpa using h2
      rw [if_pos ⟨h1, h2⟩]
      go_wp2
      go_ret
      refine ⟨?_, rfl⟩
      rw [UInt8.toNat_ofNat_of_lt' (by show n + 32 < 256; omega)]
      rfl
    · have d2 : decide (n ≤ 90) = false := by simpa using h2
      rw [if_neg (by omega)]
      go_wp2
      go_ret
      exact ⟨by rw [← hn]; rfl, rfl⟩
  · have d1 : decide (65 ≤ n) = false := by simpa using h1
    rw [if_neg (by omega)]
    go_wp2
    go_ret
    exact ⟨by rw [← hn]; rfl, rfl⟩
theorem str_beq (a b : List UInt8) : (str a == str b) = (a == b) := by
  show (a.toArray == b.toArray) = _
  simp
theorem str_bne (a b : List UInt8) : (str a != str b) = (a != b) := by
  show (!(str a == str b)) = (!(a == b))
  rw [str_beq]
theorem str_get (l : List UInt8) (k : Nat) (h : k < (str l).size) : (str l)[k] = l[k]'(by rwa [str_size] at h) := rfl
/-- Are two texts alike? -/
def alikeL (a b : List UInt8) : Bool := a.map smallU == b.map smallU

set_option maxHeartbeats 1000000 in
theorem alike_any (a b : List UInt8) (w : World) (ha : a.length ≤ 100000) :
    Calls Tryz.prog 17 #[.string (str a), .string (str b)] w fun e w' => e = .returned (.bool (alikeL a b)) ∧ Below w.heap.size w w' := by
  have hsz : (str a).size ≤ 100000 := ha
  by_cases h : a.length = b.length
  · have h1 : (((str a).size : Int) != (str b).size) = false := by rw [str_size, str_size]; simp; omega
    go_enter Tryz.func17, Tryz.ntmps17
    go_wp2
    go_loopw [5] (fun i wr => ∃ k : Nat, k ≤ (str a).size ∧ i = .int .i64 k ∧ Hid ((a.take k).map smallU = (b.take k).map smallU ∧ Below w.heap.size w wr)) (fun i wr => (str a).size - (intOf i).toNat)
    case atStart => exact ⟨0, by omega, rfl, hid ⟨by simp, Below.refl _ _⟩⟩
    case round =>
      obtain ⟨k, hk, rfl, hI⟩ := hrel
      by_cases hlt : k < (str a).size
      · have hd : decide (k < (str a).size) = true := by simpa using hlt
        have hlb : k < (str b).size := by rw [str_size] at hlt ⊢; omega
        obtain ⟨x, hx⟩ : ∃ x, (str a)[k] = x := ⟨_, rfl⟩
        obtain ⟨y, hy⟩ : ∃ y, (str b)[k] = y := ⟨_, rfl⟩
        have hxy : (a.take (k + 1)).map smallU = (b.take (k + 1)).map smallU ↔ smallU x = smallU y := by
          rw [List.take_succ_eq_append_getElem (by rwa [str_size] at hlt), List.take_succ_eq_append_getElem (by rwa [str_size] at hlb), List.map_append, List.map_append, hI.out.1, ← hx, ← hy, str_get, str_get]
          simp
        have HXY := hid hxy
        have HX := hid hx
        have HY := hid hy
        clear hxy
        have H := hid h
        clear h
        have hm := hI.out.2
        by_cases he : smallU x = smallU y
        · have d1 : (((smallU x).toNat : Int) != (smallU y).toNat) = false := by rw [he]; simp
          have d2 : ((smallU x).toNat != (smallU y).toNat) = false := by rw [he]; simp
          have HE := hid he
          clear he
          go_upto_region 6 with fail
          refine wp_region_noPanic ?_
          refine wp_region_held_drew (S := (fun W => True)) (by kernel_rfl) (by first | assumption | trivial) (fun hHeld => ?_)
          refine wpAnyH_take (i := 0) (v := ?_) rfl (by kernel_rfl) (by kernel_rfl) (by kernel_rfl) (fun _ _ _ h => h) (Or.inl ⟨by kernel_rfl, ?_⟩) (by first | assumption | trivial) ?_
          rotate_left
          · (intro wS hSw; (try dsimp only at hSw); go_simp; try with_reducible rfl)
          (try simp only [List.append_eq, List.cons_append, List.nil_append, List.getElem_toArray, List.getElem_cons_succ, List.getElem_cons_zero, Act.put, List.setIfInBounds_toArray, List.set_cons_zero, List.set_cons_succ])
          refine wpAnyH_take (i := 1) (v := ?_) rfl (by kernel_rfl) (by kernel_rfl) (by kernel_rfl) (fun _ _ _ h => h) (Or.inl ⟨by kernel_rfl, ?_⟩) (by first | assumption | trivial) ?_
          rotate_left
          · (intro wS hSw; (try dsimp only at hSw); go_simp; try with_reducible rfl)
          (try simp only [List.append_eq, List.cons_append, List.nil_append, List.getElem_toArray, List.getElem_cons_succ, List.getElem_cons_zero, Act.put, List.setIfInBounds_toArray, List.set_cons_zero, List.set_cons_succ])
          refine wpAnyH_take (i := 2) (v := ?_) rfl (by kernel_rfl) (by kernel_rfl) (by kernel_rfl) (fun _ _ _ h => h) (Or.inl ⟨by kernel_rfl, ?_⟩) (by first | assumption | trivial) ?_
          rotate_left
          · (intro wS hSw; (try dsimp only at hSw); go_simp; try with_reducible rfl)
          (try simp only [List.append_eq, List.cons_append, List.nil_append, List.getElem_toArray, List.getElem_cons_succ, List.getElem_cons_zero, Act.put, List.setIfInBounds_toArray, List.set_cons_zero, List.set_cons_succ])
          refine wpAnyH_take (i := 4) (v := ?_) rfl (by kernel_rfl) (by kernel_rfl) (by kernel_rfl) (fun _ _ _ h => h) (Or.inl ⟨by kernel_rfl, ?_⟩) (by first | assumption | trivial) ?_
          rotate_left
          · (intro wS hSw; (try dsimp only at hSw); go_simp; try with_reducible rfl)
          (try simp only [List.append_eq, List.cons_append, List.nil_append, List.getElem_toArray, List.getElem_cons_succ, List.getElem_cons_zero, Act.put, List.setIfInBounds_toArray, List.set_cons_zero, List.set_cons_succ])
          refine wpAnyH_take (i := 5) (v := ?_) rfl (by kernel_rfl) (by kernel_rfl) (by kernel_rfl) (fun _ _ _ h => h) (Or.inl ⟨by kernel_rfl, ?_⟩) (by first | assumption | trivial) ?_
          rotate_left
          · (intro wS hSw; (try dsimp only at hSw); go_simp; try with_reducible rfl)
          (try simp only [List.append_eq, List.cons_append, List.nil_append, List.getElem_toArray, List.getElem_cons_succ, List.getElem_cons_zero, Act.put, List.setIfInBounds_toArray, List.set_cons_zero, List.set_cons_succ])
          refine wpAnyH_take (i := 6) (v := ?_) rfl (by kernel_rfl) (by kernel_rfl) (by kernel_rfl) (fun _ _ _ h => h) (Or.inl ⟨by kernel_rfl, ?_⟩) (by first | assumption | trivial) ?_
          rotate_left
          · (intro wS hSw; (try dsimp only at hSw); go_simp; try with_reducible rfl)
          (try simp only [List.append_eq, List.cons_append, List.nil_append, List.getElem_toArray, List.getElem_cons_succ, List.getElem_cons_zero, Act.put, List.setIfInBounds_toArray, List.set_cons_zero, List.set_cons_succ])
          refine wpAnyH_ready (rs := [3]) (by kernel_rfl) (by simp) ?_
          refine AllReadyH.cons rfl (fun K hK => ?_) AllReadyH.nil
          go_simp
          (go_at_call 36; refine (small_any x _).mono ?_; rintro e w3 ⟨rfl, rfl⟩)
          go_wp2_with fail
          refine hK.out _ _ (by first | assumption | trivial) (fun hHeld => ?_)
          clear hK K
          (try simp only [List.append_eq, List.cons_append, List.nil_append, List.getElem_toArray, List.getElem_cons_succ, List.getElem_cons_zero, Act.put, List.setIfInBounds_toArray, List.set_cons_zero, List.set_cons_succ])
          refine wpAnyH_ready (rs := [7]) (by kernel_rfl) (by simp) ?_
          refine AllReadyH.cons rfl (fun K hK => ?_) AllReadyH.nil
          go_simp
          (go_at_call 36; refine (small_any y _).mono ?_; rintro e w4 ⟨rfl, rfl⟩)
          go_wp2_with fail
          refine hK.out _ _ (by first | assumption | trivial) (fun hHeld => ?_)
          clear hK K
          (try simp only [List.append_eq, List.cons_append, List.nil_append, List.getElem_toArray, List.getElem_cons_succ, List.getElem_cons_zero, Act.put, List.setIfInBounds_toArray, List.set_cons_zero, List.set_cons_succ])
          refine wpAnyH_take (i := 8) (v := ?_) rfl (by kernel_rfl) (by kernel_rfl) (by kernel_rfl) (fun _ _ _ h => h) (Or.inl ⟨by kernel_rfl, ?_⟩) (by first | assumption | trivial) ?_
          rotate_left
          · (intro wS hSw; (try dsimp only at hSw); go_simp; try with_reducible rfl)
          (try simp only [List.append_eq, List.cons_append, List.nil_append, List.getElem_toArray, List.getElem_cons_succ, List.getElem_cons_zero, Act.put, List.setIfInBounds_toArray, List.set_cons_zero, List.set_cons_succ])
          refine wpAnyH_done (by kernel_rfl) ?_ _
          refine NoPanic.normal ?_
          go_wp2
          go_roundw
          case rel => exact ⟨k + 1, by omega, by go_num, hid ⟨HXY.out.2 HE.out, bq hm 1⟩⟩
          case measure => simp [intOf]; omega
        · have d1 : (((smallU x).toNat : Int) != (smallU y).toNat) = true := by simp; intro h; exact he (UInt8.toNat_inj.1 (by omega))
          have d2 : ((smallU x).toNat != (smallU y).toNat) = true := by simp; intro h; exact he (UInt8.toNat_inj.1 h)
          have HE := hid he
          clear he
          go_upto_region 6 with fail
          refine wp_region_noPanic ?_
          refine wp_region_held_drew (S := (fun W => True)) (by kernel_rfl) (by first | assumption | trivial) (fun hHeld => ?_)
          refine wpAnyH_take (i := 0) (v := ?_) rfl (by kernel_rfl) (by kernel_rfl) (by kernel_rfl) (fun _ _ _ h => h) (Or.inl ⟨by kernel_rfl, ?_⟩) (by first | assumption | trivial) ?_
          rotate_left
          · (intro wS hSw; (try dsimp only at hSw); go_simp; try with_reducible rfl)
          (try simp only [List.append_eq, List.cons_append, List.nil_append, List.getElem_toArray, List.getElem_cons_succ, List.getElem_cons_zero, Act.put, List.setIfInBounds_toArray, List.set_cons_zero, List.set_cons_succ])
          refine wpAnyH_take (i := 1) (v := ?_) rfl (by kernel_rfl) (by kernel_rfl) (by kernel_rfl) (fun _ _ _ h => h) (Or.inl ⟨by kernel_rfl, ?_⟩) (by first | assumption | trivial) ?_
          rotate_left
          · (intro wS hSw; (try dsimp only at hSw); go_simp; try with_reducible rfl)
          (try simp only [List.append_eq, List.cons_append, List.nil_append, List.getElem_toArray, List.getElem_cons_succ, List.getElem_cons_zero, Act.put, List.setIfInBounds_toArray, List.set_cons_zero, List.set_cons_succ])
          refine wpAnyH_take (i := 2) (v := ?_) rfl (by kernel_rfl) (by kernel_rfl) (by kernel_rfl) (fun _ _ _ h => h) (Or.inl ⟨by kernel_rfl, ?_⟩) (by first | assumption | trivial) ?_
          rotate_left
          · (intro wS hSw; (try dsimp only at hSw); go_simp; try with_reducible rfl)
          (try simp only [List.append_eq, List.cons_append, List.nil_append, List.getElem_toArray, List.getElem_cons_succ, List.getElem_cons_zero, Act.put, List.setIfInBounds_toArray, List.set_cons_zero, List.set_cons_succ])
          refine wpAnyH_take (i := 4) (v := ?_) rfl (by kernel_rfl) (by kernel_rfl) (by kernel_rfl) (fun _ _ _ h => h) (Or.inl ⟨by kernel_rfl, ?_⟩) (by first | assumption | trivial) ?_
          rotate_left
          · (intro wS hSw; (try dsimp only at hSw); go_simp; try with_reducible rfl)
          (try simp only [List.append_eq, List.cons_append, List.nil_append, List.getElem_toArray, List.getElem_cons_succ, List.getElem_cons_zero, Act.put, List.setIfInBounds_toArray, List.set_cons_zero, List.set_cons_succ])
          refine wpAnyH_take (i := 5) (v := ?_) rfl (by kernel_rfl) (by kernel_rfl) (by kernel_rfl) (fun _ _ _ h => h) (Or.inl ⟨by kernel_rfl, ?_⟩) (by first | assumption | trivial) ?_
          rotate_left
          · (intro wS hSw; (try dsimp only at hSw); go_simp; try with_reducible rfl)
          (try simp only [List.append_eq, List.cons_append, List.nil_append, List.getElem_toArray, List.getElem_cons_succ, List.getElem_cons_zero, Act.put, List.setIfInBounds_toArray, List.set_cons_zero, List.set_cons_succ])
          refine wpAnyH_take (i := 6) (v := ?_) rfl (by kernel_rfl) (by kernel_rfl) (by kernel_rfl) (fun _ _ _ h => h) (Or.inl ⟨by kernel_rfl, ?_⟩) (by first | assumption | trivial) ?_
          rotate_left
          · (intro wS hSw; (try dsimp only at hSw); go_simp; try with_reducible rfl)
          (try simp only [List.append_eq, List.cons_append, List.nil_append, List.getElem_toArray, List.getElem_cons_succ, List.getElem_cons_zero, Act.put, List.setIfInBounds_toArray, List.set_cons_zero, List.set_cons_succ])
          refine wpAnyH_ready (rs := [3]) (by kernel_rfl) (by simp) ?_
          refine AllReadyH.cons rfl (fun K hK => ?_) AllReadyH.nil
          go_simp
          (go_at_call 36; refine (small_any x _).mono ?_; rintro e w3 ⟨rfl, rfl⟩)
          go_wp2_with fail
          refine hK.out _ _ (by first | assumption | trivial) (fun hHeld => ?_)
          clear hK K
          (try simp only [List.append_eq, List.cons_append, List.nil_append, List.getElem_toArray, List.getElem_cons_succ, List.getElem_cons_zero, Act.put, List.setIfInBounds_toArray, List.set_cons_zero, List.set_cons_succ])
          refine wpAnyH_ready (rs := [7]) (by kernel_rfl) (by simp) ?_
          refine AllReadyH.cons rfl (fun K hK => ?_) AllReadyH.nil
          go_simp
          (go_at_call 36; refine (small_any y _).mono ?_; rintro e w4 ⟨rfl, rfl⟩)
          go_wp2_with fail
          refine hK.out _ _ (by first | assumption | trivial) (fun hHeld => ?_)
          clear hK K
          (try simp only [List.append_eq, List.cons_append, List.nil_append, List.getElem_toArray, List.getElem_cons_succ, List.getElem_cons_zero, Act.put, List.setIfInBounds_toArray, List.set_cons_zero, List.set_cons_succ])
          refine wpAnyH_take (i := 8) (v := ?_) rfl (by kernel_rfl) (by kernel_rfl) (by kernel_rfl) (fun _ _ _ h => h) (Or.inl ⟨by kernel_rfl, ?_⟩) (by first | assumption | trivial) ?_
          rotate_left
          · (intro wS hSw; (try dsimp only at hSw); go_simp; try with_reducible rfl)
          (try simp only [List.append_eq, List.cons_append, List.nil_append, List.getElem_toArray, List.getElem_cons_succ, List.getElem_cons_zero, Act.put, List.setIfInBounds_toArray, List.set_cons_zero, List.set_cons_succ])
          refine wpAnyH_done (by kernel_rfl) ?_ _
          refine NoPanic.normal ?_
          have e : alikeL a b = false := by
            unfold alikeL
            rw [beq_eq_false_iff_ne]
            intro h2
            apply HE.out
            have := congrArg (fun l => l[k]?) h2
            simp only [List.getElem?_map] at this
            rw [List.getElem?_eq_getElem (by rwa [str_size] at hlt), List.getElem?_eq_getElem (by rwa [str_size] at hlb)] at this
            rw [← HX.out, ← HY.out, str_get, str_get]
            simpa using this
          have hm1 := bq hm 1
          have E := hid e
          clear e
          go_wp2
          go_ret
          exact ⟨by rw [E.out]; rfl, hm1⟩
      · have hd : decide (k < (str a).size) = false := by simpa using hlt
        have e : alikeL a b = true := by
          unfold alikeL
          rw [beq_iff_eq]
          have h1 := hI.out.1
          rw [str_size] at hk hlt
          rwa [List.take_of_length_le (by omega), List.take_of_length_le (by omega)] at h1
        have E := hid e
        clear e
        go_wp2
        go_ret
        exact ⟨by rw [E.out]; rfl, hI.out.2⟩
  · have h1 : (((str a).size : Int) != (str b).size) = true := by rw [str_size, str_size]; simp; omega
    have e : alikeL a b = false := by
      unfold alikeL
      rw [beq_eq_false_iff_ne]
      intro h2
      exact h (by simpa using congrArg List.length h2)
    rw [e]
    clear h e
    go_enter Tryz.func17, Tryz.ntmps17
    go_wp2
    go_ret
    exact ⟨rfl, Below.refl _ _⟩
end
section
open Go.RowKit Go.Shelf
set_option linter.unusedVariables false
set_option linter.unusedSimpArgs false
theorem str_extract (l : List UInt8) (a b : Nat) : (str l).extract a b = str ((l.drop a).take (b - a)) := by
  apply ByteArray.ext
  rw [ByteArray.data_extract]
  show l.toArray.extract a b = ((l.drop a).take (b - a)).toArray
  simp
theorem strsT : SliceT Tryz.prog 25 9 (.string ⟨#[]⟩) 1 16 := ⟨Tryz.underlying25, by kernel_rfl, rfl, by omega⟩
def SV (l : List UInt8) : Value := .string (str l)
/-- One octet more. -/
def cutX (c x : UInt8) (acc : List (List UInt8)) : List (List UInt8) := if x = c then acc ++ [[]] else acc.set (acc.length - 1) (acc.getD (acc.length - 1) [] ++ [x])
/-- The pieces. -/
def cutF (c : UInt8) (l : List UInt8) : List (List UInt8) := l.foldl (fun acc x => cutX c x acc) [[]]
theorem cutF_snoc (c : UInt8) (l : List UInt8) (x : UInt8) : cutF c (l ++ [x]) = cutX c x (cutF c l) := by simp [cutF]
theorem cutX_len (c x : UInt8) (acc : List (List UInt8)) : acc.length ≤ (cutX c x acc).length ∧ (cutX c x acc).length ≤ acc.length + 1 := by
  unfold cutX
  split <;> simp
theorem cutG_len (c : UInt8) : ∀ (l : List UInt8) (acc : List (List UInt8)), acc.length ≤ (l.foldl (fun acc x => cutX c x acc) acc).length ∧ (l.foldl (fun acc x => cutX c x acc) acc).length ≤ acc.length + l.length
  | [], acc => ⟨Nat.le_refl _, Nat.le_refl _⟩
  | x :: l, acc => by
    have h1 := cutG_len c l (cutX c x acc)
    have h2 := cutX_len c x acc
    simp only [List.foldl_cons, List.length_cons]
    omega
theorem cutF_pos (c : UInt8) (l : List UInt8) : 0 < (cutF c l).length ∧ (cutF c l).length ≤ l.length + 1 := by
  have := cutG_len c l [[]]
  unfold cutF
  simp only [List.length_singleton] at this
  omega
theorem cutG_piece (c : UInt8) : ∀ (l : List UInt8) (acc : List (List UInt8)) (m : Nat), (∀ i, (acc.getD i []).length ≤ m) → ∀ i, ((l.foldl (fun acc x => cutX c x acc) acc).getD i []).length ≤ m + l.length
  | [], acc, m, h, i => h i
  | x :: l, acc, m, h, i => by
    have h1 : ∀ i, ((cutX c x acc).getD i []).length ≤ m + 1 := by
      intro i
      unfold cutX
      rw [List.getD_eq_getElem?_getD]
      split
      · rw [List.getElem?_append]
        split
        · have := h i; rw [List.getD_eq_getElem?_getD] at this; omega
        · cases i - acc.length <;> simp
      · rw [List.getElem?_set]
        split
        · split
          · have := h (acc.length - 1); simp at this ⊢; omega
          · simp
        · have := h i; rw [List.getD_eq_getElem?_getD] at this; omega
    have h2 := cutG_piece c l (cutX c x acc) (m + 1) h1 i
    simp only [List.foldl_cons, List.length_cons]
    omega
theorem cutF_piece (c : UInt8) (l : List UInt8) (i : Nat) : ((cutF c l).getD i []).length ≤ l.length := by
  have := cutG_piece c l [[]] 0 (by intro i; cases i <;> simp) i
  unfold cutF
  omega
theorem one_SV (q : List (List UInt8)) : ∀ u ∈ q.map SV, u.oneCell' = true := by
  intro u hu
  obtain ⟨x, _, rfl⟩ := List.mem_map.1 hu
  rfl
end
end Go.Proofs.YtonjadmldgloaaaGreatDoor.D16
