/-
  The calendar: plain. A part of the proof: see the head of the text that ends in 'Law'.
-/
import Derived.Test.YtkjlkkaoaiphcaaDoorCarry
namespace Go.Proofs.YtkjlkkaoaiphcaaDoor
set_option linter.unusedVariables false

def leapB (y : Nat) : Bool := decide ((y % 4 = 0 ∧ y % 100 ≠ 0) ∨ y % 400 = 0)
def longN (y m : Nat) : Nat := if m = 2 then (if leapB y = true then 29 else 28) else if m = 4 ∨ m = 6 ∨ m = 9 ∨ m = 11 then 30 else 31
def wholeN (y : Nat) : Nat := if leapB y = true then 366 else 365
/-- The days ahead of a year, from year 1 on. -/
def ahd (y : Nat) : Nat := 365 * (y - 1) + (y - 1) / 4 - (y - 1) / 100 + (y - 1) / 400
/-- The days ahead of a month in its year. -/
def cum (y : Nat) : Nat → Nat
  | 0 => 0
  | m + 1 => if m = 0 then 0 else cum y m + longN y m
theorem ahd_succ (y : Nat) (h : 1 ≤ y) : ahd (y + 1) = ahd y + wholeN y := by
  obtain ⟨n, rfl⟩ : ∃ n, y = n + 1 := ⟨y - 1, by omega⟩
  have hb : n / 100 ≤ n / 4 := Nat.div_le_div_left (by omega) (by omega)
  have e4 : (n + 1) / 4 = n / 4 + if (n + 1) % 4 = 0 then 1 else 0 := by
    rw [Nat.succ_div]; simp only [Nat.dvd_iff_mod_eq_zero]
  have e100 : (n + 1) / 100 = n / 100 + if (n + 1) % 100 = 0 then 1 else 0 := by
    rw [Nat.succ_div]; simp only [Nat.dvd_iff_mod_eq_zero]
  have e400 : (n + 1) / 400 = n / 400 + if (n + 1) % 400 = 0 then 1 else 0 := by
    rw [Nat.succ_div]; simp only [Nat.dvd_iff_mod_eq_zero]
  have d1 : (n + 1) % 400 = 0 → (n + 1) % 100 = 0 := by omega
  have d2 : (n + 1) % 100 = 0 → (n + 1) % 4 = 0 := by omega
  unfold ahd wholeN leapB
  rw [show n + 1 + 1 - 1 = n + 1 by omega, show n + 1 - 1 = n by omega, e4, e100, e400]
  generalize n / 4 = a at *
  generalize n / 100 = b at *
  generalize n / 400 = c at *
  generalize (n + 1) % 4 = x at *
  generalize (n + 1) % 100 = z at *
  generalize (n + 1) % 400 = u at *
  by_cases h4 : x = 0
  · by_cases h100 : z = 0
    · by_cases h400 : u = 0 <;> simp [h4, h100, h400] <;> omega
    · have : u ≠ 0 := fun h => h100 (d1 h)
      simp [h4, h100, this]; omega
  · have : z ≠ 0 := fun h => h4 (d2 h)
    have h400 : u ≠ 0 := fun h => this (d1 h)
    simp [h4, this, h400]; omega
theorem ahd_mono {a : Nat} : ∀ {b : Nat}, a ≤ b → ahd a ≤ ahd b := by
  intro b
  induction b with
  | zero => intro h; obtain rfl : a = 0 := by omega
            exact Nat.le_refl _
  | succ b ih =>
    intro h
    by_cases he : a = b + 1
    · subst he; exact Nat.le_refl _
    · have h1 := ih (by omega)
      by_cases hb : b = 0
      · subst hb
        obtain rfl : a = 0 := by omega
        exact Nat.le_of_eq rfl
      · rw [ahd_succ b (by omega)]; omega
theorem ahd_le (y : Nat) (h : y ≤ 10000) : ahd y ≤ 3652059 := by
  have := ahd_mono h
  have e : ahd 10000 = 3652059 := by decide +kernel
  omega
theorem ahd_ge (y : Nat) (h : 1 ≤ y) : 365 * (y - 1) ≤ ahd y := by
  have hb : (y - 1) / 100 ≤ (y - 1) / 4 := Nat.div_le_div_left (by omega) (by omega)
  unfold ahd
  generalize (y - 1) / 400 = c
  omega
theorem whole_le (y : Nat) : 365 ≤ wholeN y ∧ wholeN y ≤ 366 := by
  unfold wholeN
  split <;> omega
theorem long_le (y m : Nat) : 28 ≤ longN y m ∧ longN y m ≤ 31 := by
  unfold longN
  split
  · split <;> omega
  · split <;> omega
theorem cum_succ (y m : Nat) (h : 1 ≤ m) : cum y (m + 1) = cum y m + longN y m := by
  rw [cum, if_neg (by omega)]
theorem cum_one (y : Nat) : cum y 1 = 0 := by rw [cum, if_pos rfl]
theorem cum_end (y : Nat) : cum y 13 = wholeN y := by
  rw [cum_succ, cum_succ, cum_succ, cum_succ, cum_succ, cum_succ, cum_succ, cum_succ, cum_succ, cum_succ, cum_succ, cum_succ, cum_one] <;> try omega
  unfold longN wholeN
  by_cases h : leapB y = true <;> simp [h]
theorem cum_mono (y : Nat) : ∀ (b a : Nat), a ≤ b → cum y a ≤ cum y b := by
  intro b
  induction b with
  | zero => intro a h; have : a = 0 := by omega
            subst this; exact Nat.le_refl _
  | succ b ih =>
    intro a h
    by_cases he : a = b + 1
    · subst he; exact Nat.le_refl _
    · have h1 := ih a (by omega)
      have h2 : cum y b ≤ cum y (b + 1) := by
        by_cases hb : b = 0
        · subst hb; exact Nat.zero_le _
        · rw [cum_succ y b (by omega)]; omega
      omega
theorem cum_le (y m : Nat) (h : m ≤ 13) : cum y m ≤ 366 := by
  have := cum_mono y 13 m h
  rw [cum_end] at this
  have := whole_le y
  omega
/-- There is such a day. -/
def Vld (y m d : Nat) : Prop := 1 ≤ y ∧ y ≤ 9999 ∧ 1 ≤ m ∧ m ≤ 12 ∧ 1 ≤ d ∧ d ≤ longN y m
/-- Its number. -/
def dayN (y m d : Nat) : Int := (ahd y : Int) + cum y m + d - 1 - 719162
theorem dayN_range {y m d : Nat} (h : Vld y m d) : -719162 ≤ dayN y m d ∧ dayN y m d ≤ 2932896 := by
  obtain ⟨h1, h2, h3, h4, h5, h6⟩ := h
  unfold dayN
  have e := ahd_succ y h1
  have c := cum_mono y 13 (m + 1) (by omega)
  rw [cum_end, cum_succ y m h3] at c
  have := ahd_le (y + 1) (by omega)
  omega
theorem day_uniq {y m d u v w : Nat} (h : Vld y m d) (k : Vld u v w) (e : dayN y m d = dayN u v w) : y = u ∧ m = v ∧ d = w := by
  obtain ⟨h1, h2, h3, h4, h5, h6⟩ := h
  obtain ⟨k1, k2, k3, k4, k5, k6⟩ := k
  unfold dayN at e
  have e1 := ahd_succ y h1
  have e2 := ahd_succ u k1
  have c1 := cum_mono y 13 (m + 1) (by omega)
  rw [cum_end, cum_succ y m h3] at c1
  have c2 := cum_mono u 13 (v + 1) (by omega)
  rw [cum_end, cum_succ u v k3] at c2
  have hy : y = u := by
    rcases Nat.lt_trichotomy y u with h | h | h
    · have := ahd_mono (show y + 1 ≤ u by omega); omega
    · exact h
    · have := ahd_mono (show u + 1 ≤ y by omega); omega
  subst hy
  have hm : m = v := by
    rcases Nat.lt_trichotomy m v with h | h | h
    · have := cum_mono y v (m + 1) (by omega); rw [cum_succ y m h3] at this; omega
    · exact h
    · have := cum_mono y m (v + 1) (by omega); rw [cum_succ y v k3] at this; omega
  subst hm
  exact ⟨rfl, rfl, by omega⟩
theorem year_ex (N : Nat) : ∀ Y, 1 ≤ Y → N < ahd (Y + 1) → ∃ y, 1 ≤ y ∧ y ≤ Y ∧ ahd y ≤ N ∧ N < ahd (y + 1) := by
  intro Y
  induction Y with
  | zero => intro h; omega
  | succ Y ih =>
    intro _ h
    by_cases hc : ahd (Y + 1) ≤ N
    · exact ⟨Y + 1, by omega, by omega, hc, h⟩
    · by_cases h0 : Y = 0
      · subst h0
        exact absurd (Nat.zero_le N) (by have : ahd (0 + 1) = 0 := by decide
                                         omega)
      · obtain ⟨y, h1, h2, h3, h4⟩ := ih (by omega) (by omega)
        exact ⟨y, h1, by omega, h3, h4⟩
theorem month_ex (y N : Nat) : ∀ M, N < cum y (M + 1) → ∃ m, 1 ≤ m ∧ m ≤ M ∧ cum y m ≤ N ∧ N < cum y (m + 1) := by
  intro M
  induction M with
  | zero => intro h; rw [cum_one] at h; omega
  | succ M ih =>
    intro h
    by_cases hc : cum y (M + 1) ≤ N
    · exact ⟨M + 1, by omega, by omega, hc, h⟩
    · obtain ⟨m, h1, h2, h3, h4⟩ := ih (by omega)
      exact ⟨m, h1, by omega, h3, h4⟩
theorem day_ex (n : Int) (h1 : -719162 ≤ n) (h2 : n ≤ 2932896) : ∃ t : Nat × Nat × Nat, Vld t.1 t.2.1 t.2.2 ∧ dayN t.1 t.2.1 t.2.2 = n := by
  obtain ⟨N, hN⟩ : ∃ N : Nat, n + 719162 = N := ⟨(n + 719162).toNat, by omega⟩
  have e : ahd (9999 + 1) = 3652059 := by decide +kernel
  obtain ⟨y, y1, y2, y3, y4⟩ := year_ex N 9999 (by omega) (by omega)
  rw [ahd_succ y y1] at y4
  obtain ⟨m, m1, m2, m3, m4⟩ := month_ex y (N - ahd y) 12 (by rw [cum_end]; omega)
  rw [cum_succ y m m1] at m4
  refine ⟨(y, m, N - ahd y - cum y m + 1), ⟨y1, y2, m1, m2, by simp only; omega, by simp only; omega⟩, ?_⟩
  simp only [dayN]
  omega
open Classical in
/-- The day of a number. -/
noncomputable def civ (n : Int) : Nat × Nat × Nat := if h : -719162 ≤ n ∧ n ≤ 2932896 then (day_ex n h.1 h.2).choose else (0, 0, 0)
theorem civ_is {n : Int} (h1 : -719162 ≤ n) (h2 : n ≤ 2932896) : Vld (civ n).1 (civ n).2.1 (civ n).2.2 ∧ dayN (civ n).1 (civ n).2.1 (civ n).2.2 = n := by
  unfold civ
  rw [dif_pos ⟨h1, h2⟩]
  exact (day_ex n h1 h2).choose_spec
theorem civ_eq {y m d : Nat} {n : Int} (h : Vld y m d) (e : dayN y m d = n) : civ n = (y, m, d) := by
  have hr := dayN_range h
  rw [e] at hr
  obtain ⟨k1, k2⟩ := civ_is hr.1 hr.2
  obtain ⟨a, b, c⟩ := day_uniq k1 h (k2.trans e.symm)
  exact Prod.ext a (Prod.ext b c)
theorem civ_dayN {y m d : Nat} (h : Vld y m d) : civ (dayN y m d) = (y, m, d) := civ_eq h rfl
end Go.Proofs.YtkjlkkaoaiphcaaDoor
