/-
  Years and months: the walks. A part of the proof: see the head of the text that ends in 'Law'.
-/
import Derived.Test.YtkjlkkaoaiphcaaDoorDaPlain
import Derived.Test.YtkjlkkaoaiphcaaDoorSlim
import Derived.Test.YtkjlkkaoaiphcaaDoorProg
namespace Go.Proofs.YtkjlkkaoaiphcaaDoor
open Go.RowKit
set_option linter.unusedVariables false

theorem leapB_is (y : Nat) : leapB y = ((decide (y % 4 = 0) && !decide (y % 100 = 0)) || decide (y % 400 = 0)) := by
  unfold leapB
  rw [Bool.eq_iff_iff]
  simp
set_option maxHeartbeats 2000000 in
theorem leap_any (y : Nat) (w : World) (hy : y ≤ 20000) :
    Calls Tryd.prog 48 #[.int .i64 (y : Int)] w fun e w' => e = .returned (.bool (leapB y)) ∧ w = w' := by
  have hl := leapB_is y
  obtain ⟨a, ha⟩ : ∃ a, y % 4 = a := ⟨_, rfl⟩
  obtain ⟨b, hb⟩ : ∃ b, y % 100 = b := ⟨_, rfl⟩
  obtain ⟨c, hc⟩ : ∃ c, y % 400 = c := ⟨_, rfl⟩
  rw [ha, hb, hc] at hl
  have a1 : (y : Int) % 4 = (a : Int) := by omega
  have b1 : (y : Int) % 100 = (b : Int) := by omega
  have c1 : (y : Int) % 400 = (c : Int) := by omega
  have a2 : Int.tmod (y : Int) 4 = (a : Int) := by rw [Int.tmod_eq_emod_of_nonneg (by omega)]; exact a1
  have b2 : Int.tmod (y : Int) 100 = (b : Int) := by rw [Int.tmod_eq_emod_of_nonneg (by omega)]; exact b1
  have c2 : Int.tmod (y : Int) 400 = (c : Int) := by rw [Int.tmod_eq_emod_of_nonneg (by omega)]; exact c1
  clear ha hb hc
  have e4 : ((a : Int) == 0) = decide (a = 0) := by rw [Bool.eq_iff_iff]; simp
  have e100 : ((b : Int) == 0) = decide (b = 0) := by rw [Bool.eq_iff_iff]; simp
  have e100' : ((b : Int) != 0) = !decide (b = 0) := by unfold bne; rw [e100]
  have e400 : ((c : Int) == 0) = decide (c = 0) := by rw [Bool.eq_iff_iff]; simp
  obtain ⟨p, hp⟩ : ∃ p, decide (a = 0) = p := ⟨_, rfl⟩
  obtain ⟨q, hq⟩ : ∃ q, decide (b = 0) = q := ⟨_, rfl⟩
  obtain ⟨r, hr⟩ : ∃ r, decide (c = 0) = r := ⟨_, rfl⟩
  rw [hp] at e4 hl
  rw [hq] at e100 e100' hl
  rw [hr] at e400 hl
  rw [hl]
  clear hl hp hq hr
  cases p <;> cases q <;> cases r
  all_goals
    simp only [Bool.not_true, Bool.not_false] at e100'
    go_enter Tryd.func48, Tryd.ntmps48
    go_wp2
    go_ret
    exact ⟨rfl, rfl⟩
set_option maxHeartbeats 2000000 in
theorem refLeap_any (y : Nat) (w : World) (hy : y ≤ 20000) :
    Calls Tryd.prog 49 #[.int .i64 (y : Int)] w fun e w' => e = .returned (.bool (leapB y)) ∧ w = w' := by
  have hl := leapB_is y
  obtain ⟨a, ha⟩ : ∃ a, y % 4 = a := ⟨_, rfl⟩
  obtain ⟨b, hb⟩ : ∃ b, y % 100 = b := ⟨_, rfl⟩
  obtain ⟨c, hc⟩ : ∃ c, y % 400 = c := ⟨_, rfl⟩
  rw [ha, hb, hc] at hl
  have a1 : (y : Int) % 4 = (a : Int) := by omega
  have b1 : (y : Int) % 100 = (b : Int) := by omega
  have c1 : (y : Int) % 400 = (c : Int) := by omega
  have a2 : Int.tmod (y : Int) 4 = (a : Int) := by rw [Int.tmod_eq_emod_of_nonneg (by omega)]; exact a1
  have b2 : Int.tmod (y : Int) 100 = (b : Int) := by rw [Int.tmod_eq_emod_of_nonneg (by omega)]; exact b1
  have c2 : Int.tmod (y : Int) 400 = (c : Int) := by rw [Int.tmod_eq_emod_of_nonneg (by omega)]; exact c1
  clear ha hb hc
  have e4 : ((a : Int) == 0) = decide (a = 0) := by rw [Bool.eq_iff_iff]; simp
  have e100 : ((b : Int) == 0) = decide (b = 0) := by rw [Bool.eq_iff_iff]; simp
  have e100' : ((b : Int) != 0) = !decide (b = 0) := by unfold bne; rw [e100]
  have e400 : ((c : Int) == 0) = decide (c = 0) := by rw [Bool.eq_iff_iff]; simp
  obtain ⟨p, hp⟩ : ∃ p, decide (a = 0) = p := ⟨_, rfl⟩
  obtain ⟨q, hq⟩ : ∃ q, decide (b = 0) = q := ⟨_, rfl⟩
  obtain ⟨r, hr⟩ : ∃ r, decide (c = 0) = r := ⟨_, rfl⟩
  rw [hp] at e4 hl
  rw [hq] at e100 e100' hl
  rw [hr] at e400 hl
  rw [hl]
  clear hl hp hq hr
  cases p <;> cases q <;> cases r
  all_goals
    simp only [Bool.not_true, Bool.not_false] at e100'
    go_enter Tryd.func49, Tryd.ntmps49
    go_wp2
    go_ret
    exact ⟨rfl, rfl⟩
theorem ahead_any (y : Nat) (w : World) (h1 : 1 ≤ y) (hy : y ≤ 20000) :
    Calls Tryd.prog 26 #[.int .i64 (y : Int)] w fun e w' => e = .returned (.int .i64 (ahd y : Int)) ∧ w = w' := by
  have hA : (ahd y : Int) = 365 * ((y : Int) - 1) + ((y : Int) - 1) / 4 - ((y : Int) - 1) / 100 + ((y : Int) - 1) / 400 := by
    obtain ⟨n, rfl⟩ : ∃ n, y = n + 1 := ⟨y - 1, by omega⟩
    have hb : n / 100 ≤ n / 4 := Nat.div_le_div_left (by omega) (by omega)
    have e1 : ((n + 1 : Nat) : Int) - 1 = (n : Int) := by omega
    have e4 : (n : Int) / 4 = ((n / 4 : Nat) : Int) := by omega
    have e100 : (n : Int) / 100 = ((n / 100 : Nat) : Int) := by omega
    have e400 : (n : Int) / 400 = ((n / 400 : Nat) : Int) := by omega
    rw [e1, e4, e100, e400]
    unfold ahd
    rw [show n + 1 - 1 = n by omega]
    generalize n / 4 = a at *
    generalize n / 100 = b at *
    generalize n / 400 = c at *
    omega
  rw [hA]
  clear hA
  go_enter Tryd.func26, Tryd.ntmps26
  go_wp2
  go_ret
  exact ⟨rfl, rfl⟩
def len12 (m : Nat) : Nat := if m = 2 then 28 else if m = 4 ∨ m = 6 ∨ m = 9 ∨ m = 11 then 30 else 31
theorem index12 (m : Nat) (h1 : 1 ≤ m) (h2 : m ≤ 12) (w : World) : (Instr.index 85 (.agg #[.int .i64 31, .int .i64 28, .int .i64 31, .int .i64 30, .int .i64 31, .int .i64 30, .int .i64 31, .int .i64 31, .int .i64 30, .int .i64 31, .int .i64 30, .int .i64 31]) (.int .i64 ((m : Int) - 1))).run Tryd.prog w = .ok (.int .i64 (len12 m : Int)) w := by
  obtain rfl | rfl | rfl | rfl | rfl | rfl | rfl | rfl | rfl | rfl | rfl | rfl : m = 1 ∨ m = 2 ∨ m = 3 ∨ m = 4 ∨ m = 5 ∨ m = 6 ∨ m = 7 ∨ m = 8 ∨ m = 9 ∨ m = 10 ∨ m = 11 ∨ m = 12 := by omega
  all_goals kernel_rfl
set_option maxHeartbeats 1000000 in
theorem long_any (y m : Nat) (w : World) (hy : y ≤ 20000) (h1 : 1 ≤ m) (h2 : m ≤ 12) :
    Calls Tryd.prog 25 #[.int .i64 (y : Int), .int .i64 (m : Int)] w fun e w' => e = .returned (.int .i64 (longN y m : Int)) ∧ w = w' := by
  have hi := index12 m h1 h2
  have hlp := leap_any y w hy
  by_cases hm : m = 2
  · have d : ((m : Int) == 2) = true := by simp; omega
    cases hl : leapB y with
    | true =>
      have e : longN y m = 29 := by unfold longN; rw [if_pos hm, if_pos hl]
      rw [hl] at hlp
      rw [e]
      have HLP := hid hlp
      clear hl e hm hlp
      go_enter Tryd.func25, Tryd.ntmps25
      go_wp2_with (go_at_call 48; (with_reducible refine HLP.out.mono ?_); rintro e w1 ⟨rfl, rfl⟩)
      go_ret
      exact ⟨rfl, rfl⟩
    | false =>
      have e : longN y m = len12 m := by unfold longN len12; rw [if_pos hm, if_neg (by rw [hl]; decide), if_pos hm]
      rw [hl] at hlp
      rw [e]
      have HLP := hid hlp
      clear hl e hm hlp
      go_enter Tryd.func25, Tryd.ntmps25
      go_wp2_with (go_at_call 48; (with_reducible refine HLP.out.mono ?_); rintro e w1 ⟨rfl, rfl⟩)
      go_ret
      exact ⟨rfl, rfl⟩
  · have d : ((m : Int) == 2) = false := by simp; omega
    have e : longN y m = len12 m := by unfold longN len12; rw [if_neg hm, if_neg hm]
    rw [e]
    clear e hm hlp
    go_enter Tryd.func25, Tryd.ntmps25
    go_wp2
    go_ret
    exact ⟨rfl, rfl⟩
set_option maxHeartbeats 2000000 in
theorem refLong_any (y m : Nat) (w : World) (hy : y ≤ 20000) (h1 : 1 ≤ m) (h2 : m ≤ 12) :
    Calls Tryd.prog 27 #[.int .i64 (y : Int), .int .i64 (m : Int)] w fun e w' => e = .returned (.int .i64 (longN y m : Int)) ∧ w = w' := by
  have hlp := refLeap_any y w hy
  by_cases hm : m = 2
  · subst hm
    cases hl : leapB y with
    | true =>
      have e : longN y 2 = 29 := by unfold longN; rw [if_pos rfl, if_pos hl]
      rw [hl] at hlp
      rw [e]
      have HLP := hid hlp
      clear hl e hlp
      go_enter Tryd.func27, Tryd.ntmps27
      go_wp2_with (go_at_call 49; (with_reducible refine HLP.out.mono ?_); rintro e w1 ⟨rfl, rfl⟩)
      go_ret
      exact ⟨rfl, rfl⟩
    | false =>
      have e : longN y 2 = 28 := by unfold longN; rw [if_pos rfl, if_neg (by rw [hl]; decide)]
      rw [hl] at hlp
      rw [e]
      have HLP := hid hlp
      clear hl e hlp
      go_enter Tryd.func27, Tryd.ntmps27
      go_wp2_with (go_at_call 49; (with_reducible refine HLP.out.mono ?_); rintro e w1 ⟨rfl, rfl⟩)
      go_ret
      exact ⟨rfl, rfl⟩
  · clear hlp
    obtain rfl | rfl | rfl | rfl | rfl | rfl | rfl | rfl | rfl | rfl | rfl : m = 1 ∨ m = 3 ∨ m = 4 ∨ m = 5 ∨ m = 6 ∨ m = 7 ∨ m = 8 ∨ m = 9 ∨ m = 10 ∨ m = 11 ∨ m = 12 := by omega
    all_goals
      clear hm h1 h2
      rw [show longN y _ = _ from rfl]
      go_enter Tryd.func27, Tryd.ntmps27
      go_wp2
      go_ret
      exact ⟨rfl, rfl⟩
set_option maxHeartbeats 1000000 in
theorem whole_any (y : Nat) (w : World) (hy : y ≤ 20000) :
    Calls Tryd.prog 28 #[.int .i64 (y : Int)] w fun e w' => e = .returned (.int .i64 (wholeN y : Int)) ∧ w = w' := by
  have hlp := refLeap_any y w hy
  cases hl : leapB y with
  | true =>
    have e : wholeN y = 366 := by unfold wholeN; rw [if_pos hl]
    rw [hl] at hlp
    rw [e]
    have HLP := hid hlp
    clear hl e hlp
    go_enter Tryd.func28, Tryd.ntmps28
    go_wp2_with (go_at_call 49; (with_reducible refine HLP.out.mono ?_); rintro e w1 ⟨rfl, rfl⟩)
    go_ret
    exact ⟨rfl, rfl⟩
  | false =>
    have e : wholeN y = 365 := by unfold wholeN; rw [if_neg (by rw [hl]; decide)]
    rw [hl] at hlp
    rw [e]
    have HLP := hid hlp
    clear hl e hlp
    go_enter Tryd.func28, Tryd.ntmps28
    go_wp2_with (go_at_call 49; (with_reducible refine HLP.out.mono ?_); rintro e w1 ⟨rfl, rfl⟩)
    go_ret
    exact ⟨rfl, rfl⟩
end Go.Proofs.YtkjlkkaoaiphcaaDoor
