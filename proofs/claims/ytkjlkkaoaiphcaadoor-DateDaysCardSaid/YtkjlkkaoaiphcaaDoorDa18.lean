/-
  The laws DateDays and DateOrder: their walks. A part of the proof: see the head of the text that ends in 'Law'.
-/
import Derived.Test.YtkjlkkaoaiphcaaDoorDa17
namespace Go.Proofs.YtkjlkkaoaiphcaaDoor
open Go.RowKit Go.Shelf
set_option linter.unusedVariables false
attribute [local go_sem] Oper.semAt_some

/-- The day behind a day. -/
theorem civ_next {y m d : Nat} {n : Int} (h : Vld y m d) (e : dayN y m d = n) :
    (Vld y m (d + 1) ∧ dayN y m (d + 1) = n + 1) ∨ (28 ≤ d ∧ Vld y (m + 1) 1 ∧ dayN y (m + 1) 1 = n + 1) ∨ (m = 12 ∧ d = 31 ∧ y < 9999 ∧ Vld (y + 1) 1 1 ∧ dayN (y + 1) 1 1 = n + 1) ∨ (y = 9999 ∧ m = 12 ∧ d = 31) := by
  obtain ⟨h1, h2, h3, h4, h5, h6⟩ := h
  have hl := long_le y m
  unfold dayN at e ⊢
  by_cases c1 : d < longN y m
  · refine .inl ⟨⟨h1, h2, h3, h4, by omega, by omega⟩, ?_⟩
    omega
  · have hd : d = longN y m := by omega
    by_cases c2 : m < 12
    · refine .inr (.inl ⟨by omega, ⟨h1, h2, by omega, by omega, by omega, by have := long_le y (m + 1); omega⟩, ?_⟩)
      have := cum_succ y m h3
      omega
    · obtain rfl : m = 12 := by omega
      have h31 : longN y 12 = 31 := by unfold longN; rw [if_neg (by decide), if_neg (by decide)]
      by_cases c3 : y < 9999
      · refine .inr (.inr (.inl ⟨rfl, by omega, c3, ⟨by omega, by omega, by omega, by omega, by omega, by have := long_le (y + 1) 1; omega⟩, ?_⟩))
        have a := cum_succ y 12 (by omega)
        have b := cum_end y
        have c := ahd_succ y h1
        have e1 := cum_one (y + 1)
        simp only [Nat.reduceAdd] at a
        omega
      · exact .inr (.inr (.inr ⟨by omega, rfl, by omega⟩))
theorem civ_call {y m d : Nat} {n : Int} (h : Vld y m d) (e : dayN y m d = n) (w : World) :
    Calls Tryd.prog 10 #[.int .i64 n] w fun e w' => e = .returned (.tuple #[.int .i64 (y : Int), .int .i64 (m : Int), .int .i64 (d : Int), .int .i64 0]) ∧ w = w' := by
  have hr := dayN_range h
  rw [e] at hr
  have := civil_yes n w hr.1 hr.2
  rw [civ_eq h e] at this
  exact this
set_option maxRecDepth 100000 in
set_option maxHeartbeats 2000000 in
theorem walkDateOrder (n : Int) (w : World) (hT : Lib.Utf8Tabs 0 1 w) (hn : -9223372036854775808 ≤ n ∧ n ≤ 9223372036854775807) :
    Calls Tryd.prog 4 #[.int .i64 n] w fun e w' => e = .returned (.bool true) ∧ Below w.heap.size w w' := by
  have HT := hid hT
  have B := hid (Below.refl w.heap.size w)
  clear hT
  by_cases hr : n < -719162 ∨ 2932896 < n
  · have HC := hid (fun w => civil_no n w hr)
    clear hr hn
    go_enter Tryd.func4, Tryd.ntmps4
    go_wp2_with (first
      | (go_at_call 10; (with_reducible refine (HC.out _).mono ?_); rintro e w1 ⟨rfl, rfl⟩)
      | (go_at_call 12; (with_reducible refine (awake_any _ (tabs_keep HT.out B.out)).mono ?_); rintro e w5 ⟨rfl, b5⟩; have B := hid (next B.out b5); clear b5))
    go_ret
    exact ⟨rfl, B.out⟩
  · obtain ⟨hv, he⟩ := civ_is (n := n) (by omega) (by omega)
    obtain ⟨y, m, d, hq⟩ : ∃ y m d, civ n = (y, m, d) := ⟨_, _, _, rfl⟩
    rw [hq] at hv he
    dsimp only at hv he
    have HC := hid (fun w => civ_call hv he w)
    have hw : IntKind.i64.wrap (n + 1) = n + 1 := by rw [IntKind.wrap_i64]; omega
    rcases civ_next hv he with ⟨k1, k2⟩ | ⟨k0, k1, k2⟩ | ⟨rfl, rfl, _, k1, k2⟩ | ⟨rfl, rfl, rfl⟩
    · have HD := hid (fun w => civ_call k1 k2 w)
      simp only [Int.natCast_add, Int.natCast_one] at HD
      have q1 : ((m : Int) == (m : Int) + 1) = false := by simp; omega
      have q2 : ((y : Int) == (y : Int) + 1) = false := by simp; omega
      have q3 : ¬ ((m : Int) = (m : Int) + 1) := by omega
      have q4 : ¬ ((y : Int) = (y : Int) + 1) := by omega
      have q5 : IntKind.i64.wrap ((d : Int) + 1) = (d : Int) + 1 := by obtain ⟨_, _, _, _, _, h⟩ := k1; have := long_le y m; rw [IntKind.wrap_i64]; omega
      have q6 : IntKind.i64.wrap ((m : Int) + 1) = (m : Int) + 1 := by obtain ⟨_, _, _, _, _, h⟩ := k1; rw [IntKind.wrap_i64]; omega
      have q7 : IntKind.i64.wrap ((y : Int) + 1) = (y : Int) + 1 := by obtain ⟨_, _, _, _, _, h⟩ := k1; rw [IntKind.wrap_i64]; omega
      clear hv he hq k1 k2 hr hn
      go_enter Tryd.func4, Tryd.ntmps4
      go_wp2_with (first
        | (go_at_call 10; (with_reducible refine (HC.out _).mono ?_); rintro e w1 ⟨rfl, rfl⟩)
        | (go_at_call 10; (with_reducible refine (HD.out _).mono ?_); rintro e w1 ⟨rfl, rfl⟩)
        | (go_at_call 12; (with_reducible refine (awake_any _ (tabs_keep HT.out B.out)).mono ?_); rintro e w5 ⟨rfl, b5⟩; have B := hid (next B.out b5); clear b5))
      go_ret
      exact ⟨rfl, B.out⟩
    · have HD := hid (fun w => civ_call k1 k2 w)
      simp only [Int.natCast_add, Int.natCast_one] at HD
      have q1 : ((m : Int) + 1 == (m : Int)) = false := by simp; omega
      have q2 : ((y : Int) == (y : Int) + 1) = false := by simp; omega
      have q3 : ¬ ((m : Int) + 1 = (m : Int)) := by omega
      have q4 : ¬ ((y : Int) = (y : Int) + 1) := by omega
      have q6 : IntKind.i64.wrap ((m : Int) + 1) = (m : Int) + 1 := by obtain ⟨_, _, _, h⟩ := k1; rw [IntKind.wrap_i64]; omega
      have q7 : IntKind.i64.wrap ((y : Int) + 1) = (y : Int) + 1 := by obtain ⟨_, _, _, _, _, h⟩ := k1; rw [IntKind.wrap_i64]; omega
      have q8 : decide ((28 : Int) ≤ (d : Int)) = true := by simp; omega
      have q9 : decide (28 ≤ d) = true := by simp; omega
      clear hv he hq k1 k2 hr hn k0
      go_enter Tryd.func4, Tryd.ntmps4
      go_wp2_with (first
        | (go_at_call 10; (with_reducible refine (HC.out _).mono ?_); rintro e w1 ⟨rfl, rfl⟩)
        | (go_at_call 10; (with_reducible refine (HD.out _).mono ?_); rintro e w1 ⟨rfl, rfl⟩)
        | (go_at_call 12; (with_reducible refine (awake_any _ (tabs_keep HT.out B.out)).mono ?_); rintro e w5 ⟨rfl, b5⟩; have B := hid (next B.out b5); clear b5))
      go_ret
      exact ⟨rfl, B.out⟩
    · have HD := hid (fun w => civ_call k1 k2 w)
      simp only [Int.natCast_add, Int.natCast_one, Int.cast_ofNat_Int] at HD HC
      have q1 : ((y : Int) + 1 == (y : Int)) = false := by simp; omega
      have q3 : ¬ ((y : Int) + 1 = (y : Int)) := by omega
      have q7 : IntKind.i64.wrap ((y : Int) + 1) = (y : Int) + 1 := by obtain ⟨_, _, _, _, _, h⟩ := k1; rw [IntKind.wrap_i64]; omega
      clear hv he hq k1 k2 hr hn
      go_enter Tryd.func4, Tryd.ntmps4
      go_wp2_with (first
        | (go_at_call 10; (with_reducible refine (HC.out _).mono ?_); rintro e w1 ⟨rfl, rfl⟩)
        | (go_at_call 10; (with_reducible refine (HD.out _).mono ?_); rintro e w1 ⟨rfl, rfl⟩)
        | (go_at_call 12; (with_reducible refine (awake_any _ (tabs_keep HT.out B.out)).mono ?_); rintro e w5 ⟨rfl, b5⟩; have B := hid (next B.out b5); clear b5))
      go_ret
      exact ⟨rfl, B.out⟩
    · have hn2 : n = 2932896 := by rw [← he]; decide +kernel
      subst hn2
      have HD := hid (fun w => civil_no 2932897 w (by omega))
      simp only [Int.cast_ofNat_Int] at HC
      clear hv he hq hr hn hw
      go_enter Tryd.func4, Tryd.ntmps4
      go_wp2_with (first
        | (go_at_call 10; (with_reducible refine (HC.out _).mono ?_); rintro e w1 ⟨rfl, rfl⟩)
        | (go_at_call 10; (with_reducible refine (HD.out _).mono ?_); rintro e w1 ⟨rfl, rfl⟩)
        | (go_at_call 12; (with_reducible refine (awake_any _ (tabs_keep HT.out B.out)).mono ?_); rintro e w5 ⟨rfl, b5⟩; have B := hid (next B.out b5); clear b5))
      go_ret
      exact ⟨rfl, B.out⟩
end Go.Proofs.YtkjlkkaoaiphcaaDoor
