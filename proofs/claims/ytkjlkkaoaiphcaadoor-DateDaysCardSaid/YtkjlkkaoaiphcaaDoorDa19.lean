/-
  The law DateDays: its walk. A part of the proof: see the head of the text that ends in 'Law'.
-/
import Derived.Test.YtkjlkkaoaiphcaaDoorDa18
namespace Go.Proofs.YtkjlkkaoaiphcaaDoor
open Go.RowKit Go.Shelf
set_option linter.unusedVariables false
attribute [local go_sem] Oper.semAt_some

theorem four_box (w : World) (a b c d : Int) : ∀ W, W = w.alloc (.cells #[.int .i64 a, .int .i64 b, .int .i64 c, .int .i64 d] 23) → W.cell? ⟨w.heap.size, 0, none⟩ = some (.int .i64 a) ∧ W.cell? ⟨w.heap.size, 1, none⟩ = some (.int .i64 b) ∧ W.cell? ⟨w.heap.size, 2, none⟩ = some (.int .i64 c) ∧ W.cell? ⟨w.heap.size, 3, none⟩ = some (.int .i64 d) := by
  rintro _ rfl
  have k := OwnC.new_ w #[.int .i64 a, .int .i64 b, .int .i64 c, .int .i64 d] 23
  exact ⟨k.cell rfl, k.cell rfl, k.cell rfl, k.cell rfl⟩
set_option maxRecDepth 100000 in
set_option maxHeartbeats 4000000 in
theorem walkDateDays (y m d n : Int) (w : World) (hT : Lib.Utf8Tabs 0 1 w) :
    Calls Tryd.prog 3 #[.agg #[.int .i64 y, .int .i64 m, .int .i64 d, .int .i64 n]] w fun e w' => e = .returned (.bool true) ∧ Below w.heap.size w w' := by
  have HT := hid hT
  have B := hid ((Below.refl w.heap.size w).alloc (Nat.le_refl _) (.cells #[.int .i64 y, .int .i64 m, .int .i64 d, .int .i64 n] 23))
  have HV : Hid True := hid trivial
  clear hT
  by_cases ho : okD y m d
  · obtain ⟨y, m, d, rfl, rfl, rfl, hv⟩ := ho
    obtain ⟨N, hN⟩ : ∃ N, dayN y m d = N := ⟨_, rfl⟩
    have HD := hid (fun w => days_yes y m d w hv)
    have HR := hid (fun w => rdays_yes y m d w hv)
    have HV := hid (fun w => civ_call hv hN w)
    rw [hN] at HD HR
    clear hv hN
    by_cases hr : n < -719162 ∨ 2932896 < n
    · have HC := hid (fun w => civil_no n w hr)
      have HE := hid (fun w => rcivil_no n w hr)
      clear hr
      obtain ⟨x0, x1, x2, x3⟩ := four_box w y m d n _ rfl
      go_enter Tryd.func3, Tryd.ntmps3
      go_upto_region 1 with fail
      go_quiet (fail)
      have B := hid (bq B.out nq)
      go_wp2_with (first
        | (go_at_call 8; (with_reducible refine (HD.out _).mono ?_); rintro e w1 ⟨rfl, rfl⟩)
        | (go_at_call 9; (with_reducible refine (HR.out _).mono ?_); rintro e w1 ⟨rfl, rfl⟩)
        | (go_at_call 10; (with_reducible refine (HV.out _).mono ?_); rintro e w1 ⟨rfl, rfl⟩)
        | (go_at_call 10; (with_reducible refine (HC.out _).mono ?_); rintro e w1 ⟨rfl, rfl⟩)
        | (go_at_call 11; (with_reducible refine (HE.out _).mono ?_); rintro e w1 ⟨rfl, rfl⟩)
        | (go_at_call 12; (with_reducible refine (awake_any _ (tabs_keep HT.out B.out)).mono ?_); rintro e w5 ⟨rfl, b5⟩; have B := hid (next B.out b5); clear b5))
      go_ret
      exact ⟨rfl, B.out⟩
    · have HC := hid (fun w => civil_yes n w (by omega) (by omega))
      have HE := hid (fun w => rcivil_yes n w (by omega) (by omega))
      obtain ⟨p, q, r, hq⟩ : ∃ p q r, civ n = (p, q, r) := ⟨_, _, _, rfl⟩
      rw [hq] at HC HE
      clear hr hq
      obtain ⟨x0, x1, x2, x3⟩ := four_box w y m d n _ rfl
      go_enter Tryd.func3, Tryd.ntmps3
      go_upto_region 1 with fail
      go_quiet (fail)
      have B := hid (bq B.out nq)
      go_wp2_with (first
        | (go_at_call 8; (with_reducible refine (HD.out _).mono ?_); rintro e w1 ⟨rfl, rfl⟩)
        | (go_at_call 9; (with_reducible refine (HR.out _).mono ?_); rintro e w1 ⟨rfl, rfl⟩)
        | (go_at_call 10; (with_reducible refine (HV.out _).mono ?_); rintro e w1 ⟨rfl, rfl⟩)
        | (go_at_call 10; (with_reducible refine (HC.out _).mono ?_); rintro e w1 ⟨rfl, rfl⟩)
        | (go_at_call 11; (with_reducible refine (HE.out _).mono ?_); rintro e w1 ⟨rfl, rfl⟩)
        | (go_at_call 12; (with_reducible refine (awake_any _ (tabs_keep HT.out B.out)).mono ?_); rintro e w5 ⟨rfl, b5⟩; have B := hid (next B.out b5); clear b5))
      go_ret
      exact ⟨rfl, B.out⟩
  · have HD := hid (fun w => days_no y m d w ho)
    have HR := hid (fun w => rdays_no y m d w ho)
    clear ho
    by_cases hr : n < -719162 ∨ 2932896 < n
    · have HC := hid (fun w => civil_no n w hr)
      have HE := hid (fun w => rcivil_no n w hr)
      clear hr
      obtain ⟨x0, x1, x2, x3⟩ := four_box w y m d n _ rfl
      go_enter Tryd.func3, Tryd.ntmps3
      go_upto_region 1 with fail
      go_quiet (fail)
      have B := hid (bq B.out nq)
      go_wp2_with (first
        | (go_at_call 8; (with_reducible refine (HD.out _).mono ?_); rintro e w1 ⟨rfl, rfl⟩)
        | (go_at_call 9; (with_reducible refine (HR.out _).mono ?_); rintro e w1 ⟨rfl, rfl⟩)
        | (go_at_call 10; (with_reducible refine (HV.out _).mono ?_); rintro e w1 ⟨rfl, rfl⟩)
        | (go_at_call 10; (with_reducible refine (HC.out _).mono ?_); rintro e w1 ⟨rfl, rfl⟩)
        | (go_at_call 11; (with_reducible refine (HE.out _).mono ?_); rintro e w1 ⟨rfl, rfl⟩)
        | (go_at_call 12; (with_reducible refine (awake_any _ (tabs_keep HT.out B.out)).mono ?_); rintro e w5 ⟨rfl, b5⟩; have B := hid (next B.out b5); clear b5))
      go_ret
      exact ⟨rfl, B.out⟩
    · have HC := hid (fun w => civil_yes n w (by omega) (by omega))
      have HE := hid (fun w => rcivil_yes n w (by omega) (by omega))
      obtain ⟨p, q, r, hq⟩ : ∃ p q r, civ n = (p, q, r) := ⟨_, _, _, rfl⟩
      rw [hq] at HC HE
      clear hr hq
      obtain ⟨x0, x1, x2, x3⟩ := four_box w y m d n _ rfl
      go_enter Tryd.func3, Tryd.ntmps3
      go_upto_region 1 with fail
      go_quiet (fail)
      have B := hid (bq B.out nq)
      go_wp2_with (first
        | (go_at_call 8; (with_reducible refine (HD.out _).mono ?_); rintro e w1 ⟨rfl, rfl⟩)
        | (go_at_call 9; (with_reducible refine (HR.out _).mono ?_); rintro e w1 ⟨rfl, rfl⟩)
        | (go_at_call 10; (with_reducible refine (HV.out _).mono ?_); rintro e w1 ⟨rfl, rfl⟩)
        | (go_at_call 10; (with_reducible refine (HC.out _).mono ?_); rintro e w1 ⟨rfl, rfl⟩)
        | (go_at_call 11; (with_reducible refine (HE.out _).mono ?_); rintro e w1 ⟨rfl, rfl⟩)
        | (go_at_call 12; (with_reducible refine (awake_any _ (tabs_keep HT.out B.out)).mono ?_); rintro e w5 ⟨rfl, b5⟩; have B := hid (next B.out b5); clear b5))
      go_ret
      exact ⟨rfl, B.out⟩
end Go.Proofs.YtkjlkkaoaiphcaaDoor
