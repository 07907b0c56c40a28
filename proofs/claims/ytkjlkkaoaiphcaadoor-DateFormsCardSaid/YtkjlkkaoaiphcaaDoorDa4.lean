/-
  A place's clock; which dates may be: the walks. A part of the proof: see the head of the text that ends in 'Law'.
-/
import Derived.Test.YtkjlkkaoaiphcaaDoorDa3
namespace Go.Proofs.YtkjlkkaoaiphcaaDoor
open Go.RowKit
set_option linter.unusedVariables false

/-- May a date be? -/
def mayD (s z : Int) : Bool := decide (-1439 ≤ z ∧ z ≤ 1439 ∧ -719162 ≤ (s + 60 * z) / 86400 ∧ (s + 60 * z) / 86400 ≤ 2932896)
theorem tdiv_facts (s : Int) : ∃ q r : Int, Int.tdiv s 86400 = q ∧ Int.tmod s 86400 = r ∧ s = 86400 * q + r ∧ (r < 0 → s / 86400 = q - 1 ∧ s % 86400 = r + 86400) ∧ (¬ r < 0 → s / 86400 = q ∧ s % 86400 = r) ∧ -86400 < r ∧ r < 86400 := by
  refine ⟨_, _, rfl, rfl, ?_⟩
  have h := Int.mul_tdiv_add_tmod s 86400
  have h1 := Int.tmod_lt_of_pos s (show (0 : Int) < 86400 by omega)
  have h2 : -86400 < Int.tmod s 86400 := by
    have := Int.tmod_lt_of_pos (-s) (show (0 : Int) < 86400 by omega)
    rw [Int.neg_tmod] at this
    omega
  generalize Int.tdiv s 86400 = q at *
  generalize Int.tmod s 86400 = r at *
  refine ⟨by omega, fun hr => ⟨by omega, by omega⟩, fun hr => ⟨?_, ?_⟩, h2, h1⟩ <;> omega
set_option maxHeartbeats 1000000 in
theorem split_any (s : Int) (w : World) (h1 : -2000000000000 ≤ s) (h2 : s ≤ 2000000000000) :
    Calls Tryd.prog 29 #[.int .i64 s] w fun e w' => e = .returned (.tuple #[.int .i64 (s / 86400), .int .i64 (s % 86400)]) ∧ w = w' := by
  obtain ⟨q, r, hq, hr, hs, hn, hp, r1, r2⟩ := tdiv_facts s
  by_cases h : r < 0
  · have d1 : decide (r < 0) = true := by simpa using h
    obtain ⟨e1, e2⟩ := hn h
    rw [e1, e2]
    have b1 : -30000000 ≤ q := by omega
    have b2 : q ≤ 30000000 := by omega
    clear hn hp hs e1 e2 h
    go_enter Tryd.func29, Tryd.ntmps29
    go_wp2
    go_ret2
    exact ⟨rfl, rfl⟩
  · have d1 : decide (r < 0) = false := by simpa using h
    obtain ⟨e1, e2⟩ := hp h
    rw [e1, e2]
    have b1 : -30000000 ≤ q := by omega
    have b2 : q ≤ 30000000 := by omega
    clear hn hp hs e1 e2 h
    go_enter Tryd.func29, Tryd.ntmps29
    go_wp2
    go_ret2
    exact ⟨rfl, rfl⟩
theorem date_box (w : World) (s z : Int) : (w.alloc (.cells #[.int .i64 s, .int .i64 z] 37)).cell? ⟨w.heap.size, 0, none⟩ = some (.int .i64 s) ∧
    (w.alloc (.cells #[.int .i64 s, .int .i64 z] 37)).cell? ⟨w.heap.size, 1, none⟩ = some (.int .i64 z) := by
  have c := OwnC.new_ w #[.int .i64 s, .int .i64 z] 37
  exact ⟨c.cell rfl, c.cell rfl⟩
theorem box_below (w : World) (s z : Int) : Below w.heap.size w (w.alloc (.cells #[.int .i64 s, .int .i64 z] 37)) := (Below.refl _ _).alloc (Nat.le_refl _) _
theorem local_any (s z : Int) (w : World) (h1 : -1500000000000 ≤ s) (h2 : s ≤ 1500000000000) (h3 : -1439 ≤ z) (h4 : z ≤ 1439) :
    Calls Tryd.prog 30 #[.agg #[.int .i64 s, .int .i64 z]] w fun e w' => e = .returned (.int .i64 (s + 60 * z)) ∧ Below w.heap.size w w' := by
  obtain ⟨x0, x1⟩ := date_box w s z
  have HB := hid (box_below w s z)
  go_enter Tryd.func30, Tryd.ntmps30
  go_wp2
  go_ret
  exact ⟨rfl, HB.out⟩
set_option maxHeartbeats 2000000 in
theorem dmay_any (s z : Int) (w : World) (hs : -9223372036854775808 ≤ s ∧ s ≤ 9223372036854775807) (hz : -9223372036854775808 ≤ z ∧ z ≤ 9223372036854775807) :
    Calls Tryd.prog 16 #[.agg #[.int .i64 s, .int .i64 z]] w fun e w' => e = .returned (.bool (mayD s z)) ∧ Below w.heap.size w w' := by
  obtain ⟨x0, x1⟩ := date_box w s z
  have HB := hid (box_below w s z)
  by_cases h1 : z < -1439
  · have d1 : decide (z < -1439) = true := by simpa using h1
    have hm : mayD s z = false := by unfold mayD; rw [decide_eq_false_iff_not]; omega
    rw [hm]
    clear hm hs hz h1
    go_enter Tryd.func16, Tryd.ntmps16
    go_wp2
    go_ret
    exact ⟨rfl, HB.out⟩
  · have d1 : decide (z < -1439) = false := by simpa using h1
    by_cases h2 : 1439 < z
    · have d2 : decide (1439 < z) = true := by simpa using h2
      have hm : mayD s z = false := by unfold mayD; rw [decide_eq_false_iff_not]; omega
      rw [hm]
      clear hm hs hz h1 h2
      go_enter Tryd.func16, Tryd.ntmps16
      go_wp2
      go_ret
      exact ⟨rfl, HB.out⟩
    · have d2 : decide (1439 < z) = false := by simpa using h2
      by_cases h3 : 1099511627776 < s
      · have d3 : decide (1099511627776 < s) = true := by simpa using h3
        have hm : mayD s z = false := by unfold mayD; rw [decide_eq_false_iff_not]; omega
        rw [hm]
        clear hm hs hz h1 h2 h3
        go_enter Tryd.func16, Tryd.ntmps16
        go_wp2
        go_ret
        exact ⟨rfl, HB.out⟩
      · have d3 : decide (1099511627776 < s) = false := by simpa using h3
        by_cases h4 : s < -1099511627776
        · have d4 : decide (s < -1099511627776) = true := by simpa using h4
          have hm : mayD s z = false := by unfold mayD; rw [decide_eq_false_iff_not]; omega
          rw [hm]
          clear hm hs hz h1 h2 h3 h4
          go_enter Tryd.func16, Tryd.ntmps16
          go_wp2
          go_ret
          exact ⟨rfl, HB.out⟩
        · have d4 : decide (s < -1099511627776) = false := by simpa using h4
          have HLO := hid (fun w => local_any s z w (by omega) (by omega) (by omega) (by omega))
          have HSP := hid (fun w => split_any (s + 60 * z) w (by omega) (by omega))
          obtain ⟨D, hD⟩ : ∃ D, (s + 60 * z) / 86400 = D := ⟨_, rfl⟩
          rw [hD] at HSP
          have hm : mayD s z = decide (-719162 ≤ D ∧ D ≤ 2932896) := by
            unfold mayD
            rw [hD, Bool.eq_iff_iff, decide_eq_true_eq, decide_eq_true_eq]
            constructor
            · intro h; exact ⟨h.2.2.1, h.2.2.2⟩
            · intro h; exact ⟨by omega, by omega, h.1, h.2⟩
          rw [hm]
          have hDb : -20000000 ≤ D ∧ D ≤ 20000000 := by omega
          obtain ⟨D1, D2⟩ := hDb
          clear hm hs hz hD
          by_cases h5 : -719162 ≤ D ∧ D ≤ 2932896
          · rw [decide_eq_true h5]
            have HCI := hid (fun w => civil_yes D w h5.1 h5.2)
            clear h1 h2 h3 h4 h5
            go_enter Tryd.func16, Tryd.ntmps16
            go_wp2_with (first
              | (go_at_call 30; (with_reducible refine (HLO.out _).mono ?_); rintro e w1 ⟨rfl, b1⟩)
              | (go_at_call 29; (with_reducible refine (HSP.out _).mono ?_); rintro e w2 ⟨rfl, rfl⟩)
              | (go_at_call 10; (with_reducible refine (HCI.out _).mono ?_); rintro e w3 ⟨rfl, rfl⟩))
            go_ret
            exact ⟨rfl, next HB.out b1⟩
          · rw [decide_eq_false h5]
            have HCI := hid (fun w => civil_no D w (by omega))
            clear h1 h2 h3 h4 h5
            go_enter Tryd.func16, Tryd.ntmps16
            go_wp2_with (first
              | (go_at_call 30; (with_reducible refine (HLO.out _).mono ?_); rintro e w1 ⟨rfl, b1⟩)
              | (go_at_call 29; (with_reducible refine (HSP.out _).mono ?_); rintro e w2 ⟨rfl, rfl⟩)
              | (go_at_call 10; (with_reducible refine (HCI.out _).mono ?_); rintro e w3 ⟨rfl, rfl⟩))
            go_ret
            exact ⟨rfl, next HB.out b1⟩
theorem mayD_facts {s z : Int} (h : mayD s z = true) : -1439 ≤ z ∧ z ≤ 1439 ∧ -719162 ≤ (s + 60 * z) / 86400 ∧ (s + 60 * z) / 86400 ≤ 2932896 ∧ -100000000000 ≤ s ∧ s ≤ 1000000000000 := by
  unfold mayD at h
  have := of_decide_eq_true h
  omega
set_option maxHeartbeats 2000000 in
theorem dday_any (s z : Int) (w : World) (hs : -9223372036854775808 ≤ s ∧ s ≤ 9223372036854775807) (hz : -9223372036854775808 ≤ z ∧ z ≤ 9223372036854775807) :
    Calls Tryd.prog 19 #[.agg #[.int .i64 s, .int .i64 z]] w fun e w' => e = .returned (.int .i64 (if mayD s z = true then (s + 60 * z) / 86400 else 0)) ∧ Below w.heap.size w w' := by
  obtain ⟨x0, x1⟩ := date_box w s z
  have HB := hid (box_below w s z)
  have hma := fun w => dmay_any s z w hs hz
  by_cases hm : mayD s z = true
  · rw [if_pos hm]
    rw [hm] at hma
    have hf := mayD_facts hm
    have HMA := hid hma
    have HLO := hid (fun w => local_any s z w (by omega) (by omega) (by omega) (by omega))
    have HSP := hid (fun w => split_any (s + 60 * z) w (by omega) (by omega))
    clear hma hm hf hs hz
    go_enter Tryd.func19, Tryd.ntmps19
    go_wp2_with (first
      | (go_at_call 16; (with_reducible refine (HMA.out _).mono ?_); rintro e w1 ⟨rfl, b1⟩; have x0 := cells_keep b1 x0; have x1 := cells_keep b1 x1; have HB := hid (next HB.out b1); clear b1)
      | (go_at_call 30; (with_reducible refine (HLO.out _).mono ?_); rintro e w1 ⟨rfl, b1⟩; have HB := hid (next HB.out b1); clear b1)
      | (go_at_call 29; (with_reducible refine (HSP.out _).mono ?_); rintro e w2 ⟨rfl, rfl⟩))
    go_ret
    exact ⟨rfl, HB.out⟩
  · rw [if_neg hm]
    have hm : mayD s z = false := by simpa using hm
    rw [hm] at hma
    have HMA := hid hma
    clear hma hm hs hz
    go_enter Tryd.func19, Tryd.ntmps19
    go_wp2_with (go_at_call 16; (with_reducible refine (HMA.out _).mono ?_); rintro e w1 ⟨rfl, b1⟩; have HB := hid (next HB.out b1); clear b1)
    go_ret
    exact ⟨rfl, HB.out⟩
end Go.Proofs.YtkjlkkaoaiphcaaDoor
