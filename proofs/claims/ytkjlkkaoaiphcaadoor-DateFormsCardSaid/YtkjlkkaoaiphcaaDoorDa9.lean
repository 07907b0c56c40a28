/-
  Months and days of the week in texts. A part of the proof: see the head of the text that ends in 'Law'.
-/
import Derived.Test.YtkjlkkaoaiphcaaDoorDa8
namespace Go.Proofs.YtkjlkkaoaiphcaaDoor
open Go.RowKit Go.Shelf
set_option linter.unusedVariables false

def monC (l : List UInt8) (i : Nat) : Bool := decide (l.map smallU = (monL i).map smallU)
def monGo (l : List UInt8) (i : Nat) : Nat → Nat
  | 0 => 0
  | n + 1 => if monC l i = true then i + 1 else monGo l (i + 1) n
/-- The month's number. -/
def monF (l : List UInt8) : Nat := monGo l 0 12
theorem monGo_le (l : List UInt8) : ∀ n i, monGo l i n ≤ i + n
  | 0, i => by rw [monGo]; omega
  | n + 1, i => by
    rw [monGo]
    split
    · omega
    · have := monGo_le l n (i + 1); omega
theorem monF_le (l : List UInt8) : monF l ≤ 12 := by
  have := monGo_le l 12 0
  unfold monF
  omega
theorem monC_len {l : List UInt8} {i : Nat} (hi : i < 12) (h : l.length ≠ 3) : monC l i = false := by
  unfold monC
  rw [decide_eq_false_iff_not]
  intro he
  have := congrArg List.length he
  rw [List.length_map, List.length_map, monL_len hi] at this
  exact h this
theorem monGo_in {l : List UInt8} {k : Nat} (hk : k < 12) : monGo l k (12 - k) = if monC l k = true then k + 1 else monGo l (k + 1) (12 - (k + 1)) := by
  rw [show 12 - k = (12 - (k + 1)) + 1 by omega, monGo]
theorem mon_eq {l : List UInt8} {i : Nat} {b : Bool} (h : monC l i = b) : (str (l.map smallU) == str ((monL i).map smallU)) = b := by
  rw [str_beq, ← h]
  unfold monC
  rw [Bool.eq_iff_iff, beq_iff_eq, decide_eq_true_eq]
theorem mon_alike {l : List UInt8} {i : Nat} {b : Bool} (h : monC l i = b) : alikeL l (monL i) = b := by
  rw [← h]
  unfold monC alikeL
  rw [Bool.eq_iff_iff, beq_iff_eq, decide_eq_true_eq]
theorem monV_is : Value.agg #[.string ⟨#[74, 97, 110]⟩, .string ⟨#[70, 101, 98]⟩, .string ⟨#[77, 97, 114]⟩, .string ⟨#[65, 112, 114]⟩, .string ⟨#[77, 97, 121]⟩, .string ⟨#[74, 117, 110]⟩, .string ⟨#[74, 117, 108]⟩, .string ⟨#[65, 117, 103]⟩, .string ⟨#[83, 101, 112]⟩, .string ⟨#[79, 99, 116]⟩, .string ⟨#[78, 111, 118]⟩, .string ⟨#[68, 101, 99]⟩] = monV := rfl
set_option maxHeartbeats 2000000 in
theorem month_any (l : List UInt8) (w : World) (hl : l.length ≤ 100000) :
    Calls Tryd.prog 35 #[.string (str l)] w fun e w' => e = .returned (.int .i64 (monF l : Int)) ∧ Below w.heap.size w w' := by
  have hsz : (str l).size ≤ 100000 := hl
  have HL : Hid ((str l).size = l.length) := hid rfl
  have HMO := hid (fun w => months_any w)
  have HLO := hid (fun w => lower_any l w hl)
  have hix := index_mon
  obtain ⟨mv, hmv⟩ : ∃ v, monV = v := ⟨_, rfl⟩
  rw [hmv] at HMO hix
  have HIX := hid hix
  clear hix hmv
  go_enter Tryd.func35, Tryd.ntmps35
  go_wp2_with (go_at_call 33; (with_reducible refine (HMO.out _).mono ?_); rintro e w1 ⟨rfl, b1⟩)
  go_loopw [6] (fun i wr => ∃ k : Nat, k ≤ 12 ∧ i = .int .i64 (k : Int) ∧ Hid (monF l = monGo l k (12 - k)) ∧ Hid (Below w.heap.size w wr)) (fun i wr => 12 - (intOf i).toNat)
  case atStart => exact ⟨0, by omega, rfl, hid rfl, hid b1⟩
  case round =>
    obtain ⟨k, hk, rfl, hM, hB⟩ := hrel
    by_cases hlt : k < 12
    · have d1 : decide ((k : Int) < 12) = true := by simp; omega
      have d1' : decide (k < 12) = true := by simpa using hlt
      have hi := HIX.out k hlt
      have hM2 := hM.out
      rw [monGo_in hlt] at hM2
      by_cases h3 : (str l).size = 3
      · have d3 : (((str l).size : Int) == 3) = true := by rw [h3]; rfl
        have d3' : ((str l).size == 3) = true := by rw [h3]; rfl
        have HLM := hid (fun w => lower_any (monL k) w (by rw [monL_len hlt]; omega))
        cases hc : monC l k with
        | true =>
          have he := mon_eq hc
          have he2 := mon_alike hc
          unfold alikeL at he2
          rw [hc, if_pos rfl] at hM2
          have HM2 := hid hM2
          clear hM2 h3 hc hM
          go_wp2_with (first
            | (go_at_call 54; (with_reducible refine (HLO.out _).mono ?_); rintro e w2 ⟨rfl, b2⟩; have hB := hid (next hB.out b2); clear b2)
            | (go_at_call 54; (with_reducible refine (HLM.out _).mono ?_); rintro e w2 ⟨rfl, b2⟩; have hB := hid (next hB.out b2); clear b2))
          go_ret
          exact ⟨by rw [HM2.out]; rfl, hB.out⟩
        | false =>
          have he := mon_eq hc
          have he2 := mon_alike hc
          unfold alikeL at he2
          rw [hc, if_neg (by decide)] at hM2
          have HM2 := hid hM2
          clear hM2 h3 hc hM
          go_wp2_with (first
            | (go_at_call 54; (with_reducible refine (HLO.out _).mono ?_); rintro e w2 ⟨rfl, b2⟩; have hB := hid (next hB.out b2); clear b2)
            | (go_at_call 54; (with_reducible refine (HLM.out _).mono ?_); rintro e w2 ⟨rfl, b2⟩; have hB := hid (next hB.out b2); clear b2))
          go_roundw
          case rel => exact ⟨k + 1, by omega, by go_num, HM2, hB⟩
          case measure => simp [intOf]; omega
      · have d3 : (((str l).size : Int) == 3) = false := by simp; omega
        have d3' : ((str l).size == 3) = false := by simpa using h3
        rw [monC_len hlt (by rw [← HL.out]; exact h3), if_neg (by decide)] at hM2
        have HM2 := hid hM2
        clear hM2 h3 hM
        go_wp2
        go_roundw
        case rel => exact ⟨k + 1, by omega, by go_num, HM2, hB⟩
        case measure => simp [intOf]; omega
    · have d1 : decide ((k : Int) < 12) = false := by simp; omega
      have d1' : decide (k < 12) = false := by simpa using hlt
      have HM2 := hid (show monF l = 0 by rw [hM.out, show k = 12 by omega]; rfl)
      go_wp2
      go_ret
      exact ⟨by rw [HM2.out]; rfl, hB.out⟩
def namesV : ByteArray := ⟨#[74, 97, 110, 70, 101, 98, 77, 97, 114, 65, 112, 114, 77, 97, 121, 74, 117, 110, 74, 117, 108, 65, 117, 103, 83, 101, 112, 79, 99, 116, 78, 111, 118, 68, 101, 99]⟩
theorem names_cut (i : Nat) (h : i < 12) : namesV.extract (3 * i) (3 * i + 3) = str (monL i) := by
  obtain rfl | rfl | rfl | rfl | rfl | rfl | rfl | rfl | rfl | rfl | rfl | rfl : i = 0 ∨ i = 1 ∨ i = 2 ∨ i = 3 ∨ i = 4 ∨ i = 5 ∨ i = 6 ∨ i = 7 ∨ i = 8 ∨ i = 9 ∨ i = 10 ∨ i = 11 := by omega
  all_goals rfl
set_option maxHeartbeats 2000000 in
theorem rmonth_any (l : List UInt8) (w : World) (hl : l.length ≤ 100000) :
    Calls Tryd.prog 37 #[.string (str l)] w fun e w' => e = .returned (.int .i64 (monF l : Int)) ∧ Below w.heap.size w w' := by
  have hsz : (str l).size ≤ 100000 := hl
  go_enter Tryd.func37, Tryd.ntmps37
  go_wp2
  go_loopw [3] (fun i wr => ∃ k : Nat, k ≤ 12 ∧ i = .int .i64 (k : Int) ∧ Hid (monF l = monGo l k (12 - k)) ∧ Hid (Below w.heap.size w wr)) (fun i wr => 12 - (intOf i).toNat)
  case atStart => exact ⟨0, by omega, rfl, hid rfl, hid (Below.refl _ _)⟩
  case round =>
    obtain ⟨k, hk, rfl, hM, hB⟩ := hrel
    by_cases hlt : k < 12
    · have d1 : decide ((k : Int) < 12) = true := by simp; omega
      have d1' : decide (k < 12) = true := by simpa using hlt
      have hex := names_cut k hlt
      unfold namesV at hex
      have hM2 := hM.out
      rw [monGo_in hlt] at hM2
      have e0 : (0 : Int) ≤ 3 * (k : Int) := by omega
      have e1 : 3 * (k : Int) + 3 ≤ 36 := by omega
      have e2 : (3 * (k : Int)).toNat = 3 * k := by omega
      have e3 : (3 * (k : Int) + 3).toNat = 3 * k + 3 := by omega
      have e4 : 3 * k + 3 ≤ 36 := by omega
      have e5 : (0 : Int) ≤ 3 * (k : Int) + 3 := by omega
      have e6 : 3 * (k : Int) ≤ 3 * (k : Int) + 3 := by omega
      have hal := fun w => alike_any l (monL k) w hl
      cases hc : monC l k with
      | true =>
        have ha := mon_alike hc
        rw [ha] at hal
        rw [hc, if_pos rfl] at hM2
        have HM2 := hid hM2
        have HAL := hid hal
        clear hM2 hc hM ha hal
        go_wp2_with (go_at_call 47; (with_reducible refine (HAL.out _).mono ?_); rintro e w2 ⟨rfl, b2⟩; have hB := hid (next hB.out b2); clear b2)
        go_ret
        exact ⟨by rw [HM2.out]; rfl, hB.out⟩
      | false =>
        have ha := mon_alike hc
        rw [ha] at hal
        rw [hc, if_neg (by decide)] at hM2
        have HM2 := hid hM2
        have HAL := hid hal
        clear hM2 hc hM ha hal
        go_wp2_with (go_at_call 47; (with_reducible refine (HAL.out _).mono ?_); rintro e w2 ⟨rfl, b2⟩; have hB := hid (next hB.out b2); clear b2)
        go_roundw
        case rel => exact ⟨k + 1, by omega, by go_num, HM2, hB⟩
        case measure => simp [intOf]; omega
    · have d1 : decide ((k : Int) < 12) = false := by simp; omega
      have d1' : decide (k < 12) = false := by simpa using hlt
      have HM2 := hid (show monF l = 0 by rw [hM.out, show k = 12 by omega]; rfl)
      go_wp2
      go_ret
      exact ⟨by rw [HM2.out]; rfl, hB.out⟩
/-- The days of the week, small. -/
def dayL (i : Nat) : List UInt8 := ([[109, 111, 110], [116, 117, 101], [119, 101, 100], [116, 104, 117], [102, 114, 105], [115, 97, 116], [115, 117, 110]] : List (List UInt8)).getD i []
def DayL (i : Nat) : List UInt8 := ([[77, 111, 110], [84, 117, 101], [87, 101, 100], [84, 104, 117], [70, 114, 105], [83, 97, 116], [83, 117, 110]] : List (List UInt8)).getD i []
theorem day_small {i : Nat} (h : i < 7) : (DayL i).map smallU = dayL i := by
  obtain rfl | rfl | rfl | rfl | rfl | rfl | rfl : i = 0 ∨ i = 1 ∨ i = 2 ∨ i = 3 ∨ i = 4 ∨ i = 5 ∨ i = 6 := by omega
  all_goals decide +kernel
def weekGo (l : List UInt8) (i : Nat) : Nat → Bool
  | 0 => false
  | n + 1 => decide (l.map smallU = dayL i) || weekGo l (i + 1) n
/-- Is it a day of the week? -/
def weekF (l : List UInt8) : Bool := weekGo l 0 7
theorem weekGo_in {l : List UInt8} {k : Nat} (hk : k < 7) : weekGo l k (7 - k) = (decide (l.map smallU = dayL k) || weekGo l (k + 1) (7 - (k + 1))) := by
  rw [show 7 - k = (7 - (k + 1)) + 1 by omega, weekGo]
theorem index_week (i : Nat) (h : i < 7) (w : World) : (Instr.index 101 (.agg #[.string ⟨#[109, 111, 110]⟩, .string ⟨#[116, 117, 101]⟩, .string ⟨#[119, 101, 100]⟩, .string ⟨#[116, 104, 117]⟩, .string ⟨#[102, 114, 105]⟩, .string ⟨#[115, 97, 116]⟩, .string ⟨#[115, 117, 110]⟩]) (.int .i64 (i : Int))).run Tryd.prog w = .ok (.string (str (dayL i))) w := by
  obtain rfl | rfl | rfl | rfl | rfl | rfl | rfl : i = 0 ∨ i = 1 ∨ i = 2 ∨ i = 3 ∨ i = 4 ∨ i = 5 ∨ i = 6 := by omega
  all_goals kernel_rfl
set_option maxHeartbeats 2000000 in
theorem week_any (l : List UInt8) (w : World) (hl : l.length ≤ 100000) :
    Calls Tryd.prog 46 #[.string (str l)] w fun e w' => e = .returned (.bool (weekF l)) ∧ Below w.heap.size w w' := by
  have HLO := hid (fun w => lower_any l w hl)
  have HIX := hid index_week
  go_enter Tryd.func46, Tryd.ntmps46
  go_wp2
  go_loopw [6] (fun i wr => ∃ k : Nat, k ≤ 7 ∧ i = .int .i64 (k : Int) ∧ Hid (weekF l = weekGo l k (7 - k)) ∧ Hid (Below w.heap.size w wr)) (fun i wr => 7 - (intOf i).toNat)
  case atStart => exact ⟨0, by omega, rfl, hid rfl, hid (Below.refl _ _)⟩
  case round =>
    obtain ⟨k, hk, rfl, hM, hB⟩ := hrel
    by_cases hlt : k < 7
    · have d1 : decide ((k : Int) < 7) = true := by simp; omega
      have d1' : decide (k < 7) = true := by simpa using hlt
      have hi := HIX.out k hlt
      have hM2 := hM.out
      rw [weekGo_in hlt] at hM2
      have he : (str (l.map smallU) == str (dayL k)) = decide (l.map smallU = dayL k) := by rw [str_beq, Bool.eq_iff_iff, beq_iff_eq, decide_eq_true_eq]
      have he2 : (l.map smallU == dayL k) = decide (l.map smallU = dayL k) := by rw [Bool.eq_iff_iff, beq_iff_eq, decide_eq_true_eq]
      cases hc : decide (l.map smallU = dayL k) with
      | true =>
        rw [hc] at he he2 hM2
        rw [Bool.true_or] at hM2
        have HM2 := hid hM2
        clear hM2 hc hM
        go_wp2_with (go_at_call 54; (with_reducible refine (HLO.out _).mono ?_); rintro e w2 ⟨rfl, b2⟩; have hB := hid (next hB.out b2); clear b2)
        go_ret
        exact ⟨by rw [HM2.out]; rfl, hB.out⟩
      | false =>
        rw [hc] at he he2 hM2
        rw [Bool.false_or] at hM2
        have HM2 := hid hM2
        clear hM2 hc hM
        go_wp2_with (go_at_call 54; (with_reducible refine (HLO.out _).mono ?_); rintro e w2 ⟨rfl, b2⟩; have hB := hid (next hB.out b2); clear b2)
        go_roundw
        case rel => exact ⟨k + 1, by omega, by go_num, HM2, hB⟩
        case measure => simp [intOf]; omega
    · have d1 : decide ((k : Int) < 7) = false := by simp; omega
      have d1' : decide (k < 7) = false := by simpa using hlt
      have HM2 := hid (show weekF l = false by rw [hM.out, show k = 7 by omega]; rfl)
      go_wp2
      go_ret
      exact ⟨by rw [HM2.out]; rfl, hB.out⟩
end Go.Proofs.YtkjlkkaoaiphcaaDoor
