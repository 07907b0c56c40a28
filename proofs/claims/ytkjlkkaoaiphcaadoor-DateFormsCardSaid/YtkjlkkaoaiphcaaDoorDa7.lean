/-
  The clock as the document reckons it; digits. A part of the proof: see the head of the text that ends in 'Law'.
-/
import Derived.Test.YtkjlkkaoaiphcaaDoorDa6
import Derived.Test.YtkjlkkaoaiphcaaDoorBytes
namespace Go.Proofs.YtkjlkkaoaiphcaaDoor
open Go.RowKit Go.Shelf
set_option linter.unusedVariables false

theorem clock_q {S q r : Int} (hs : S = 86400 * q + r) : S - 86400 * q = r := by omega
set_option maxHeartbeats 4000000 in
theorem clock_yes (s z : Int) (w : World) (h : mayD s z = true) :
    Calls Tryd.prog 15 #[.agg #[.int .i64 s, .int .i64 z]] w fun e w' => e = .returned (.tuple #[.int .i64 ((s + 60 * z) / 86400), .int .i64 ((s + 60 * z) % 86400), .bool true]) ∧ Below w.heap.size w w' := by
  obtain ⟨x0, x1⟩ := date_box w s z
  have HB := hid (box_below w s z)
  obtain ⟨f1, f2, f3, f4, f5, f6⟩ := mayD_facts h
  have d1 : decide (z < -1439) = false := by simp; omega
  have d2 : decide (1439 < z) = false := by simp; omega
  have d3 : decide (s < -100000000000) = false := by simp; omega
  have d4 : decide (1000000000000 < s) = false := by simp; omega
  obtain ⟨q, r, hq, hr, hs, hn, hp, r1, r2⟩ := tdiv_facts (s + z * 60)
  have e0 : s + 60 * z = s + z * 60 := by omega
  rw [e0] at f3 f4 ⊢
  have b1 : -30000000 ≤ q := by omega
  have b2 : q ≤ 30000000 := by omega
  have e5 : s + z * 60 - 86400 * q = r := by omega
  by_cases hr0 : r < 0
  · have d5 : decide (r < 0) = true := by simpa using hr0
    obtain ⟨e1, e2⟩ := hn hr0
    have HCI := hid (fun w => rcivil_yes (q - 1) w (by omega) (by omega))
    rw [e1, e2]
    clear hn hp hs e1 e2 hr0 h f3 f4 e0
    go_enter Tryd.func15, Tryd.ntmps15
    go_wp2_with (go_at_call 11; (with_reducible refine (HCI.out _).mono ?_); rintro e w3 ⟨rfl, rfl⟩)
    go_ret3
    exact ⟨rfl, HB.out⟩
  · have d5 : decide (r < 0) = false := by simpa using hr0
    obtain ⟨e1, e2⟩ := hp hr0
    have HCI := hid (fun w => rcivil_yes q w (by omega) (by omega))
    rw [e1, e2]
    clear hn hp hs e1 e2 hr0 h f3 f4 e0
    go_enter Tryd.func15, Tryd.ntmps15
    go_wp2_with (go_at_call 11; (with_reducible refine (HCI.out _).mono ?_); rintro e w3 ⟨rfl, rfl⟩)
    go_ret3
    exact ⟨rfl, HB.out⟩
def ClkNo (w : World) (e : Ending) (w' : World) : Prop := ∃ a b : Int, e = .returned (.tuple #[.int .i64 a, .int .i64 b, .bool false]) ∧ Below w.heap.size w w'
set_option maxHeartbeats 4000000 in
theorem clock_no (s z : Int) (w : World) (h : mayD s z = false) (hs : -9223372036854775808 ≤ s ∧ s ≤ 9223372036854775807) (hz : -9223372036854775808 ≤ z ∧ z ≤ 9223372036854775807) :
    Calls Tryd.prog 15 #[.agg #[.int .i64 s, .int .i64 z]] w (ClkNo w) := by
  obtain ⟨x0, x1⟩ := date_box w s z
  have HB := hid (box_below w s z)
  unfold mayD at h
  have h := of_decide_eq_false h
  by_cases h1 : z < -1439
  · have d1 : decide (z < -1439) = true := by simpa using h1
    clear h hs hz h1
    go_enter Tryd.func15, Tryd.ntmps15
    go_wp2
    go_ret3
    exact ⟨0, 0, rfl, HB.out⟩
  · have d1 : decide (z < -1439) = false := by simpa using h1
    by_cases h2 : 1439 < z
    · have d2 : decide (1439 < z) = true := by simpa using h2
      clear h hs hz h1 h2
      go_enter Tryd.func15, Tryd.ntmps15
      go_wp2
      go_ret3
      exact ⟨0, 0, rfl, HB.out⟩
    · have d2 : decide (1439 < z) = false := by simpa using h2
      by_cases h3 : s < -100000000000
      · have d3 : decide (s < -100000000000) = true := by simpa using h3
        clear h hs hz h1 h2 h3
        go_enter Tryd.func15, Tryd.ntmps15
        go_wp2
        go_ret3
        exact ⟨0, 0, rfl, HB.out⟩
      · have d3 : decide (s < -100000000000) = false := by simpa using h3
        by_cases h4 : 1000000000000 < s
        · have d4 : decide (1000000000000 < s) = true := by simpa using h4
          clear h hs hz h1 h2 h3 h4
          go_enter Tryd.func15, Tryd.ntmps15
          go_wp2
          go_ret3
          exact ⟨0, 0, rfl, HB.out⟩
        · have d4 : decide (1000000000000 < s) = false := by simpa using h4
          have f1 : -1439 ≤ z := by omega
          have f2 : z ≤ 1439 := by omega
          have f5 : -100000000000 ≤ s := by omega
          have f6 : s ≤ 1000000000000 := by omega
          obtain ⟨q, r, hq, hr, hs', hn, hp, r1, r2⟩ := tdiv_facts (s + z * 60)
          rw [show s + 60 * z = s + z * 60 by omega] at h
          have b1 : -30000000 ≤ q := by omega
          have b2 : q ≤ 30000000 := by omega
          have e5 : s + z * 60 - 86400 * q = r := by omega
          by_cases hr0 : r < 0
          · have d5 : decide (r < 0) = true := by simpa using hr0
            have HCI := hid (fun w => rcivil_no (q - 1) w (by have := (hn hr0).1; omega))
            clear hn hp hs' hr0 h h1 h2 h3 h4 hs hz
            go_enter Tryd.func15, Tryd.ntmps15
            go_wp2_with (go_at_call 11; (with_reducible refine (HCI.out _).mono ?_); rintro e w3 ⟨rfl, rfl⟩)
            go_ret3
            exact ⟨_, _, rfl, HB.out⟩
          · have d5 : decide (r < 0) = false := by simpa using hr0
            have HCI := hid (fun w => rcivil_no q w (by have := (hp hr0).1; omega))
            clear hn hp hs' hr0 h h1 h2 h3 h4 hs hz
            go_enter Tryd.func15, Tryd.ntmps15
            go_wp2_with (go_at_call 11; (with_reducible refine (HCI.out _).mono ?_); rintro e w3 ⟨rfl, rfl⟩)
            go_ret3
            exact ⟨_, _, rfl, HB.out⟩
/-- n digits. -/
def digL (v : Nat) : Nat → List UInt8
  | 0 => []
  | n + 1 => UInt8.ofNat (48 + v / 10 ^ n % 10) :: digL v n
theorem digL_len (v : Nat) : ∀ n, (digL v n).length = n
  | 0 => rfl
  | n + 1 => by rw [digL, List.length_cons, digL_len v n]
theorem dig_nat (d : Nat) (h : d < 10) : (UInt8.ofNat (48 + d)).toNat = 48 + d := UInt8.toNat_ofNat_of_lt' (by show 48 + d < 256; omega)
theorem ten_cut (d : Nat) (h : d < 10) : (⟨#[48, 49, 50, 51, 52, 53, 54, 55, 56, 57]⟩ : ByteArray).extract d (d + 1) = str [UInt8.ofNat (48 + d)] := by
  obtain rfl | rfl | rfl | rfl | rfl | rfl | rfl | rfl | rfl | rfl : d = 0 ∨ d = 1 ∨ d = 2 ∨ d = 3 ∨ d = 4 ∨ d = 5 ∨ d = 6 ∨ d = 7 ∨ d = 8 ∨ d = 9 := by omega
  all_goals rfl
set_option maxHeartbeats 2000000 in
theorem rdigits_any (v n : Nat) (w : World) (hv : v ≤ 10000000) (hn : n ≤ 8) :
    Calls Tryd.prog 36 #[.int .i64 (v : Int), .int .i64 (n : Int)] w fun e w' => e = .returned (.string (str (digL v n))) ∧ w = w' := by
  go_enter Tryd.func36, Tryd.ntmps36
  go_wp2
  go_loop [0, 5, 6] (fun a t i => ∃ k : Nat, k ≤ n ∧ i = .int .i64 (k : Int) ∧ t = .string (str (digL v k)) ∧ a = .int .i64 ((v / 10 ^ k : Nat) : Int)) (fun _ _ i => n - (intOf i).toNat)
  case atStart => exact ⟨0, by omega, rfl, rfl, by rw [Nat.pow_zero, Nat.div_one]⟩
  case round =>
    obtain ⟨k, hk, rfl, rfl, rfl⟩ := hrel
    by_cases hlt : k < n
    · skip
      have hq : v / 10 ^ k / 10 = v / 10 ^ (k + 1) := by rw [Nat.div_div_eq_div_mul, Nat.pow_succ]
      obtain ⟨u, hu⟩ : ∃ u, v / 10 ^ k = u := ⟨_, rfl⟩
      have hub : u ≤ 10000000 := by rw [← hu]; exact Nat.le_trans (Nat.div_le_self _ _) hv
      obtain ⟨d, hd⟩ : ∃ d, u % 10 = d := ⟨_, rfl⟩
      have hd10 : d < 10 := by rw [← hd]; exact Nat.mod_lt _ (by omega)
      have hxn := dig_nat d hd10
      have hex := ten_cut d hd10
      have hdl : UInt8.ofNat (48 + d) :: digL v k = digL v (k + 1) := by rw [digL, hu, hd]
      obtain ⟨x, hx⟩ : ∃ x, UInt8.ofNat (48 + d) = x := ⟨_, rfl⟩
      rw [hx] at hxn hex hdl
      have HQ := hid (show u / 10 = v / 10 ^ (k + 1) by rw [← hq, hu])
      obtain ⟨s, hs⟩ : ∃ s, digL v k = s := ⟨_, rfl⟩
      have hsl : (str s).size ≤ 10 := by rw [str_size, ← hs, digL_len]; omega
      rw [hs] at hdl
      have HD := hid hdl
      have HX := hid hxn
      have hx1 : (str [x]).size = 1 := rfl
      have hno : ¬ 9223372036854775807 < 1 + (str s).size := by omega
      have hap : str [x] ++ str s = str (x :: s) := str_append [x] s
      have m1 : (u : Int) % 10 = (d : Int) := by omega
      have m2 : Int.tmod (u : Int) 10 = (d : Int) := by rw [Int.tmod_eq_emod_of_nonneg (by omega)]; exact m1
      have hlt' : decide (k < n) = true := by simpa using hlt
      rw [hu, hs]
      clear hq hu hd hs hx hdl hxn
      have hi0 : (0 : Int) ≤ (d : Int) := by omega
      have hi1 : (d : Int) + 1 ≤ 10 := by omega
      have hi2 : (0 : Int) ≤ (d : Int) + 1 := by omega
      have hi3 : d ≤ d + 1 := by omega
      have hi4 : d + 1 ≤ 10 := by omega
      have hi5 : ((d : Int) + 1).toNat = d + 1 := by omega
      have hi6 : (d : Int) ≤ (d : Int) + 1 := by omega
      go_wp2
      go_round
      case rel => exact ⟨k + 1, by omega, by go_num, by rw [← HD.out], by rw [← HQ.out]; go_num⟩
      case measure => simp [intOf]; omega
    · have hlt' : decide (k < n) = false := by simpa using hlt
      obtain rfl : k = n := by omega
      go_wp2
      go_ret
      exact ⟨rfl, rfl⟩
theorem strP {W : World} {A : Option Addr} {n : Nat} {l : List UInt8} (c : Nat) (h : Oct W A n l) : (convert 87 9 (.slice A n c)).run Tryd.prog W = .ok (.string (str l)) W := run_string_oct c h Tryd.underlying87 Tryd.underlying5 Tryd.underlying9
set_option maxHeartbeats 2000000 in
theorem digits_any (v n : Nat) (w : World) (hv : v ≤ 10000000) (hn : n ≤ 8) :
    Calls Tryd.prog 31 #[.int .i64 (v : Int), .int .i64 (n : Int)] w fun e w' => e = .returned (.string (str (digL v n))) ∧ Below w.heap.size w w' := by
  go_enter Tryd.func31, Tryd.ntmps31
  go_wp2
  go_loopw [0, 5, 7] (fun a t i wr => ∃ k : Nat, k ≤ n ∧ i = .int .i64 (k : Int) ∧ t = .string (str (digL v k)) ∧ a = .int .i64 ((v / 10 ^ k : Nat) : Int) ∧ Hid (Below w.heap.size w wr)) (fun _ _ i _ => n - (intOf i).toNat)
  case atStart => exact ⟨0, by omega, rfl, rfl, by rw [Nat.pow_zero, Nat.div_one], hid (Below.refl _ _)⟩
  case round =>
    obtain ⟨k, hk, rfl, rfl, rfl, hB⟩ := hrel
    by_cases hlt : k < n
    · skip
      have hq : v / 10 ^ k / 10 = v / 10 ^ (k + 1) := by rw [Nat.div_div_eq_div_mul, Nat.pow_succ]
      obtain ⟨u, hu⟩ : ∃ u, v / 10 ^ k = u := ⟨_, rfl⟩
      have hub : u ≤ 10000000 := by rw [← hu]; exact Nat.le_trans (Nat.div_le_self _ _) hv
      obtain ⟨d, hd⟩ : ∃ d, u % 10 = d := ⟨_, rfl⟩
      have hd10 : d < 10 := by rw [← hd]; exact Nat.mod_lt _ (by omega)
      have hxn := dig_nat d hd10
      have hex := ten_cut d hd10
      have hdl : UInt8.ofNat (48 + d) :: digL v k = digL v (k + 1) := by rw [digL, hu, hd]
      obtain ⟨x, hx⟩ : ∃ x, UInt8.ofNat (48 + d) = x := ⟨_, rfl⟩
      rw [hx] at hxn hex hdl
      have HQ := hid (show u / 10 = v / 10 ^ (k + 1) by rw [← hq, hu])
      obtain ⟨s, hs⟩ : ∃ s, digL v k = s := ⟨_, rfl⟩
      have hsl : (str s).size ≤ 10 := by rw [str_size, ← hs, digL_len]; omega
      rw [hs] at hdl
      have HD := hid hdl
      have HX := hid hxn
      have hx1 : (str [x]).size = 1 := rfl
      have hno : ¬ 9223372036854775807 < 1 + (str s).size := by omega
      have hap : str [x] ++ str s = str (x :: s) := str_append [x] s
      have m1 : (u : Int) % 10 = (d : Int) := by omega
      have m2 : Int.tmod (u : Int) 10 = (d : Int) := by rw [Int.tmod_eq_emod_of_nonneg (by omega)]; exact m1
      have hlt' : decide (k < n) = true := by simpa using hlt
      rw [hu, hs]
      clear hq hu hd hs hx hdl hxn
      have hcv : (convert 87 9 (.slice (some ⟨wr.heap.size, 0, none⟩) 1 1)).run Tryd.prog (wr.alloc (.cells #[.int .u8 (48 + (d : Int))] 5)) = .ok (.string (str [x])) (wr.alloc (.cells #[.int .u8 (48 + (d : Int))] 5)) := by
        have he : (48 + (d : Int)) = (x.toNat : Int) := by rw [HX.out]; omega
        rw [he]
        exact strP 1 (Oct.of_block [x] (heap_alloc_new wr _) rfl)
      have HB2 := hid (next hB.out ((Below.refl _ wr).alloc (Nat.le_refl _) (.cells #[.int .u8 (48 + (d : Int))] 5)))
      clear hex
      go_wp2
      go_roundw
      case rel => exact ⟨k + 1, by omega, by go_num, by rw [← HD.out], by rw [← HQ.out]; go_num, HB2⟩
      case measure => simp [intOf]; omega
    · have hlt' : decide (k < n) = false := by simpa using hlt
      obtain rfl : k = n := by omega
      go_wp2
      go_ret
      exact ⟨rfl, hB.out⟩
/-- The months. -/
def monL (i : Nat) : List UInt8 := ([[74, 97, 110], [70, 101, 98], [77, 97, 114], [65, 112, 114], [77, 97, 121], [74, 117, 110], [74, 117, 108], [65, 117, 103], [83, 101, 112], [79, 99, 116], [78, 111, 118], [68, 101, 99]] : List (List UInt8)).getD i []
theorem monL_len {i : Nat} (h : i < 12) : (monL i).length = 3 := by
  obtain rfl | rfl | rfl | rfl | rfl | rfl | rfl | rfl | rfl | rfl | rfl | rfl : i = 0 ∨ i = 1 ∨ i = 2 ∨ i = 3 ∨ i = 4 ∨ i = 5 ∨ i = 6 ∨ i = 7 ∨ i = 8 ∨ i = 9 ∨ i = 10 ∨ i = 11 := by omega
  all_goals rfl
def monV : Value := .agg #[.string ⟨#[74, 97, 110]⟩, .string ⟨#[70, 101, 98]⟩, .string ⟨#[77, 97, 114]⟩, .string ⟨#[65, 112, 114]⟩, .string ⟨#[77, 97, 121]⟩, .string ⟨#[74, 117, 110]⟩, .string ⟨#[74, 117, 108]⟩, .string ⟨#[65, 117, 103]⟩, .string ⟨#[83, 101, 112]⟩, .string ⟨#[79, 99, 116]⟩, .string ⟨#[78, 111, 118]⟩, .string ⟨#[68, 101, 99]⟩]
theorem months_any (w : World) :
    Calls Tryd.prog 33 #[] w fun e w' => e = .returned monV ∧ Below w.heap.size w w' := by
  go_enter Tryd.func33, Tryd.ntmps33
  go_wp2
  exact bodyPost_ret (v := monV) (by simp [results, Tryd.results33, go_sem, monV]) rfl ⟨rfl, (Below.refl _ _).alloc (Nat.le_refl _) _⟩
theorem index_mon (i : Nat) (h : i < 12) (w : World) : (Instr.index 66 monV (.int .i64 (i : Int))).run Tryd.prog w = .ok (.string (str (monL i))) w := by
  obtain rfl | rfl | rfl | rfl | rfl | rfl | rfl | rfl | rfl | rfl | rfl | rfl : i = 0 ∨ i = 1 ∨ i = 2 ∨ i = 3 ∨ i = 4 ∨ i = 5 ∨ i = 6 ∨ i = 7 ∨ i = 8 ∨ i = 9 ∨ i = 10 ∨ i = 11 := by omega
  all_goals kernel_rfl
end Go.Proofs.YtkjlkkaoaiphcaaDoor
