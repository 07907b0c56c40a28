/-
  The day that three texts tell: the walks. A part of the proof: see the head of the text that ends in 'Law'.
-/
import Derived.Test.YtkjlkkaoaiphcaaDoorDa11
namespace Go.Proofs.YtkjlkkaoaiphcaaDoor
open Go.RowKit Go.Shelf
set_option linter.unusedVariables false

instance (y m d : Nat) : Decidable (Vld y m d) := by unfold Vld; infer_instance
theorem okD_nat {y m d : Nat} (h : ¬ Vld y m d) : ¬ okD (y : Int) (m : Int) (d : Int) := by
  rintro ⟨a, b, c, h1, h2, h3, h4⟩
  obtain rfl : y = a := by omega
  obtain rfl : m = b := by omega
  obtain rfl : d = c := by omega
  exact h h4
/-- The day that a, b, c tell, and the error's number. -/
def dmy (y m d : Nat) : Int × Nat := if Vld y m d then (dayN y m d, 0) else (0, 4)
/-- The day that three texts tell, and the error's number. -/
def dayF (d m y : List UInt8) : Int × Nat := if numOk d = true ∧ numOk y = true ∧ d.length ≤ 2 ∧ y.length = 4 ∧ monF m ≠ 0 then dmy (numV y) (monF m) (numV d) else (0, 3)
theorem days_nat (y m d : Nat) (w : World) : Calls Tryd.prog 8 #[.int .i64 (y : Int), .int .i64 (m : Int), .int .i64 (d : Int)] w fun e w' => e = .returned (.tuple #[.int .i64 (dmy y m d).1, .int .i64 ((dmy y m d).2 : Int)]) ∧ w = w' := by
  unfold dmy
  by_cases h : Vld y m d
  · rw [if_pos h]; exact days_yes y m d w h
  · rw [if_neg h]; exact days_no y m d w (okD_nat h)
theorem dmy_range (y m d : Nat) : -719162 ≤ (dmy y m d).1 ∧ (dmy y m d).1 ≤ 2932896 := by
  unfold dmy
  split
  · rename_i h
    exact dayN_range h
  · exact ⟨by omega, by omega⟩
theorem dayF_bad {d m y : List UInt8} (h : ¬ (numOk d = true ∧ numOk y = true ∧ d.length ≤ 2 ∧ y.length = 4 ∧ monF m ≠ 0)) : dayF d m y = (0, 3) := by unfold dayF; rw [if_neg h]
theorem dayF_good {d m y : List UInt8} (h1 : numOk d = true) (h2 : numOk y = true) (h3 : d.length ≤ 2) (h4 : y.length = 4) (h5 : monF m ≠ 0) : dayF d m y = dmy (numV y) (monF m) (numV d) := by unfold dayF; rw [if_pos ⟨h1, h2, h3, h4, h5⟩]
theorem num_ok {l : List UInt8} (h : numOk l = true) (k : Nat) (hl : l.length ≤ k) (hk : k ≤ 9) : numV l < 1000000000 := by
  unfold numOk at h
  rw [Bool.and_eq_true] at h
  exact numV_lt9 h.1 rfl (by omega)
set_option maxHeartbeats 4000000 in
theorem day_any (d m y : List UInt8) (w : World) (hd : d.length ≤ 100000) (hm : m.length ≤ 100000) (hy : y.length ≤ 100000) :
    Calls Tryd.prog 40 #[.string (str d), .string (str m), .string (str y)] w fun e w' => e = .returned (.tuple #[.int .i64 (dayF d m y).1, .int .i64 ((dayF d m y).2 : Int)]) ∧ Below w.heap.size w w' := by
  have hnd : ∀ (b : Bool), numOk d = b → ∀ w, Calls Tryd.prog 53 #[.string (str d)] w fun e w' => ∃ X : Int, e = .returned (.tuple #[.int .i64 X, .bool b]) ∧ (numOk d = true → d.length ≤ 9 → X = numV d) ∧ w = w' := fun b hb w => by have := number_any d w hd; unfold NumPost at this; rw [hb] at this; rw [hb]; exact this
  have hny : ∀ (b : Bool), numOk y = b → ∀ w, Calls Tryd.prog 53 #[.string (str y)] w fun e w' => ∃ X : Int, e = .returned (.tuple #[.int .i64 X, .bool b]) ∧ (numOk y = true → y.length ≤ 9 → X = numV y) ∧ w = w' := fun b hb w => by have := number_any y w hy; unfold NumPost at this; rw [hb] at this; rw [hb]; exact this
  have hmo := fun w => month_any m w hm
  have hml := monF_le m
  have hsd : (str d).size ≤ 100000 := hd
  have hsy : (str y).size ≤ 100000 := hy
  by_cases h1 : numOk d = true
  · have HND := hid (hnd true h1)
    by_cases h2 : numOk y = true
    · have HNY := hid (hny true h2)
      by_cases h3 : 2 < (str d).size
      · have d3 : decide (2 < (str d).size) = true := by simpa using h3
        have d3' : decide ((2 : Int) < ((str d).size : Int)) = true := by simp; omega
        have HB := hid (dayF_bad (d := d) (m := m) (y := y) (by rintro ⟨_, _, h, _, _⟩; rw [str_size] at h3; omega))
        have HMO := hid hmo
        clear hnd hny hmo h1 h2 h3
        go_enter Tryd.func40, Tryd.ntmps40
        go_wp2_with (first
          | (go_at_call 53; (with_reducible refine (HND.out _).mono ?_); rintro e w1 ⟨X1, rfl, hX1, rfl⟩; have HX1 := hid hX1; clear hX1)
          | (go_at_call 53; (with_reducible refine (HNY.out _).mono ?_); rintro e w1 ⟨X2, rfl, hX2, rfl⟩; have HX2 := hid hX2; clear hX2)
          | (go_at_call 35; (with_reducible refine (HMO.out _).mono ?_); rintro e w2 ⟨rfl, b2⟩))
        go_ret2
        exact ⟨by rw [HB.out]; rfl, b2⟩
      · have d3 : decide (2 < (str d).size) = false := by simpa using h3
        have d3' : decide ((2 : Int) < ((str d).size : Int)) = false := by simp; omega
        by_cases h4 : (str y).size = 4
        · have d4 : (((str y).size : Int) != 4) = false := by rw [h4]; rfl
          have d4' : ((str y).size != 4) = false := by rw [h4]; rfl
          obtain ⟨k, hk⟩ : ∃ k, monF m = k := ⟨_, rfl⟩
          rw [hk] at hmo hml
          have HMO := hid hmo
          by_cases h5 : k = 0
          · have d5 : ((k : Int) == 0) = true := by simp; omega
            have d5' : (k == 0) = true := by simpa using h5
            have HB := hid (dayF_bad (d := d) (m := m) (y := y) (by rintro ⟨_, _, _, _, h⟩; omega))
            clear hnd hny hmo h1 h2 h3 h4 h5 hk
            go_enter Tryd.func40, Tryd.ntmps40
            go_wp2_with (first
              | (go_at_call 53; (with_reducible refine (HND.out _).mono ?_); rintro e w1 ⟨X1, rfl, hX1, rfl⟩; have HX1 := hid hX1; clear hX1)
              | (go_at_call 53; (with_reducible refine (HNY.out _).mono ?_); rintro e w1 ⟨X2, rfl, hX2, rfl⟩; have HX2 := hid hX2; clear hX2)
              | (go_at_call 35; (with_reducible refine (HMO.out _).mono ?_); rintro e w2 ⟨rfl, b2⟩))
            go_ret2
            exact ⟨by rw [HB.out]; rfl, b2⟩
          · have d5 : ((k : Int) == 0) = false := by simp; omega
            have d5' : (k == 0) = false := by simpa using h5
            have hg := dayF_good (d := d) (m := m) (y := y) h1 h2 (by rw [str_size] at h3; omega) (by rw [str_size] at h4; exact h4) (by omega)
            rw [hk] at hg
            rw [hg]
            have HD9 := hid (show d.length ≤ 9 by rw [str_size] at h3; omega)
            have HY9 := hid (show y.length ≤ 9 by rw [str_size] at h4; omega)
            have HDD := hid (fun w => days_nat (numV y) k (numV d) w)
            have H1 := hid h1
            have H2 := hid h2
            clear hnd hny hmo h1 h2 h3 h4 h5 hk hg
            go_enter Tryd.func40, Tryd.ntmps40
            go_wp2_with (first
              | (go_at_call 53; (with_reducible refine (HND.out _).mono ?_); rintro e w1 ⟨X1, rfl, hX1, rfl⟩; obtain rfl := hX1 H1.out HD9.out)
              | (go_at_call 53; (with_reducible refine (HNY.out _).mono ?_); rintro e w1 ⟨X2, rfl, hX2, rfl⟩; obtain rfl := hX2 H2.out HY9.out)
              | (go_at_call 35; (with_reducible refine (HMO.out _).mono ?_); rintro e w2 ⟨rfl, b2⟩)
              | (go_at_call 8; (with_reducible refine (HDD.out _).mono ?_); rintro e w3 ⟨rfl, rfl⟩))
            go_ret2
            exact ⟨rfl, b2⟩
        · have d4 : (((str y).size : Int) != 4) = true := by simp; omega
          have d4' : ((str y).size != 4) = true := by simpa using h4
          have HB := hid (dayF_bad (d := d) (m := m) (y := y) (by rintro ⟨_, _, _, h, _⟩; rw [str_size] at h4; omega))
          have HMO := hid hmo
          clear hnd hny hmo h1 h2 h3 h4
          go_enter Tryd.func40, Tryd.ntmps40
          go_wp2_with (first
            | (go_at_call 53; (with_reducible refine (HND.out _).mono ?_); rintro e w1 ⟨X1, rfl, hX1, rfl⟩; have HX1 := hid hX1; clear hX1)
            | (go_at_call 53; (with_reducible refine (HNY.out _).mono ?_); rintro e w1 ⟨X2, rfl, hX2, rfl⟩; have HX2 := hid hX2; clear hX2)
            | (go_at_call 35; (with_reducible refine (HMO.out _).mono ?_); rintro e w2 ⟨rfl, b2⟩))
          go_ret2
          exact ⟨by rw [HB.out]; rfl, b2⟩
    · have h2' : numOk y = false := by simpa using h2
      have HNY := hid (hny false h2')
      have HB := hid (dayF_bad (d := d) (m := m) (y := y) (by rintro ⟨_, h, _⟩; exact h2 h))
      have HMO := hid hmo
      clear hnd hny hmo h1 h2 h2'
      go_enter Tryd.func40, Tryd.ntmps40
      go_wp2_with (first
        | (go_at_call 53; (with_reducible refine (HND.out _).mono ?_); rintro e w1 ⟨X1, rfl, hX1, rfl⟩; have HX1 := hid hX1; clear hX1)
        | (go_at_call 53; (with_reducible refine (HNY.out _).mono ?_); rintro e w1 ⟨X2, rfl, hX2, rfl⟩; have HX2 := hid hX2; clear hX2)
        | (go_at_call 35; (with_reducible refine (HMO.out _).mono ?_); rintro e w2 ⟨rfl, b2⟩))
      go_ret2
      exact ⟨by rw [HB.out]; rfl, b2⟩
  · have h1' : numOk d = false := by simpa using h1
    have HND := hid (hnd false h1')
    have HNY := hid (hny _ rfl)
    have HB := hid (dayF_bad (d := d) (m := m) (y := y) (by rintro ⟨h, _⟩; exact h1 h))
    have HMO := hid hmo
    clear hnd hny hmo h1 h1'
    go_enter Tryd.func40, Tryd.ntmps40
    go_wp2_with (first
      | (go_at_call 53; (with_reducible refine (HND.out _).mono ?_); rintro e w1 ⟨X1, rfl, hX1, rfl⟩; have HX1 := hid hX1; clear hX1)
      | (go_at_call 53; (with_reducible refine (HNY.out _).mono ?_); rintro e w1 ⟨X2, rfl, hX2, rfl⟩; have HX2 := hid hX2; clear hX2)
      | (go_at_call 35; (with_reducible refine (HMO.out _).mono ?_); rintro e w2 ⟨rfl, b2⟩))
    go_ret2
    exact ⟨by rw [HB.out]; rfl, b2⟩
end Go.Proofs.YtkjlkkaoaiphcaaDoor
