/-
  The day that three texts tell, as the document says. A part of the proof: see the head of the text that ends in 'Law'.
-/
import Derived.Test.YtkjlkkaoaiphcaaDoorDa12
namespace Go.Proofs.YtkjlkkaoaiphcaaDoor
open Go.RowKit Go.Shelf
set_option linter.unusedVariables false

theorem rdays_nat (y m d : Nat) (w : World) : Calls Tryd.prog 9 #[.int .i64 (y : Int), .int .i64 (m : Int), .int .i64 (d : Int)] w fun e w' => e = .returned (.tuple #[.int .i64 (dmy y m d).1, .bool (decide (Vld y m d))]) ∧ w = w' := by
  unfold dmy
  by_cases h : Vld y m d
  · rw [if_pos h, decide_eq_true h]; exact rdays_yes y m d w h
  · rw [if_neg h, decide_eq_false h]; exact rdays_no y m d w (okD_nat h)
theorem rnum_no {l : List UInt8} (h : numOk l = false) (hl : l.length ≤ 100000) (w : World) : Calls Tryd.prog 38 #[.string (str l)] w fun e w' => e = .returned (.int .i64 (-1)) ∧ w = w' :=
  (rnumber_any l w hl).mono fun e w' ⟨X, he, h1, _, hw⟩ => ⟨by rw [he, h1 h], hw⟩
theorem rnum_yes {l : List UInt8} (h : numOk l = true) (hl : l.length ≤ 9) (w : World) : Calls Tryd.prog 38 #[.string (str l)] w fun e w' => e = .returned (.int .i64 (numV l : Int)) ∧ w = w' :=
  (rnumber_any l w (by omega)).mono fun e w' ⟨X, he, _, h2, hw⟩ => ⟨by rw [he, h2 h hl], hw⟩
theorem rnum_some {l : List UInt8} (hl : l.length ≤ 100000) (w : World) : Calls Tryd.prog 38 #[.string (str l)] w fun e w' => ∃ X : Int, e = .returned (.int .i64 X) ∧ w = w' :=
  (rnumber_any l w hl).mono fun e w' ⟨X, he, _, _, hw⟩ => ⟨X, he, hw⟩
set_option maxHeartbeats 4000000 in
theorem rday_any (d m y : List UInt8) (w : World) (hd : d.length ≤ 100000) (hm : m.length ≤ 100000) (hy : y.length ≤ 100000) :
    Calls Tryd.prog 42 #[.string (str d), .string (str m), .string (str y)] w fun e w' => e = .returned (.tuple #[.int .i64 (dayF d m y).1, .int .i64 ((dayF d m y).2 : Int)]) ∧ Below w.heap.size w w' := by
  have hmo := fun w => rmonth_any m w hm
  have hml := monF_le m
  have HW := hid (Below.refl w.heap.size w)
  have hsd : (str d).size ≤ 100000 := hd
  have hsy : (str y).size ≤ 100000 := hy
  by_cases h1 : numOk d = true
  · by_cases h2 : numOk y = true
    · by_cases h3 : 2 < (str d).size
      · have d3 : decide (2 < (str d).size) = true := by simpa using h3
        have d3' : decide ((2 : Int) < ((str d).size : Int)) = true := by simp; omega
        have HB := hid (dayF_bad (d := d) (m := m) (y := y) (by rintro ⟨_, _, h, _, _⟩; rw [str_size] at h3; omega))
        have HND := hid (fun w => rnum_some hd w)
        have HNY := hid (fun w => rnum_some hy w)
        clear hmo h1 h2 h3
        go_enter Tryd.func42, Tryd.ntmps42
        go_wp2_with (first
          | (go_at_call 38; (with_reducible refine (HND.out _).mono ?_); rintro e w1 ⟨X1, rfl, rfl⟩)
          | (go_at_call 38; (with_reducible refine (HNY.out _).mono ?_); rintro e w1 ⟨X2, rfl, rfl⟩))
        all_goals
          go_ret2
          exact ⟨by rw [HB.out]; rfl, by first | exact HW.out | exact b2⟩
      · have d3 : decide (2 < (str d).size) = false := by simpa using h3
        have d3' : decide ((2 : Int) < ((str d).size : Int)) = false := by simp; omega
        have hb := num_ok h1 2 (by rw [str_size] at h3; omega) (by omega)
        have HND := hid (fun w => rnum_yes h1 (by rw [str_size] at h3; omega) w)
        obtain ⟨a, ha⟩ : ∃ a, numV d = a := ⟨_, rfl⟩
        rw [ha] at HND hb
        by_cases h4 : (str y).size = 4
        · have d4 : (((str y).size : Int) != 4) = false := by rw [h4]; rfl
          have d4' : ((str y).size != 4) = false := by rw [h4]; rfl
          have hc := num_ok h2 4 (by rw [str_size] at h4; omega) (by omega)
          have HNY := hid (fun w => rnum_yes h2 (by rw [str_size] at h4; omega) w)
          obtain ⟨b, hb'⟩ : ∃ a, numV y = a := ⟨_, rfl⟩
          rw [hb'] at HNY hc
          obtain ⟨k, hk⟩ : ∃ k, monF m = k := ⟨_, rfl⟩
          rw [hk] at hmo hml
          have HMO := hid hmo
          by_cases h5 : k = 0
          · have d5 : ((k : Int) == 0) = true := by simp; omega
            have d5' : (k == 0) = true := by simpa using h5
            have HB := hid (dayF_bad (d := d) (m := m) (y := y) (by rintro ⟨_, _, _, _, h⟩; omega))
            clear hmo h1 h2 h3 h4 h5 hk ha hb'
            go_enter Tryd.func42, Tryd.ntmps42
            go_wp2_with (first
              | (go_at_call 38; (with_reducible refine (HND.out _).mono ?_); rintro e w1 ⟨rfl, rfl⟩)
              | (go_at_call 38; (with_reducible refine (HNY.out _).mono ?_); rintro e w1 ⟨rfl, rfl⟩)
              | (go_at_call 37; (with_reducible refine (HMO.out _).mono ?_); rintro e w2 ⟨rfl, b2⟩))
            all_goals
              go_ret2
              exact ⟨by rw [HB.out]; rfl, by first | exact HW.out | exact b2⟩
          · have d5 : ((k : Int) == 0) = false := by simp; omega
            have d5' : (k == 0) = false := by simpa using h5
            have hg := dayF_good (d := d) (m := m) (y := y) h1 h2 (by rw [str_size] at h3; omega) (by rw [str_size] at h4; exact h4) (by omega)
            rw [hk, ha, hb'] at hg
            rw [hg]
            have hdd := fun w => rdays_nat b k a w
            clear hmo h1 h2 h3 h4 h5 hk hg ha hb'
            unfold dmy at hdd ⊢
            by_cases hv : Vld b k a
            · rw [if_pos hv]
              rw [if_pos hv, decide_eq_true hv] at hdd
              have HDD := hid hdd
              clear hdd hv
              go_enter Tryd.func42, Tryd.ntmps42
              go_wp2_with (first
                | (go_at_call 38; (with_reducible refine (HND.out _).mono ?_); rintro e w1 ⟨rfl, rfl⟩)
                | (go_at_call 38; (with_reducible refine (HNY.out _).mono ?_); rintro e w1 ⟨rfl, rfl⟩)
                | (go_at_call 37; (with_reducible refine (HMO.out _).mono ?_); rintro e w2 ⟨rfl, b2⟩; have HW := hid (next HW.out b2); clear b2)
                | (go_at_call 9; (with_reducible refine (HDD.out _).mono ?_); rintro e w3 ⟨rfl, rfl⟩))
              go_ret2
              exact ⟨rfl, HW.out⟩
            · rw [if_neg hv]
              rw [if_neg hv, decide_eq_false hv] at hdd
              have HDD := hid hdd
              clear hdd hv
              go_enter Tryd.func42, Tryd.ntmps42
              go_wp2_with (first
                | (go_at_call 38; (with_reducible refine (HND.out _).mono ?_); rintro e w1 ⟨rfl, rfl⟩)
                | (go_at_call 38; (with_reducible refine (HNY.out _).mono ?_); rintro e w1 ⟨rfl, rfl⟩)
                | (go_at_call 37; (with_reducible refine (HMO.out _).mono ?_); rintro e w2 ⟨rfl, b2⟩; have HW := hid (next HW.out b2); clear b2)
                | (go_at_call 9; (with_reducible refine (HDD.out _).mono ?_); rintro e w3 ⟨rfl, rfl⟩))
              go_ret2
              exact ⟨rfl, HW.out⟩
        · have d4 : (((str y).size : Int) != 4) = true := by simp; omega
          have d4' : ((str y).size != 4) = true := by simpa using h4
          have HB := hid (dayF_bad (d := d) (m := m) (y := y) (by rintro ⟨_, _, _, h, _⟩; rw [str_size] at h4; omega))
          have HNY := hid (fun w => rnum_some hy w)
          clear hmo h1 h2 h3 h4 ha
          go_enter Tryd.func42, Tryd.ntmps42
          go_wp2_with (first
            | (go_at_call 38; (with_reducible refine (HND.out _).mono ?_); rintro e w1 ⟨rfl, rfl⟩)
            | (go_at_call 38; (with_reducible refine (HNY.out _).mono ?_); rintro e w1 ⟨X2, rfl, rfl⟩))
          all_goals
            go_ret2
            exact ⟨by rw [HB.out]; rfl, by first | exact HW.out | exact b2⟩
    · have h2' : numOk y = false := by simpa using h2
      have HND := hid (fun w => rnum_some hd w)
      have HNY := hid (fun w => rnum_no h2' hy w)
      have HB := hid (dayF_bad (d := d) (m := m) (y := y) (by rintro ⟨_, h, _⟩; exact h2 h))
      clear hmo h1 h2 h2'
      go_enter Tryd.func42, Tryd.ntmps42
      go_wp2_with (first
        | (go_at_call 38; (with_reducible refine (HND.out _).mono ?_); rintro e w1 ⟨X1, rfl, rfl⟩)
        | (go_at_call 38; (with_reducible refine (HNY.out _).mono ?_); rintro e w1 ⟨rfl, rfl⟩))
      all_goals
        go_ret2
        exact ⟨by rw [HB.out]; rfl, by first | exact HW.out | exact b2⟩
  · have h1' : numOk d = false := by simpa using h1
    have HND := hid (fun w => rnum_no h1' hd w)
    have HB := hid (dayF_bad (d := d) (m := m) (y := y) (by rintro ⟨h, _⟩; exact h1 h))
    clear hmo h1 h1'
    go_enter Tryd.func42, Tryd.ntmps42
    go_wp2_with (go_at_call 38; (with_reducible refine (HND.out _).mono ?_); rintro e w1 ⟨rfl, rfl⟩)
    all_goals
      go_ret2
      exact ⟨by rw [HB.out]; rfl, by first | exact HW.out | exact b2⟩
end Go.Proofs.YtkjlkkaoaiphcaaDoor
