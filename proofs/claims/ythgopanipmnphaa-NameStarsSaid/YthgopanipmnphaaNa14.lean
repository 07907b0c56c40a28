/-
  NameMeets and NameMoves: the walks. A part of the proof: see the head of the text that ends in 'Law'.
-/
import Derived.Test.YthgopanipmnphaaNa13
namespace Go.Proofs.Ythgopanipmnphaa
open Go.RowKit Go.Shelf
set_option linter.unusedVariables false

theorem gm_shaped (w : World) (h : w.ShapedOpen Try.prog) : GM w := Try.laysM144.s1_3 w h

set_option maxHeartbeats 1000000 in
theorem walkNameMeets (l q : List UInt8) (w : World) (hs : l.length ≤ maxLen) (hp : q.length ≤ maxLen) (hG : GM w) :
    Calls Try.prog 3 #[.string (str l), .string (str q)] w fun e w' => e = .returned (.bool true) ∧ Below w.heap.size w w' := by
  have B := hid (Below.refl w.heap.size w)
  have HG := hid hG
  have F1 := hid (fun w => few_any l w hs)
  have F2 := hid (fun w => few_any q w hp)
  have hl1 : (l.take 70).length ≤ 1000 := by rw [List.length_take]; omega
  have hq1 : (q.take 70).length ≤ 1000 := by rw [List.length_take]; omega
  generalize l.take 70 = a at *
  generalize q.take 70 = b at *
  clear hG hs hp
  obtain ⟨r, hr⟩ : ∃ r, metB a b = r := ⟨_, rfl⟩
  have M1 := hid (fun w hG => nameMeets_any a b w hl1 hq1 hG)
  have M2 := hid (fun w => refMeets_any a b w hl1 hq1)
  rw [hr] at M1 M2
  clear hr
  go_enter Try.func3, Try.ntmps3
  go_wp2_with (first
    | (go_at_call 7; (with_reducible refine (F1.out _).mono ?_); rintro e w1 ⟨rfl, rfl⟩)
    | (go_at_call 7; (with_reducible refine (F2.out _).mono ?_); rintro e w1 ⟨rfl, rfl⟩)
    | (go_at_call 8; (with_reducible refine (M1.out _ HG.out).mono ?_); rintro e w1 ⟨rfl, b1⟩; ((first | replace HG := HG.far b1 | replace HG := hid (HG.out.below b1) | skip); (first | replace B := B.far b1 | replace B := hid (B.out.below b1) | skip)); clear b1)
    | (go_at_call 9; (with_reducible refine (M2.out _).mono ?_); rintro e w1 ⟨rfl, b1⟩; ((first | replace HG := HG.far b1 | replace HG := hid (HG.out.below b1) | skip); (first | replace B := B.far b1 | replace B := hid (B.out.below b1) | skip)); clear b1)
    | (go_at_call 10; (with_reducible refine (awake_any _ HG.out).mono ?_); rintro e w1 ⟨rfl, b1⟩; ((first | replace HG := HG.far b1 | replace HG := hid (HG.out.below b1) | skip); (first | replace B := B.far b1 | replace B := hid (B.out.below b1) | skip)); clear b1))
  go_ret
  exact ⟨rfl, B.out⟩
set_option maxHeartbeats 1000000 in
theorem walkNameMoves (l q r : List UInt8) (w : World) (hs : l.length ≤ maxLen) (hf : q.length ≤ maxLen) (ht : r.length ≤ maxLen) (hG : GM w) :
    Calls Try.prog 4 #[.string (str l), .string (str q), .string (str r)] w fun e w' => e = .returned (.bool true) ∧ Below w.heap.size w w' := by
  have B := hid (Below.refl w.heap.size w)
  have HG := hid hG
  have F1 := hid (fun w => few_any l w hs)
  have F2 := hid (fun w => few_any q w hf)
  have F3 := hid (fun w => few_any r w ht)
  have hl1 : (l.take 70).length ≤ 1000 := by rw [List.length_take]; omega
  have hq1 : (q.take 70).length ≤ 1000 := by rw [List.length_take]; omega
  have hr1 : (r.take 70).length ≤ 1000 := by rw [List.length_take]; omega
  generalize l.take 70 = a at *
  generalize q.take 70 = b at *
  generalize r.take 70 = c at *
  clear hG hs hf ht
  have M1 := hid (fun w hG => move_any a b c w hl1 hq1 hr1 hG)
  have M2 := hid (fun w => refMove_any a b c w hl1 hq1 hr1)
  generalize moveL a b c = m at M1 M2
  obtain ⟨x, k⟩ := m
  simp only at M1 M2
  have hx1 : (x == x) = true := beq_self_eq_true x
  have hx2 : (str x == str x) = true := by rw [str_beq]; exact hx1
  have hk1 : ((k : Int) == (k : Int)) = true := beq_self_eq_true _
  go_enter Try.func4, Try.ntmps4
  go_wp2_with (first
    | (go_at_call 7; (with_reducible refine (F1.out _).mono ?_); rintro e w1 ⟨rfl, rfl⟩)
    | (go_at_call 7; (with_reducible refine (F2.out _).mono ?_); rintro e w1 ⟨rfl, rfl⟩)
    | (go_at_call 7; (with_reducible refine (F3.out _).mono ?_); rintro e w1 ⟨rfl, rfl⟩)
    | (go_at_call 11; (with_reducible refine (M1.out _ HG.out).mono ?_); rintro e w1 ⟨rfl, b1⟩; ((first | replace HG := HG.far b1 | replace HG := hid (HG.out.below b1) | skip); (first | replace B := B.far b1 | replace B := hid (B.out.below b1) | skip)); clear b1)
    | (go_at_call 12; (with_reducible refine (M2.out _).mono ?_); rintro e w1 ⟨rfl, b1⟩; ((first | replace HG := HG.far b1 | replace HG := hid (HG.out.below b1) | skip); (first | replace B := B.far b1 | replace B := hid (B.out.below b1) | skip)); clear b1)
    | (go_at_call 10; (with_reducible refine (awake_any _ HG.out).mono ?_); rintro e w1 ⟨rfl, b1⟩; ((first | replace HG := HG.far b1 | replace HG := hid (HG.out.below b1) | skip); (first | replace B := B.far b1 | replace B := hid (B.out.below b1) | skip)); clear b1))
  go_ret
  exact ⟨rfl, B.out⟩
end Go.Proofs.Ythgopanipmnphaa
