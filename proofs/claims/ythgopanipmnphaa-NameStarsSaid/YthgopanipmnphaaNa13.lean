/-
  The chapter's examples; a text no longer than is looked at. A part of the proof: see the head of the text that ends in 'Law'.
-/
import Derived.Test.YthgopanipmnphaaNa12
namespace Go.Proofs.Ythgopanipmnphaa
open Go.RowKit Go.Shelf
set_option linter.unusedVariables false

theorem few_any (l : List UInt8) (w : World) (hl : l.length ≤ 9223372036854775807) :
    Calls Try.prog 7 #[.string (str l)] w fun e w' => e = .returned (.string (str (l.take 70))) ∧ w' = w := by
  by_cases h : 70 < (str l).size
  · have hd : decide (70 < (str l).size) = true := by simpa using h
    have hex : (str l).extract 0 70 = str (l.take 70) := by rw [str_extract, List.drop_zero]
    have h70 : (70 : Int) ≤ ((str l).size : Int) := by omega
    go_enter Try.func7, Try.ntmps7
    go_wp2
    go_ret
    exact ⟨rfl, rfl⟩
  · have hd : decide (70 < (str l).size) = false := by simpa using h
    have ht : l.take 70 = l := List.take_of_length_le (by rw [str_size] at h; omega)
    have HT := hid ht
    clear ht
    go_enter Try.func7, Try.ntmps7
    go_wp2
    go_ret
    exact ⟨by rw [HT.out]; rfl, rfl⟩
theorem mv1 (w : World) (hG : GM w) : Calls Try.prog 11 #[.string ⟨#[97, 47, 98]⟩, .string ⟨#[97]⟩, .string ⟨#[99]⟩] w fun e w' => e = .returned (.tuple #[.string ⟨#[99, 47, 98]⟩, .int .i64 0]) ∧ Below w.heap.size w w' :=
  (move_any [97, 47, 98] [97] [99] w (by decide) (by decide) (by decide) hG).mono fun e w' ⟨he, hb⟩ => ⟨by
    rw [he, show moveL [97, 47, 98] [97] [99] = ([99, 47, 98], 0) by decide +kernel]
    rfl, hb⟩
theorem is1 (w : World) (hG : GM w) : Calls Try.prog 13 #[.string ⟨#[97, 47, 98]⟩] w fun e w' => e = .returned (.bool true) ∧ Below w.heap.size w w' :=
  (is_any [97, 47, 98] w (by decide) hG).mono fun e w' ⟨he, hb⟩ => ⟨by rw [he, show isL [97, 47, 98] = true by decide +kernel], hb⟩
theorem is2 (w : World) (hG : GM w) : Calls Try.prog 13 #[.string ⟨#[97, 47, 47, 98]⟩] w fun e w' => e = .returned (.bool false) ∧ Below w.heap.size w w' :=
  (is_any [97, 47, 47, 98] w (by decide) hG).mono fun e w' ⟨he, hb⟩ => ⟨by rw [he, show isL [97, 47, 47, 98] = false by decide +kernel], hb⟩
theorem is3 (w : World) (hG : GM w) : Calls Try.prog 13 #[.string ⟨#[]⟩] w fun e w' => e = .returned (.bool false) ∧ Below w.heap.size w w' :=
  (is_any [] w (by decide) hG).mono fun e w' ⟨he, hb⟩ => ⟨by rw [he, show isL [] = false by decide +kernel], hb⟩
theorem td1 (w : World) (hG : GM w) : Calls Try.prog 14 #[.string ⟨#[105, 110, 66, 111, 120, 47, 120]⟩] w fun e w' => e = .returned (.string ⟨#[73, 78, 66, 79, 88, 47, 120]⟩) ∧ Below w.heap.size w w' :=
  (told_any [105, 110, 66, 111, 120, 47, 120] w (by decide) hG).mono fun e w' ⟨he, hb⟩ => ⟨by
    rw [he, show toldL [105, 110, 66, 111, 120, 47, 120] = [73, 78, 66, 79, 88, 47, 120] by decide +kernel]
    rfl, hb⟩
theorem me1 (w : World) (hG : GM w) : Calls Try.prog 8 #[.string ⟨#[97, 47, 98]⟩, .string ⟨#[97, 47, 37]⟩] w fun e w' => e = .returned (.bool true) ∧ Below w.heap.size w w' :=
  (nameMeets_any [97, 47, 98] [97, 47, 37] w (by decide) (by decide) hG).mono fun e w' ⟨he, hb⟩ => ⟨by rw [he, show metB [97, 47, 98] [97, 47, 37] = true by decide +kernel], hb⟩
theorem me2 (w : World) (hG : GM w) : Calls Try.prog 8 #[.string ⟨#[97, 47, 98, 47, 99]⟩, .string ⟨#[97, 47, 37]⟩] w fun e w' => e = .returned (.bool false) ∧ Below w.heap.size w w' :=
  (nameMeets_any [97, 47, 98, 47, 99] [97, 47, 37] w (by decide) (by decide) hG).mono fun e w' ⟨he, hb⟩ => ⟨by rw [he, show metB [97, 47, 98, 47, 99] [97, 47, 37] = false by decide +kernel], hb⟩
theorem me3 (w : World) (hG : GM w) : Calls Try.prog 8 #[.string ⟨#[97, 47, 98, 47, 99]⟩, .string ⟨#[97, 42]⟩] w fun e w' => e = .returned (.bool true) ∧ Below w.heap.size w w' :=
  (nameMeets_any [97, 47, 98, 47, 99] [97, 42] w (by decide) (by decide) hG).mono fun e w' ⟨he, hb⟩ => ⟨by rw [he, show metB [97, 47, 98, 47, 99] [97, 42] = true by decide +kernel], hb⟩

set_option maxHeartbeats 1000000 in
theorem awake_any (w : World) (hG : GM w) :
    Calls Try.prog 10 #[] w fun e w' => e = .returned (.bool true) ∧ Below w.heap.size w w' := by
  have B := hid (Below.refl w.heap.size w)
  have HG := hid hG
  clear hG
  go_enter Try.func10, Try.ntmps10
  go_wp2_with (first
    | (go_at_call 11; (with_reducible refine (mv1 _ HG.out).mono ?_); rintro e w1 ⟨rfl, b1⟩; ((first | replace HG := HG.far b1 | replace HG := hid (HG.out.below b1) | skip); (first | replace B := B.far b1 | replace B := hid (B.out.below b1) | skip)); clear b1)
    | (go_at_call 13; (with_reducible refine (is1 _ HG.out).mono ?_); rintro e w1 ⟨rfl, b1⟩; ((first | replace HG := HG.far b1 | replace HG := hid (HG.out.below b1) | skip); (first | replace B := B.far b1 | replace B := hid (B.out.below b1) | skip)); clear b1)
    | (go_at_call 13; (with_reducible refine (is2 _ HG.out).mono ?_); rintro e w1 ⟨rfl, b1⟩; ((first | replace HG := HG.far b1 | replace HG := hid (HG.out.below b1) | skip); (first | replace B := B.far b1 | replace B := hid (B.out.below b1) | skip)); clear b1)
    | (go_at_call 13; (with_reducible refine (is3 _ HG.out).mono ?_); rintro e w1 ⟨rfl, b1⟩; ((first | replace HG := HG.far b1 | replace HG := hid (HG.out.below b1) | skip); (first | replace B := B.far b1 | replace B := hid (B.out.below b1) | skip)); clear b1)
    | (go_at_call 14; (with_reducible refine (td1 _ HG.out).mono ?_); rintro e w1 ⟨rfl, b1⟩; ((first | replace HG := HG.far b1 | replace HG := hid (HG.out.below b1) | skip); (first | replace B := B.far b1 | replace B := hid (B.out.below b1) | skip)); clear b1)
    | (go_at_call 8; (with_reducible refine (me1 _ HG.out).mono ?_); rintro e w1 ⟨rfl, b1⟩; ((first | replace HG := HG.far b1 | replace HG := hid (HG.out.below b1) | skip); (first | replace B := B.far b1 | replace B := hid (B.out.below b1) | skip)); clear b1)
    | (go_at_call 8; (with_reducible refine (me2 _ HG.out).mono ?_); rintro e w1 ⟨rfl, b1⟩; ((first | replace HG := HG.far b1 | replace HG := hid (HG.out.below b1) | skip); (first | replace B := B.far b1 | replace B := hid (B.out.below b1) | skip)); clear b1)
    | (go_at_call 8; (with_reducible refine (me3 _ HG.out).mono ?_); rintro e w1 ⟨rfl, b1⟩; ((first | replace HG := HG.far b1 | replace HG := hid (HG.out.below b1) | skip); (first | replace B := B.far b1 | replace B := hid (B.out.below b1) | skip)); clear b1))
  go_ret
  exact ⟨rfl, B.out⟩
end Go.Proofs.Ythgopanipmnphaa
