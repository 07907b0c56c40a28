/-
  NameOwn: the walk. A part of the proof: see the head of the text that ends in 'Law'.
-/
import Derived.Test.YthgopanipmnphaaNa14
import Derived.Test.YthgopanipmnphaaNaPlain5
namespace Go.Proofs.Ythgopanipmnphaa
open Go.RowKit Go.Shelf
set_option linter.unusedVariables false

theorem metB_none (p : List UInt8) : metB [] p = false := by
  unfold metB
  rw [show isL [] = false by decide +kernel]
  rfl
theorem meetsE {a b : List UInt8} {r : Bool} (hr : metB a b = r) (ha : a.length ≤ 1000) (hb : b.length ≤ 1000) (w : World) (hG : GM w) :
    Calls Try.prog 8 #[.string (str a), .string (str b)] w fun e w' => e = .returned (.bool r) ∧ Below w.heap.size w w' := by
  have h := nameMeets_any a b w ha hb hG
  rw [hr] at h
  exact h

set_option maxHeartbeats 1000000 in
theorem walkNameOwn (l q : List UInt8) (w : World) (hs : l.length ≤ maxLen) (hp : q.length ≤ maxLen) (hG : GM w) :
    Calls Try.prog 6 #[.string (str l), .string (str q)] w fun e w' => e = .returned (.bool true) ∧ Below w.heap.size w w' := by
  have B := hid (Below.refl w.heap.size w)
  have HG := hid hG
  have F1 := hid (fun w => few_any l w hs)
  have F2 := hid (fun w => few_any q w hp)
  have hl1 : (l.take 70).length ≤ 1000 := by rw [List.length_take]; omega
  have hq1 : (q.take 70).length ≤ 1000 := by rw [List.length_take]; omega
  generalize l.take 70 = a at *
  generalize q.take 70 = b at *
  clear hG hs hp
  obtain ⟨ra, hra⟩ : ∃ r, isL a = r := ⟨_, rfl⟩
  obtain ⟨rb, hrb⟩ : ∃ r, isL b = r := ⟨_, rfl⟩
  have C1 := hid (fun w (hG : GM w) => by have h := is_any a w (by omega) hG; rw [hra] at h; exact h)
  have C2 := hid (fun w (hG : GM w) => by have h := is_any b w (by omega) hG; rw [hrb] at h; exact h)
  cases hg : (ra && rb) with
  | false =>
    have M0 : Hid (∀ w, GM w → Calls Try.prog 8 #[.string ⟨#[]⟩, .string (str a)] w fun e w' => e = .returned (.bool false) ∧ Below w.heap.size w w') := hid (fun w hG => meetsE (metB_none a) (by decide) hl1 w hG)
    have HA := hid hra
    have HB := hid hrb
    clear hra hrb
    go_enter Try.func6, Try.ntmps6
    cases ra <;> cases rb <;> first
      | (cases hg; done)
      | (clear hg
         go_wp2_with (first
           | (go_at_call 7; (with_reducible refine (F1.out _).mono ?_); rintro e w1 ⟨rfl, rfl⟩)
           | (go_at_call 7; (with_reducible refine (F2.out _).mono ?_); rintro e w1 ⟨rfl, rfl⟩)
           | (go_at_call 13; (with_reducible refine (C1.out _ HG.out).mono ?_); rintro e w1 ⟨rfl, b1⟩; ((first | replace HG := HG.far b1 | replace HG := hid (HG.out.below b1) | skip); (first | replace B := B.far b1 | replace B := hid (B.out.below b1) | skip)); clear b1)
           | (go_at_call 13; (with_reducible refine (C2.out _ HG.out).mono ?_); rintro e w1 ⟨rfl, b1⟩; ((first | replace HG := HG.far b1 | replace HG := hid (HG.out.below b1) | skip); (first | replace B := B.far b1 | replace B := hid (B.out.below b1) | skip)); clear b1)
           | (go_at_call 8; (with_reducible refine (M0.out _ HG.out).mono ?_); rintro e w1 ⟨rfl, b1⟩; ((first | replace HG := HG.far b1 | replace HG := hid (HG.out.below b1) | skip); (first | replace B := B.far b1 | replace B := hid (B.out.below b1) | skip)); clear b1)
           | (go_at_call 10; (with_reducible refine (awake_any _ HG.out).mono ?_); rintro e w1 ⟨rfl, b1⟩; ((first | replace HG := HG.far b1 | replace HG := hid (HG.out.below b1) | skip); (first | replace B := B.far b1 | replace B := hid (B.out.below b1) | skip)); clear b1))
         go_ret
         exact ⟨rfl, B.out⟩)
  | true =>
    rw [Bool.and_eq_true] at hg
    obtain ⟨rfl, rfl⟩ := hg
    obtain ⟨x, hx⟩ : ∃ x, toldL a = x := ⟨_, rfl⟩
    obtain ⟨y, hy⟩ : ∃ y, toldL b = y := ⟨_, rfl⟩
    obtain ⟨u, hu⟩ : ∃ u, upL a = u := ⟨_, rfl⟩
    obtain ⟨r1, hr1⟩ : ∃ r, (x == y) = r := ⟨_, rfl⟩
    obtain ⟨r2, hr2⟩ : ∃ r, (u == []) = r := ⟨_, rfl⟩
    have hr1' : (str x == str y) = r1 := by rw [str_beq]; exact hr1
    have hr2' : (str u == (⟨#[]⟩ : ByteArray)) = r2 := by rw [show (⟨#[]⟩ : ByteArray) = str [] from rfl, str_beq]; exact hr2
    have T1 := hid (fun w (hG : GM w) => by have h := told_any a w (by omega) hG; rw [hx] at h; exact h)
    have T2 := hid (fun w (hG : GM w) => by have h := told_any b w (by omega) hG; rw [hy] at h; exact h)
    have U1 := hid (fun w (hG : GM w) => by have h := up_any a w (by omega) hG; rw [hu] at h; exact h)
    have M1 : Hid (∀ w, GM w → Calls Try.prog 8 #[.string (str a), .string ⟨#[42]⟩] w fun e w' => e = .returned (.bool true) ∧ Below w.heap.size w w') := hid (fun w hG => meetsE (own_star hra) hl1 (by decide) w hG)
    have M2 : Hid (∀ w, GM w → Calls Try.prog 8 #[.string (str a), .string ⟨#[37]⟩] w fun e w' => e = .returned (.bool r2) ∧ Below w.heap.size w w') := hid (fun w hG => meetsE (by rw [own_part hra, hu]; exact hr2) hl1 (by decide) w hG)
    have M3 : Hid (∀ w, GM w → Calls Try.prog 8 #[.string (str b), .string (str a)] w fun e w' => e = .returned (.bool r1) ∧ Below w.heap.size w w') := hid (fun w hG => meetsE (by rw [own_self hra hrb, hx, hy]; exact hr1) hq1 hl1 w hG)
    have M4 : Hid (∀ w, GM w → Calls Try.prog 8 #[.string (str a), .string (str a)] w fun e w' => e = .returned (.bool true) ∧ Below w.heap.size w w') := hid (fun w hG => meetsE (by rw [own_self hra hra]; exact beq_self_eq_true _) hl1 hl1 w hG)
    have hb1 : (r1 == r1) = true := beq_self_eq_true _
    have hb2 : (r2 == r2) = true := beq_self_eq_true _
    clear hra hrb hx hy hu
    go_enter Try.func6, Try.ntmps6
    go_wp2_with (first
      | (go_at_call 7; (with_reducible refine (F1.out _).mono ?_); rintro e w1 ⟨rfl, rfl⟩)
      | (go_at_call 7; (with_reducible refine (F2.out _).mono ?_); rintro e w1 ⟨rfl, rfl⟩)
      | (go_at_call 13; (with_reducible refine (C1.out _ HG.out).mono ?_); rintro e w1 ⟨rfl, b1⟩; ((first | replace HG := HG.far b1 | replace HG := hid (HG.out.below b1) | skip); (first | replace B := B.far b1 | replace B := hid (B.out.below b1) | skip)); clear b1)
      | (go_at_call 13; (with_reducible refine (C2.out _ HG.out).mono ?_); rintro e w1 ⟨rfl, b1⟩; ((first | replace HG := HG.far b1 | replace HG := hid (HG.out.below b1) | skip); (first | replace B := B.far b1 | replace B := hid (B.out.below b1) | skip)); clear b1)
      | (go_at_call 14; (with_reducible refine (T1.out _ HG.out).mono ?_); rintro e w1 ⟨rfl, b1⟩; ((first | replace HG := HG.far b1 | replace HG := hid (HG.out.below b1) | skip); (first | replace B := B.far b1 | replace B := hid (B.out.below b1) | skip)); clear b1)
      | (go_at_call 14; (with_reducible refine (T2.out _ HG.out).mono ?_); rintro e w1 ⟨rfl, b1⟩; ((first | replace HG := HG.far b1 | replace HG := hid (HG.out.below b1) | skip); (first | replace B := B.far b1 | replace B := hid (B.out.below b1) | skip)); clear b1)
      | (go_at_call 16; (with_reducible refine (U1.out _ HG.out).mono ?_); rintro e w1 ⟨rfl, b1⟩; ((first | replace HG := HG.far b1 | replace HG := hid (HG.out.below b1) | skip); (first | replace B := B.far b1 | replace B := hid (B.out.below b1) | skip)); clear b1)
      | (go_at_call 8; (with_reducible refine (M1.out _ HG.out).mono ?_); rintro e w1 ⟨rfl, b1⟩; ((first | replace HG := HG.far b1 | replace HG := hid (HG.out.below b1) | skip); (first | replace B := B.far b1 | replace B := hid (B.out.below b1) | skip)); clear b1)
      | (go_at_call 8; (with_reducible refine (M2.out _ HG.out).mono ?_); rintro e w1 ⟨rfl, b1⟩; ((first | replace HG := HG.far b1 | replace HG := hid (HG.out.below b1) | skip); (first | replace B := B.far b1 | replace B := hid (B.out.below b1) | skip)); clear b1)
      | (go_at_call 8; (with_reducible refine (M3.out _ HG.out).mono ?_); rintro e w1 ⟨rfl, b1⟩; ((first | replace HG := HG.far b1 | replace HG := hid (HG.out.below b1) | skip); (first | replace B := B.far b1 | replace B := hid (B.out.below b1) | skip)); clear b1)
      | (go_at_call 8; (with_reducible refine (M4.out _ HG.out).mono ?_); rintro e w1 ⟨rfl, b1⟩; ((first | replace HG := HG.far b1 | replace HG := hid (HG.out.below b1) | skip); (first | replace B := B.far b1 | replace B := hid (B.out.below b1) | skip)); clear b1)
      | (go_at_call 10; (with_reducible refine (awake_any _ HG.out).mono ?_); rintro e w1 ⟨rfl, b1⟩; ((first | replace HG := HG.far b1 | replace HG := hid (HG.out.below b1) | skip); (first | replace B := B.far b1 | replace B := hid (B.out.below b1) | skip)); clear b1))
    go_ret
    exact ⟨rfl, B.out⟩
end Go.Proofs.Ythgopanipmnphaa
