/-
  Told and Under: the document's and the program's. A part of the proof: see the head of the text that ends in 'Law'.
-/
import Derived.Test.YthgopanipmnphaaNa6
namespace Go.Proofs.Ythgopanipmnphaa
open Go.RowKit Go.Shelf
set_option linter.unusedVariables false

/-- A name as it is told. -/
def toldL (l : List UInt8) : List UInt8 := if isL l = true then inboxL l else l
theorem toldL_length (l : List UInt8) : (toldL l).length = l.length := by
  unfold toldL
  split
  · exact inboxL_length l
  · rfl
/-- Is a name under another one? -/
def underL (s t : List UInt8) : Bool := isL s && isL t && Lib.hasPrefix (toldL s) (toldL t ++ [47])

theorem refTold_any (l : List UInt8) (w : World) (hl : l.length ≤ 100000) :
    Calls Try.prog 19 #[.string (str l)] w fun e w' => e = .returned (.string (str (toldL l))) ∧ Below w.heap.size w w' := by
  have B := hid (Below.refl w.heap.size w)
  cases h : isL l with
  | true =>
    have ht : toldL l = inboxL l := if_pos h
    have H := hid h
    rw [ht]
    clear h ht
    go_enter Try.func19, Try.ntmps19
    go_wp2_with (first
      | (go_at_call 18; refine (refIs_any l _ hl).mono ?_; rw [H.out]; rintro e w1 ⟨rfl, b1⟩; ((first | replace HG := HG.far b1 | replace HG := hid (HG.out.below b1) | skip); (first | replace B := B.far b1 | replace B := hid (B.out.below b1) | skip)); clear b1)
      | (go_at_call 20; refine (refInbox_any l _ hl).mono ?_; rintro e w1 ⟨rfl, b1⟩; ((first | replace HG := HG.far b1 | replace HG := hid (HG.out.below b1) | skip); (first | replace B := B.far b1 | replace B := hid (B.out.below b1) | skip)); clear b1))
    go_ret
    exact ⟨rfl, B.out⟩
  | false =>
    have ht : toldL l = l := if_neg (by rw [h]; decide)
    have H := hid h
    rw [ht]
    clear h ht
    go_enter Try.func19, Try.ntmps19
    go_wp2_with (go_at_call 18; refine (refIs_any l _ hl).mono ?_; rw [H.out]; rintro e w1 ⟨rfl, b1⟩; ((first | replace HG := HG.far b1 | replace HG := hid (HG.out.below b1) | skip); (first | replace B := B.far b1 | replace B := hid (B.out.below b1) | skip)); clear b1)
    go_ret
    exact ⟨rfl, B.out⟩
theorem told_any (l : List UInt8) (w : World) (hl : l.length ≤ 100000) (hG : GM w) :
    Calls Try.prog 14 #[.string (str l)] w fun e w' => e = .returned (.string (str (toldL l))) ∧ Below w.heap.size w w' := by
  have B := hid (Below.refl w.heap.size w)
  have HG := hid hG
  clear hG
  cases h : isL l with
  | true =>
    have ht : toldL l = inboxL l := if_pos h
    have H := hid h
    rw [ht]
    clear h ht
    go_enter Try.func14, Try.ntmps14
    go_wp2_with (first
      | (go_at_call 13; refine (is_any l _ hl HG.out).mono ?_; rw [H.out]; rintro e w1 ⟨rfl, b1⟩; ((first | replace HG := HG.far b1 | replace HG := hid (HG.out.below b1) | skip); (first | replace B := B.far b1 | replace B := hid (B.out.below b1) | skip)); clear b1)
      | (go_at_call 17; refine (inbox_any l _ hl HG.out).mono ?_; rintro e w1 ⟨rfl, b1⟩; ((first | replace HG := HG.far b1 | replace HG := hid (HG.out.below b1) | skip); (first | replace B := B.far b1 | replace B := hid (B.out.below b1) | skip)); clear b1))
    go_ret
    exact ⟨rfl, B.out⟩
  | false =>
    have ht : toldL l = l := if_neg (by rw [h]; decide)
    have H := hid h
    rw [ht]
    clear h ht
    go_enter Try.func14, Try.ntmps14
    go_wp2_with (go_at_call 13; refine (is_any l _ hl HG.out).mono ?_; rw [H.out]; rintro e w1 ⟨rfl, b1⟩; ((first | replace HG := HG.far b1 | replace HG := hid (HG.out.below b1) | skip); (first | replace B := B.far b1 | replace B := hid (B.out.below b1) | skip)); clear b1)
    go_ret
    exact ⟨rfl, B.out⟩
theorem hasPrefix_e (s p : List UInt8) (w : World) :
    Calls Try.prog 25 #[.string (str s), .string (str p)] w fun e w' => e = .returned (.bool (Lib.hasPrefix s p)) ∧ w' = w := by
  have h := Try.strings_HasPrefix (str s) (str p) w
  rw [str_toList, str_toList] at h
  exact h
theorem str_stroke (l : List UInt8) : str l ++ (⟨#[47]⟩ : ByteArray) = str (l ++ [47]) := str_append l [47]
set_option maxHeartbeats 1000000 in
theorem under_any (s t : List UInt8) (w : World) (hs : s.length ≤ 100000) (ht : t.length ≤ 100000) (hG : GM w) :
    Calls Try.prog 15 #[.string (str s), .string (str t)] w fun e w' => e = .returned (.bool (underL s t)) ∧ Below w.heap.size w w' := by
  have B := hid (Below.refl w.heap.size w)
  have HG := hid hG
  clear hG
  cases h1 : isL s with
  | false =>
    have hu : underL s t = false := by unfold underL; rw [h1]; rfl
    have H1 := hid h1
    rw [hu]
    clear h1 hu
    go_enter Try.func15, Try.ntmps15
    go_wp2_with (go_at_call 13; (with_reducible refine (is_any s _ hs HG.out).mono ?_); rw [H1.out]; rintro e w1 ⟨rfl, b1⟩; ((first | replace HG := HG.far b1 | replace HG := hid (HG.out.below b1) | skip); (first | replace B := B.far b1 | replace B := hid (B.out.below b1) | skip)); clear b1)
    go_ret
    exact ⟨rfl, B.out⟩
  | true =>
    cases h2 : isL t with
    | false =>
      have hu : underL s t = false := by unfold underL; rw [h1, h2]; rfl
      have H1 := hid h1
      have H2 := hid h2
      rw [hu]
      clear h1 h2 hu
      go_enter Try.func15, Try.ntmps15
      go_wp2_with (first
        | (go_at_call 13; (with_reducible refine (is_any s _ hs HG.out).mono ?_); rw [H1.out]; rintro e w1 ⟨rfl, b1⟩; ((first | replace HG := HG.far b1 | replace HG := hid (HG.out.below b1) | skip); (first | replace B := B.far b1 | replace B := hid (B.out.below b1) | skip)); clear b1)
        | (go_at_call 13; (with_reducible refine (is_any t _ ht HG.out).mono ?_); rw [H2.out]; rintro e w1 ⟨rfl, b1⟩; ((first | replace HG := HG.far b1 | replace HG := hid (HG.out.below b1) | skip); (first | replace B := B.far b1 | replace B := hid (B.out.below b1) | skip)); clear b1))
      go_ret
      exact ⟨rfl, B.out⟩
    | true =>
      have hu : underL s t = Lib.hasPrefix (toldL s) (toldL t ++ [47]) := by unfold underL; rw [h1, h2]; rfl
      have H1 := hid h1
      have H2 := hid h2
      rw [hu]
      have hap := str_stroke (toldL t)
      have hsz : (str (toldL t)).size ≤ 100000 := by rw [str_size, toldL_length]; exact ht
      have hno : ¬ 9223372036854775807 < (str (toldL t)).size + 1 := by omega
      clear h1 h2 hu
      go_enter Try.func15, Try.ntmps15
      go_wp2_with (first
        | (go_at_call 13; (with_reducible refine (is_any s _ hs HG.out).mono ?_); rw [H1.out]; rintro e w1 ⟨rfl, b1⟩; ((first | replace HG := HG.far b1 | replace HG := hid (HG.out.below b1) | skip); (first | replace B := B.far b1 | replace B := hid (B.out.below b1) | skip)); clear b1)
        | (go_at_call 13; (with_reducible refine (is_any t _ ht HG.out).mono ?_); rw [H2.out]; rintro e w1 ⟨rfl, b1⟩; ((first | replace HG := HG.far b1 | replace HG := hid (HG.out.below b1) | skip); (first | replace B := B.far b1 | replace B := hid (B.out.below b1) | skip)); clear b1)
        | (go_at_call 14; (with_reducible refine (told_any s _ hs HG.out).mono ?_); rintro e w1 ⟨rfl, b1⟩; ((first | replace HG := HG.far b1 | replace HG := hid (HG.out.below b1) | skip); (first | replace B := B.far b1 | replace B := hid (B.out.below b1) | skip)); clear b1)
        | (go_at_call 14; (with_reducible refine (told_any t _ ht HG.out).mono ?_); rintro e w1 ⟨rfl, b1⟩; ((first | replace HG := HG.far b1 | replace HG := hid (HG.out.below b1) | skip); (first | replace B := B.far b1 | replace B := hid (B.out.below b1) | skip)); clear b1)
        | (go_at_call 25; refine (hasPrefix_e (toldL s) (toldL t ++ [47]) _).mono ?_; rintro e w1 ⟨rfl, rfl⟩))
      go_ret
      exact ⟨rfl, B.out⟩
end Go.Proofs.Ythgopanipmnphaa
