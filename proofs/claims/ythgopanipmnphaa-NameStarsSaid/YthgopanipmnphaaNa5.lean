/-
  INBOX: the document's way, and the program's. A part of the proof: see the head of the text that ends in 'Law'.
-/
import Derived.Test.YthgopanipmnphaaNaPlain3
import Derived.Test.YthgopanipmnphaaNa3
import Derived.Test.YthgopanipmnphaaBytes
namespace Go.Proofs.Ythgopanipmnphaa
open Go.RowKit Go.Shelf
set_option linter.unusedVariables false

theorem cut0 (l : List UInt8) (w : World) (hl : l.length ≤ 100000) :
    Calls Try.prog 28 #[.string (str l), .int .u8 47] w fun e w' => ∃ g n d, Hid (0 < n) ∧ e = .returned (.slice (some ⟨g, 0, none⟩) n d) ∧ w'.cell? ⟨g, 0, none⟩ = some (.string (str (firstL l))) ∧ Below w.heap.size w w' :=
  (cut_any l 47 w hl).mono fun e w' ⟨A, n, d, he, hn, ho, hb⟩ => by
    have h0 : 0 < n := by rw [hn]; exact (cutF_pos 47 l).1
    obtain ⟨g, rfl, hg, og⟩ := own_row ho h0
    exact ⟨g, n, d, hid h0, he, og.cell (by rw [List.getElem?_map, cutF_head]; rfl), hb⟩
theorem alikeI (l : List UInt8) (w : World) (hl : l.length ≤ 100000) :
    Calls Try.prog 29 #[.string (str l), .string ⟨#[73, 78, 66, 79, 88]⟩] w fun e w' => e = .returned (.bool (decide (l.map upU = INBOX))) ∧ Below w.heap.size w w' :=
  (alike_any l INBOX w hl).mono fun e w' ⟨he, hb⟩ => ⟨by
    rw [he]
    have h : alikeL l INBOX = decide (l.map upU = INBOX) := by
      rw [Bool.eq_iff_iff, decide_eq_true_eq]
      exact (up_alike l).symm
    rw [h], hb⟩
theorem drop5 (l : List UInt8) : (str l).extract 5 (str l).size = str (l.drop 5) := by
  rw [str_extract, str_size, List.take_of_length_le (by simp)]

set_option maxHeartbeats 1000000 in
theorem refInbox_any (l : List UInt8) (w : World) (hl : l.length ≤ 100000) :
    Calls Try.prog 20 #[.string (str l)] w fun e w' => e = .returned (.string (str (inboxL l))) ∧ Below w.heap.size w w' := by
  have hfl := firstL_len l
  have hsz : (str l).size ≤ 100000 := hl
  by_cases h : (firstL l).map upU = INBOX
  · have h5 := inbox_len5 h
    have h5' : (5 : Int) ≤ ((str l).size : Int) := by rw [str_size]; omega
    have hd : decide ((firstL l).map upU = INBOX) = true := decide_eq_true h
    have he : Hid (inboxL l = INBOX ++ l.drop 5) := hid (by unfold inboxL; rw [if_pos h])
    have hex := drop5 l
    have hap : (⟨#[73, 78, 66, 79, 88]⟩ : ByteArray) ++ str (l.drop 5) = str (INBOX ++ l.drop 5) := str_append INBOX (l.drop 5)
    have hs2 : (str (l.drop 5)).size ≤ 100000 := by rw [str_size, List.length_drop]; omega
    have hno : ¬ 9223372036854775807 < (⟨#[73, 78, 66, 79, 88]⟩ : ByteArray).size + (str (l.drop 5)).size := by
      have : (⟨#[73, 78, 66, 79, 88]⟩ : ByteArray).size = 5 := rfl
      omega
    have hno2 : ¬ 9223372036854775807 < 5 + (str (l.drop 5)).size := by omega
    have HD := hid hd
    clear h hd
    go_enter Try.func20, Try.ntmps20
    go_wp2_with (first
      | (go_at_call 28; refine (cut0 l _ hl).mono ?_; rintro e w1 ⟨g, n, d, hn, rfl, hc, b1⟩; have hn1 : (0 : Int) < (n : Int) := by have := hn.out; omega)
      | (go_at_call 29; refine (alikeI (firstL l) _ (by omega)).mono ?_; rw [HD.out]; rintro e w2 ⟨rfl, b2⟩))
    go_ret
    exact ⟨by rw [he.out]; rfl, next b1 b2⟩
  · have hd : decide ((firstL l).map upU = INBOX) = false := decide_eq_false h
    have he : Hid (inboxL l = l) := hid (by unfold inboxL; rw [if_neg h])
    have HD := hid hd
    clear h hd
    go_enter Try.func20, Try.ntmps20
    go_wp2_with (first
      | (go_at_call 28; refine (cut0 l _ hl).mono ?_; rintro e w1 ⟨g, n, d, hn, rfl, hc, b1⟩; have hn1 : (0 : Int) < (n : Int) := by have := hn.out; omega)
      | (go_at_call 29; refine (alikeI (firstL l) _ (by omega)).mono ?_; rw [HD.out]; rintro e w2 ⟨rfl, b2⟩))
    go_ret
    exact ⟨by rw [he.out]; rfl, next b1 b2⟩
end Go.Proofs.Ythgopanipmnphaa
