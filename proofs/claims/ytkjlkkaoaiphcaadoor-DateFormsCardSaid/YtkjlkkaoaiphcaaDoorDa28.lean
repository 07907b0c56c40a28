/-
  The law DateForms: its walk. A part of the proof: see the head of the text that ends in 'Law'.
-/
import Derived.Test.YtkjlkkaoaiphcaaDoorDa22
import Derived.Test.YtkjlkkaoaiphcaaDoorDa26
import Derived.Test.YtkjlkkaoaiphcaaDoorDa27
namespace Go.Proofs.YtkjlkkaoaiphcaaDoor
open Go.RowKit Go.Shelf
set_option linter.unusedVariables false
attribute [local go_sem] Oper.semAt_some

theorem parse_any (l : List UInt8) (w : World) (hl : l.length ≤ 100000) : Calls Tryd.prog 17 #[.string (str l)] w (PP w (parseF l).1.1 (parseF l).1.2 (parseF l).2) := by
  by_cases h : formB l
  · exact parse_form_yes l w h
  · rw [parse_bad3 (fun hq => h hq.1)]
    exact parse_form_no l w hl h
set_option maxRecDepth 100000 in
set_option maxHeartbeats 8000000 in
theorem walkDateForms (s z : Int) (l : List UInt8) (w : World) (hT : Lib.Utf8Tabs 0 1 w) (hs : -9223372036854775808 ≤ s ∧ s ≤ 9223372036854775807) (hz : -9223372036854775808 ≤ z ∧ z ≤ 9223372036854775807) (hl : l.length ≤ maxLen) :
    Calls Tryd.prog 5 #[.agg #[.int .i64 s, .int .i64 z], .string (str l)] w fun e w' => e = .returned (.bool true) ∧ Below w.heap.size w w' := by
  have HT := hid hT
  have HF := hid (fun w => few_any l w hl)
  obtain ⟨q, hq⟩ : ∃ q, l.take 200 = q := ⟨_, rfl⟩
  have hql : q.length ≤ 100000 := by rw [← hq, List.length_take]; omega
  rw [hq] at HF
  have Q1 := hid (fun w => parse_any q w hql)
  have Q2 := hid (fun w => rparse_any q w hql)
  obtain ⟨a, b, n, h1⟩ : ∃ a b n, parseF q = ((a, b), n) := ⟨_, _, _, rfl⟩
  rw [h1] at Q1 Q2
  dsimp only at Q1 Q2
  unfold PP at Q1 Q2
  obtain ⟨x0, x1⟩ := date_box w s z
  have B := hid (box_below w s z)
  clear hT hq hql h1 hl
  cases hm : mayD s z with
  | true =>
    have F1 := hid (fun w => format_yes s z w hm)
    have C1 := hid (fun w => clock_yes s z w hm)
    have M1 := hid (fun w => dmay_any s z w hs hz)
    have P1 := hid (fun w => parse_self hm w)
    have R1 := hid (fun w => rformat_any s z w hm)
    have D1 := hid (fun w => dday_any s z w hs hz)
    rw [if_pos hm] at D1
    rw [hm] at M1
    obtain ⟨A, hA⟩ : ∃ A, (s + 60 * z) / 86400 = A := ⟨_, rfl⟩
    obtain ⟨C, hC⟩ : ∃ C, (s + 60 * z) % 86400 = C := ⟨_, rfl⟩
    obtain ⟨F, hF⟩ : ∃ F, str (formL s z) = F := ⟨_, rfl⟩
    rw [hF] at F1 P1 R1
    rw [hA] at D1
    rw [hA, hC] at C1
    clear hm hs hz hA hC hF
    go_enter Tryd.func5, Tryd.ntmps5
    go_upto_region 7 with (first
      | (go_at_call 13; (with_reducible refine (HF.out _).mono ?_); rintro e w1 ⟨rfl, hw1⟩; subst hw1)
      | (go_at_call 14; (with_reducible refine (F1.out _).mono ?_); rintro e w2 ⟨rfl, b1⟩; have B := hid (next B.out b1); replace x0 := cells_keep b1 x0; replace x1 := cells_keep b1 x1; clear b1)
      | (go_at_call 15; (with_reducible refine (C1.out _).mono ?_); rintro e w3 ⟨rfl, b1⟩; have B := hid (next B.out b1); replace x0 := cells_keep b1 x0; replace x1 := cells_keep b1 x1; clear b1)
      | (go_at_call 16; (with_reducible refine (M1.out _).mono ?_); rintro e w4 ⟨rfl, b1⟩; have B := hid (next B.out b1); replace x0 := cells_keep b1 x0; replace x1 := cells_keep b1 x1; clear b1))
    go_wp2_with (first
      | (go_at_call 17; (with_reducible refine (P1.out _).mono ?_); rintro e w5 ⟨rfl, b1⟩; have B := hid (next (next B.out b1) ((Below.refl _ w5).alloc (Nat.le_refl _) (.cells #[.int .i64 s, .int .i64 z] 37))); replace x0 := cells_keep ((Below.refl _ w5).alloc (Nat.le_refl _) (.cells #[.int .i64 s, .int .i64 z] 37)) (cells_keep b1 x0); replace x1 := cells_keep ((Below.refl _ w5).alloc (Nat.le_refl _) (.cells #[.int .i64 s, .int .i64 z] 37)) (cells_keep b1 x1); have y0 := (date_box w5 s z).1; have y1 := (date_box w5 s z).2; clear b1)
      | (go_at_call 18; (with_reducible refine (R1.out _).mono ?_); rintro e w6 ⟨rfl, b1⟩; have B := hid (next B.out b1); replace x0 := cells_keep b1 x0; replace x1 := cells_keep b1 x1; replace y0 := cells_keep b1 y0; replace y1 := cells_keep b1 y1; clear b1)
      | (go_at_call 19; (with_reducible refine (D1.out _).mono ?_); rintro e w7 ⟨rfl, b1⟩; have B := hid (next B.out b1); replace x0 := cells_keep b1 x0; replace x1 := cells_keep b1 x1; clear b1)
      | (go_at_call 17; (with_reducible refine (Q1.out _).mono ?_); rintro e w8 ⟨rfl, b1⟩; have B := hid (next (next B.out b1) ((Below.refl _ w8).alloc (Nat.le_refl _) (.cells #[.int .i64 a, .int .i64 b] 37))); have u0 := (date_box w8 a b).1; have u1 := (date_box w8 a b).2; clear b1)
      | (go_at_call 20; (with_reducible refine (Q2.out _).mono ?_); rintro e w9 ⟨rfl, b1⟩; have B := hid (next (next B.out b1) ((Below.refl _ w9).alloc (Nat.le_refl _) (.cells #[.int .i64 a, .int .i64 b] 37))); have u0 := cells_keep ((Below.refl _ w9).alloc (Nat.le_refl _) (.cells #[.int .i64 a, .int .i64 b] 37)) (cells_keep b1 u0); have u1 := cells_keep ((Below.refl _ w9).alloc (Nat.le_refl _) (.cells #[.int .i64 a, .int .i64 b] 37)) (cells_keep b1 u1); have v0 := (date_box w9 a b).1; have v1 := (date_box w9 a b).2; clear b1)
      | (go_at_call 12; (with_reducible refine (awake_any _ (tabs_keep HT.out B.out)).mono ?_); rintro e w10 ⟨rfl, b5⟩; have B := hid (next B.out b5); clear b5))
    go_ret
    exact ⟨rfl, B.out⟩
  | false =>
    have F1 := hid (fun w => format_no s z w hm hs hz)
    have C1 := hid (fun w => clock_no s z w hm hs hz)
    have M1 := hid (fun w => dmay_any s z w hs hz)
    have D1 := hid (fun w => dday_any s z w hs hz)
    rw [hm] at M1
    have D1' : Hid (∀ w, Calls Tryd.prog 19 #[.agg #[.int .i64 s, .int .i64 z]] w fun e w' => e = .returned (.int .i64 0) ∧ Below w.heap.size w w') := hid (fun w => by
      have := D1.out w
      rw [hm] at this
      exact this)
    clear D1 hm hs hz
    go_enter Tryd.func5, Tryd.ntmps5
    go_wp2_with (first
      | (go_at_call 13; (with_reducible refine (HF.out _).mono ?_); rintro e w1 ⟨rfl, hw1⟩; subst hw1)
      | (go_at_call 14; (with_reducible refine (F1.out _).mono ?_); rintro e w2 ⟨rfl, b1⟩; have B := hid (next B.out b1); replace x0 := cells_keep b1 x0; replace x1 := cells_keep b1 x1; clear b1)
      | (go_at_call 15; (with_reducible refine (C1.out _).mono ?_); rintro e w3 ⟨c1, c2, rfl, b1⟩; have B := hid (next B.out b1); replace x0 := cells_keep b1 x0; replace x1 := cells_keep b1 x1; clear b1)
      | (go_at_call 16; (with_reducible refine (M1.out _).mono ?_); rintro e w4 ⟨rfl, b1⟩; have B := hid (next B.out b1); replace x0 := cells_keep b1 x0; replace x1 := cells_keep b1 x1; clear b1)
      | (go_at_call 19; (with_reducible refine (D1'.out _).mono ?_); rintro e w7 ⟨rfl, b1⟩; have B := hid (next B.out b1); replace x0 := cells_keep b1 x0; replace x1 := cells_keep b1 x1; clear b1)
      | (go_at_call 17; (with_reducible refine (Q1.out _).mono ?_); rintro e w8 ⟨rfl, b1⟩; have B := hid (next (next B.out b1) ((Below.refl _ w8).alloc (Nat.le_refl _) (.cells #[.int .i64 a, .int .i64 b] 37))); have u0 := (date_box w8 a b).1; have u1 := (date_box w8 a b).2; clear b1)
      | (go_at_call 20; (with_reducible refine (Q2.out _).mono ?_); rintro e w9 ⟨rfl, b1⟩; have B := hid (next (next B.out b1) ((Below.refl _ w9).alloc (Nat.le_refl _) (.cells #[.int .i64 a, .int .i64 b] 37))); have u0 := cells_keep ((Below.refl _ w9).alloc (Nat.le_refl _) (.cells #[.int .i64 a, .int .i64 b] 37)) (cells_keep b1 u0); have u1 := cells_keep ((Below.refl _ w9).alloc (Nat.le_refl _) (.cells #[.int .i64 a, .int .i64 b] 37)) (cells_keep b1 u1); have v0 := (date_box w9 a b).1; have v1 := (date_box w9 a b).2; clear b1)
      | (go_at_call 12; (with_reducible refine (awake_any _ (tabs_keep HT.out B.out)).mono ?_); rintro e w10 ⟨rfl, b5⟩; have B := hid (next B.out b5); clear b5))
    go_ret
    exact ⟨rfl, B.out⟩
end Go.Proofs.YtkjlkkaoaiphcaaDoor
