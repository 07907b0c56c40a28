/-
  The law DateZones: its walk. A part of the proof: see the head of the text that ends in 'Law'.
-/
import Derived.Test.YtkjlkkaoaiphcaaDoorDa25
namespace Go.Proofs.YtkjlkkaoaiphcaaDoor
open Go.RowKit Go.Shelf
set_option linter.unusedVariables false
set_option linter.unusedSimpArgs false
attribute [local go_sem] Oper.semAt_some

theorem parse_form_of {l : List UInt8} (h : (parseF l).2 = 0) : formB l := by
  unfold parseF at h
  split at h
  · rename_i h1; exact h1.1
  · simp at h
theorem parse_self {s z : Int} (h : mayD s z = true) (w : World) : Calls Tryd.prog 17 #[.string (str (formL s z))] w fun e w' => e = .returned (.tuple #[.agg #[.int .i64 s, .int .i64 z], .int .i64 0]) ∧ Below w.heap.size w w' := by
  have e := parse_formL h
  have := parse_form_yes (formL s z) w (parse_form_of (by rw [e]))
  rw [e] at this
  exact this
theorem two_boxes (w : World) (s z y : Int) : ∀ W, W = (w.alloc (.cells #[.int .i64 s, .int .i64 z] 37)).alloc (.cells #[.int .i64 s, .int .i64 y] 37) →
    W.cell? ⟨w.heap.size, 0, none⟩ = some (.int .i64 s) ∧ W.cell? ⟨w.heap.size, 1, none⟩ = some (.int .i64 z) ∧ W.cell? ⟨w.heap.size + 1, 0, none⟩ = some (.int .i64 s) ∧ W.cell? ⟨w.heap.size + 1, 1, none⟩ = some (.int .i64 y) ∧ Below w.heap.size w W := by
  rintro W rfl
  have k1 := (OwnC.new_ w #[.int .i64 s, .int .i64 z] 37).alloc (.cells #[.int .i64 s, .int .i64 y] 37)
  have k2 := OwnC.new_ (w.alloc (.cells #[.int .i64 s, .int .i64 z] 37)) #[.int .i64 s, .int .i64 y] 37
  rw [World.size_alloc] at k2
  exact ⟨k1.cell rfl, k1.cell rfl, k2.cell rfl, k2.cell rfl, ((Below.refl _ w).alloc (Nat.le_refl _) _).alloc (by simp) _⟩
set_option maxRecDepth 100000 in
set_option maxHeartbeats 4000000 in
theorem zones_bad (s z y : Int) (w : World) (hT : Lib.Utf8Tabs 0 1 w) (hs : -9223372036854775808 ≤ s ∧ s ≤ 9223372036854775807) (hz : -9223372036854775808 ≤ z ∧ z ≤ 9223372036854775807) (hy : -9223372036854775808 ≤ y ∧ y ≤ 9223372036854775807) (h : ¬ (mayD s z = true ∧ mayD s y = true)) :
    Calls Tryd.prog 6 #[.agg #[.int .i64 s, .int .i64 z], .int .i64 y] w fun e w' => e = .returned (.bool true) ∧ Below w.heap.size w w' := by
  have HT := hid hT
  clear hT
  cases h1 : mayD s z with
  | true =>
    have h2 : mayD s y = false := by cases h3 : mayD s y with
      | true => exact absurd ⟨h1, h3⟩ h
      | false => rfl
    have F1 := hid (fun w => format_yes s z w h1)
    have F2 := hid (fun w => format_no s y w h2 hs hy)
    obtain ⟨F, hF⟩ : ∃ F, str (formL s z) = F := ⟨_, rfl⟩
    rw [hF] at F1
    clear h h1 h2 hs hz hy hF
    obtain ⟨x0, x1⟩ := date_box w s z
    obtain ⟨y0, y1, y2, y3, bb⟩ := two_boxes w s z y _ rfl
    have B := hid bb
    clear bb
    go_enter Tryd.func6, Tryd.ntmps6
    go_wp2_with (first
      | (go_at_call 14; (with_reducible refine (F1.out _).mono ?_); rintro e w1 ⟨rfl, b1⟩; have B := hid (next B.out b1); have y0 := cells_keep b1 y0; have y1 := cells_keep b1 y1; have y2 := cells_keep b1 y2; have y3 := cells_keep b1 y3; clear b1)
      | (go_at_call 14; (with_reducible refine (F2.out _).mono ?_); rintro e w2 ⟨rfl, b1⟩; have B := hid (next B.out b1); have y0 := cells_keep b1 y0; have y1 := cells_keep b1 y1; have y2 := cells_keep b1 y2; have y3 := cells_keep b1 y3; clear b1)
      | (go_at_call 12; (with_reducible refine (awake_any _ (tabs_keep HT.out B.out)).mono ?_); rintro e w5 ⟨rfl, b5⟩; have B := hid (next B.out b5); clear b5))
    all_goals (go_ret; exact ⟨rfl, B.out⟩)
  | false =>
    have F1 := hid (fun w => format_no s z w h1 hs hz)
    cases h2 : mayD s y with
    | true =>
      have F2 := hid (fun w => format_yes s y w h2)
      obtain ⟨F, hF⟩ : ∃ F, str (formL s y) = F := ⟨_, rfl⟩
      rw [hF] at F2
      clear h h1 h2 hs hz hy hF
      obtain ⟨x0, x1⟩ := date_box w s z
      obtain ⟨y0, y1, y2, y3, bb⟩ := two_boxes w s z y _ rfl
      have B := hid bb
      clear bb
      go_enter Tryd.func6, Tryd.ntmps6
      go_wp2_with (first
        | (go_at_call 14; (with_reducible refine (F1.out _).mono ?_); rintro e w1 ⟨rfl, b1⟩; have B := hid (next B.out b1); have y0 := cells_keep b1 y0; have y1 := cells_keep b1 y1; have y2 := cells_keep b1 y2; have y3 := cells_keep b1 y3; clear b1)
        | (go_at_call 14; (with_reducible refine (F2.out _).mono ?_); rintro e w2 ⟨rfl, b1⟩; have B := hid (next B.out b1); have y0 := cells_keep b1 y0; have y1 := cells_keep b1 y1; have y2 := cells_keep b1 y2; have y3 := cells_keep b1 y3; clear b1)
        | (go_at_call 12; (with_reducible refine (awake_any _ (tabs_keep HT.out B.out)).mono ?_); rintro e w5 ⟨rfl, b5⟩; have B := hid (next B.out b5); clear b5))
      all_goals (go_ret; exact ⟨rfl, B.out⟩)
    | false =>
      have F2 := hid (fun w => format_no s y w h2 hs hy)
      clear h h1 h2 hs hz hy
      obtain ⟨x0, x1⟩ := date_box w s z
      obtain ⟨y0, y1, y2, y3, bb⟩ := two_boxes w s z y _ rfl
      have B := hid bb
      clear bb
      go_enter Tryd.func6, Tryd.ntmps6
      go_wp2_with (first
        | (go_at_call 14; (with_reducible refine (F1.out _).mono ?_); rintro e w1 ⟨rfl, b1⟩; have B := hid (next B.out b1); have y0 := cells_keep b1 y0; have y1 := cells_keep b1 y1; have y2 := cells_keep b1 y2; have y3 := cells_keep b1 y3; clear b1)
        | (go_at_call 14; (with_reducible refine (F2.out _).mono ?_); rintro e w2 ⟨rfl, b1⟩; have B := hid (next B.out b1); have y0 := cells_keep b1 y0; have y1 := cells_keep b1 y1; have y2 := cells_keep b1 y2; have y3 := cells_keep b1 y3; clear b1)
        | (go_at_call 12; (with_reducible refine (awake_any _ (tabs_keep HT.out B.out)).mono ?_); rintro e w5 ⟨rfl, b5⟩; have B := hid (next B.out b5); clear b5))
      all_goals (go_ret; exact ⟨rfl, B.out⟩)
set_option maxRecDepth 100000 in
set_option maxHeartbeats 8000000 in
theorem zones_good (s z y : Int) (w : World) (hT : Lib.Utf8Tabs 0 1 w) (hs : -9223372036854775808 ≤ s ∧ s ≤ 9223372036854775807) (hz : -9223372036854775808 ≤ z ∧ z ≤ 9223372036854775807) (hy : -9223372036854775808 ≤ y ∧ y ≤ 9223372036854775807) (h1 : mayD s z = true) (h2 : mayD s y = true) :
    Calls Tryd.prog 6 #[.agg #[.int .i64 s, .int .i64 z], .int .i64 y] w fun e w' => e = .returned (.bool true) ∧ Below w.heap.size w w' := by
  have HT := hid hT
  clear hT
  have F1 := hid (fun w => format_yes s z w h1)
  have F2 := hid (fun w => format_yes s y w h2)
  have P1 := hid (fun w => parse_self h1 w)
  have P2 := hid (fun w => parse_self h2 w)
  have D1 := hid (fun w => dday_any s z w hs hz)
  have D2 := hid (fun w => dday_any s y w hs hy)
  rw [if_pos h1] at D1
  rw [if_pos h2] at D2
  obtain ⟨e1, e2, _, _, _, _⟩ := mayD_facts h1
  obtain ⟨e3, e4, _, _, _, _⟩ := mayD_facts h2
  have hsame : y = z → str (formL s z) = str (formL s y) := fun e => by rw [e]
  obtain ⟨A, hA⟩ : ∃ A, (s + 60 * z) / 86400 = A := ⟨_, rfl⟩
  obtain ⟨C, hC⟩ : ∃ C, (s + 60 * y) / 86400 = C := ⟨_, rfl⟩
  obtain ⟨F, hF⟩ : ∃ F, str (formL s z) = F := ⟨_, rfl⟩
  obtain ⟨G, hG⟩ : ∃ G, str (formL s y) = G := ⟨_, rfl⟩
  have hd1 : -2 ≤ A - C := by omega
  have hd2 : A - C ≤ 2 := by omega
  have hw : IntKind.i64.wrap (A - C) = A - C := by rw [IntKind.wrap_i64]; omega
  rw [hF, hG] at hsame
  rw [hF] at F1 P1
  rw [hG] at F2 P2
  rw [hA] at D1
  rw [hC] at D2
  have HSM := hid hsame
  have dd1 : decide (-2 ≤ A - C) = true := by simpa using hd1
  have dd2 : decide (A - C ≤ 2) = true := by simpa using hd2
  clear hsame h1 h2 hs hz hy hA hC hF hG e1 e2 e3 e4
  obtain ⟨x0, x1⟩ := date_box w s z
  obtain ⟨y0, y1, y2, y3, bb⟩ := two_boxes w s z y _ rfl
  have B := hid bb
  clear bb
  go_enter Tryd.func6, Tryd.ntmps6
  go_upto_region 8 with (first
    | (go_at_call 14; (with_reducible refine (F1.out _).mono ?_); rintro e w1 ⟨rfl, b1⟩; have B := hid (next B.out b1); have y0 := cells_keep b1 y0; have y1 := cells_keep b1 y1; have y2 := cells_keep b1 y2; have y3 := cells_keep b1 y3; clear b1)
    | (go_at_call 14; (with_reducible refine (F2.out _).mono ?_); rintro e w2 ⟨rfl, b1⟩; have B := hid (next B.out b1); have y0 := cells_keep b1 y0; have y1 := cells_keep b1 y1; have y2 := cells_keep b1 y2; have y3 := cells_keep b1 y3; clear b1)
    | (go_at_call 17; (with_reducible refine (P1.out _).mono ?_); rintro e w3 ⟨rfl, b1⟩; have B := hid (next (next B.out b1) ((Below.refl _ w3).alloc (Nat.le_refl _) (.cells #[.int .i64 s, .int .i64 z] 37))); have y0 := cells_keep ((Below.refl _ w3).alloc (Nat.le_refl _) (.cells #[.int .i64 s, .int .i64 z] 37)) (cells_keep b1 y0); have y1 := cells_keep ((Below.refl _ w3).alloc (Nat.le_refl _) (.cells #[.int .i64 s, .int .i64 z] 37)) (cells_keep b1 y1); have y2 := cells_keep ((Below.refl _ w3).alloc (Nat.le_refl _) (.cells #[.int .i64 s, .int .i64 z] 37)) (cells_keep b1 y2); have y3 := cells_keep ((Below.refl _ w3).alloc (Nat.le_refl _) (.cells #[.int .i64 s, .int .i64 z] 37)) (cells_keep b1 y3); have y4 := (date_box w3 s z).1; clear b1)
    | (go_at_call 17; (with_reducible refine (P2.out _).mono ?_); rintro e w4 ⟨rfl, b1⟩; have B := hid (next (next B.out b1) ((Below.refl _ w4).alloc (Nat.le_refl _) (.cells #[.int .i64 s, .int .i64 y] 37))); have y0 := cells_keep ((Below.refl _ w4).alloc (Nat.le_refl _) (.cells #[.int .i64 s, .int .i64 y] 37)) (cells_keep b1 y0); have y1 := cells_keep ((Below.refl _ w4).alloc (Nat.le_refl _) (.cells #[.int .i64 s, .int .i64 y] 37)) (cells_keep b1 y1); have y2 := cells_keep ((Below.refl _ w4).alloc (Nat.le_refl _) (.cells #[.int .i64 s, .int .i64 y] 37)) (cells_keep b1 y2); have y3 := cells_keep ((Below.refl _ w4).alloc (Nat.le_refl _) (.cells #[.int .i64 s, .int .i64 y] 37)) (cells_keep b1 y3); have y4 := cells_keep ((Below.refl _ w4).alloc (Nat.le_refl _) (.cells #[.int .i64 s, .int .i64 y] 37)) (cells_keep b1 y4); have y5 := (date_box w4 s y).1; clear b1))
  refine wp_region_noPanic ?_
  refine wp_region_held_drew (S := (fun W => W.cell? ⟨w.heap.size, 0, none⟩ = some (.int .i64 s) ∧ W.cell? ⟨w.heap.size, 1, none⟩ = some (.int .i64 z) ∧ W.cell? ⟨w.heap.size + 1, 0, none⟩ = some (.int .i64 s) ∧ W.cell? ⟨w.heap.size + 1, 1, none⟩ = some (.int .i64 y) ∧ W.cell? ⟨w3.heap.size, 0, none⟩ = some (.int .i64 s) ∧ W.cell? ⟨w4.heap.size, 0, none⟩ = some (.int .i64 s))) (by kernel_rfl) (by first | assumption | trivial) (fun hHeld => ?_)
  refine wpAnyH_take (i := 0) (v := ?_) rfl (by kernel_rfl) (by kernel_rfl) (by kernel_rfl) (fun _ _ _ h => h) (Or.inl ⟨by kernel_rfl, ?_⟩) (by first | assumption | trivial) ?_
  rotate_left
  · (intro wS hSw; (try dsimp only at hSw); go_simp; try with_reducible rfl)
  (try simp only [List.append_eq, List.cons_append, List.nil_append, List.getElem_toArray, List.getElem_cons_succ, List.getElem_cons_zero, Act.put, List.setIfInBounds_toArray, List.set_cons_zero, List.set_cons_succ])
  refine wpAnyH_take (i := 2) (v := ?_) rfl (by kernel_rfl) (by kernel_rfl) (by kernel_rfl) (fun _ _ _ h => h) (Or.inl ⟨by kernel_rfl, ?_⟩) (by first | assumption | trivial) ?_
  rotate_left
  · (intro wS hSw; (try dsimp only at hSw); go_simp; try with_reducible rfl)
  (try simp only [List.append_eq, List.cons_append, List.nil_append, List.getElem_toArray, List.getElem_cons_succ, List.getElem_cons_zero, Act.put, List.setIfInBounds_toArray, List.set_cons_zero, List.set_cons_succ])
  refine wpAnyH_ready (rs := [1]) (by kernel_rfl) (by simp) ?_
  refine AllReadyH.cons rfl (fun K hK => ?_) AllReadyH.nil
  go_simp
  (go_at_call 19; (with_reducible refine (D1.out _).mono ?_); rintro e w5 ⟨rfl, b1⟩; have hS5 : w5.cell? ⟨w.heap.size, 0, none⟩ = some (.int .i64 s) ∧ w5.cell? ⟨w.heap.size, 1, none⟩ = some (.int .i64 z) ∧ w5.cell? ⟨w.heap.size + 1, 0, none⟩ = some (.int .i64 s) ∧ w5.cell? ⟨w.heap.size + 1, 1, none⟩ = some (.int .i64 y) ∧ w5.cell? ⟨w3.heap.size, 0, none⟩ = some (.int .i64 s) ∧ w5.cell? ⟨w4.heap.size, 0, none⟩ = some (.int .i64 s) := ⟨cells_keep b1 hHeld.1, cells_keep b1 hHeld.2.1, cells_keep b1 hHeld.2.2.1, cells_keep b1 hHeld.2.2.2.1, cells_keep b1 hHeld.2.2.2.2.1, cells_keep b1 hHeld.2.2.2.2.2⟩; have B := hid (next B.out (show Below _ _ w5 from ⟨b1.os, b1.tape, b1.output, b1.size, b1.block⟩)); clear b1 hHeld)
  go_wp2_with fail
  refine hK.out _ _ (by first | assumption | trivial) (fun hHeld => ?_)
  clear hK K
  (try simp only [List.append_eq, List.cons_append, List.nil_append, List.getElem_toArray, List.getElem_cons_succ, List.getElem_cons_zero, Act.put, List.setIfInBounds_toArray, List.set_cons_zero, List.set_cons_succ])
  refine wpAnyH_ready (rs := [3]) (by kernel_rfl) (by simp) ?_
  refine AllReadyH.cons rfl (fun K hK => ?_) AllReadyH.nil
  go_simp
  (go_at_call 19; (with_reducible refine (D2.out _).mono ?_); rintro e w6 ⟨rfl, b1⟩; have hS5 : w6.cell? ⟨w.heap.size, 0, none⟩ = some (.int .i64 s) ∧ w6.cell? ⟨w.heap.size, 1, none⟩ = some (.int .i64 z) ∧ w6.cell? ⟨w.heap.size + 1, 0, none⟩ = some (.int .i64 s) ∧ w6.cell? ⟨w.heap.size + 1, 1, none⟩ = some (.int .i64 y) ∧ w6.cell? ⟨w3.heap.size, 0, none⟩ = some (.int .i64 s) ∧ w6.cell? ⟨w4.heap.size, 0, none⟩ = some (.int .i64 s) := ⟨cells_keep b1 hHeld.1, cells_keep b1 hHeld.2.1, cells_keep b1 hHeld.2.2.1, cells_keep b1 hHeld.2.2.2.1, cells_keep b1 hHeld.2.2.2.2.1, cells_keep b1 hHeld.2.2.2.2.2⟩; have B := hid (next B.out (show Below _ _ w6 from ⟨b1.os, b1.tape, b1.output, b1.size, b1.block⟩)); clear b1 hHeld)
  go_wp2_with fail
  refine hK.out _ _ (by first | assumption | trivial) (fun hHeld => ?_)
  clear hK K
  (try simp only [List.append_eq, List.cons_append, List.nil_append, List.getElem_toArray, List.getElem_cons_succ, List.getElem_cons_zero, Act.put, List.setIfInBounds_toArray, List.set_cons_zero, List.set_cons_succ])
  refine wpAnyH_take (i := 4) (v := ?_) rfl (by kernel_rfl) (by kernel_rfl) (by kernel_rfl) (fun _ _ _ h => h) (Or.inl ⟨by kernel_rfl, ?_⟩) (by first | assumption | trivial) ?_
  rotate_left
  · (intro wS hSw; (try dsimp only at hSw); go_simp; try with_reducible rfl)
  (try simp only [List.append_eq, List.cons_append, List.nil_append, List.getElem_toArray, List.getElem_cons_succ, List.getElem_cons_zero, Act.put, List.setIfInBounds_toArray, List.set_cons_zero, List.set_cons_succ])
  refine wpAnyH_take (i := 5) (v := ?_) rfl (by kernel_rfl) (by kernel_rfl) (by kernel_rfl) (fun _ _ _ h => h) (Or.inl ⟨by kernel_rfl, ?_⟩) (by first | assumption | trivial) ?_
  rotate_left
  · (intro wS hSw; (try dsimp only at hSw); go_simp; try with_reducible rfl)
  (try simp only [List.append_eq, List.cons_append, List.nil_append, List.getElem_toArray, List.getElem_cons_succ, List.getElem_cons_zero, Act.put, List.setIfInBounds_toArray, List.set_cons_zero, List.set_cons_succ])
  refine wpAnyH_done (by kernel_rfl) ?_ _
  refine NoPanic.normal ?_
  have BF := hid B.out
  clear hw
  by_cases hyz : y = z
  · have hFG := HSM.out hyz
    subst hyz
    subst hFG
    go_wp2_with (first
      | (go_at_call 12; (with_reducible refine (awake_any _ (tabs_keep HT.out BF.out)).mono ?_); rintro e w9 ⟨rfl, b5⟩; have BF := hid (next BF.out b5); clear b5))
    all_goals (go_ret; exact ⟨rfl, BF.out⟩)
  · have q1 : (y != z) = true := by rw [bne_iff_ne]; exact hyz
    go_wp2_with (first
      | (go_at_call 12; (with_reducible refine (awake_any _ (tabs_keep HT.out BF.out)).mono ?_); rintro e w9 ⟨rfl, b5⟩; have BF := hid (next BF.out b5); clear b5))
    all_goals (go_ret; exact ⟨rfl, BF.out⟩)
theorem walkDateZones (s z y : Int) (w : World) (hT : Lib.Utf8Tabs 0 1 w) (hs : -9223372036854775808 ≤ s ∧ s ≤ 9223372036854775807) (hz : -9223372036854775808 ≤ z ∧ z ≤ 9223372036854775807) (hy : -9223372036854775808 ≤ y ∧ y ≤ 9223372036854775807) :
    Calls Tryd.prog 6 #[.agg #[.int .i64 s, .int .i64 z], .int .i64 y] w fun e w' => e = .returned (.bool true) ∧ Below w.heap.size w w' := by
  by_cases h : mayD s z = true ∧ mayD s y = true
  · exact zones_good s z y w hT hs hz hy h.1 h.2
  · exact zones_bad s z y w hT hs hz hy h
end Go.Proofs.YtkjlkkaoaiphcaaDoor
