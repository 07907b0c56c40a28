/-
  awake: the chapter's examples. A part of the proof: see the head of the text that ends in 'Law'. (Printed by tools/gen17.py.)
-/
import Derived.Test.YthlofpofcpconaaDoorHe22
namespace Go.Proofs.YthlofpofcpconaaDoor
open Go.RowKit Go.Shelf
set_option linter.unusedVariables false
set_option linter.unusedSimpArgs false
attribute [local go_sem] Oper.semAt_some

def LT : List UInt8 := [65, 58, 32, 49, 13, 10, 32, 50, 13, 10, 98, 32, 58, 51, 13, 10, 13, 10, 120]
theorem fx1 : fieldsL LT = [⟨[65], 0, 10, 2⟩, ⟨[98], 10, 16, 13⟩] := by kernel_rfl
theorem fx2 : findF LT [97] (fieldsL LT) = some [49, 32, 50] := by kernel_rfl
theorem fx3 : splitL LT = 18 := by kernel_rfl
theorem fx4 : textI LT ⟨[98], 10, 16, 13⟩ = [51] := by kernel_rfl
theorem fx5 : pickL LT [[66]] false = [98, 32, 58, 51, 13, 10, 13, 10] := by kernel_rfl
set_option maxRecDepth 100000 in
theorem letter_any (w : World) : Calls Tryd.prog 28 #[] w fun e w' => (∃ g, e = .returned (.slice (some ⟨g, 0, none⟩) 19 19) ∧ Oct w' (some ⟨g, 0, none⟩) 19 LT) ∧ Below w.heap.size w w' := by
  have kc := Go.Joins.run_convert_bytes_const_at (P := Tryd.prog) w 22 5 #[.int .u8 65, .int .u8 58, .int .u8 32, .int .u8 49, .int .u8 13, .int .u8 10, .int .u8 32, .int .u8 50, .int .u8 13, .int .u8 10, .int .u8 98, .int .u8 32, .int .u8 58, .int .u8 51, .int .u8 13, .int .u8 10, .int .u8 13, .int .u8 10, .int .u8 120] 19 19 w.heap.size rfl Tryd.underlying22 Tryd.underlying5
  go_enter Tryd.func28, Tryd.ntmps28
  go_wp2_with fail
  go_ret
  exact ⟨⟨_, rfl, Oct.of_block (l := LT) (fr := (19, 20)) (t := 5) (cs := #[.int .u8 65, .int .u8 58, .int .u8 32, .int .u8 49, .int .u8 13, .int .u8 10, .int .u8 32, .int .u8 50, .int .u8 13, .int .u8 10, .int .u8 98, .int .u8 32, .int .u8 58, .int .u8 51, .int .u8 13, .int .u8 10, .int .u8 13, .int .u8 10, .int .u8 120]) (heap_alloc_new w _) rfl⟩, (Below.refl _ _).alloc (Nat.le_refl _) _⟩
theorem fld1 (g : Nat) (w : World) (h : Oct w (some ⟨g, 0, none⟩) 19 LT) : Calls Tryd.prog 17 #[.slice (some ⟨g, 0, none⟩) 19 19] w fun e w' => (∃ g' c, e = .returned (.slice (some ⟨g', 0, none⟩) 2 c) ∧ OwnC w' g' 39 ([.string ⟨#[65]⟩, .int .i64 0, .int .i64 10, .int .i64 2, .string ⟨#[98]⟩, .int .i64 10, .int .i64 16, .int .i64 13])) ∧ Below w.heap.size w w' :=
  (fields_any _ 19 19 LT w h (Nat.le_refl _) (by decide)).mono fun e w' ⟨v, h1, h2, h3⟩ => by
    rw [fx1] at h2
    obtain ⟨A, c, rfl, -⟩ := own_slice h2
    obtain ⟨g', rfl, -, ho⟩ := own_rowN h2 (by decide)
    exact ⟨⟨g', c, h1, ho⟩, h3⟩
theorem fnd1 (g : Nat) (w : World) (h : Oct w (some ⟨g, 0, none⟩) 19 LT) : Calls Tryd.prog 10 #[.slice (some ⟨g, 0, none⟩) 19 19, .string ⟨#[97]⟩] w fun e w' => e = .returned (.tuple #[.string ⟨#[49, 32, 50]⟩, .bool true]) ∧ Below w.heap.size w w' :=
  (find_any _ 19 19 LT [97] w h (Nat.le_refl _) (by decide)).mono fun e w' ⟨h1, h2⟩ => ⟨by rw [h1, fx2]; rfl, h2⟩
theorem spl1 (g : Nat) (w : World) (h : Oct w (some ⟨g, 0, none⟩) 19 LT) : Calls Tryd.prog 18 #[.slice (some ⟨g, 0, none⟩) 19 19] w fun e w' => e = .returned (.int .i64 18) ∧ Below w.heap.size w w' :=
  (split_any _ 19 19 LT w h (Nat.le_refl _) (by decide)).mono fun e w' ⟨h1, h2⟩ => ⟨by rw [h1, fx3]; rfl, h2⟩
theorem txt1 (g : Nat) (w : World) (h : Oct w (some ⟨g, 0, none⟩) 19 LT) : Calls Tryd.prog 20 #[.slice (some ⟨g, 0, none⟩) 19 19, .agg #[.string ⟨#[98]⟩, .int .i64 10, .int .i64 16, .int .i64 13]] w fun e w' => e = .returned (.string ⟨#[51]⟩) ∧ Below w.heap.size w w' :=
  (Text_any _ 19 19 LT ⟨[98], 10, 16, 13⟩ w h (Nat.le_refl _) (by decide)).mono fun e w' ⟨h1, h2⟩ => ⟨by rw [h1, fx4]; rfl, h2⟩
theorem pck1 (g g2 : Nat) (w : World) (h : Oct w (some ⟨g, 0, none⟩) 19 LT) (h2 : w.cell? ⟨g2, 0, none⟩ = some (.string ⟨#[66]⟩)) : Calls Tryd.prog 15 #[.slice (some ⟨g, 0, none⟩) 19 19, .slice (some ⟨g2, 0, none⟩) 1 1, .bool false] w fun e w' => (∃ A k c, e = .returned (.slice A k c) ∧ Oct w' A k [98, 32, 58, 51, 13, 10, 13, 10]) ∧ Below w.heap.size w w' :=
  (pick_any _ 19 19 LT (some ⟨g2, 0, none⟩) 1 1 [[66]] false w h (Nat.le_refl _) (by decide) (fun _ => ⟨g2, 0, rfl, fun j v hv => by
    rcases j with _ | j
    · simp only [List.map_cons, List.getElem?_cons_zero, Option.some.injEq] at hv
      rw [← hv]
      exact h2
    · simp at hv⟩) rfl (by decide) (by decide)).mono fun e w' ⟨A, k, c, h1, _, h3, h4⟩ => ⟨⟨A, k, c, h1, by rw [← fx5]; exact h3⟩, h4⟩
set_option maxRecDepth 100000 in
set_option maxHeartbeats 8000000 in
theorem awake_any (w : World) : Calls Tryd.prog 14 #[] w fun e w' => e = .returned (.bool true) ∧ Below w.heap.size w w' := by
  have q1 : ((⟨#[49, 32, 50]⟩ : ByteArray) == ⟨#[49, 32, 50]⟩) = true := by kernel_rfl
  have q2 : ((⟨#[51]⟩ : ByteArray) == ⟨#[51]⟩) = true := by kernel_rfl
  have q3 : ((⟨#[98, 32, 58, 51, 13, 10, 13, 10]⟩ : ByteArray) == ⟨#[98, 32, 58, 51, 13, 10, 13, 10]⟩) = true := by kernel_rfl
  have hqa := fun W => run_equal_fd W ⟨[65], 0, 10, 2⟩ ⟨[65], 0, 10, 2⟩
  have hqb := fun W => run_equal_fd W ⟨[98], 10, 16, 13⟩ ⟨[98], 10, 16, 13⟩
  have hg : Tryd.prog.eqGuardType Tryd.prog.depth 39 = false := by kernel_rfl
  have hz1 : str [65] = ⟨#[65]⟩ := rfl
  have hz2 : str [98] = ⟨#[98]⟩ := rfl
  have hd1 : decide ((⟨[65], 0, 10, 2⟩ : FI) = ⟨[65], 0, 10, 2⟩) = true := by decide
  have hd2 : decide ((⟨[98], 10, 16, 13⟩ : FI) = ⟨[98], 10, 16, 13⟩) = true := by decide
  rw [hd1] at hqa
  rw [hd2] at hqb
  dsimp only at hqa hqb
  rw [hz1] at hqa
  rw [hz2] at hqb
  clear hz1 hz2 hd1 hd2
  go_enter Tryd.func14, Tryd.ntmps14
  go_upto_region 2 with (first
    | (go_at_call 28; refine (letter_any _).mono ?_; rintro e w0 ⟨⟨g0, rfl, ho⟩, b⟩; have HL0 := hid ho; have HB0 := hid b; clear ho b)
    | (go_at_call 17; refine (fld1 g0 _ HL0.out).mono ?_; rintro e w1 ⟨⟨g, c1, rfl, ho⟩, b⟩; have HF1 := hid ho; have HB1 := hid (past HB0.out b); clear ho b))
  clear HL0
  go_upto_region 3 with (first
    | (go_at_call 28; refine (letter_any _).mono ?_; rintro e wa ⟨⟨ga, rfl, ho⟩, b⟩; have HLa := hid ho; have HBa := hid b; clear ho b)
    | (go_at_call 10; refine (fnd1 ga _ HLa.out).mono ?_; rintro e w2 ⟨rfl, b⟩; have HB2 := hid (past HBa.out b); clear b))
  clear HLa HBa
  have C0 := cells_keep HB2.out (HF1.out.cell (j := 0) rfl)
  have C1 := cells_keep HB2.out (HF1.out.cell (j := 1) rfl)
  have C2 := cells_keep HB2.out (HF1.out.cell (j := 2) rfl)
  have C3 := cells_keep HB2.out (HF1.out.cell (j := 3) rfl)
  have C4 := cells_keep HB2.out (HF1.out.cell (j := 4) rfl)
  have C5 := cells_keep HB2.out (HF1.out.cell (j := 5) rfl)
  have C6 := cells_keep HB2.out (HF1.out.cell (j := 6) rfl)
  have C7 := cells_keep HB2.out (HF1.out.cell (j := 7) rfl)
  have HBT := hid (past HB1.out HB2.out)
  have hS : (w2.drew.cell? ⟨g, 0, none⟩ = some (.string ⟨#[65]⟩) ∧ w2.drew.cell? ⟨g, 1, none⟩ = some (.int .i64 0) ∧ w2.drew.cell? ⟨g, 2, none⟩ = some (.int .i64 10) ∧ w2.drew.cell? ⟨g, 3, none⟩ = some (.int .i64 2) ∧ w2.drew.cell? ⟨g, 4, none⟩ = some (.string ⟨#[98]⟩) ∧ w2.drew.cell? ⟨g, 5, none⟩ = some (.int .i64 10) ∧ w2.drew.cell? ⟨g, 6, none⟩ = some (.int .i64 16) ∧ w2.drew.cell? ⟨g, 7, none⟩ = some (.int .i64 13)) ∧ Hid (Below w2.heap.size w2 w2.drew) := ⟨⟨C0, C1, C2, C3, C4, C5, C6, C7⟩, hid (bq (Below.refl _ w2) 1)⟩
  clear C0 C1 C2 C3 C4 C5 C6 C7 HF1 HB2 HB0 HB1
  refine wp_region_noPanic ?_
  refine wp_region_held_drew (S := (fun W => (W.cell? ⟨g, 0, none⟩ = some (.string ⟨#[65]⟩) ∧ W.cell? ⟨g, 1, none⟩ = some (.int .i64 0) ∧ W.cell? ⟨g, 2, none⟩ = some (.int .i64 10) ∧ W.cell? ⟨g, 3, none⟩ = some (.int .i64 2) ∧ W.cell? ⟨g, 4, none⟩ = some (.string ⟨#[98]⟩) ∧ W.cell? ⟨g, 5, none⟩ = some (.int .i64 10) ∧ W.cell? ⟨g, 6, none⟩ = some (.int .i64 16) ∧ W.cell? ⟨g, 7, none⟩ = some (.int .i64 13)) ∧ Hid (Below w2.heap.size w2 W))) (by kernel_rfl) (by first | assumption | trivial) (fun hHeld => ?_)
  refine wpAnyH_ready (rs := [0]) (by kernel_rfl) (by simp) ?_
  refine AllReadyH.cons rfl (fun K hK => ?_) AllReadyH.nil
  go_simp
  (go_at_call 28; refine (letter_any _).mono ?_; rintro e w3 ⟨⟨g3, rfl, ho⟩, b⟩; have hS3 : (w3.cell? ⟨g, 0, none⟩ = some (.string ⟨#[65]⟩) ∧ w3.cell? ⟨g, 1, none⟩ = some (.int .i64 0) ∧ w3.cell? ⟨g, 2, none⟩ = some (.int .i64 10) ∧ w3.cell? ⟨g, 3, none⟩ = some (.int .i64 2) ∧ w3.cell? ⟨g, 4, none⟩ = some (.string ⟨#[98]⟩) ∧ w3.cell? ⟨g, 5, none⟩ = some (.int .i64 10) ∧ w3.cell? ⟨g, 6, none⟩ = some (.int .i64 16) ∧ w3.cell? ⟨g, 7, none⟩ = some (.int .i64 13)) ∧ Hid (Below w2.heap.size w2 w3) := ⟨⟨cells_keep b hHeld.1.1, cells_keep b hHeld.1.2.1, cells_keep b hHeld.1.2.2.1, cells_keep b hHeld.1.2.2.2.1, cells_keep b hHeld.1.2.2.2.2.1, cells_keep b hHeld.1.2.2.2.2.2.1, cells_keep b hHeld.1.2.2.2.2.2.2.1, cells_keep b hHeld.1.2.2.2.2.2.2.2⟩, hid (past hHeld.2.out b)⟩; have HL3 := hid ho; clear ho b hHeld)
  go_wp2_with fail
  refine hK.out _ _ (by first | assumption | trivial) (fun hHeld => ?_)
  clear hK K
  (try simp only [List.append_eq, List.cons_append, List.nil_append, List.getElem_toArray, List.getElem_cons_succ, List.getElem_cons_zero, Act.put, List.setIfInBounds_toArray, List.set_cons_zero, List.set_cons_succ])
  refine wpAnyH_ready (rs := [1]) (by kernel_rfl) (by simp) ?_
  refine AllReadyH.cons rfl (fun K hK => ?_) AllReadyH.nil
  go_simp
  (go_at_call 18; refine (spl1 g3 _ HL3.out).mono ?_; rintro e w4 ⟨rfl, b⟩; have hS4 : (w4.cell? ⟨g, 0, none⟩ = some (.string ⟨#[65]⟩) ∧ w4.cell? ⟨g, 1, none⟩ = some (.int .i64 0) ∧ w4.cell? ⟨g, 2, none⟩ = some (.int .i64 10) ∧ w4.cell? ⟨g, 3, none⟩ = some (.int .i64 2) ∧ w4.cell? ⟨g, 4, none⟩ = some (.string ⟨#[98]⟩) ∧ w4.cell? ⟨g, 5, none⟩ = some (.int .i64 10) ∧ w4.cell? ⟨g, 6, none⟩ = some (.int .i64 16) ∧ w4.cell? ⟨g, 7, none⟩ = some (.int .i64 13)) ∧ Hid (Below w2.heap.size w2 w4) := ⟨⟨cells_keep b hHeld.1.1, cells_keep b hHeld.1.2.1, cells_keep b hHeld.1.2.2.1, cells_keep b hHeld.1.2.2.2.1, cells_keep b hHeld.1.2.2.2.2.1, cells_keep b hHeld.1.2.2.2.2.2.1, cells_keep b hHeld.1.2.2.2.2.2.2.1, cells_keep b hHeld.1.2.2.2.2.2.2.2⟩, hid (past hHeld.2.out b)⟩; clear b hHeld)
  go_wp2_with fail
  refine hK.out _ _ (by first | assumption | trivial) (fun hHeld => ?_)
  clear hK K
  (try simp only [List.append_eq, List.cons_append, List.nil_append, List.getElem_toArray, List.getElem_cons_succ, List.getElem_cons_zero, Act.put, List.setIfInBounds_toArray, List.set_cons_zero, List.set_cons_succ])
  refine wpAnyH_take (i := 2) (v := ?_) rfl (by kernel_rfl) (by kernel_rfl) (by kernel_rfl) (fun _ _ _ h => h) (Or.inl ⟨by kernel_rfl, ?_⟩) (by first | assumption | trivial) ?_
  rotate_left
  · (intro wS hSw; (try dsimp only at hSw); go_simp; try with_reducible rfl)
  (try simp only [List.append_eq, List.cons_append, List.nil_append, List.getElem_toArray, List.getElem_cons_succ, List.getElem_cons_zero, Act.put, List.setIfInBounds_toArray, List.set_cons_zero, List.set_cons_succ])
  refine wpAnyH_take (i := 3) (v := ?_) rfl (by kernel_rfl) (by kernel_rfl) (by kernel_rfl) (fun _ _ _ h => h) (Or.inl ⟨by kernel_rfl, ?_⟩) (by first | assumption | trivial) ?_
  rotate_left
  · (intro wS hSw; (try dsimp only at hSw); go_simp; try with_reducible rfl)
  (try simp only [List.append_eq, List.cons_append, List.nil_append, List.getElem_toArray, List.getElem_cons_succ, List.getElem_cons_zero, Act.put, List.setIfInBounds_toArray, List.set_cons_zero, List.set_cons_succ])
  refine wpAnyH_take (i := 4) (v := ?_) rfl (by kernel_rfl) (by kernel_rfl) (by kernel_rfl) (fun _ _ _ h => h) (Or.inl ⟨by kernel_rfl, ?_⟩) (by first | assumption | trivial) ?_
  rotate_left
  · (intro wS hSw; (try dsimp only at hSw); go_simp; try with_reducible rfl)
  (try simp only [List.append_eq, List.cons_append, List.nil_append, List.getElem_toArray, List.getElem_cons_succ, List.getElem_cons_zero, Act.put, List.setIfInBounds_toArray, List.set_cons_zero, List.set_cons_succ])
  refine wpAnyH_ready (rs := [5]) (by kernel_rfl) (by simp) ?_
  refine AllReadyH.cons rfl (fun K hK => ?_) AllReadyH.nil
  go_simp
  skip
  go_wp2_with fail
  refine hK.out _ _ (by first | assumption | trivial) (fun hHeld => ?_)
  clear hK K
  (try simp only [List.append_eq, List.cons_append, List.nil_append, List.getElem_toArray, List.getElem_cons_succ, List.getElem_cons_zero, Act.put, List.setIfInBounds_toArray, List.set_cons_zero, List.set_cons_succ])
  refine wpAnyH_take (i := 6) (v := ?_) rfl (by kernel_rfl) (by kernel_rfl) (by kernel_rfl) (fun _ _ _ h => h) (Or.inl ⟨by kernel_rfl, ?_⟩) (by first | assumption | trivial) ?_
  rotate_left
  · (intro wS hSw; (try dsimp only at hSw); go_simp; try with_reducible rfl)
  (try simp only [List.append_eq, List.cons_append, List.nil_append, List.getElem_toArray, List.getElem_cons_succ, List.getElem_cons_zero, Act.put, List.setIfInBounds_toArray, List.set_cons_zero, List.set_cons_succ])
  refine wpAnyH_take (i := 7) (v := ?_) rfl (by kernel_rfl) (by kernel_rfl) (by kernel_rfl) (fun _ _ _ h => h) (Or.inl ⟨by kernel_rfl, ?_⟩) (by first | assumption | trivial) ?_
  rotate_left
  · (intro wS hSw; (try dsimp only at hSw); go_simp; try with_reducible rfl)
  (try simp only [List.append_eq, List.cons_append, List.nil_append, List.getElem_toArray, List.getElem_cons_succ, List.getElem_cons_zero, Act.put, List.setIfInBounds_toArray, List.set_cons_zero, List.set_cons_succ])
  refine wpAnyH_take (i := 8) (v := ?_) rfl (by kernel_rfl) (by kernel_rfl) (by kernel_rfl) (fun _ _ _ h => h) (Or.inl ⟨by kernel_rfl, ?_⟩) (by first | assumption | trivial) ?_
  rotate_left
  · (intro wS hSw; (try dsimp only at hSw); go_simp; try with_reducible rfl)
  (try simp only [List.append_eq, List.cons_append, List.nil_append, List.getElem_toArray, List.getElem_cons_succ, List.getElem_cons_zero, Act.put, List.setIfInBounds_toArray, List.set_cons_zero, List.set_cons_succ])
  refine wpAnyH_take (i := 9) (v := ?_) rfl (by kernel_rfl) (by kernel_rfl) (by kernel_rfl) (fun _ _ _ h => h) (Or.inl ⟨by kernel_rfl, ?_⟩) (by first | assumption | trivial) ?_
  rotate_left
  · (intro wS hSw; (try dsimp only at hSw); go_simp; try with_reducible rfl)
  (try simp only [List.append_eq, List.cons_append, List.nil_append, List.getElem_toArray, List.getElem_cons_succ, List.getElem_cons_zero, Act.put, List.setIfInBounds_toArray, List.set_cons_zero, List.set_cons_succ])
  refine wpAnyH_take (i := 10) (v := ?_) rfl (by kernel_rfl) (by kernel_rfl) (by kernel_rfl) (fun _ _ _ h => h) (Or.inl ⟨by kernel_rfl, ?_⟩) (by first | assumption | trivial) ?_
  rotate_left
  · (intro wS hSw; (try dsimp only at hSw); go_simp; try with_reducible rfl)
  (try simp only [List.append_eq, List.cons_append, List.nil_append, List.getElem_toArray, List.getElem_cons_succ, List.getElem_cons_zero, Act.put, List.setIfInBounds_toArray, List.set_cons_zero, List.set_cons_succ])
  refine wpAnyH_take (i := 11) (v := ?_) rfl (by kernel_rfl) (by kernel_rfl) (by kernel_rfl) (fun _ _ _ h => h) (Or.inl ⟨by kernel_rfl, ?_⟩) (by first | assumption | trivial) ?_
  rotate_left
  · (intro wS hSw; (try dsimp only at hSw); go_simp; try with_reducible rfl)
  (try simp only [List.append_eq, List.cons_append, List.nil_append, List.getElem_toArray, List.getElem_cons_succ, List.getElem_cons_zero, Act.put, List.setIfInBounds_toArray, List.set_cons_zero, List.set_cons_succ])
  refine wpAnyH_take (i := 12) (v := ?_) rfl (by kernel_rfl) (by kernel_rfl) (by kernel_rfl) (fun _ _ _ h => h) (Or.inl ⟨by kernel_rfl, ?_⟩) (by first | assumption | trivial) ?_
  rotate_left
  · (intro wS hSw; (try dsimp only at hSw); go_simp; try with_reducible rfl)
  (try simp only [List.append_eq, List.cons_append, List.nil_append, List.getElem_toArray, List.getElem_cons_succ, List.getElem_cons_zero, Act.put, List.setIfInBounds_toArray, List.set_cons_zero, List.set_cons_succ])
  refine wpAnyH_take (i := 13) (v := ?_) rfl (by kernel_rfl) (by kernel_rfl) (by kernel_rfl) (fun _ _ _ h => h) (Or.inl ⟨by kernel_rfl, ?_⟩) (by first | assumption | trivial) ?_
  rotate_left
  · (intro wS hSw; (try dsimp only at hSw); go_simp; try with_reducible rfl)
  (try simp only [List.append_eq, List.cons_append, List.nil_append, List.getElem_toArray, List.getElem_cons_succ, List.getElem_cons_zero, Act.put, List.setIfInBounds_toArray, List.set_cons_zero, List.set_cons_succ])
  refine wpAnyH_take (i := 14) (v := ?_) rfl (by kernel_rfl) (by kernel_rfl) (by kernel_rfl) (fun _ _ _ h => h) (Or.inl ⟨by kernel_rfl, ?_⟩) (by first | assumption | trivial) ?_
  rotate_left
  · (intro wS hSw; (try dsimp only at hSw); go_simp; try with_reducible rfl)
  (try simp only [List.append_eq, List.cons_append, List.nil_append, List.getElem_toArray, List.getElem_cons_succ, List.getElem_cons_zero, Act.put, List.setIfInBounds_toArray, List.set_cons_zero, List.set_cons_succ])
  refine wpAnyH_take (i := 15) (v := ?_) rfl (by kernel_rfl) (by kernel_rfl) (by kernel_rfl) (fun _ _ _ h => h) (Or.inl ⟨by kernel_rfl, ?_⟩) (by first | assumption | trivial) ?_
  rotate_left
  · (intro wS hSw; (try dsimp only at hSw); go_simp; try with_reducible rfl)
  (try simp only [List.append_eq, List.cons_append, List.nil_append, List.getElem_toArray, List.getElem_cons_succ, List.getElem_cons_zero, Act.put, List.setIfInBounds_toArray, List.set_cons_zero, List.set_cons_succ])
  refine wpAnyH_take (i := 16) (v := ?_) rfl (by kernel_rfl) (by kernel_rfl) (by kernel_rfl) (fun _ _ _ h => h) (Or.inl ⟨by kernel_rfl, ?_⟩) (by first | assumption | trivial) ?_
  rotate_left
  · (intro wS hSw; (try dsimp only at hSw); go_simp; try with_reducible rfl)
  (try simp only [List.append_eq, List.cons_append, List.nil_append, List.getElem_toArray, List.getElem_cons_succ, List.getElem_cons_zero, Act.put, List.setIfInBounds_toArray, List.set_cons_zero, List.set_cons_succ])
  refine wpAnyH_take (i := 17) (v := ?_) rfl (by kernel_rfl) (by kernel_rfl) (by kernel_rfl) (fun _ _ _ h => h) (Or.inl ⟨by kernel_rfl, ?_⟩) (by first | assumption | trivial) ?_
  rotate_left
  · (intro wS hSw; (try dsimp only at hSw); go_simp; try with_reducible rfl)
  (try simp only [List.append_eq, List.cons_append, List.nil_append, List.getElem_toArray, List.getElem_cons_succ, List.getElem_cons_zero, Act.put, List.setIfInBounds_toArray, List.set_cons_zero, List.set_cons_succ])
  refine wpAnyH_take (i := 18) (v := ?_) rfl (by kernel_rfl) (by kernel_rfl) (by kernel_rfl) (fun _ _ _ h => h) (Or.inl ⟨by kernel_rfl, ?_⟩) (by first | assumption | trivial) ?_
  rotate_left
  · (intro wS hSw; (try dsimp only at hSw); go_simp; try with_reducible rfl)
  (try simp only [List.append_eq, List.cons_append, List.nil_append, List.getElem_toArray, List.getElem_cons_succ, List.getElem_cons_zero, Act.put, List.setIfInBounds_toArray, List.set_cons_zero, List.set_cons_succ])
  refine wpAnyH_take (i := 19) (v := ?_) rfl (by kernel_rfl) (by kernel_rfl) (by kernel_rfl) (fun _ _ _ h => h) (Or.inl ⟨by kernel_rfl, ?_⟩) (by first | assumption | trivial) ?_
  rotate_left
  · (intro wS hSw; (try dsimp only at hSw); go_simp; try with_reducible rfl)
  (try simp only [List.append_eq, List.cons_append, List.nil_append, List.getElem_toArray, List.getElem_cons_succ, List.getElem_cons_zero, Act.put, List.setIfInBounds_toArray, List.set_cons_zero, List.set_cons_succ])
  refine wpAnyH_take (i := 20) (v := ?_) rfl (by kernel_rfl) (by kernel_rfl) (by kernel_rfl) (fun _ _ _ h => h) (Or.inl ⟨by kernel_rfl, ?_⟩) (by first | assumption | trivial) ?_
  rotate_left
  · (intro wS hSw; (try dsimp only at hSw); go_simp; try with_reducible rfl)
  (try simp only [List.append_eq, List.cons_append, List.nil_append, List.getElem_toArray, List.getElem_cons_succ, List.getElem_cons_zero, Act.put, List.setIfInBounds_toArray, List.set_cons_zero, List.set_cons_succ])
  refine wpAnyH_take (i := 21) (v := ?_) rfl (by kernel_rfl) (by kernel_rfl) (by kernel_rfl) (fun _ _ _ h => h) (Or.inl ⟨by kernel_rfl, ?_⟩) (by first | assumption | trivial) ?_
  rotate_left
  · (intro wS hSw; (try dsimp only at hSw); go_simp; try with_reducible rfl)
  (try simp only [List.append_eq, List.cons_append, List.nil_append, List.getElem_toArray, List.getElem_cons_succ, List.getElem_cons_zero, Act.put, List.setIfInBounds_toArray, List.set_cons_zero, List.set_cons_succ])
  refine wpAnyH_take (i := 22) (v := ?_) rfl (by kernel_rfl) (by kernel_rfl) (by kernel_rfl) (fun _ _ _ h => h) (Or.inl ⟨by kernel_rfl, ?_⟩) (by first | assumption | trivial) ?_
  rotate_left
  · (intro wS hSw; (try dsimp only at hSw); go_simp; try with_reducible rfl)
  (try simp only [List.append_eq, List.cons_append, List.nil_append, List.getElem_toArray, List.getElem_cons_succ, List.getElem_cons_zero, Act.put, List.setIfInBounds_toArray, List.set_cons_zero, List.set_cons_succ])
  refine wpAnyH_take (i := 23) (v := ?_) rfl (by kernel_rfl) (by kernel_rfl) (by kernel_rfl) (fun _ _ _ h => h) (Or.inl ⟨by kernel_rfl, ?_⟩) (by first | assumption | trivial) ?_
  rotate_left
  · (intro wS hSw; (try dsimp only at hSw); go_simp; try with_reducible rfl)
  (try simp only [List.append_eq, List.cons_append, List.nil_append, List.getElem_toArray, List.getElem_cons_succ, List.getElem_cons_zero, Act.put, List.setIfInBounds_toArray, List.set_cons_zero, List.set_cons_succ])
  refine wpAnyH_take (i := 24) (v := ?_) rfl (by kernel_rfl) (by kernel_rfl) (by kernel_rfl) (fun _ _ _ h => h) (Or.inl ⟨by kernel_rfl, ?_⟩) (by first | assumption | trivial) ?_
  rotate_left
  · (intro wS hSw; (try dsimp only at hSw); go_simp; try with_reducible rfl)
  (try simp only [List.append_eq, List.cons_append, List.nil_append, List.getElem_toArray, List.getElem_cons_succ, List.getElem_cons_zero, Act.put, List.setIfInBounds_toArray, List.set_cons_zero, List.set_cons_succ])
  refine wpAnyH_take (i := 25) (v := ?_) rfl (by kernel_rfl) (by kernel_rfl) (by kernel_rfl) (fun _ _ _ h => h) (Or.inl ⟨by kernel_rfl, ?_⟩) (by first | assumption | trivial) ?_
  rotate_left
  · (intro wS hSw; (try dsimp only at hSw); go_simp; try with_reducible rfl)
  (try simp only [List.append_eq, List.cons_append, List.nil_append, List.getElem_toArray, List.getElem_cons_succ, List.getElem_cons_zero, Act.put, List.setIfInBounds_toArray, List.set_cons_zero, List.set_cons_succ])
  refine wpAnyH_take (i := 26) (v := ?_) rfl (by kernel_rfl) (by kernel_rfl) (by kernel_rfl) (fun _ _ _ h => h) (Or.inl ⟨by kernel_rfl, ?_⟩) (by first | assumption | trivial) ?_
  rotate_left
  · (intro wS hSw; (try dsimp only at hSw); go_simp; try with_reducible rfl)
  (try simp only [List.append_eq, List.cons_append, List.nil_append, List.getElem_toArray, List.getElem_cons_succ, List.getElem_cons_zero, Act.put, List.setIfInBounds_toArray, List.set_cons_zero, List.set_cons_succ])
  refine wpAnyH_take (i := 27) (v := ?_) rfl (by kernel_rfl) (by kernel_rfl) (by kernel_rfl) (fun _ _ _ h => h) (Or.inl ⟨by kernel_rfl, ?_⟩) (by first | assumption | trivial) ?_
  rotate_left
  · (intro wS hSw; (try dsimp only at hSw); go_simp; try with_reducible rfl)
  (try simp only [List.append_eq, List.cons_append, List.nil_append, List.getElem_toArray, List.getElem_cons_succ, List.getElem_cons_zero, Act.put, List.setIfInBounds_toArray, List.set_cons_zero, List.set_cons_succ])
  refine wpAnyH_take (i := 28) (v := ?_) rfl (by kernel_rfl) (by kernel_rfl) (by kernel_rfl) (fun _ _ _ h => h) (Or.inl ⟨by kernel_rfl, ?_⟩) (by first | assumption | trivial) ?_
  rotate_left
  · (intro wS hSw; (try dsimp only at hSw); go_simp; try with_reducible rfl)
  (try simp only [List.append_eq, List.cons_append, List.nil_append, List.getElem_toArray, List.getElem_cons_succ, List.getElem_cons_zero, Act.put, List.setIfInBounds_toArray, List.set_cons_zero, List.set_cons_succ])
  refine wpAnyH_take (i := 29) (v := ?_) rfl (by kernel_rfl) (by kernel_rfl) (by kernel_rfl) (fun _ _ _ h => h) (Or.inl ⟨by kernel_rfl, ?_⟩) (by first | assumption | trivial) ?_
  rotate_left
  · (intro wS hSw; (try dsimp only at hSw); go_simp; try with_reducible rfl)
  (try simp only [List.append_eq, List.cons_append, List.nil_append, List.getElem_toArray, List.getElem_cons_succ, List.getElem_cons_zero, Act.put, List.setIfInBounds_toArray, List.set_cons_zero, List.set_cons_succ])
  refine wpAnyH_take (i := 31) (v := ?_) rfl (by kernel_rfl) (by kernel_rfl) (by kernel_rfl) (fun _ _ _ h => h) (Or.inl ⟨by kernel_rfl, ?_⟩) (by first | assumption | trivial) ?_
  rotate_left
  · (intro wS hSw; (try dsimp only at hSw); go_simp; try with_reducible rfl)
  (try simp only [List.append_eq, List.cons_append, List.nil_append, List.getElem_toArray, List.getElem_cons_succ, List.getElem_cons_zero, Act.put, List.setIfInBounds_toArray, List.set_cons_zero, List.set_cons_succ])
  refine wpAnyH_take (i := 32) (v := ?_) rfl (by kernel_rfl) (by kernel_rfl) (by kernel_rfl) (fun _ _ _ h => h) (Or.inl ⟨by kernel_rfl, ?_⟩) (by first | assumption | trivial) ?_
  rotate_left
  · (intro wS hSw; (try dsimp only at hSw); go_simp; try with_reducible rfl)
  (try simp only [List.append_eq, List.cons_append, List.nil_append, List.getElem_toArray, List.getElem_cons_succ, List.getElem_cons_zero, Act.put, List.setIfInBounds_toArray, List.set_cons_zero, List.set_cons_succ])
  refine wpAnyH_take (i := 33) (v := ?_) rfl (by kernel_rfl) (by kernel_rfl) (by kernel_rfl) (fun _ _ _ h => h) (Or.inl ⟨by kernel_rfl, ?_⟩) (by first | assumption | trivial) ?_
  rotate_left
  · (intro wS hSw; (try dsimp only at hSw); go_simp; try with_reducible rfl)
  (try simp only [List.append_eq, List.cons_append, List.nil_append, List.getElem_toArray, List.getElem_cons_succ, List.getElem_cons_zero, Act.put, List.setIfInBounds_toArray, List.set_cons_zero, List.set_cons_succ])
  refine wpAnyH_ready (rs := [30]) (by kernel_rfl) (by simp) ?_
  refine AllReadyH.cons rfl (fun K hK => ?_) AllReadyH.nil
  go_simp
  (go_at_call 28; refine (letter_any _).mono ?_; rintro e w5 ⟨⟨g5, rfl, ho⟩, b⟩; have hS5 : (w5.cell? ⟨g, 0, none⟩ = some (.string ⟨#[65]⟩) ∧ w5.cell? ⟨g, 1, none⟩ = some (.int .i64 0) ∧ w5.cell? ⟨g, 2, none⟩ = some (.int .i64 10) ∧ w5.cell? ⟨g, 3, none⟩ = some (.int .i64 2) ∧ w5.cell? ⟨g, 4, none⟩ = some (.string ⟨#[98]⟩) ∧ w5.cell? ⟨g, 5, none⟩ = some (.int .i64 10) ∧ w5.cell? ⟨g, 6, none⟩ = some (.int .i64 16) ∧ w5.cell? ⟨g, 7, none⟩ = some (.int .i64 13)) ∧ Hid (Below w2.heap.size w2 w5) := ⟨⟨cells_keep b hHeld.1.1, cells_keep b hHeld.1.2.1, cells_keep b hHeld.1.2.2.1, cells_keep b hHeld.1.2.2.2.1, cells_keep b hHeld.1.2.2.2.2.1, cells_keep b hHeld.1.2.2.2.2.2.1, cells_keep b hHeld.1.2.2.2.2.2.2.1, cells_keep b hHeld.1.2.2.2.2.2.2.2⟩, hid (past hHeld.2.out b)⟩; have HL5 := hid ho; clear ho b hHeld)
  go_wp2_with fail
  refine hK.out _ _ (by first | assumption | trivial) (fun hHeld => ?_)
  clear hK K
  (try simp only [List.append_eq, List.cons_append, List.nil_append, List.getElem_toArray, List.getElem_cons_succ, List.getElem_cons_zero, Act.put, List.setIfInBounds_toArray, List.set_cons_zero, List.set_cons_succ])
  refine wpAnyH_ready (rs := [34]) (by kernel_rfl) (by simp) ?_
  refine AllReadyH.cons rfl (fun K hK => ?_) AllReadyH.nil
  go_simp
  (go_at_call 20; refine (txt1 g5 _ HL5.out).mono ?_; rintro e w6 ⟨rfl, b⟩; have hS6 : (w6.cell? ⟨g, 0, none⟩ = some (.string ⟨#[65]⟩) ∧ w6.cell? ⟨g, 1, none⟩ = some (.int .i64 0) ∧ w6.cell? ⟨g, 2, none⟩ = some (.int .i64 10) ∧ w6.cell? ⟨g, 3, none⟩ = some (.int .i64 2) ∧ w6.cell? ⟨g, 4, none⟩ = some (.string ⟨#[98]⟩) ∧ w6.cell? ⟨g, 5, none⟩ = some (.int .i64 10) ∧ w6.cell? ⟨g, 6, none⟩ = some (.int .i64 16) ∧ w6.cell? ⟨g, 7, none⟩ = some (.int .i64 13)) ∧ Hid (Below w2.heap.size w2 w6) := ⟨⟨cells_keep b hHeld.1.1, cells_keep b hHeld.1.2.1, cells_keep b hHeld.1.2.2.1, cells_keep b hHeld.1.2.2.2.1, cells_keep b hHeld.1.2.2.2.2.1, cells_keep b hHeld.1.2.2.2.2.2.1, cells_keep b hHeld.1.2.2.2.2.2.2.1, cells_keep b hHeld.1.2.2.2.2.2.2.2⟩, hid (past hHeld.2.out b)⟩; clear b hHeld)
  go_wp2_with fail
  refine hK.out _ _ (by first | assumption | trivial) (fun hHeld => ?_)
  clear hK K
  (try simp only [List.append_eq, List.cons_append, List.nil_append, List.getElem_toArray, List.getElem_cons_succ, List.getElem_cons_zero, Act.put, List.setIfInBounds_toArray, List.set_cons_zero, List.set_cons_succ])
  refine wpAnyH_take (i := 35) (v := ?_) rfl (by kernel_rfl) (by kernel_rfl) (by kernel_rfl) (fun _ _ _ h => h) (Or.inl ⟨by kernel_rfl, ?_⟩) (by first | assumption | trivial) ?_
  rotate_left
  · (intro wS hSw; (try dsimp only at hSw); go_simp; try with_reducible rfl)
  (try simp only [List.append_eq, List.cons_append, List.nil_append, List.getElem_toArray, List.getElem_cons_succ, List.getElem_cons_zero, Act.put, List.setIfInBounds_toArray, List.set_cons_zero, List.set_cons_succ])
  refine wpAnyH_take (i := 36) (v := ?_) rfl (by kernel_rfl) (by kernel_rfl) (by kernel_rfl) (fun _ _ _ h => h) (Or.inl ⟨by kernel_rfl, ?_⟩) (by first | assumption | trivial) ?_
  rotate_left
  · (intro wS hSw; (try dsimp only at hSw); go_simp; try with_reducible rfl)
  (try simp only [List.append_eq, List.cons_append, List.nil_append, List.getElem_toArray, List.getElem_cons_succ, List.getElem_cons_zero, Act.put, List.setIfInBounds_toArray, List.set_cons_zero, List.set_cons_succ])
  refine wpAnyH_take (i := 37) (v := ?_) rfl (by kernel_rfl) (by kernel_rfl) (by kernel_rfl) (fun _ _ _ h => h) (Or.inl ⟨by kernel_rfl, ?_⟩) (by first | assumption | trivial) ?_
  rotate_left
  · (intro wS hSw; (try dsimp only at hSw); go_simp; try with_reducible rfl)
  (try simp only [List.append_eq, List.cons_append, List.nil_append, List.getElem_toArray, List.getElem_cons_succ, List.getElem_cons_zero, Act.put, List.setIfInBounds_toArray, List.set_cons_zero, List.set_cons_succ])
  refine wpAnyH_ready (rs := [38, 39]) (by kernel_rfl) (by simp) ?_
  refine AllReadyH.cons rfl (fun K hK => ?_) (AllReadyH.cons rfl (fun K hK => ?_) AllReadyH.nil)
  · go_simp
    (go_at_call 28; refine (letter_any _).mono ?_; rintro e w8 ⟨⟨g8, rfl, ho⟩, b⟩; have hS8 : (w8.cell? ⟨g, 0, none⟩ = some (.string ⟨#[65]⟩) ∧ w8.cell? ⟨g, 1, none⟩ = some (.int .i64 0) ∧ w8.cell? ⟨g, 2, none⟩ = some (.int .i64 10) ∧ w8.cell? ⟨g, 3, none⟩ = some (.int .i64 2) ∧ w8.cell? ⟨g, 4, none⟩ = some (.string ⟨#[98]⟩) ∧ w8.cell? ⟨g, 5, none⟩ = some (.int .i64 10) ∧ w8.cell? ⟨g, 6, none⟩ = some (.int .i64 16) ∧ w8.cell? ⟨g, 7, none⟩ = some (.int .i64 13)) ∧ Hid (Below w2.heap.size w2 w8) := ⟨⟨cells_keep b hHeld.1.1, cells_keep b hHeld.1.2.1, cells_keep b hHeld.1.2.2.1, cells_keep b hHeld.1.2.2.2.1, cells_keep b hHeld.1.2.2.2.2.1, cells_keep b hHeld.1.2.2.2.2.2.1, cells_keep b hHeld.1.2.2.2.2.2.2.1, cells_keep b hHeld.1.2.2.2.2.2.2.2⟩, hid (past hHeld.2.out b)⟩; have HL8 := hid ho; clear ho b hHeld)
    go_wp2_with fail
    refine hK.out _ _ (by first | assumption | trivial) (fun hHeld => ?_)
    clear hK K
    (try simp only [List.append_eq, List.cons_append, List.nil_append, List.getElem_toArray, List.getElem_cons_succ, List.getElem_cons_zero, Act.put, List.setIfInBounds_toArray, List.set_cons_zero, List.set_cons_succ])
    refine wpAnyH_ready (rs := [39]) (by kernel_rfl) (by simp) ?_
    refine AllReadyH.cons rfl (fun K hK => ?_) AllReadyH.nil
    go_simp
    (have b := (Below.refl _ w8).alloc (Nat.le_refl _) (.cells #[.string ⟨#[66]⟩] 9); have hS9 : ((w8.alloc (.cells #[.string ⟨#[66]⟩] 9)).cell? ⟨g, 0, none⟩ = some (.string ⟨#[65]⟩) ∧ (w8.alloc (.cells #[.string ⟨#[66]⟩] 9)).cell? ⟨g, 1, none⟩ = some (.int .i64 0) ∧ (w8.alloc (.cells #[.string ⟨#[66]⟩] 9)).cell? ⟨g, 2, none⟩ = some (.int .i64 10) ∧ (w8.alloc (.cells #[.string ⟨#[66]⟩] 9)).cell? ⟨g, 3, none⟩ = some (.int .i64 2) ∧ (w8.alloc (.cells #[.string ⟨#[66]⟩] 9)).cell? ⟨g, 4, none⟩ = some (.string ⟨#[98]⟩) ∧ (w8.alloc (.cells #[.string ⟨#[66]⟩] 9)).cell? ⟨g, 5, none⟩ = some (.int .i64 10) ∧ (w8.alloc (.cells #[.string ⟨#[66]⟩] 9)).cell? ⟨g, 6, none⟩ = some (.int .i64 16) ∧ (w8.alloc (.cells #[.string ⟨#[66]⟩] 9)).cell? ⟨g, 7, none⟩ = some (.int .i64 13)) ∧ Hid (Below w2.heap.size w2 (w8.alloc (.cells #[.string ⟨#[66]⟩] 9))) := ⟨⟨cells_keep b hHeld.1.1, cells_keep b hHeld.1.2.1, cells_keep b hHeld.1.2.2.1, cells_keep b hHeld.1.2.2.2.1, cells_keep b hHeld.1.2.2.2.2.1, cells_keep b hHeld.1.2.2.2.2.2.1, cells_keep b hHeld.1.2.2.2.2.2.2.1, cells_keep b hHeld.1.2.2.2.2.2.2.2⟩, hid (past hHeld.2.out b)⟩; have HC9 : Hid ((w8.alloc (.cells #[.string ⟨#[66]⟩] 9)).cell? ⟨w8.heap.size, 0, none⟩ = some (.string ⟨#[66]⟩)) := hid ((OwnE.new_ w8 [.string ⟨#[66]⟩] 9).cell (j := 0) rfl); have HL8 := hid (HL8.out.below b); clear b hHeld)
    go_wp2_with fail
    refine hK.out _ _ (by first | assumption | trivial) (fun hHeld => ?_)
    clear hK K
    (try simp only [List.append_eq, List.cons_append, List.nil_append, List.getElem_toArray, List.getElem_cons_succ, List.getElem_cons_zero, Act.put, List.setIfInBounds_toArray, List.set_cons_zero, List.set_cons_succ])
    refine wpAnyH_ready (rs := [40]) (by kernel_rfl) (by simp) ?_
    refine AllReadyH.cons rfl (fun K hK => ?_) AllReadyH.nil
    go_simp
    (go_at_call 15; refine (pck1 g8 w8.heap.size _ HL8.out HC9.out).mono ?_; rintro e w10 ⟨⟨A10, k10, c10, rfl, ho⟩, b⟩; have hS10 : (w10.cell? ⟨g, 0, none⟩ = some (.string ⟨#[65]⟩) ∧ w10.cell? ⟨g, 1, none⟩ = some (.int .i64 0) ∧ w10.cell? ⟨g, 2, none⟩ = some (.int .i64 10) ∧ w10.cell? ⟨g, 3, none⟩ = some (.int .i64 2) ∧ w10.cell? ⟨g, 4, none⟩ = some (.string ⟨#[98]⟩) ∧ w10.cell? ⟨g, 5, none⟩ = some (.int .i64 10) ∧ w10.cell? ⟨g, 6, none⟩ = some (.int .i64 16) ∧ w10.cell? ⟨g, 7, none⟩ = some (.int .i64 13)) ∧ Hid (Below w2.heap.size w2 w10) := ⟨⟨cells_keep b hHeld.1.1, cells_keep b hHeld.1.2.1, cells_keep b hHeld.1.2.2.1, cells_keep b hHeld.1.2.2.2.1, cells_keep b hHeld.1.2.2.2.2.1, cells_keep b hHeld.1.2.2.2.2.2.1, cells_keep b hHeld.1.2.2.2.2.2.2.1, cells_keep b hHeld.1.2.2.2.2.2.2.2⟩, hid (past hHeld.2.out b)⟩; have kc : (convert 22 9 (.slice A10 k10 c10)).run Tryd.prog w10 = .ok (.string ⟨#[98, 32, 58, 51, 13, 10, 13, 10]⟩) w10 := run_string_oct c10 ho Tryd.underlying22 Tryd.underlying5 Tryd.underlying9; clear b hHeld ho)
    go_wp2_with fail
    refine hK.out _ _ (by first | assumption | trivial) (fun hHeld => ?_)
    clear hK K
    (try simp only [List.append_eq, List.cons_append, List.nil_append, List.getElem_toArray, List.getElem_cons_succ, List.getElem_cons_zero, Act.put, List.setIfInBounds_toArray, List.set_cons_zero, List.set_cons_succ])
    refine wpAnyH_ready (rs := [41]) (by kernel_rfl) (by simp) ?_
    refine AllReadyH.cons rfl (fun K hK => ?_) AllReadyH.nil
    go_simp
    skip
    go_wp2_with fail
    refine hK.out _ _ (by first | assumption | trivial) (fun hHeld => ?_)
    clear hK K
    (try simp only [List.append_eq, List.cons_append, List.nil_append, List.getElem_toArray, List.getElem_cons_succ, List.getElem_cons_zero, Act.put, List.setIfInBounds_toArray, List.set_cons_zero, List.set_cons_succ])
    refine wpAnyH_take (i := 42) (v := ?_) rfl (by kernel_rfl) (by kernel_rfl) (by kernel_rfl) (fun _ _ _ h => h) (Or.inl ⟨by kernel_rfl, ?_⟩) (by first | assumption | trivial) ?_
    rotate_left
    · (intro wS hSw; (try dsimp only at hSw); go_simp; try with_reducible rfl)
    (try simp only [List.append_eq, List.cons_append, List.nil_append, List.getElem_toArray, List.getElem_cons_succ, List.getElem_cons_zero, Act.put, List.setIfInBounds_toArray, List.set_cons_zero, List.set_cons_succ])
    refine wpAnyH_take (i := 43) (v := ?_) rfl (by kernel_rfl) (by kernel_rfl) (by kernel_rfl) (fun _ _ _ h => h) (Or.inl ⟨by kernel_rfl, ?_⟩) (by first | assumption | trivial) ?_
    rotate_left
    · (intro wS hSw; (try dsimp only at hSw); go_simp; try with_reducible rfl)
    (try simp only [List.append_eq, List.cons_append, List.nil_append, List.getElem_toArray, List.getElem_cons_succ, List.getElem_cons_zero, Act.put, List.setIfInBounds_toArray, List.set_cons_zero, List.set_cons_succ])
    refine wpAnyH_take (i := 44) (v := ?_) rfl (by kernel_rfl) (by kernel_rfl) (by kernel_rfl) (fun _ _ _ h => h) (Or.inl ⟨by kernel_rfl, ?_⟩) (by first | assumption | trivial) ?_
    rotate_left
    · (intro wS hSw; (try dsimp only at hSw); go_simp; try with_reducible rfl)
    (try simp only [List.append_eq, List.cons_append, List.nil_append, List.getElem_toArray, List.getElem_cons_succ, List.getElem_cons_zero, Act.put, List.setIfInBounds_toArray, List.set_cons_zero, List.set_cons_succ])
    refine wpAnyH_done (by kernel_rfl) ?_ _
    refine NoPanic.normal ?_
    have HBE := hid (past HBT.out hHeld.2.out)
    go_wp2_with fail
    go_ret
    exact ⟨rfl, HBE.out⟩
  · go_simp
    (have b := (Below.refl _ w6).alloc (Nat.le_refl _) (.cells #[.string ⟨#[66]⟩] 9); have hS9 : ((w6.alloc (.cells #[.string ⟨#[66]⟩] 9)).cell? ⟨g, 0, none⟩ = some (.string ⟨#[65]⟩) ∧ (w6.alloc (.cells #[.string ⟨#[66]⟩] 9)).cell? ⟨g, 1, none⟩ = some (.int .i64 0) ∧ (w6.alloc (.cells #[.string ⟨#[66]⟩] 9)).cell? ⟨g, 2, none⟩ = some (.int .i64 10) ∧ (w6.alloc (.cells #[.string ⟨#[66]⟩] 9)).cell? ⟨g, 3, none⟩ = some (.int .i64 2) ∧ (w6.alloc (.cells #[.string ⟨#[66]⟩] 9)).cell? ⟨g, 4, none⟩ = some (.string ⟨#[98]⟩) ∧ (w6.alloc (.cells #[.string ⟨#[66]⟩] 9)).cell? ⟨g, 5, none⟩ = some (.int .i64 10) ∧ (w6.alloc (.cells #[.string ⟨#[66]⟩] 9)).cell? ⟨g, 6, none⟩ = some (.int .i64 16) ∧ (w6.alloc (.cells #[.string ⟨#[66]⟩] 9)).cell? ⟨g, 7, none⟩ = some (.int .i64 13)) ∧ Hid (Below w2.heap.size w2 (w6.alloc (.cells #[.string ⟨#[66]⟩] 9))) := ⟨⟨cells_keep b hHeld.1.1, cells_keep b hHeld.1.2.1, cells_keep b hHeld.1.2.2.1, cells_keep b hHeld.1.2.2.2.1, cells_keep b hHeld.1.2.2.2.2.1, cells_keep b hHeld.1.2.2.2.2.2.1, cells_keep b hHeld.1.2.2.2.2.2.2.1, cells_keep b hHeld.1.2.2.2.2.2.2.2⟩, hid (past hHeld.2.out b)⟩; have HC9 : Hid ((w6.alloc (.cells #[.string ⟨#[66]⟩] 9)).cell? ⟨w6.heap.size, 0, none⟩ = some (.string ⟨#[66]⟩)) := hid ((OwnE.new_ w6 [.string ⟨#[66]⟩] 9).cell (j := 0) rfl); clear b hHeld)
    refine hK.out _ _ (by first | assumption | trivial) (fun hHeld => ?_)
    clear hK K
    (try simp only [List.append_eq, List.cons_append, List.nil_append, List.getElem_toArray, List.getElem_cons_succ, List.getElem_cons_zero, Act.put, List.setIfInBounds_toArray, List.set_cons_zero, List.set_cons_succ])
    refine wpAnyH_ready (rs := [38]) (by kernel_rfl) (by simp) ?_
    refine AllReadyH.cons rfl (fun K hK => ?_) AllReadyH.nil
    go_simp
    (go_at_call 28; refine (letter_any _).mono ?_; rintro e w8 ⟨⟨g8, rfl, ho⟩, b⟩; have hS8 : (w8.cell? ⟨g, 0, none⟩ = some (.string ⟨#[65]⟩) ∧ w8.cell? ⟨g, 1, none⟩ = some (.int .i64 0) ∧ w8.cell? ⟨g, 2, none⟩ = some (.int .i64 10) ∧ w8.cell? ⟨g, 3, none⟩ = some (.int .i64 2) ∧ w8.cell? ⟨g, 4, none⟩ = some (.string ⟨#[98]⟩) ∧ w8.cell? ⟨g, 5, none⟩ = some (.int .i64 10) ∧ w8.cell? ⟨g, 6, none⟩ = some (.int .i64 16) ∧ w8.cell? ⟨g, 7, none⟩ = some (.int .i64 13)) ∧ Hid (Below w2.heap.size w2 w8) := ⟨⟨cells_keep b hHeld.1.1, cells_keep b hHeld.1.2.1, cells_keep b hHeld.1.2.2.1, cells_keep b hHeld.1.2.2.2.1, cells_keep b hHeld.1.2.2.2.2.1, cells_keep b hHeld.1.2.2.2.2.2.1, cells_keep b hHeld.1.2.2.2.2.2.2.1, cells_keep b hHeld.1.2.2.2.2.2.2.2⟩, hid (past hHeld.2.out b)⟩; have HL8 := hid ho; have HC9 := hid (cells_keep b HC9.out); clear ho b hHeld)
    go_wp2_with fail
    refine hK.out _ _ (by first | assumption | trivial) (fun hHeld => ?_)
    clear hK K
    (try simp only [List.append_eq, List.cons_append, List.nil_append, List.getElem_toArray, List.getElem_cons_succ, List.getElem_cons_zero, Act.put, List.setIfInBounds_toArray, List.set_cons_zero, List.set_cons_succ])
    refine wpAnyH_ready (rs := [40]) (by kernel_rfl) (by simp) ?_
    refine AllReadyH.cons rfl (fun K hK => ?_) AllReadyH.nil
    go_simp
    (go_at_call 15; refine (pck1 g8 w6.heap.size _ HL8.out HC9.out).mono ?_; rintro e w10 ⟨⟨A10, k10, c10, rfl, ho⟩, b⟩; have hS10 : (w10.cell? ⟨g, 0, none⟩ = some (.string ⟨#[65]⟩) ∧ w10.cell? ⟨g, 1, none⟩ = some (.int .i64 0) ∧ w10.cell? ⟨g, 2, none⟩ = some (.int .i64 10) ∧ w10.cell? ⟨g, 3, none⟩ = some (.int .i64 2) ∧ w10.cell? ⟨g, 4, none⟩ = some (.string ⟨#[98]⟩) ∧ w10.cell? ⟨g, 5, none⟩ = some (.int .i64 10) ∧ w10.cell? ⟨g, 6, none⟩ = some (.int .i64 16) ∧ w10.cell? ⟨g, 7, none⟩ = some (.int .i64 13)) ∧ Hid (Below w2.heap.size w2 w10) := ⟨⟨cells_keep b hHeld.1.1, cells_keep b hHeld.1.2.1, cells_keep b hHeld.1.2.2.1, cells_keep b hHeld.1.2.2.2.1, cells_keep b hHeld.1.2.2.2.2.1, cells_keep b hHeld.1.2.2.2.2.2.1, cells_keep b hHeld.1.2.2.2.2.2.2.1, cells_keep b hHeld.1.2.2.2.2.2.2.2⟩, hid (past hHeld.2.out b)⟩; have kc : (convert 22 9 (.slice A10 k10 c10)).run Tryd.prog w10 = .ok (.string ⟨#[98, 32, 58, 51, 13, 10, 13, 10]⟩) w10 := run_string_oct c10 ho Tryd.underlying22 Tryd.underlying5 Tryd.underlying9; clear b hHeld ho)
    go_wp2_with fail
    refine hK.out _ _ (by first | assumption | trivial) (fun hHeld => ?_)
    clear hK K
    (try simp only [List.append_eq, List.cons_append, List.nil_append, List.getElem_toArray, List.getElem_cons_succ, List.getElem_cons_zero, Act.put, List.setIfInBounds_toArray, List.set_cons_zero, List.set_cons_succ])
    refine wpAnyH_ready (rs := [41]) (by kernel_rfl) (by simp) ?_
    refine AllReadyH.cons rfl (fun K hK => ?_) AllReadyH.nil
    go_simp
    skip
    go_wp2_with fail
    refine hK.out _ _ (by first | assumption | trivial) (fun hHeld => ?_)
    clear hK K
    (try simp only [List.append_eq, List.cons_append, List.nil_append, List.getElem_toArray, List.getElem_cons_succ, List.getElem_cons_zero, Act.put, List.setIfInBounds_toArray, List.set_cons_zero, List.set_cons_succ])
    refine wpAnyH_take (i := 42) (v := ?_) rfl (by kernel_rfl) (by kernel_rfl) (by kernel_rfl) (fun _ _ _ h => h) (Or.inl ⟨by kernel_rfl, ?_⟩) (by first | assumption | trivial) ?_
    rotate_left
    · (intro wS hSw; (try dsimp only at hSw); go_simp; try with_reducible rfl)
    (try simp only [List.append_eq, List.cons_append, List.nil_append, List.getElem_toArray, List.getElem_cons_succ, List.getElem_cons_zero, Act.put, List.setIfInBounds_toArray, List.set_cons_zero, List.set_cons_succ])
    refine wpAnyH_take (i := 43) (v := ?_) rfl (by kernel_rfl) (by kernel_rfl) (by kernel_rfl) (fun _ _ _ h => h) (Or.inl ⟨by kernel_rfl, ?_⟩) (by first | assumption | trivial) ?_
    rotate_left
    · (intro wS hSw; (try dsimp only at hSw); go_simp; try with_reducible rfl)
    (try simp only [List.append_eq, List.cons_append, List.nil_append, List.getElem_toArray, List.getElem_cons_succ, List.getElem_cons_zero, Act.put, List.setIfInBounds_toArray, List.set_cons_zero, List.set_cons_succ])
    refine wpAnyH_take (i := 44) (v := ?_) rfl (by kernel_rfl) (by kernel_rfl) (by kernel_rfl) (fun _ _ _ h => h) (Or.inl ⟨by kernel_rfl, ?_⟩) (by first | assumption | trivial) ?_
    rotate_left
    · (intro wS hSw; (try dsimp only at hSw); go_simp; try with_reducible rfl)
    (try simp only [List.append_eq, List.cons_append, List.nil_append, List.getElem_toArray, List.getElem_cons_succ, List.getElem_cons_zero, Act.put, List.setIfInBounds_toArray, List.set_cons_zero, List.set_cons_succ])
    refine wpAnyH_done (by kernel_rfl) ?_ _
    refine NoPanic.normal ?_
    have HBE := hid (past HBT.out hHeld.2.out)
    go_wp2_with fail
    go_ret
    exact ⟨rfl, HBE.out⟩
end Go.Proofs.YthlofpofcpconaaDoor
