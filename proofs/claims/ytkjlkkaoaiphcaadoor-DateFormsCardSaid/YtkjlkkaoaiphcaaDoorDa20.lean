/-
  The day that a text of search tells: both walks. A part of the proof: see the head of the text that ends in 'Law'.
-/
import Derived.Test.YtkjlkkaoaiphcaaDoorDaPlain3
import Derived.Test.YtkjlkkaoaiphcaaDoorDa17
namespace Go.Proofs.YtkjlkkaoaiphcaaDoor
open Go.RowKit Go.Shelf
set_option linter.unusedVariables false
set_option linter.unusedSimpArgs false
attribute [local go_sem] Oper.semAt_some

/-- The day of a text of search, and the error's number. -/
def pdayF (l : List UInt8) : Int × Nat := match cutF 45 l with | [d, m, y] => dayF d m y | _ => (0, 3)
theorem pdayF_bad {l : List UInt8} (h : (cutF 45 l).length ≠ 3) : pdayF l = (0, 3) := by
  unfold pdayF
  match hc : cutF 45 l with
  | [] => rfl
  | [_] => rfl
  | [_, _] => rfl
  | [_, _, _] => rw [hc] at h; exact absurd rfl h
  | _ :: _ :: _ :: _ :: _ => rfl
theorem strs_split (l : List UInt8) (hl : l.length ≤ 100000) (m : Int) (w : World) (hm : w.cell? ⟨2, 0, none⟩ = some (.int .i64 m)) :
    Calls Tryd.prog 39 #[.string (str l), .string ⟨#[45]⟩] w fun e w' => e = .returned (.slice (some ⟨w.heap.size, 0, none⟩) (cutF 45 l).length (cutF 45 l).length) ∧ w' = w.alloc (.cells ((cutF 45 l).map SV).toArray 9) := by
  have h := Tryd.strings_Split (str l) (str [45]) m w (by rw [str_size]; omega) hm (Nat.le_refl 1)
  rw [splitB_is, cut_count] at h
  exact h
set_option maxHeartbeats 2000000 in
theorem pday_any (l : List UInt8) (hl : l.length ≤ 100000) (m : Int) (w : World) (hm : w.cell? ⟨2, 0, none⟩ = some (.int .i64 m)) :
    Calls Tryd.prog 21 #[.string (str l)] w fun e w' => e = .returned (.tuple #[.int .i64 (pdayF l).1, .int .i64 ((pdayF l).2 : Int)]) ∧ Below w.heap.size w w' := by
  have hs := strs_split l hl m w hm
  have HB0 := hid (fun o => (Below.refl w.heap.size w).alloc (Nat.le_refl _) o)
  clear hm
  by_cases h3 : (cutF 45 l).length = 3
  · skip
    obtain ⟨x, y, z, hc⟩ : ∃ x y z, cutF 45 l = [x, y, z] := by
      match hc : cutF 45 l with
      | [] => rw [hc] at h3; simp at h3
      | [_] => rw [hc] at h3; simp at h3
      | [_, _] => rw [hc] at h3; simp at h3
      | [x, y, z] => exact ⟨x, y, z, rfl⟩
      | _ :: _ :: _ :: _ :: _ => rw [hc] at h3; simp at h3
    have hp : pdayF l = dayF x y z := by unfold pdayF; rw [hc]
    have hmem : ∀ q ∈ cutF 45 l, q.length ≤ 100000 := fun q hq => by rw [cut_is] at hq; exact Nat.le_trans (splitF_mem 45 l q hq) hl
    rw [hc] at hmem
    have hx := hmem x (by simp)
    have hy := hmem y (by simp)
    have hz := hmem z (by simp)
    rw [hp]
    rw [hc] at hs
    have hs' : Calls Tryd.prog 39 #[.string (str l), .string ⟨#[45]⟩] w fun e w' => e = .returned (.slice (some ⟨w.heap.size, 0, none⟩) 3 3) ∧ w'.cell? ⟨w.heap.size, 0, none⟩ = some (.string (str x)) ∧ w'.cell? ⟨w.heap.size, 1, none⟩ = some (.string (str y)) ∧ w'.cell? ⟨w.heap.size, 2, none⟩ = some (.string (str z)) ∧ Below w.heap.size w w' :=
      hs.mono fun e w' ⟨he, hw⟩ => by
        have k := OwnC.new_ w #[.string (str x), .string (str y), .string (str z)] 9
        rw [hw]
        exact ⟨he, k.cell rfl, k.cell rfl, k.cell rfl, HB0.out _⟩
    have HS := hid hs'
    have HDY := hid (fun w => day_any x y z w hx hy hz)
    clear hs hs' hp hmem hx hy hz hc h3
    go_enter Tryd.func21, Tryd.ntmps21
    go_upto_region 4 with (go_at_call 39; (with_reducible refine HS.out.mono ?_); rintro e w1 ⟨rfl, p0, p1, p2, b1⟩; have HB1 := hid b1; clear b1)
    go_upto_region 4 with fail
    refine wp_region_noPanic ?_
    refine wp_region_held_drew (S := (fun W => W.cell? ⟨w.heap.size, 0, none⟩ = some (.string (str x)) ∧ W.cell? ⟨w.heap.size, 1, none⟩ = some (.string (str y)) ∧ W.cell? ⟨w.heap.size, 2, none⟩ = some (.string (str z)))) (by kernel_rfl) (by first | assumption | trivial) (fun hHeld => ?_)
    refine wpAnyH_take (i := 0) (v := ?_) rfl (by kernel_rfl) (by kernel_rfl) (by kernel_rfl) (fun _ _ _ h => h) (Or.inl ⟨by kernel_rfl, ?_⟩) (by first | assumption | trivial) ?_
    rotate_left
    · (intro wS hSw; (try dsimp only at hSw); go_simp; try with_reducible rfl)
    (try simp only [List.append_eq, List.cons_append, List.nil_append, List.getElem_toArray, List.getElem_cons_succ, List.getElem_cons_zero, Act.put, List.setIfInBounds_toArray, List.set_cons_zero, List.set_cons_succ])
    refine wpAnyH_take (i := 1) (v := ?_) rfl (by kernel_rfl) (by kernel_rfl) (by kernel_rfl) (fun _ _ _ h => h) (Or.inl ⟨by kernel_rfl, ?_⟩) (by first | assumption | trivial) ?_
    rotate_left
    · (intro wS hSw; (try dsimp only at hSw); go_simp; try with_reducible rfl)
    (try simp only [List.append_eq, List.cons_append, List.nil_append, List.getElem_toArray, List.getElem_cons_succ, List.getElem_cons_zero, Act.put, List.setIfInBounds_toArray, List.set_cons_zero, List.set_cons_succ])
    refine wpAnyH_take (i := 2) (v := ?_) rfl (by kernel_rfl) (by kernel_rfl) (by kernel_rfl) (fun _ _ _ h => h) (Or.inl ⟨by kernel_rfl, ?_⟩) (by first | assumption | trivial) ?_
    rotate_left
    · (intro wS hSw; (try dsimp only at hSw); go_simp; try with_reducible rfl)
    (try simp only [List.append_eq, List.cons_append, List.nil_append, List.getElem_toArray, List.getElem_cons_succ, List.getElem_cons_zero, Act.put, List.setIfInBounds_toArray, List.set_cons_zero, List.set_cons_succ])
    refine wpAnyH_take (i := 3) (v := ?_) rfl (by kernel_rfl) (by kernel_rfl) (by kernel_rfl) (fun _ _ _ h => h) (Or.inl ⟨by kernel_rfl, ?_⟩) (by first | assumption | trivial) ?_
    rotate_left
    · (intro wS hSw; (try dsimp only at hSw); go_simp; try with_reducible rfl)
    (try simp only [List.append_eq, List.cons_append, List.nil_append, List.getElem_toArray, List.getElem_cons_succ, List.getElem_cons_zero, Act.put, List.setIfInBounds_toArray, List.set_cons_zero, List.set_cons_succ])
    refine wpAnyH_take (i := 4) (v := ?_) rfl (by kernel_rfl) (by kernel_rfl) (by kernel_rfl) (fun _ _ _ h => h) (Or.inl ⟨by kernel_rfl, ?_⟩) (by first | assumption | trivial) ?_
    rotate_left
    · (intro wS hSw; (try dsimp only at hSw); go_simp; try with_reducible rfl)
    (try simp only [List.append_eq, List.cons_append, List.nil_append, List.getElem_toArray, List.getElem_cons_succ, List.getElem_cons_zero, Act.put, List.setIfInBounds_toArray, List.set_cons_zero, List.set_cons_succ])
    refine wpAnyH_take (i := 5) (v := ?_) rfl (by kernel_rfl) (by kernel_rfl) (by kernel_rfl) (fun _ _ _ h => h) (Or.inl ⟨by kernel_rfl, ?_⟩) (by first | assumption | trivial) ?_
    rotate_left
    · (intro wS hSw; (try dsimp only at hSw); go_simp; try with_reducible rfl)
    (try simp only [List.append_eq, List.cons_append, List.nil_append, List.getElem_toArray, List.getElem_cons_succ, List.getElem_cons_zero, Act.put, List.setIfInBounds_toArray, List.set_cons_zero, List.set_cons_succ])
    refine wpAnyH_take (i := 6) (v := ?_) rfl (by kernel_rfl) (by kernel_rfl) (by kernel_rfl) (fun _ _ _ h => h) (Or.inl ⟨by kernel_rfl, ?_⟩) (by first | assumption | trivial) ?_
    rotate_left
    · (intro wS hSw; (try dsimp only at hSw); go_simp; try with_reducible rfl)
    (try simp only [List.append_eq, List.cons_append, List.nil_append, List.getElem_toArray, List.getElem_cons_succ, List.getElem_cons_zero, Act.put, List.setIfInBounds_toArray, List.set_cons_zero, List.set_cons_succ])
    refine wpAnyH_take (i := 7) (v := ?_) rfl (by kernel_rfl) (by kernel_rfl) (by kernel_rfl) (fun _ _ _ h => h) (Or.inl ⟨by kernel_rfl, ?_⟩) (by first | assumption | trivial) ?_
    rotate_left
    · (intro wS hSw; (try dsimp only at hSw); go_simp; try with_reducible rfl)
    (try simp only [List.append_eq, List.cons_append, List.nil_append, List.getElem_toArray, List.getElem_cons_succ, List.getElem_cons_zero, Act.put, List.setIfInBounds_toArray, List.set_cons_zero, List.set_cons_succ])
    refine wpAnyH_take (i := 8) (v := ?_) rfl (by kernel_rfl) (by kernel_rfl) (by kernel_rfl) (fun _ _ _ h => h) (Or.inl ⟨by kernel_rfl, ?_⟩) (by first | assumption | trivial) ?_
    rotate_left
    · (intro wS hSw; (try dsimp only at hSw); go_simp; try with_reducible rfl)
    (try simp only [List.append_eq, List.cons_append, List.nil_append, List.getElem_toArray, List.getElem_cons_succ, List.getElem_cons_zero, Act.put, List.setIfInBounds_toArray, List.set_cons_zero, List.set_cons_succ])
    refine wpAnyH_ready (rs := [9]) (by kernel_rfl) (by simp) ?_
    refine AllReadyH.cons rfl (fun K hK => ?_) AllReadyH.nil
    go_simp
    (go_at_call 40; refine (HDY.out _).mono ?_; rintro e w5 ⟨rfl, b5⟩; have hS5 : w5.cell? ⟨w.heap.size, 0, none⟩ = some (.string (str x)) ∧ w5.cell? ⟨w.heap.size, 1, none⟩ = some (.string (str y)) ∧ w5.cell? ⟨w.heap.size, 2, none⟩ = some (.string (str z)) := ⟨cells_keep b5 hHeld.1, cells_keep b5 hHeld.2.1, cells_keep b5 hHeld.2.2⟩; have HB5 := hid b5; clear b5 hHeld)
    go_wp2_with fail
    refine hK.out _ _ (by first | assumption | trivial) (fun hHeld => ?_)
    clear hK K
    (try simp only [List.append_eq, List.cons_append, List.nil_append, List.getElem_toArray, List.getElem_cons_succ, List.getElem_cons_zero, Act.put, List.setIfInBounds_toArray, List.set_cons_zero, List.set_cons_succ])
    refine wpAnyH_take (i := 10) (v := ?_) rfl (by kernel_rfl) (by kernel_rfl) (by kernel_rfl) (fun _ _ _ h => h) (Or.inl ⟨by kernel_rfl, ?_⟩) (by first | assumption | trivial) ?_
    rotate_left
    · (intro wS hSw; (try dsimp only at hSw); go_simp; try with_reducible rfl)
    (try simp only [List.append_eq, List.cons_append, List.nil_append, List.getElem_toArray, List.getElem_cons_succ, List.getElem_cons_zero, Act.put, List.setIfInBounds_toArray, List.set_cons_zero, List.set_cons_succ])
    refine wpAnyH_take (i := 11) (v := ?_) rfl (by kernel_rfl) (by kernel_rfl) (by kernel_rfl) (fun _ _ _ h => h) (Or.inl ⟨by kernel_rfl, ?_⟩) (by first | assumption | trivial) ?_
    rotate_left
    · (intro wS hSw; (try dsimp only at hSw); go_simp; try with_reducible rfl)
    (try simp only [List.append_eq, List.cons_append, List.nil_append, List.getElem_toArray, List.getElem_cons_succ, List.getElem_cons_zero, Act.put, List.setIfInBounds_toArray, List.set_cons_zero, List.set_cons_succ])
    refine wpAnyH_take (i := 12) (v := ?_) rfl (by kernel_rfl) (by kernel_rfl) (by kernel_rfl) (fun _ _ _ h => h) (Or.inl ⟨by kernel_rfl, ?_⟩) (by first | assumption | trivial) ?_
    rotate_left
    · (intro wS hSw; (try dsimp only at hSw); go_simp; try with_reducible rfl)
    (try simp only [List.append_eq, List.cons_append, List.nil_append, List.getElem_toArray, List.getElem_cons_succ, List.getElem_cons_zero, Act.put, List.setIfInBounds_toArray, List.set_cons_zero, List.set_cons_succ])
    refine wpAnyH_take (i := 13) (v := ?_) rfl (by kernel_rfl) (by kernel_rfl) (by kernel_rfl) (fun _ _ _ h => h) (Or.inl ⟨by kernel_rfl, ?_⟩) (by first | assumption | trivial) ?_
    rotate_left
    · (intro wS hSw; (try dsimp only at hSw); go_simp; try with_reducible rfl)
    (try simp only [List.append_eq, List.cons_append, List.nil_append, List.getElem_toArray, List.getElem_cons_succ, List.getElem_cons_zero, Act.put, List.setIfInBounds_toArray, List.set_cons_zero, List.set_cons_succ])
    refine wpAnyH_done (by kernel_rfl) ?_ _
    refine NoPanic.normal ?_
    go_wp2_with fail
    go_ret2
    exact ⟨rfl, next HB1.out (show Below w1.heap.size w1 w5 from ⟨HB5.out.os, HB5.out.tape, HB5.out.output, HB5.out.size, HB5.out.block⟩)⟩
  · have hp := pdayF_bad h3
    rw [hp]
    obtain ⟨n, hn⟩ : ∃ n, (cutF 45 l).length = n := ⟨_, rfl⟩
    rw [hn] at hs h3
    have d1 : ((n : Int) != 3) = true := by simp; omega
    have d1' : (n != 3) = true := by simpa using h3
    have HS := hid hs
    clear hs hn hp h3
    go_enter Tryd.func21, Tryd.ntmps21
    go_wp2_with (go_at_call 39; (with_reducible refine HS.out.mono ?_); rintro e w1 ⟨rfl, hw1⟩; have HW1 := hid hw1; clear hw1)
    go_ret2
    rw [HW1.out]
    exact ⟨rfl, HB0.out _⟩
set_option maxHeartbeats 2000000 in
theorem rpday_any (l : List UInt8) (hl : l.length ≤ 100000) (w : World) :
    Calls Tryd.prog 22 #[.string (str l)] w fun e w' => e = .returned (.tuple #[.int .i64 (pdayF l).1, .int .i64 ((pdayF l).2 : Int)]) ∧ Below w.heap.size w w' := by
  have hs := cut_any l 45 w hl
  by_cases h3 : (cutF 45 l).length = 3
  · skip
    obtain ⟨x, y, z, hc⟩ : ∃ x y z, cutF 45 l = [x, y, z] := by
      match hc : cutF 45 l with
      | [] => rw [hc] at h3; simp at h3
      | [_] => rw [hc] at h3; simp at h3
      | [_, _] => rw [hc] at h3; simp at h3
      | [x, y, z] => exact ⟨x, y, z, rfl⟩
      | _ :: _ :: _ :: _ :: _ => rw [hc] at h3; simp at h3
    have hp : pdayF l = dayF x y z := by unfold pdayF; rw [hc]
    have hmem : ∀ q ∈ cutF 45 l, q.length ≤ 100000 := fun q hq => by rw [cut_is] at hq; exact Nat.le_trans (splitF_mem 45 l q hq) hl
    rw [hc] at hmem
    have hx := hmem x (by simp)
    have hy := hmem y (by simp)
    have hz := hmem z (by simp)
    rw [hp]
    have hs' : Calls Tryd.prog 41 #[.string (str l), .int .u8 45] w fun e w' => ∃ b off d, e = .returned (.slice (some ⟨b, off, none⟩) 3 d) ∧ w'.cell? ⟨b, off, none⟩ = some (.string (str x)) ∧ w'.cell? ⟨b, off + 1, none⟩ = some (.string (str y)) ∧ w'.cell? ⟨b, off + 2, none⟩ = some (.string (str z)) ∧ Below w.heap.size w w' :=
      hs.mono fun e w' ⟨A, n, d, he, hn, hrow, hb⟩ => by
        rw [hc] at hn hrow
        subst hn
        obtain ⟨b, off, rfl, hcl⟩ := Row.of_own hrow (by simp)
        exact ⟨b, off, d, he, hcl 0 _ rfl, hcl 1 _ rfl, hcl 2 _ rfl, hb⟩
    have HS := hid hs'
    have HDY := hid (fun w => rday_any x y z w hx hy hz)
    clear hs hs' hp hmem hx hy hz hc h3
    go_enter Tryd.func22, Tryd.ntmps22
    go_upto_region 4 with (go_at_call 41; (with_reducible refine HS.out.mono ?_); rintro e w1 ⟨b, off, d, rfl, p0, p1, p2, b1⟩; have HB1 := hid b1; clear b1)
    go_upto_region 4 with fail
    refine wp_region_noPanic ?_
    refine wp_region_held_drew (S := (fun W => W.cell? ⟨b, off, none⟩ = some (.string (str x)) ∧ W.cell? ⟨b, off + 1, none⟩ = some (.string (str y)) ∧ W.cell? ⟨b, off + 2, none⟩ = some (.string (str z)))) (by kernel_rfl) (by first | assumption | trivial) (fun hHeld => ?_)
    refine wpAnyH_take (i := 0) (v := ?_) rfl (by kernel_rfl) (by kernel_rfl) (by kernel_rfl) (fun _ _ _ h => h) (Or.inl ⟨by kernel_rfl, ?_⟩) (by first | assumption | trivial) ?_
    rotate_left
    · (intro wS hSw; (try dsimp only at hSw); go_simp; try with_reducible rfl)
    (try simp only [List.append_eq, List.cons_append, List.nil_append, List.getElem_toArray, List.getElem_cons_succ, List.getElem_cons_zero, Act.put, List.setIfInBounds_toArray, List.set_cons_zero, List.set_cons_succ])
    refine wpAnyH_take (i := 1) (v := ?_) rfl (by kernel_rfl) (by kernel_rfl) (by kernel_rfl) (fun _ _ _ h => h) (Or.inl ⟨by kernel_rfl, ?_⟩) (by first | assumption | trivial) ?_
    rotate_left
    · (intro wS hSw; (try dsimp only at hSw); go_simp; try with_reducible rfl)
    (try simp only [List.append_eq, List.cons_append, List.nil_append, List.getElem_toArray, List.getElem_cons_succ, List.getElem_cons_zero, Act.put, List.setIfInBounds_toArray, List.set_cons_zero, List.set_cons_succ])
    refine wpAnyH_take (i := 2) (v := ?_) rfl (by kernel_rfl) (by kernel_rfl) (by kernel_rfl) (fun _ _ _ h => h) (Or.inl ⟨by kernel_rfl, ?_⟩) (by first | assumption | trivial) ?_
    rotate_left
    · (intro wS hSw; (try dsimp only at hSw); go_simp; try with_reducible rfl)
    (try simp only [List.append_eq, List.cons_append, List.nil_append, List.getElem_toArray, List.getElem_cons_succ, List.getElem_cons_zero, Act.put, List.setIfInBounds_toArray, List.set_cons_zero, List.set_cons_succ])
    refine wpAnyH_take (i := 3) (v := ?_) rfl (by kernel_rfl) (by kernel_rfl) (by kernel_rfl) (fun _ _ _ h => h) (Or.inl ⟨by kernel_rfl, ?_⟩) (by first | assumption | trivial) ?_
    rotate_left
    · (intro wS hSw; (try dsimp only at hSw); go_simp; try with_reducible rfl)
    (try simp only [List.append_eq, List.cons_append, List.nil_append, List.getElem_toArray, List.getElem_cons_succ, List.getElem_cons_zero, Act.put, List.setIfInBounds_toArray, List.set_cons_zero, List.set_cons_succ])
    refine wpAnyH_take (i := 4) (v := ?_) rfl (by kernel_rfl) (by kernel_rfl) (by kernel_rfl) (fun _ _ _ h => h) (Or.inl ⟨by kernel_rfl, ?_⟩) (by first | assumption | trivial) ?_
    rotate_left
    · (intro wS hSw; (try dsimp only at hSw); go_simp; try with_reducible rfl)
    (try simp only [List.append_eq, List.cons_append, List.nil_append, List.getElem_toArray, List.getElem_cons_succ, List.getElem_cons_zero, Act.put, List.setIfInBounds_toArray, List.set_cons_zero, List.set_cons_succ])
    refine wpAnyH_take (i := 5) (v := ?_) rfl (by kernel_rfl) (by kernel_rfl) (by kernel_rfl) (fun _ _ _ h => h) (Or.inl ⟨by kernel_rfl, ?_⟩) (by first | assumption | trivial) ?_
    rotate_left
    · (intro wS hSw; (try dsimp only at hSw); go_simp; try with_reducible rfl)
    (try simp only [List.append_eq, List.cons_append, List.nil_append, List.getElem_toArray, List.getElem_cons_succ, List.getElem_cons_zero, Act.put, List.setIfInBounds_toArray, List.set_cons_zero, List.set_cons_succ])
    refine wpAnyH_take (i := 6) (v := ?_) rfl (by kernel_rfl) (by kernel_rfl) (by kernel_rfl) (fun _ _ _ h => h) (Or.inl ⟨by kernel_rfl, ?_⟩) (by first | assumption | trivial) ?_
    rotate_left
    · (intro wS hSw; (try dsimp only at hSw); go_simp; try with_reducible rfl)
    (try simp only [List.append_eq, List.cons_append, List.nil_append, List.getElem_toArray, List.getElem_cons_succ, List.getElem_cons_zero, Act.put, List.setIfInBounds_toArray, List.set_cons_zero, List.set_cons_succ])
    refine wpAnyH_take (i := 7) (v := ?_) rfl (by kernel_rfl) (by kernel_rfl) (by kernel_rfl) (fun _ _ _ h => h) (Or.inl ⟨by kernel_rfl, ?_⟩) (by first | assumption | trivial) ?_
    rotate_left
    · (intro wS hSw; (try dsimp only at hSw); go_simp; try with_reducible rfl)
    (try simp only [List.append_eq, List.cons_append, List.nil_append, List.getElem_toArray, List.getElem_cons_succ, List.getElem_cons_zero, Act.put, List.setIfInBounds_toArray, List.set_cons_zero, List.set_cons_succ])
    refine wpAnyH_take (i := 8) (v := ?_) rfl (by kernel_rfl) (by kernel_rfl) (by kernel_rfl) (fun _ _ _ h => h) (Or.inl ⟨by kernel_rfl, ?_⟩) (by first | assumption | trivial) ?_
    rotate_left
    · (intro wS hSw; (try dsimp only at hSw); go_simp; try with_reducible rfl)
    (try simp only [List.append_eq, List.cons_append, List.nil_append, List.getElem_toArray, List.getElem_cons_succ, List.getElem_cons_zero, Act.put, List.setIfInBounds_toArray, List.set_cons_zero, List.set_cons_succ])
    refine wpAnyH_ready (rs := [9]) (by kernel_rfl) (by simp) ?_
    refine AllReadyH.cons rfl (fun K hK => ?_) AllReadyH.nil
    go_simp
    (go_at_call 42; refine (HDY.out _).mono ?_; rintro e w5 ⟨rfl, b5⟩; have hS5 : w5.cell? ⟨b, off, none⟩ = some (.string (str x)) ∧ w5.cell? ⟨b, off + 1, none⟩ = some (.string (str y)) ∧ w5.cell? ⟨b, off + 2, none⟩ = some (.string (str z)) := ⟨cells_keep b5 hHeld.1, cells_keep b5 hHeld.2.1, cells_keep b5 hHeld.2.2⟩; have HB5 := hid b5; clear b5 hHeld)
    go_wp2_with fail
    refine hK.out _ _ (by first | assumption | trivial) (fun hHeld => ?_)
    clear hK K
    (try simp only [List.append_eq, List.cons_append, List.nil_append, List.getElem_toArray, List.getElem_cons_succ, List.getElem_cons_zero, Act.put, List.setIfInBounds_toArray, List.set_cons_zero, List.set_cons_succ])
    refine wpAnyH_take (i := 10) (v := ?_) rfl (by kernel_rfl) (by kernel_rfl) (by kernel_rfl) (fun _ _ _ h => h) (Or.inl ⟨by kernel_rfl, ?_⟩) (by first | assumption | trivial) ?_
    rotate_left
    · (intro wS hSw; (try dsimp only at hSw); go_simp; try with_reducible rfl)
    (try simp only [List.append_eq, List.cons_append, List.nil_append, List.getElem_toArray, List.getElem_cons_succ, List.getElem_cons_zero, Act.put, List.setIfInBounds_toArray, List.set_cons_zero, List.set_cons_succ])
    refine wpAnyH_take (i := 11) (v := ?_) rfl (by kernel_rfl) (by kernel_rfl) (by kernel_rfl) (fun _ _ _ h => h) (Or.inl ⟨by kernel_rfl, ?_⟩) (by first | assumption | trivial) ?_
    rotate_left
    · (intro wS hSw; (try dsimp only at hSw); go_simp; try with_reducible rfl)
    (try simp only [List.append_eq, List.cons_append, List.nil_append, List.getElem_toArray, List.getElem_cons_succ, List.getElem_cons_zero, Act.put, List.setIfInBounds_toArray, List.set_cons_zero, List.set_cons_succ])
    refine wpAnyH_take (i := 12) (v := ?_) rfl (by kernel_rfl) (by kernel_rfl) (by kernel_rfl) (fun _ _ _ h => h) (Or.inl ⟨by kernel_rfl, ?_⟩) (by first | assumption | trivial) ?_
    rotate_left
    · (intro wS hSw; (try dsimp only at hSw); go_simp; try with_reducible rfl)
    (try simp only [List.append_eq, List.cons_append, List.nil_append, List.getElem_toArray, List.getElem_cons_succ, List.getElem_cons_zero, Act.put, List.setIfInBounds_toArray, List.set_cons_zero, List.set_cons_succ])
    refine wpAnyH_take (i := 13) (v := ?_) rfl (by kernel_rfl) (by kernel_rfl) (by kernel_rfl) (fun _ _ _ h => h) (Or.inl ⟨by kernel_rfl, ?_⟩) (by first | assumption | trivial) ?_
    rotate_left
    · (intro wS hSw; (try dsimp only at hSw); go_simp; try with_reducible rfl)
    (try simp only [List.append_eq, List.cons_append, List.nil_append, List.getElem_toArray, List.getElem_cons_succ, List.getElem_cons_zero, Act.put, List.setIfInBounds_toArray, List.set_cons_zero, List.set_cons_succ])
    refine wpAnyH_done (by kernel_rfl) ?_ _
    refine NoPanic.normal ?_
    go_wp2_with fail
    go_ret2
    exact ⟨rfl, next HB1.out (show Below w1.heap.size w1 w5 from ⟨HB5.out.os, HB5.out.tape, HB5.out.output, HB5.out.size, HB5.out.block⟩)⟩
  · have hp := pdayF_bad h3
    rw [hp]
    have hs' : Calls Tryd.prog 41 #[.string (str l), .int .u8 45] w fun e w' => ∃ A d, e = .returned (.slice A (cutF 45 l).length d) ∧ Below w.heap.size w w' :=
      hs.mono fun e w' ⟨A, n, d, he, hn, _, hb⟩ => ⟨A, d, hn ▸ he, hb⟩
    obtain ⟨n, hn⟩ : ∃ n, (cutF 45 l).length = n := ⟨_, rfl⟩
    rw [hn] at hs' h3
    have d1 : ((n : Int) != 3) = true := by simp; omega
    have d1' : (n != 3) = true := by simpa using h3
    have HS := hid hs'
    clear hs hs' hn hp h3
    go_enter Tryd.func22, Tryd.ntmps22
    go_wp2_with (go_at_call 41; (with_reducible refine HS.out.mono ?_); rintro e w1 ⟨A, d, rfl, b1⟩; have HB1 := hid b1; clear b1)
    go_ret2
    exact ⟨rfl, HB1.out⟩
end Go.Proofs.YtkjlkkaoaiphcaaDoor
