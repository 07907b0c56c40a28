/-
  Sets of numbers. A part of the proof: see the head of the text that ends in 'Law'.
-/
import Derived.Test.YtonjadmldgloaaaGreatDoorSe4
namespace Go.Proofs.YtonjadmldgloaaaGreatDoor
open Go.RowKit Go.Shelf
set_option linter.unusedVariables false
set_option linter.unusedSimpArgs false
attribute [local go_sem] Oper.semAt_some

/-- The ends of a span whose numbers are told. -/
theorem ends_of (a b g p q : Int) (hp : (if a = 0 then g else a) = p) (hq : (if b = 0 then g else b) = q) : endsF (a, b) g = (min p q, max p q) := by
  unfold endsF
  dsimp only
  rw [hp, hq]
  by_cases h : q < p
  · rw [if_pos h, show min p q = q by omega, show max p q = p by omega]
  · rw [if_neg h, show min p q = p by omega, show max p q = q by omega]
theorem OwnE.drew_ {w : World} {g : Nat} {T : TypeId} {xs : List Value} (h : OwnE w g T xs) : OwnE w.drew g T xs := h.below (drew_below w)
set_option maxHeartbeats 4000000 in
theorem ends_any (a b g : Int) (w : World) :
    Calls Tryz.prog 79 #[.agg #[.int .i64 a, .int .i64 b], .int .i64 g] w fun e w' => e = .returned (.tuple #[.int .i64 (endsF (a, b) g).1, .int .i64 (endsF (a, b) g).2]) ∧ Below w.heap.size w w' := by
  have O0 := OwnE.new_ w [.int .i64 a, .int .i64 b] 92
  have x0 := O0.cell (j := 0) rfl
  have x1 := O0.cell (j := 1) rfl
  have f0 := O0.frozen 0
  have f1 := O0.frozen 1
  by_cases ha : a = 0
  · have e1 : (a == 0) = true := by simpa using ha
    have O1 := OwnE.new_ w [.int .i64 g, .int .i64 b] 92
    have y1 := O1.cell (j := 1) rfl
    have g1 := O1.frozen 1
    clear O1
    by_cases hb : b = 0
    · have e2 : (b == 0) = true := by simpa using hb
      have hen := ends_of a b g g g (if_pos ha) (if_pos hb)
      rw [show min g g = g by omega, show max g g = g by omega] at hen
      clear O0 ha hb
      go_enter Tryz.func79, Tryz.ntmps79
      go_upto_region 5 with fail
      clear x0 x1 f0 f1 y1 g1
      have O := hid ((OwnE.new_ w [.int .i64 g, .int .i64 g] 92).drew_)
      have BB := hid (past ((Below.refl w.heap.size w).alloc (Nat.le_refl _) (.cells #[.int .i64 g, .int .i64 g] 92)) (drew_below _))
      have hS := And.intro (O.out.cell (j := 0) rfl) (O.out.cell (j := 1) rfl)
      have HEN := hid hen
      clear hen
      refine wp_region_noPanic ?_
      refine wp_region_held_drew (S := (fun X => X.cell? ⟨w.heap.size, 0, none⟩ = some (.int .i64 g) ∧ X.cell? ⟨w.heap.size, 1, none⟩ = some (.int .i64 g))) (by kernel_rfl) (by first | assumption | trivial) (fun hHeld => ?_)
      refine wpAnyH_take (i := 0) (v := ?_) rfl (by kernel_rfl) (by kernel_rfl) (by kernel_rfl) (fun _ _ _ h => h) (Or.inl ⟨by kernel_rfl, ?_⟩) (by first | assumption | trivial) ?_
      rotate_left
      · (intro wS hSw; (try dsimp only at hSw); go_simp; try with_reducible rfl)
      (try simp only [List.append_eq, List.cons_append, List.nil_append, List.getElem_toArray, List.getElem_cons_succ, List.getElem_cons_zero, Act.put, List.setIfInBounds_toArray, List.set_cons_zero, List.set_cons_succ])
      refine wpAnyH_take (i := 1) (v := ?_) rfl (by kernel_rfl) (by kernel_rfl) (by kernel_rfl) (fun _ _ _ h => h) (Or.inl ⟨by kernel_rfl, ?_⟩) (by first | assumption | trivial) ?_
      rotate_left
      · (intro wS hSw; (try dsimp only at hSw); go_simp; try with_reducible rfl)
      (try simp only [List.append_eq, List.cons_append, List.nil_append, List.getElem_toArray, List.getElem_cons_succ, List.getElem_cons_zero, Act.put, List.setIfInBounds_toArray, List.set_cons_zero, List.set_cons_succ])
      refine wpAnyH_take (i := 2) (v := ?_) rfl (by kernel_rfl) (by kernel_rfl) (by kernel_rfl) (fun _ _ _ h => h) (Or.inl ⟨by kernel_rfl, ?_⟩) (by first | assumption | trivial) ?_
      rotate_left
      · (intro wS hSw; (try dsimp only at hSw); go_simp; try with_reducible rfl)
      (try simp only [List.append_eq, List.cons_append, List.nil_append, List.getElem_toArray, List.getElem_cons_succ, List.getElem_cons_zero, Act.put, List.setIfInBounds_toArray, List.set_cons_zero, List.set_cons_succ])
      refine wpAnyH_take (i := 3) (v := ?_) rfl (by kernel_rfl) (by kernel_rfl) (by kernel_rfl) (fun _ _ _ h => h) (Or.inl ⟨by kernel_rfl, ?_⟩) (by first | assumption | trivial) ?_
      rotate_left
      · (intro wS hSw; (try dsimp only at hSw); go_simp; try with_reducible rfl)
      (try simp only [List.append_eq, List.cons_append, List.nil_append, List.getElem_toArray, List.getElem_cons_succ, List.getElem_cons_zero, Act.put, List.setIfInBounds_toArray, List.set_cons_zero, List.set_cons_succ])
      refine wpAnyH_take (i := 4) (v := ?_) rfl (by kernel_rfl) (by kernel_rfl) (by kernel_rfl) (fun _ _ _ h => h) (Or.inl ⟨by kernel_rfl, ?_⟩) (by first | assumption | trivial) ?_
      rotate_left
      · (intro wS hSw; (try dsimp only at hSw); go_simp; try with_reducible rfl)
      (try simp only [List.append_eq, List.cons_append, List.nil_append, List.getElem_toArray, List.getElem_cons_succ, List.getElem_cons_zero, Act.put, List.setIfInBounds_toArray, List.set_cons_zero, List.set_cons_succ])
      refine wpAnyH_take (i := 5) (v := ?_) rfl (by kernel_rfl) (by kernel_rfl) (by kernel_rfl) (fun _ _ _ h => h) (Or.inl ⟨by kernel_rfl, ?_⟩) (by first | assumption | trivial) ?_
      rotate_left
      · (intro wS hSw; (try dsimp only at hSw); go_simp; try with_reducible rfl)
      (try simp only [List.append_eq, List.cons_append, List.nil_append, List.getElem_toArray, List.getElem_cons_succ, List.getElem_cons_zero, Act.put, List.setIfInBounds_toArray, List.set_cons_zero, List.set_cons_succ])
      refine wpAnyH_take (i := 6) (v := ?_) rfl (by kernel_rfl) (by kernel_rfl) (by kernel_rfl) (fun _ _ _ h => h) (Or.inl ⟨by kernel_rfl, ?_⟩) (by first | assumption | trivial) ?_
      rotate_left
      · (intro wS hSw; (try dsimp only at hSw); go_simp; try with_reducible rfl)
      (try simp only [List.append_eq, List.cons_append, List.nil_append, List.getElem_toArray, List.getElem_cons_succ, List.getElem_cons_zero, Act.put, List.setIfInBounds_toArray, List.set_cons_zero, List.set_cons_succ])
      refine wpAnyH_take (i := 7) (v := ?_) rfl (by kernel_rfl) (by kernel_rfl) (by kernel_rfl) (fun _ _ _ h => h) (Or.inl ⟨by kernel_rfl, ?_⟩) (by first | assumption | trivial) ?_
      rotate_left
      · (intro wS hSw; (try dsimp only at hSw); go_simp; try with_reducible rfl)
      (try simp only [List.append_eq, List.cons_append, List.nil_append, List.getElem_toArray, List.getElem_cons_succ, List.getElem_cons_zero, Act.put, List.setIfInBounds_toArray, List.set_cons_zero, List.set_cons_succ])
      refine wpAnyH_take (i := 8) (v := ?_) rfl (by kernel_rfl) (by kernel_rfl) (by kernel_rfl) (fun _ _ _ h => h) (Or.inl ⟨by kernel_rfl, ?_⟩) (by first | assumption | trivial) ?_
      rotate_left
      · (intro wS hSw; (try dsimp only at hSw); go_simp; try with_reducible rfl)
      (try simp only [List.append_eq, List.cons_append, List.nil_append, List.getElem_toArray, List.getElem_cons_succ, List.getElem_cons_zero, Act.put, List.setIfInBounds_toArray, List.set_cons_zero, List.set_cons_succ])
      refine wpAnyH_take (i := 9) (v := ?_) rfl (by kernel_rfl) (by kernel_rfl) (by kernel_rfl) (fun _ _ _ h => h) (Or.inl ⟨by kernel_rfl, ?_⟩) (by first | assumption | trivial) ?_
      rotate_left
      · (intro wS hSw; (try dsimp only at hSw); go_simp; try with_reducible rfl)
      (try simp only [List.append_eq, List.cons_append, List.nil_append, List.getElem_toArray, List.getElem_cons_succ, List.getElem_cons_zero, Act.put, List.setIfInBounds_toArray, List.set_cons_zero, List.set_cons_succ])
      refine wpAnyH_take (i := 10) (v := ?_) rfl (by kernel_rfl) (by kernel_rfl) (by kernel_rfl) (fun _ _ _ h => h) (Or.inl ⟨by kernel_rfl, ?_⟩) (by first | assumption | trivial) ?_
      rotate_left
      · (intro wS hSw; (try dsimp only at hSw); go_simp; try with_reducible rfl)
      (try simp only [List.append_eq, List.cons_append, List.nil_append, List.getElem_toArray, List.getElem_cons_succ, List.getElem_cons_zero, Act.put, List.setIfInBounds_toArray, List.set_cons_zero, List.set_cons_succ])
      refine wpAnyH_take (i := 11) (v := ?_) rfl (by kernel_rfl) (by kernel_rfl) (by kernel_rfl) (fun _ _ _ h => h) (Or.inl ⟨by kernel_rfl, ?_⟩) (by first | assumption | trivial) ?_
      rotate_left
      · (intro wS hSw; (try dsimp only at hSw); go_simp; try with_reducible rfl)
      (try simp only [List.append_eq, List.cons_append, List.nil_append, List.getElem_toArray, List.getElem_cons_succ, List.getElem_cons_zero, Act.put, List.setIfInBounds_toArray, List.set_cons_zero, List.set_cons_succ])
      refine wpAnyH_done (by kernel_rfl) ?_ _
      refine NoPanic.normal ?_
      clear hS hHeld
      go_wp2_with fail
      go_ret2
      exact ⟨by rw [HEN.out]; rfl, BB.out⟩
    · have e2 : (b == 0) = false := by simpa using hb
      have hen := ends_of a b g g b (if_pos ha) (if_neg hb)
      clear O0 ha hb
      go_enter Tryz.func79, Tryz.ntmps79
      go_upto_region 5 with fail
      clear x0 x1 f0 f1 y1 g1
      have O := hid ((OwnE.new_ w [.int .i64 g, .int .i64 b] 92).drew_)
      have BB := hid (past ((Below.refl w.heap.size w).alloc (Nat.le_refl _) (.cells #[.int .i64 g, .int .i64 b] 92)) (drew_below _))
      have hS := And.intro (O.out.cell (j := 0) rfl) (O.out.cell (j := 1) rfl)
      have HEN := hid hen
      clear hen
      refine wp_region_noPanic ?_
      refine wp_region_held_drew (S := (fun X => X.cell? ⟨w.heap.size, 0, none⟩ = some (.int .i64 g) ∧ X.cell? ⟨w.heap.size, 1, none⟩ = some (.int .i64 b))) (by kernel_rfl) (by first | assumption | trivial) (fun hHeld => ?_)
      refine wpAnyH_take (i := 0) (v := ?_) rfl (by kernel_rfl) (by kernel_rfl) (by kernel_rfl) (fun _ _ _ h => h) (Or.inl ⟨by kernel_rfl, ?_⟩) (by first | assumption | trivial) ?_
      rotate_left
      · (intro wS hSw; (try dsimp only at hSw); go_simp; try with_reducible rfl)
      (try simp only [List.append_eq, List.cons_append, List.nil_append, List.getElem_toArray, List.getElem_cons_succ, List.getElem_cons_zero, Act.put, List.setIfInBounds_toArray, List.set_cons_zero, List.set_cons_succ])
      refine wpAnyH_take (i := 1) (v := ?_) rfl (by kernel_rfl) (by kernel_rfl) (by kernel_rfl) (fun _ _ _ h => h) (Or.inl ⟨by kernel_rfl, ?_⟩) (by first | assumption | trivial) ?_
      rotate_left
      · (intro wS hSw; (try dsimp only at hSw); go_simp; try with_reducible rfl)
      (try simp only [List.append_eq, List.cons_append, List.nil_append, List.getElem_toArray, List.getElem_cons_succ, List.getElem_cons_zero, Act.put, List.setIfInBounds_toArray, List.set_cons_zero, List.set_cons_succ])
      refine wpAnyH_take (i := 2) (v := ?_) rfl (by kernel_rfl) (by kernel_rfl) (by kernel_rfl) (fun _ _ _ h => h) (Or.inl ⟨by kernel_rfl, ?_⟩) (by first | assumption | trivial) ?_
      rotate_left
      · (intro wS hSw; (try dsimp only at hSw); go_simp; try with_reducible rfl)
      (try simp only [List.append_eq, List.cons_append, List.nil_append, List.getElem_toArray, List.getElem_cons_succ, List.getElem_cons_zero, Act.put, List.setIfInBounds_toArray, List.set_cons_zero, List.set_cons_succ])
      refine wpAnyH_take (i := 3) (v := ?_) rfl (by kernel_rfl) (by kernel_rfl) (by kernel_rfl) (fun _ _ _ h => h) (Or.inl ⟨by kernel_rfl, ?_⟩) (by first | assumption | trivial) ?_
      rotate_left
      · (intro wS hSw; (try dsimp only at hSw); go_simp; try with_reducible rfl)
      (try simp only [List.append_eq, List.cons_append, List.nil_append, List.getElem_toArray, List.getElem_cons_succ, List.getElem_cons_zero, Act.put, List.setIfInBounds_toArray, List.set_cons_zero, List.set_cons_succ])
      refine wpAnyH_take (i := 4) (v := ?_) rfl (by kernel_rfl) (by kernel_rfl) (by kernel_rfl) (fun _ _ _ h => h) (Or.inl ⟨by kernel_rfl, ?_⟩) (by first | assumption | trivial) ?_
      rotate_left
      · (intro wS hSw; (try dsimp only at hSw); go_simp; try with_reducible rfl)
      (try simp only [List.append_eq, List.cons_append, List.nil_append, List.getElem_toArray, List.getElem_cons_succ, List.getElem_cons_zero, Act.put, List.setIfInBounds_toArray, List.set_cons_zero, List.set_cons_succ])
      refine wpAnyH_take (i := 5) (v := ?_) rfl (by kernel_rfl) (by kernel_rfl) (by kernel_rfl) (fun _ _ _ h => h) (Or.inl ⟨by kernel_rfl, ?_⟩) (by first | assumption | trivial) ?_
      rotate_left
      · (intro wS hSw; (try dsimp only at hSw); go_simp; try with_reducible rfl)
      (try simp only [List.append_eq, List.cons_append, List.nil_append, List.getElem_toArray, List.getElem_cons_succ, List.getElem_cons_zero, Act.put, List.setIfInBounds_toArray, List.set_cons_zero, List.set_cons_succ])
      refine wpAnyH_take (i := 6) (v := ?_) rfl (by kernel_rfl) (by kernel_rfl) (by kernel_rfl) (fun _ _ _ h => h) (Or.inl ⟨by kernel_rfl, ?_⟩) (by first | assumption | trivial) ?_
      rotate_left
      · (intro wS hSw; (try dsimp only at hSw); go_simp; try with_reducible rfl)
      (try simp only [List.append_eq, List.cons_append, List.nil_append, List.getElem_toArray, List.getElem_cons_succ, List.getElem_cons_zero, Act.put, List.setIfInBounds_toArray, List.set_cons_zero, List.set_cons_succ])
      refine wpAnyH_take (i := 7) (v := ?_) rfl (by kernel_rfl) (by kernel_rfl) (by kernel_rfl) (fun _ _ _ h => h) (Or.inl ⟨by kernel_rfl, ?_⟩) (by first | assumption | trivial) ?_
      rotate_left
      · (intro wS hSw; (try dsimp only at hSw); go_simp; try with_reducible rfl)
      (try simp only [List.append_eq, List.cons_append, List.nil_append, List.getElem_toArray, List.getElem_cons_succ, List.getElem_cons_zero, Act.put, List.setIfInBounds_toArray, List.set_cons_zero, List.set_cons_succ])
      refine wpAnyH_take (i := 8) (v := ?_) rfl (by kernel_rfl) (by kernel_rfl) (by kernel_rfl) (fun _ _ _ h => h) (Or.inl ⟨by kernel_rfl, ?_⟩) (by first | assumption | trivial) ?_
      rotate_left
      · (intro wS hSw; (try dsimp only at hSw); go_simp; try with_reducible rfl)
      (try simp only [List.append_eq, List.cons_append, List.nil_append, List.getElem_toArray, List.getElem_cons_succ, List.getElem_cons_zero, Act.put, List.setIfInBounds_toArray, List.set_cons_zero, List.set_cons_succ])
      refine wpAnyH_take (i := 9) (v := ?_) rfl (by kernel_rfl) (by kernel_rfl) (by kernel_rfl) (fun _ _ _ h => h) (Or.inl ⟨by kernel_rfl, ?_⟩) (by first | assumption | trivial) ?_
      rotate_left
      · (intro wS hSw; (try dsimp only at hSw); go_simp; try with_reducible rfl)
      (try simp only [List.append_eq, List.cons_append, List.nil_append, List.getElem_toArray, List.getElem_cons_succ, List.getElem_cons_zero, Act.put, List.setIfInBounds_toArray, List.set_cons_zero, List.set_cons_succ])
      refine wpAnyH_take (i := 10) (v := ?_) rfl (by kernel_rfl) (by kernel_rfl) (by kernel_rfl) (fun _ _ _ h => h) (Or.inl ⟨by kernel_rfl, ?_⟩) (by first | assumption | trivial) ?_
      rotate_left
      · (intro wS hSw; (try dsimp only at hSw); go_simp; try with_reducible rfl)
      (try simp only [List.append_eq, List.cons_append, List.nil_append, List.getElem_toArray, List.getElem_cons_succ, List.getElem_cons_zero, Act.put, List.setIfInBounds_toArray, List.set_cons_zero, List.set_cons_succ])
      refine wpAnyH_take (i := 11) (v := ?_) rfl (by kernel_rfl) (by kernel_rfl) (by kernel_rfl) (fun _ _ _ h => h) (Or.inl ⟨by kernel_rfl, ?_⟩) (by first | assumption | trivial) ?_
      rotate_left
      · (intro wS hSw; (try dsimp only at hSw); go_simp; try with_reducible rfl)
      (try simp only [List.append_eq, List.cons_append, List.nil_append, List.getElem_toArray, List.getElem_cons_succ, List.getElem_cons_zero, Act.put, List.setIfInBounds_toArray, List.set_cons_zero, List.set_cons_succ])
      refine wpAnyH_done (by kernel_rfl) ?_ _
      refine NoPanic.normal ?_
      clear hS hHeld
      go_wp2_with fail
      go_ret2
      exact ⟨by rw [HEN.out]; rfl, BB.out⟩
  · have e1 : (a == 0) = false := by simpa using ha
    by_cases hb : b = 0
    · have e2 : (b == 0) = true := by simpa using hb
      have hen := ends_of a b g a g (if_neg ha) (if_pos hb)
      clear O0 ha hb
      go_enter Tryz.func79, Tryz.ntmps79
      go_upto_region 5 with fail
      clear x0 x1 f0 f1
      have O := hid ((OwnE.new_ w [.int .i64 a, .int .i64 g] 92).drew_)
      have BB := hid (past ((Below.refl w.heap.size w).alloc (Nat.le_refl _) (.cells #[.int .i64 a, .int .i64 g] 92)) (drew_below _))
      have hS := And.intro (O.out.cell (j := 0) rfl) (O.out.cell (j := 1) rfl)
      have HEN := hid hen
      clear hen
      refine wp_region_noPanic ?_
      refine wp_region_held_drew (S := (fun X => X.cell? ⟨w.heap.size, 0, none⟩ = some (.int .i64 a) ∧ X.cell? ⟨w.heap.size, 1, none⟩ = some (.int .i64 g))) (by kernel_rfl) (by first | assumption | trivial) (fun hHeld => ?_)
      refine wpAnyH_take (i := 0) (v := ?_) rfl (by kernel_rfl) (by kernel_rfl) (by kernel_rfl) (fun _ _ _ h => h) (Or.inl ⟨by kernel_rfl, ?_⟩) (by first | assumption | trivial) ?_
      rotate_left
      · (intro wS hSw; (try dsimp only at hSw); go_simp; try with_reducible rfl)
      (try simp only [List.append_eq, List.cons_append, List.nil_append, List.getElem_toArray, List.getElem_cons_succ, List.getElem_cons_zero, Act.put, List.setIfInBounds_toArray, List.set_cons_zero, List.set_cons_succ])
      refine wpAnyH_take (i := 1) (v := ?_) rfl (by kernel_rfl) (by kernel_rfl) (by kernel_rfl) (fun _ _ _ h => h) (Or.inl ⟨by kernel_rfl, ?_⟩) (by first | assumption | trivial) ?_
      rotate_left
      · (intro wS hSw; (try dsimp only at hSw); go_simp; try with_reducible rfl)
      (try simp only [List.append_eq, List.cons_append, List.nil_append, List.getElem_toArray, List.getElem_cons_succ, List.getElem_cons_zero, Act.put, List.setIfInBounds_toArray, List.set_cons_zero, List.set_cons_succ])
      refine wpAnyH_take (i := 2) (v := ?_) rfl (by kernel_rfl) (by kernel_rfl) (by kernel_rfl) (fun _ _ _ h => h) (Or.inl ⟨by kernel_rfl, ?_⟩) (by first | assumption | trivial) ?_
      rotate_left
      · (intro wS hSw; (try dsimp only at hSw); go_simp; try with_reducible rfl)
      (try simp only [List.append_eq, List.cons_append, List.nil_append, List.getElem_toArray, List.getElem_cons_succ, List.getElem_cons_zero, Act.put, List.setIfInBounds_toArray, List.set_cons_zero, List.set_cons_succ])
      refine wpAnyH_take (i := 3) (v := ?_) rfl (by kernel_rfl) (by kernel_rfl) (by kernel_rfl) (fun _ _ _ h => h) (Or.inl ⟨by kernel_rfl, ?_⟩) (by first | assumption | trivial) ?_
      rotate_left
      · (intro wS hSw; (try dsimp only at hSw); go_simp; try with_reducible rfl)
      (try simp only [List.append_eq, List.cons_append, List.nil_append, List.getElem_toArray, List.getElem_cons_succ, List.getElem_cons_zero, Act.put, List.setIfInBounds_toArray, List.set_cons_zero, List.set_cons_succ])
      refine wpAnyH_take (i := 4) (v := ?_) rfl (by kernel_rfl) (by kernel_rfl) (by kernel_rfl) (fun _ _ _ h => h) (Or.inl ⟨by kernel_rfl, ?_⟩) (by first | assumption | trivial) ?_
      rotate_left
      · (intro wS hSw; (try dsimp only at hSw); go_simp; try with_reducible rfl)
      (try simp only [List.append_eq, List.cons_append, List.nil_append, List.getElem_toArray, List.getElem_cons_succ, List.getElem_cons_zero, Act.put, List.setIfInBounds_toArray, List.set_cons_zero, List.set_cons_succ])
      refine wpAnyH_take (i := 5) (v := ?_) rfl (by kernel_rfl) (by kernel_rfl) (by kernel_rfl) (fun _ _ _ h => h) (Or.inl ⟨by kernel_rfl, ?_⟩) (by first | assumption | trivial) ?_
      rotate_left
      · (intro wS hSw; (try dsimp only at hSw); go_simp; try with_reducible rfl)
      (try simp only [List.append_eq, List.cons_append, List.nil_append, List.getElem_toArray, List.getElem_cons_succ, List.getElem_cons_zero, Act.put, List.setIfInBounds_toArray, List.set_cons_zero, List.set_cons_succ])
      refine wpAnyH_take (i := 6) (v := ?_) rfl (by kernel_rfl) (by kernel_rfl) (by kernel_rfl) (fun _ _ _ h => h) (Or.inl ⟨by kernel_rfl, ?_⟩) (by first | assumption | trivial) ?_
      rotate_left
      · (intro wS hSw; (try dsimp only at hSw); go_simp; try with_reducible rfl)
      (try simp only [List.append_eq, List.cons_append, List.nil_append, List.getElem_toArray, List.getElem_cons_succ, List.getElem_cons_zero, Act.put, List.setIfInBounds_toArray, List.set_cons_zero, List.set_cons_succ])
      refine wpAnyH_take (i := 7) (v := ?_) rfl (by kernel_rfl) (by kernel_rfl) (by kernel_rfl) (fun _ _ _ h => h) (Or.inl ⟨by kernel_rfl, ?_⟩) (by first | assumption | trivial) ?_
      rotate_left
      · (intro wS hSw; (try dsimp only at hSw); go_simp; try with_reducible rfl)
      (try simp only [List.append_eq, List.cons_append, List.nil_append, List.getElem_toArray, List.getElem_cons_succ, List.getElem_cons_zero, Act.put, List.setIfInBounds_toArray, List.set_cons_zero, List.set_cons_succ])
      refine wpAnyH_take (i := 8) (v := ?_) rfl (by kernel_rfl) (by kernel_rfl) (by kernel_rfl) (fun _ _ _ h => h) (Or.inl ⟨by kernel_rfl, ?_⟩) (by first | assumption | trivial) ?_
      rotate_left
      · (intro wS hSw; (try dsimp only at hSw); go_simp; try with_reducible rfl)
      (try simp only [List.append_eq, List.cons_append, List.nil_append, List.getElem_toArray, List.getElem_cons_succ, List.getElem_cons_zero, Act.put, List.setIfInBounds_toArray, List.set_cons_zero, List.set_cons_succ])
      refine wpAnyH_take (i := 9) (v := ?_) rfl (by kernel_rfl) (by kernel_rfl) (by kernel_rfl) (fun _ _ _ h => h) (Or.inl ⟨by kernel_rfl, ?_⟩) (by first | assumption | trivial) ?_
      rotate_left
      · (intro wS hSw; (try dsimp only at hSw); go_simp; try with_reducible rfl)
      (try simp only [List.append_eq, List.cons_append, List.nil_append, List.getElem_toArray, List.getElem_cons_succ, List.getElem_cons_zero, Act.put, List.setIfInBounds_toArray, List.set_cons_zero, List.set_cons_succ])
      refine wpAnyH_take (i := 10) (v := ?_) rfl (by kernel_rfl) (by kernel_rfl) (by kernel_rfl) (fun _ _ _ h => h) (Or.inl ⟨by kernel_rfl, ?_⟩) (by first | assumption | trivial) ?_
      rotate_left
      · (intro wS hSw; (try dsimp only at hSw); go_simp; try with_reducible rfl)
      (try simp only [List.append_eq, List.cons_append, List.nil_append, List.getElem_toArray, List.getElem_cons_succ, List.getElem_cons_zero, Act.put, List.setIfInBounds_toArray, List.set_cons_zero, List.set_cons_succ])
      refine wpAnyH_take (i := 11) (v := ?_) rfl (by kernel_rfl) (by kernel_rfl) (by kernel_rfl) (fun _ _ _ h => h) (Or.inl ⟨by kernel_rfl, ?_⟩) (by first | assumption | trivial) ?_
      rotate_left
      · (intro wS hSw; (try dsimp only at hSw); go_simp; try with_reducible rfl)
      (try simp only [List.append_eq, List.cons_append, List.nil_append, List.getElem_toArray, List.getElem_cons_succ, List.getElem_cons_zero, Act.put, List.setIfInBounds_toArray, List.set_cons_zero, List.set_cons_succ])
      refine wpAnyH_done (by kernel_rfl) ?_ _
      refine NoPanic.normal ?_
      clear hS hHeld
      go_wp2_with fail
      go_ret2
      exact ⟨by rw [HEN.out]; rfl, BB.out⟩
    · have e2 : (b == 0) = false := by simpa using hb
      have hen := ends_of a b g a b (if_neg ha) (if_neg hb)
      clear O0 ha hb
      go_enter Tryz.func79, Tryz.ntmps79
      go_upto_region 5 with fail
      clear x0 x1 f0 f1
      have O := hid ((OwnE.new_ w [.int .i64 a, .int .i64 b] 92).drew_)
      have BB := hid (past ((Below.refl w.heap.size w).alloc (Nat.le_refl _) (.cells #[.int .i64 a, .int .i64 b] 92)) (drew_below _))
      have hS := And.intro (O.out.cell (j := 0) rfl) (O.out.cell (j := 1) rfl)
      have HEN := hid hen
      clear hen
      refine wp_region_noPanic ?_
      refine wp_region_held_drew (S := (fun X => X.cell? ⟨w.heap.size, 0, none⟩ = some (.int .i64 a) ∧ X.cell? ⟨w.heap.size, 1, none⟩ = some (.int .i64 b))) (by kernel_rfl) (by first | assumption | trivial) (fun hHeld => ?_)
      refine wpAnyH_take (i := 0) (v := ?_) rfl (by kernel_rfl) (by kernel_rfl) (by kernel_rfl) (fun _ _ _ h => h) (Or.inl ⟨by kernel_rfl, ?_⟩) (by first | assumption | trivial) ?_
      rotate_left
      · (intro wS hSw; (try dsimp only at hSw); go_simp; try with_reducible rfl)
      (try simp only [List.append_eq, List.cons_append, List.nil_append, List.getElem_toArray, List.getElem_cons_succ, List.getElem_cons_zero, Act.put, List.setIfInBounds_toArray, List.set_cons_zero, List.set_cons_succ])
      refine wpAnyH_take (i := 1) (v := ?_) rfl (by kernel_rfl) (by kernel_rfl) (by kernel_rfl) (fun _ _ _ h => h) (Or.inl ⟨by kernel_rfl, ?_⟩) (by first | assumption | trivial) ?_
      rotate_left
      · (intro wS hSw; (try dsimp only at hSw); go_simp; try with_reducible rfl)
      (try simp only [List.append_eq, List.cons_append, List.nil_append, List.getElem_toArray, List.getElem_cons_succ, List.getElem_cons_zero, Act.put, List.setIfInBounds_toArray, List.set_cons_zero, List.set_cons_succ])
      refine wpAnyH_take (i := 2) (v := ?_) rfl (by kernel_rfl) (by kernel_rfl) (by kernel_rfl) (fun _ _ _ h => h) (Or.inl ⟨by kernel_rfl, ?_⟩) (by first | assumption | trivial) ?_
      rotate_left
      · (intro wS hSw; (try dsimp only at hSw); go_simp; try with_reducible rfl)
      (try simp only [List.append_eq, List.cons_append, List.nil_append, List.getElem_toArray, List.getElem_cons_succ, List.getElem_cons_zero, Act.put, List.setIfInBounds_toArray, List.set_cons_zero, List.set_cons_succ])
      refine wpAnyH_take (i := 3) (v := ?_) rfl (by kernel_rfl) (by kernel_rfl) (by kernel_rfl) (fun _ _ _ h => h) (Or.inl ⟨by kernel_rfl, ?_⟩) (by first | assumption | trivial) ?_
      rotate_left
      · (intro wS hSw; (try dsimp only at hSw); go_simp; try with_reducible rfl)
      (try simp only [List.append_eq, List.cons_append, List.nil_append, List.getElem_toArray, List.getElem_cons_succ, List.getElem_cons_zero, Act.put, List.setIfInBounds_toArray, List.set_cons_zero, List.set_cons_succ])
      refine wpAnyH_take (i := 4) (v := ?_) rfl (by kernel_rfl) (by kernel_rfl) (by kernel_rfl) (fun _ _ _ h => h) (Or.inl ⟨by kernel_rfl, ?_⟩) (by first | assumption | trivial) ?_
      rotate_left
      · (intro wS hSw; (try dsimp only at hSw); go_simp; try with_reducible rfl)
      (try simp only [List.append_eq, List.cons_append, List.nil_append, List.getElem_toArray, List.getElem_cons_succ, List.getElem_cons_zero, Act.put, List.setIfInBounds_toArray, List.set_cons_zero, List.set_cons_succ])
      refine wpAnyH_take (i := 5) (v := ?_) rfl (by kernel_rfl) (by kernel_rfl) (by kernel_rfl) (fun _ _ _ h => h) (Or.inl ⟨by kernel_rfl, ?_⟩) (by first | assumption | trivial) ?_
      rotate_left
      · (intro wS hSw; (try dsimp only at hSw); go_simp; try with_reducible rfl)
      (try simp only [List.append_eq, List.cons_append, List.nil_append, List.getElem_toArray, List.getElem_cons_succ, List.getElem_cons_zero, Act.put, List.setIfInBounds_toArray, List.set_cons_zero, List.set_cons_succ])
      refine wpAnyH_take (i := 6) (v := ?_) rfl (by kernel_rfl) (by kernel_rfl) (by kernel_rfl) (fun _ _ _ h => h) (Or.inl ⟨by kernel_rfl, ?_⟩) (by first | assumption | trivial) ?_
      rotate_left
      · (intro wS hSw; (try dsimp only at hSw); go_simp; try with_reducible rfl)
      (try simp only [List.append_eq, List.cons_append, List.nil_append, List.getElem_toArray, List.getElem_cons_succ, List.getElem_cons_zero, Act.put, List.setIfInBounds_toArray, List.set_cons_zero, List.set_cons_succ])
      refine wpAnyH_take (i := 7) (v := ?_) rfl (by kernel_rfl) (by kernel_rfl) (by kernel_rfl) (fun _ _ _ h => h) (Or.inl ⟨by kernel_rfl, ?_⟩) (by first | assumption | trivial) ?_
      rotate_left
      · (intro wS hSw; (try dsimp only at hSw); go_simp; try with_reducible rfl)
      (try simp only [List.append_eq, List.cons_append, List.nil_append, List.getElem_toArray, List.getElem_cons_succ, List.getElem_cons_zero, Act.put, List.setIfInBounds_toArray, List.set_cons_zero, List.set_cons_succ])
      refine wpAnyH_take (i := 8) (v := ?_) rfl (by kernel_rfl) (by kernel_rfl) (by kernel_rfl) (fun _ _ _ h => h) (Or.inl ⟨by kernel_rfl, ?_⟩) (by first | assumption | trivial) ?_
      rotate_left
      · (intro wS hSw; (try dsimp only at hSw); go_simp; try with_reducible rfl)
      (try simp only [List.append_eq, List.cons_append, List.nil_append, List.getElem_toArray, List.getElem_cons_succ, List.getElem_cons_zero, Act.put, List.setIfInBounds_toArray, List.set_cons_zero, List.set_cons_succ])
      refine wpAnyH_take (i := 9) (v := ?_) rfl (by kernel_rfl) (by kernel_rfl) (by kernel_rfl) (fun _ _ _ h => h) (Or.inl ⟨by kernel_rfl, ?_⟩) (by first | assumption | trivial) ?_
      rotate_left
      · (intro wS hSw; (try dsimp only at hSw); go_simp; try with_reducible rfl)
      (try simp only [List.append_eq, List.cons_append, List.nil_append, List.getElem_toArray, List.getElem_cons_succ, List.getElem_cons_zero, Act.put, List.setIfInBounds_toArray, List.set_cons_zero, List.set_cons_succ])
      refine wpAnyH_take (i := 10) (v := ?_) rfl (by kernel_rfl) (by kernel_rfl) (by kernel_rfl) (fun _ _ _ h => h) (Or.inl ⟨by kernel_rfl, ?_⟩) (by first | assumption | trivial) ?_
      rotate_left
      · (intro wS hSw; (try dsimp only at hSw); go_simp; try with_reducible rfl)
      (try simp only [List.append_eq, List.cons_append, List.nil_append, List.getElem_toArray, List.getElem_cons_succ, List.getElem_cons_zero, Act.put, List.setIfInBounds_toArray, List.set_cons_zero, List.set_cons_succ])
      refine wpAnyH_take (i := 11) (v := ?_) rfl (by kernel_rfl) (by kernel_rfl) (by kernel_rfl) (fun _ _ _ h => h) (Or.inl ⟨by kernel_rfl, ?_⟩) (by first | assumption | trivial) ?_
      rotate_left
      · (intro wS hSw; (try dsimp only at hSw); go_simp; try with_reducible rfl)
      (try simp only [List.append_eq, List.cons_append, List.nil_append, List.getElem_toArray, List.getElem_cons_succ, List.getElem_cons_zero, Act.put, List.setIfInBounds_toArray, List.set_cons_zero, List.set_cons_succ])
      refine wpAnyH_done (by kernel_rfl) ?_ _
      refine NoPanic.normal ?_
      clear hS hHeld
      go_wp2_with fail
      go_ret2
      exact ⟨by rw [HEN.out]; rfl, BB.out⟩
set_option maxHeartbeats 4000000 in
theorem rends_any (a b g : Int) (w : World) :
    Calls Tryz.prog 60 #[.agg #[.int .i64 a, .int .i64 b], .int .i64 g] w fun e w' => e = .returned (.tuple #[.int .i64 (endsF (a, b) g).1, .int .i64 (endsF (a, b) g).2]) ∧ Below w.heap.size w w' := by
  have O0 := OwnE.new_ w [.int .i64 a, .int .i64 b] 92
  have B0 := hid (show Below w.heap.size w (w.alloc (.cells #[.int .i64 a, .int .i64 b] 92)).drew from past ((Below.refl _ _).alloc (Nat.le_refl _) _) (drew_below _))
  have O := O0.drew_
  have HX := hid (And.intro (O.cell (j := 0) rfl) (O.cell (j := 1) rfl))
  obtain ⟨p, hp⟩ : ∃ p, (if a = 0 then g else a) = p := ⟨_, rfl⟩
  obtain ⟨q, hq⟩ : ∃ q, (if b = 0 then g else b) = q := ⟨_, rfl⟩
  have HE : Hid (endsF (a, b) g = if q < p then (q, p) else (p, q)) := hid (by unfold endsF; dsimp only; rw [hp, hq])
  obtain ⟨z1, hz1⟩ : ∃ z, (a == 0) = z := ⟨_, rfl⟩
  obtain ⟨z2, hz2⟩ : ∃ z, (b == 0) = z := ⟨_, rfl⟩
  clear O0 O
  go_enter Tryz.func60, Tryz.ntmps60
  go_upto_region 1 with fail
  have hS := HX.out
  refine wp_region_noPanic ?_
  refine wp_region_held_drew (S := (fun X => X.cell? ⟨w.heap.size, 0, none⟩ = some (.int .i64 a) ∧ X.cell? ⟨w.heap.size, 1, none⟩ = some (.int .i64 b))) (by kernel_rfl) (by first | assumption | trivial) (fun hHeld => ?_)
  refine wpAnyH_take (i := 0) (v := ?_) rfl (by kernel_rfl) (by kernel_rfl) (by kernel_rfl) (fun _ _ _ h => h) (Or.inl ⟨by kernel_rfl, ?_⟩) (by first | assumption | trivial) ?_
  rotate_left
  · (intro wS hSw; (try dsimp only at hSw); go_simp; try with_reducible rfl)
  (try simp only [List.append_eq, List.cons_append, List.nil_append, List.getElem_toArray, List.getElem_cons_succ, List.getElem_cons_zero, Act.put, List.setIfInBounds_toArray, List.set_cons_zero, List.set_cons_succ])
  refine wpAnyH_take (i := 1) (v := ?_) rfl (by kernel_rfl) (by kernel_rfl) (by kernel_rfl) (fun _ _ _ h => h) (Or.inl ⟨by kernel_rfl, ?_⟩) (by first | assumption | trivial) ?_
  rotate_left
  · (intro wS hSw; (try dsimp only at hSw); go_simp; try with_reducible rfl)
  (try simp only [List.append_eq, List.cons_append, List.nil_append, List.getElem_toArray, List.getElem_cons_succ, List.getElem_cons_zero, Act.put, List.setIfInBounds_toArray, List.set_cons_zero, List.set_cons_succ])
  refine wpAnyH_take (i := 2) (v := ?_) rfl (by kernel_rfl) (by kernel_rfl) (by kernel_rfl) (fun _ _ _ h => h) (Or.inl ⟨by kernel_rfl, ?_⟩) (by first | assumption | trivial) ?_
  rotate_left
  · (intro wS hSw; (try dsimp only at hSw); go_simp; try with_reducible rfl)
  (try simp only [List.append_eq, List.cons_append, List.nil_append, List.getElem_toArray, List.getElem_cons_succ, List.getElem_cons_zero, Act.put, List.setIfInBounds_toArray, List.set_cons_zero, List.set_cons_succ])
  refine wpAnyH_take (i := 3) (v := ?_) rfl (by kernel_rfl) (by kernel_rfl) (by kernel_rfl) (fun _ _ _ h => h) (Or.inl ⟨by kernel_rfl, ?_⟩) (by first | assumption | trivial) ?_
  rotate_left
  · (intro wS hSw; (try dsimp only at hSw); go_simp; try with_reducible rfl)
  (try simp only [List.append_eq, List.cons_append, List.nil_append, List.getElem_toArray, List.getElem_cons_succ, List.getElem_cons_zero, Act.put, List.setIfInBounds_toArray, List.set_cons_zero, List.set_cons_succ])
  refine wpAnyH_take (i := 4) (v := ?_) rfl (by kernel_rfl) (by kernel_rfl) (by kernel_rfl) (fun _ _ _ h => h) (Or.inl ⟨by kernel_rfl, ?_⟩) (by first | assumption | trivial) ?_
  rotate_left
  · (intro wS hSw; (try dsimp only at hSw); go_simp; try with_reducible rfl)
  (try simp only [List.append_eq, List.cons_append, List.nil_append, List.getElem_toArray, List.getElem_cons_succ, List.getElem_cons_zero, Act.put, List.setIfInBounds_toArray, List.set_cons_zero, List.set_cons_succ])
  refine wpAnyH_take (i := 5) (v := ?_) rfl (by kernel_rfl) (by kernel_rfl) (by kernel_rfl) (fun _ _ _ h => h) (Or.inl ⟨by kernel_rfl, ?_⟩) (by first | assumption | trivial) ?_
  rotate_left
  · (intro wS hSw; (try dsimp only at hSw); go_simp; try with_reducible rfl)
  (try simp only [List.append_eq, List.cons_append, List.nil_append, List.getElem_toArray, List.getElem_cons_succ, List.getElem_cons_zero, Act.put, List.setIfInBounds_toArray, List.set_cons_zero, List.set_cons_succ])
  refine wpAnyH_done (by kernel_rfl) ?_ _
  refine NoPanic.normal ?_
  clear hS hHeld HX
  go_upto_if 13 with fail
  go_cut [6] (fun t wx => t = .int .i64 p ∧ (w.alloc (.cells #[.int .i64 a, .int .i64 b] 92)).drew = wx)
  case first =>
    cases z1 with
    | true =>
      have e : p = g := by rw [← hp, if_pos (by simpa using hz1)]
      have E := hid e
      clear e hp hz1
      go_wp2_with fail
      go_meet
      exact ⟨by rw [E.out], rfl⟩
    | false =>
      have e : p = a := by rw [← hp, if_neg (by simpa using hz1)]
      have E := hid e
      clear e hp hz1
      go_wp2_with fail
      go_meet
      exact ⟨by rw [E.out], rfl⟩
  case rest =>
  obtain ⟨rfl, hw9⟩ := hcut
  subst hw9
  clear hp hz1
  go_upto_if 16 with fail
  go_cut [7] (fun t wx => t = .int .i64 q ∧ (w.alloc (.cells #[.int .i64 a, .int .i64 b] 92)).drew = wx)
  case first =>
    cases z2 with
    | true =>
      have e : q = g := by rw [← hq, if_pos (by simpa using hz2)]
      have E := hid e
      clear e hq hz2
      go_wp2_with fail
      go_meet
      exact ⟨by rw [E.out], rfl⟩
    | false =>
      have e : q = b := by rw [← hq, if_neg (by simpa using hz2)]
      have E := hid e
      clear e hq hz2
      go_wp2_with fail
      go_meet
      exact ⟨by rw [E.out], rfl⟩
  case rest =>
  obtain ⟨rfl, hw9⟩ := hcut
  subst hw9
  clear hq hz2
  by_cases h : q < p
  · have d1 : decide (q < p) = true := by simpa using h
    have HF := HE.out
    rw [if_pos h] at HF
    have HF := hid HF
    clear h HE
    go_wp2_with fail
    go_ret2
    exact ⟨by rw [HF.out]; rfl, B0.out⟩
  · have d1 : decide (q < p) = false := by simpa using h
    have HF := HE.out
    rw [if_neg h] at HF
    have HF := hid HF
    clear h HE
    go_wp2_with fail
    go_ret2
    exact ⟨by rw [HF.out]; rfl, B0.out⟩
set_option maxHeartbeats 2000000 in
/-- The closure that asks one span. -/
theorem has1_any (a b g n : Int) (bg bn : Nat) (w : World) (h1 : w.cell? ⟨bg, 0, none⟩ = some (.int .i64 g)) (h2 : w.cell? ⟨bn, 0, none⟩ = some (.int .i64 n)) :
    Calls Tryz.prog 78 #[.agg #[.int .i64 a, .int .i64 b], .pointer (some ⟨bg, 0, none⟩), .pointer (some ⟨bn, 0, none⟩)] w fun e w' => e = .returned (.bool (inB n g (a, b))) ∧ Below w.heap.size w w' := by
  unfold inB
  have HE := hid (fun X => ends_any a b g X)
  obtain ⟨m1, hm1⟩ : ∃ m, (endsF (a, b) g).1 = m := ⟨_, rfl⟩
  obtain ⟨m2, hm2⟩ : ∃ m, (endsF (a, b) g).2 = m := ⟨_, rfl⟩
  rw [hm1, hm2] at HE ⊢
  have O0 := OwnE.new_ w [.int .i64 a, .int .i64 b] 92
  have b0 : Below w.heap.size w (w.alloc (.cells #[.int .i64 a, .int .i64 b] 92)) := (Below.refl _ _).alloc (Nat.le_refl _) _
  have B0 := hid b0
  have x0 := O0.cell (j := 0) rfl
  have x1 := O0.cell (j := 1) rfl
  have y1 := cells_keep b0 h1
  have H2 := hid (fun (X : World) (b : Below w.heap.size w X) => cells_keep b h2)
  obtain ⟨z1, hz1⟩ : ∃ z, decide (m1 ≤ n) = z := ⟨_, rfl⟩
  obtain ⟨z2, hz2⟩ : ∃ z, decide (n ≤ m2) = z := ⟨_, rfl⟩
  rw [hz1, hz2]
  clear O0 b0 hm1 hm2 h1 h2
  go_enter Tryz.func78, Tryz.ntmps78
  cases z1 with
  | true =>
    go_wp2_with (go_at_call 79; (with_reducible refine (HE.out _).mono ?_); rintro e w3 ⟨rfl, b3⟩; have B3 := hid (past B0.out b3); have y3 := H2.out _ B3.out; clear b3 x0 x1 y1)
    go_ret
    exact ⟨rfl, B3.out⟩
  | false =>
    go_wp2_with (go_at_call 79; (with_reducible refine (HE.out _).mono ?_); rintro e w3 ⟨rfl, b3⟩; have B3 := hid (past B0.out b3); have y3 := H2.out _ B3.out; clear b3 x0 x1 y1)
    go_ret
    exact ⟨rfl, B3.out⟩
set_option maxRecDepth 100000 in
set_option maxHeartbeats 4000000 in
theorem sindex_any (A : Option Addr) (len c : Nat) (l : List (Int × Int)) (g n : Int) (bg bn : Nat) (w : World) (hl : l.length = len) (hb : len ≤ 100000) (hr : Row w A (l.flatMap spanC)) (h1 : w.cell? ⟨bg, 0, none⟩ = some (.int .i64 g)) (h2 : w.cell? ⟨bn, 0, none⟩ = some (.int .i64 n)) :
    Calls Tryz.prog 104 #[.slice A len c, .func (.func 78) #[] #[.pointer (some ⟨bg, 0, none⟩), .pointer (some ⟨bn, 0, none⟩)]] w fun e w' => (∃ k : Int, e = .returned (.int .i64 k) ∧ decide (0 ≤ k) = l.any (inB n g)) ∧ Below w.heap.size w w' := by
  have HR := hid hr
  have HL := hid hl
  have H1 := hid (fun (X : World) (b : Below w.heap.size w X) => cells_keep b h1)
  have H2 := hid (fun (X : World) (b : Below w.heap.size w X) => cells_keep b h2)
  clear hr hl h1 h2
  go_enter Tryz.func104, Tryz.ntmps104
  go_wp2_with fail
  go_loopw [5, 8] (fun j i wr => ∃ k : Nat, k ≤ len ∧ i = .int .i64 (k : Int) ∧ Hid ((l.drop k).any (inB n g) = l.any (inB n g) ∧ Below w.heap.size w wr)) (fun j i wr => len - (intOf i).toNat)
  case atStart => exact ⟨0, by omega, rfl, hid ⟨by rw [List.drop_zero], Below.refl _ _⟩⟩
  case round =>
    obtain ⟨k, hk, rfl, HI⟩ := hrel
    by_cases hlt : k < len
    · have d1 : decide ((k : Int) < (len : Int)) = true := by simp; omega
      have d1' : decide (k < len) = true := by simpa using hlt
      have i0 : (0 : Int) ≤ (k : Int) := by omega
      have i1 : (k : Int) < (len : Int) := by omega
      have i2 : (k : Int).toNat = k := by omega
      have hkl : k < l.length := by rw [HL.out]; exact hlt
      obtain ⟨b, off, rfl, hc⟩ := span_at HR.out hkl
      obtain ⟨p, hp⟩ : ∃ p, l[k]'hkl = p := ⟨_, rfl⟩
      have hcc := hc k hkl
      rw [hp] at hcc
      obtain ⟨pa, pb⟩ := p
      have x0 := cells_keep HI.out.2 hcc.1
      have x1 := cells_keep HI.out.2 hcc.2
      have HC := hid (fun (X : World) (b : Below w.heap.size w X) => has1_any pa pb g n bg bn X (H1.out _ b) (H2.out _ b))
      have hst : (l.drop k).any (inB n g) = (inB n g (pa, pb) || (l.drop (k + 1)).any (inB n g)) := by rw [List.drop_eq_getElem_cons hkl, List.any_cons, hp]
      obtain ⟨z, hz⟩ : ∃ z, inB n g (pa, pb) = z := ⟨_, rfl⟩
      rw [hz] at hst HC
      have HST := hid hst
      clear hst hz hp hcc hc
      cases z with
      | true =>
        have HF : Hid (l.any (inB n g) = true) := hid (by rw [← HI.out.1, HST.out]; rfl)
        go_wp2_with (go_at_call 78; (with_reducible refine (HC.out _ HI.out.2).mono ?_); rintro e w3 ⟨rfl, b3⟩; have B3 := hid (past HI.out.2 b3); clear b3 x0 x1 HI HC)
        go_ret
        exact ⟨⟨_, rfl, by rw [HF.out]; simp⟩, B3.out⟩
      | false =>
        have HF : Hid ((l.drop (k + 1)).any (inB n g) = l.any (inB n g)) := hid (by rw [← HI.out.1, HST.out, Bool.false_or])
        go_wp2_with (go_at_call 78; (with_reducible refine (HC.out _ HI.out.2).mono ?_); rintro e w3 ⟨rfl, b3⟩; have B3 := hid (past HI.out.2 b3); clear b3 x0 x1 HI HC)
        go_roundw
        case rel => exact ⟨k + 1, by omega, by go_num, hid ⟨HF.out, B3.out⟩⟩
        case measure => simp [intOf]; omega
    · have d1 : decide ((k : Int) < (len : Int)) = false := by simp; omega
      have d1' : decide (k < len) = false := by simpa using hlt
      have HF : Hid (l.any (inB n g) = false) := hid (by rw [← HI.out.1, List.drop_of_length_le (by rw [HL.out]; omega)]; rfl)
      have HB := hid HI.out.2
      clear HI
      go_wp2_with fail
      go_ret
      exact ⟨⟨-1, rfl, by rw [HF.out]; rfl⟩, HB.out⟩
theorem scontains_any (A : Option Addr) (len c : Nat) (l : List (Int × Int)) (g n : Int) (bg bn : Nat) (w : World) (hl : l.length = len) (hb : len ≤ 100000) (hr : Row w A (l.flatMap spanC)) (h1 : w.cell? ⟨bg, 0, none⟩ = some (.int .i64 g)) (h2 : w.cell? ⟨bn, 0, none⟩ = some (.int .i64 n)) :
    Calls Tryz.prog 77 #[.slice A len c, .func (.func 78) #[] #[.pointer (some ⟨bg, 0, none⟩), .pointer (some ⟨bn, 0, none⟩)]] w fun e w' => e = .returned (.bool (l.any (inB n g))) ∧ Below w.heap.size w w' := by
  have HC := hid (sindex_any A len c l g n bg bn w hl hb hr h1 h2)
  clear hl hr h1 h2
  go_enter Tryz.func77, Tryz.ntmps77
  go_wp2_with (go_at_call 104; (with_reducible refine HC.out.mono ?_); rintro e w3 ⟨⟨k, rfl, hk⟩, b3⟩; have B3 := hid b3; have HK := hid hk; clear b3 hk)
  go_ret
  exact ⟨by rw [HK.out]; rfl, B3.out⟩
set_option maxHeartbeats 2000000 in
theorem shas_any (A : Option Addr) (len c : Nat) (l : List (Int × Int)) (n g : Int) (w : World) (hl : l.length = len) (hb : len ≤ 100000) (hr : Row w A (l.flatMap spanC)) :
    Calls Tryz.prog 44 #[.slice A len c, .int .i64 n, .int .i64 g] w fun e w' => e = .returned (.bool (seqF l n g)) ∧ Below w.heap.size w w' := by
  unfold seqF
  have hn0 : Below w.heap.size w (w.alloc (.cells #[.int .i64 n] 3)) := (Below.refl _ _).alloc (Nat.le_refl _) _
  have hg0 : Below w.heap.size w ((w.alloc (.cells #[.int .i64 n] 3)).alloc (.cells #[.int .i64 g] 3)) := hn0.alloc hn0.size _
  obtain ⟨W2, hW2⟩ : ∃ W2, ((w.alloc (.cells #[.int .i64 n] 3)).alloc (.cells #[.int .i64 g] 3)) = W2 := ⟨_, rfl⟩
  have x0 : W2.cell? ⟨w.heap.size, 0, none⟩ = some (.int .i64 n) := by
    rw [← hW2]
    have := (OwnE.new_ w [.int .i64 n] 3).below (w' := (w.alloc (.cells #[.int .i64 n] 3)).alloc (.cells #[.int .i64 g] 3)) ((Below.refl _ _).alloc (Nat.le_refl _) _)
    exact this.cell (j := 0) rfl
  have x1 : W2.cell? ⟨w.heap.size + 1, 0, none⟩ = some (.int .i64 g) := by
    rw [← hW2]
    have := OwnE.new_ (w.alloc (.cells #[.int .i64 n] 3)) [.int .i64 g] 3
    rw [show (w.alloc (.cells #[.int .i64 n] 3)).heap.size = w.heap.size + 1 by simp] at this
    exact this.cell (j := 0) rfl
  rw [hW2] at hg0
  have B2 := hid hg0
  have HC := hid (scontains_any A len c l g n (w.heap.size + 1) w.heap.size W2 hl hb (hr.below hg0) x1 x0)
  obtain ⟨z1, hz1⟩ : ∃ z, decide (0 < n) = z := ⟨_, rfl⟩
  obtain ⟨z2, hz2⟩ : ∃ z, decide (0 < g) = z := ⟨_, rfl⟩
  rw [hz1, hz2]
  clear hn0 hg0 hl hr
  go_enter Tryz.func44, Tryz.ntmps44
  cases z1 with
  | true =>
    cases z2 with
    | true =>
      go_wp2_with (go_at_call 77; (with_reducible refine HC.out.mono ?_); rintro e w3 ⟨rfl, b3⟩; have B3 := hid (past B2.out b3); clear b3 x0 x1)
      go_ret
      exact ⟨rfl, B3.out⟩
    | false =>
      go_wp2_with fail
      go_ret
      exact ⟨rfl, B2.out⟩
  | false =>
    go_wp2_with fail
    go_ret
    exact ⟨rfl, B2.out⟩
set_option maxHeartbeats 4000000 in
theorem rshas_any (A : Option Addr) (len c : Nat) (l : List (Int × Int)) (n g : Int) (w : World) (hl : l.length = len) (hb : len ≤ 100000) (hr : Row w A (l.flatMap spanC)) :
    Calls Tryz.prog 34 #[.slice A len c, .int .i64 n, .int .i64 g] w fun e w' => e = .returned (.bool (seqF l n g)) ∧ Below w.heap.size w w' := by
  have hsf : seqF l n g = (l.any fun p => inB n g p && (decide (1 ≤ n) && decide (1 ≤ g))) := by
    unfold seqF
    have h1 : decide (0 < n) = decide (1 ≤ n) := by rw [decide_eq_decide]; omega
    have h2 : decide (0 < g) = decide (1 ≤ g) := by rw [decide_eq_decide]; omega
    rw [h1, h2]
    cases decide (1 ≤ n) && decide (1 ≤ g) with
    | true => simp
    | false => simp
  rw [hsf]
  have HR := hid hr
  have HL := hid hl
  obtain ⟨z1, hz1⟩ : ∃ z, decide (1 ≤ n) = z := ⟨_, rfl⟩
  obtain ⟨z2, hz2⟩ : ∃ z, decide (1 ≤ g) = z := ⟨_, rfl⟩
  rw [hz1, hz2]
  clear hr hl hsf
  go_enter Tryz.func34, Tryz.ntmps34
  go_wp2_with fail
  go_loopw [7, 8, 9] (fun i a b wr => ∃ k : Nat, k ≤ len ∧ i = .int .i64 (k : Int) ∧ Hid (((l.drop k).any fun p => inB n g p && (z1 && z2)) = (l.any fun p => inB n g p && (z1 && z2)) ∧ Below w.heap.size w wr)) (fun i a b wr => len - (intOf i).toNat)
  case atStart => exact ⟨0, by omega, rfl, hid ⟨by rw [List.drop_zero], Below.refl _ _⟩⟩
  case round =>
    obtain ⟨k, hk, rfl, HI⟩ := hrel
    by_cases hlt : k < len
    · have d1 : decide ((k : Int) < (len : Int)) = true := by simp; omega
      have d1' : decide (k < len) = true := by simpa using hlt
      have i0 : (0 : Int) ≤ (k : Int) := by omega
      have i1 : (k : Int) < (len : Int) := by omega
      have i2 : (k : Int).toNat = k := by omega
      have hkl : k < l.length := by rw [HL.out]; exact hlt
      obtain ⟨b, off, rfl, hc⟩ := span_at HR.out hkl
      obtain ⟨p, hp⟩ : ∃ p, l[k]'hkl = p := ⟨_, rfl⟩
      have hcc := hc k hkl
      rw [hp] at hcc
      obtain ⟨pa, pb⟩ := p
      have x0 := cells_keep HI.out.2 hcc.1
      have x1 := cells_keep HI.out.2 hcc.2
      have HE := hid (fun X => rends_any pa pb g X)
      obtain ⟨m1, hm1⟩ : ∃ m, (endsF (pa, pb) g).1 = m := ⟨_, rfl⟩
      obtain ⟨m2, hm2⟩ : ∃ m, (endsF (pa, pb) g).2 = m := ⟨_, rfl⟩
      obtain ⟨y1, hy1⟩ : ∃ z, decide (m1 ≤ n) = z := ⟨_, rfl⟩
      obtain ⟨y2, hy2⟩ : ∃ z, decide (n ≤ m2) = z := ⟨_, rfl⟩
      have hst : ((l.drop k).any fun p => inB n g p && (z1 && z2)) = (((y1 && y2) && (z1 && z2)) || ((l.drop (k + 1)).any fun p => inB n g p && (z1 && z2))) := by
        rw [List.drop_eq_getElem_cons hkl, List.any_cons, hp]
        unfold inB
        rw [hm1, hm2, hy1, hy2]
      rw [hm1, hm2] at HE
      have HST := hid hst
      clear hst hm1 hm2 hp hcc hc
      obtain ⟨t, ht⟩ : ∃ t, ((y1 && y2) && (z1 && z2)) = t := ⟨_, rfl⟩
      rw [ht] at HST
      have HT := hid ht
      clear ht
      go_upto_region 5 with (go_at_call 60; (with_reducible refine (HE.out _).mono ?_); rintro e w3 ⟨rfl, b3⟩; have B3 := hid (past HI.out.2 b3); clear b3 x0 x1)
      go_cut [40] (fun r wx => r = .bool t ∧ w3 = wx)
      case first =>
        go_wp2_with fail
        all_goals (go_meet; exact ⟨by rw [← HT.out]; simp [*], rfl⟩)
      case rest =>
      obtain ⟨rfl, hw9⟩ := hcut
      subst hw9
      clear HT hy1 hy2 hz1 hz2 HE
      cases t with
      | true =>
        have HF : Hid ((l.any fun p => inB n g p && (z1 && z2)) = true) := hid (by rw [← HI.out.1, HST.out]; rfl)
        go_wp2_with fail
        go_ret
        exact ⟨by rw [HF.out]; rfl, B3.out⟩
      | false =>
        have HF : Hid (((l.drop (k + 1)).any fun p => inB n g p && (z1 && z2)) = (l.any fun p => inB n g p && (z1 && z2))) := hid (by rw [← HI.out.1, HST.out, Bool.false_or])
        go_wp2_with fail
        go_roundw
        case rel => exact ⟨k + 1, by omega, by go_num, hid ⟨HF.out, B3.out⟩⟩
        case measure => simp [intOf]; omega
    · have d1 : decide ((k : Int) < (len : Int)) = false := by simp; omega
      have d1' : decide (k < len) = false := by simpa using hlt
      have HF : Hid ((l.any fun p => inB n g p && (z1 && z2)) = false) := hid (by rw [← HI.out.1, List.drop_of_length_le (by rw [HL.out]; omega)]; rfl)
      have HB := hid HI.out.2
      clear HI
      go_wp2_with fail
      go_ret
      exact ⟨by rw [HF.out]; rfl, HB.out⟩
/-- No more spans than are looked at. -/
theorem lfew25_any (A : Option Addr) (n c : Nat) (w : World) (hc : n ≤ c) (hm : c ≤ maxLen) :
    Calls Tryz.prog 45 #[.slice A n c] w fun e w' => e = .returned (.slice A (if n ≤ 66 then n else 66) c) ∧ w = w' := by
  by_cases h : n ≤ 66
  · have d1 : decide ((66 : Int) < (n : Int)) = false := by simp; omega
    have d1' : decide (66 < n) = false := by simp; omega
    rw [if_pos h]
    go_enter Tryz.func45, Tryz.ntmps45
    go_wp2_with fail
    go_ret
    exact ⟨rfl, rfl⟩
  · have d1 : decide ((66 : Int) < (n : Int)) = true := by simp; omega
    have d1' : decide (66 < n) = true := by simp; omega
    have c1 : (66 : Int) ≤ (c : Int) := by omega
    have c2 : ¬ c = 0 := by omega
    have c3 : 66 ≤ c := by omega
    rw [if_neg h]
    go_enter Tryz.func45, Tryz.ntmps45
    go_wp2_with fail
    go_ret
    exact ⟨by simp, rfl⟩
end Go.Proofs.YtonjadmldgloaaaGreatDoor
