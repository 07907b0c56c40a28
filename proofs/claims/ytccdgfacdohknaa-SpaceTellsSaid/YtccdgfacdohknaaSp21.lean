/-
  The law's examples: the walk. A part of the proof: see the head of the text that ends in 'Law'.
-/
import Derived.Test.YtccdgfacdohknaaSp20
namespace Go.Proofs.Ytccdgfacdohknaa
open Go.RowKit Go.Shelf
set_option linter.unusedVariables false

theorem irow_two (w : World) (a b : Int) (T : TypeId) {s : Nat} (hs : w.heap.size = s) : IRow (w.alloc (.cells #[.int .i64 a, .int .i64 b] T)) (some ⟨s, 0, none⟩) 2 [a, b] := by
  subst hs
  exact ⟨rfl, (OwnC.new_ w #[.int .i64 a, .int .i64 b] T).row⟩
theorem eq01 : (([0, 1] : List Int) == [0, 1]) = true := rfl
theorem eq02 : (([0, 2] : List Int) == [0, 2]) = true := rfl

set_option maxRecDepth 20000 in
set_option maxHeartbeats 4000000 in
theorem awake_any (w : World) :
    Calls Try.prog 13 #[] w fun e w' => e = .returned (.bool true) ∧ Below w.heap.size w w' := by
  go_enter Try.func13, Try.ntmps13
  go_wp2_with (first
    | (go_at_call 20; refine (new5 _).mono ?_; rintro e w1 ⟨A1, c1, rfl, o1, b1⟩; have X1 := hid (SpV.new_ 5 c1 o1); have k10 := X1.out.k0; have k11 := X1.out.k1; have B1 := hid (next b1 (varW_below w1 5 A1 1 c1)); clear o1 b1)
    | (go_at_call 8; with_reducible refine (tkA A1 c1 _ X1.out.o).mono ?_; rintro e w2 ⟨A2, c2, L2, d2, rfl, o2, l2, b2⟩; have X2 := hid (SpV.new_ 5 c2 o2); have R2 := hid (l2.below (varW_below w2 5 A2 1 c2)); have k20 := X2.out.k0; have k21 := X2.out.k1; have B2 := hid (next (next B1.out b2) (varW_below w2 5 A2 1 c2)); clear k10 k11 B1 o2 l2 b2)
    | (go_at_call 9; refine (gvA A2 _ c2 1 _ (X2.out.o.alloc _) (row_box _ _ (by simp))).mono ?_; rintro e w3 ⟨A3, c3, rfl, o3, b3⟩; have q3 := next ((Below.refl _ _).alloc (Nat.le_refl _) (Obj.cells #[.int .i64 0] 3)) b3; have X3 := hid (SpV.new_ 5 c3 o3); have Y3 := hid ((X2.out.below q3).below (varW_below w3 5 A3 1 c3)); have R3 := hid ((R2.out.below q3).below (varW_below w3 5 A3 1 c3)); have k30 := X3.out.k0; have k31 := X3.out.k1; have B3 := hid (next (next B2.out q3) (varW_below w3 5 A3 1 c3)); clear k20 k21 X1 X2 R2 B2 q3 b3 o3)
    | (go_at_call 8; with_reducible refine (tkB A3 c3 _ X3.out.o).mono ?_; rintro e w4 ⟨A4, c4, L4, d4, rfl, o4, l4, b4⟩; have X4 := hid (SpV.new_ 5 c4 o4); have Y4 := hid ((Y3.out.below b4).below (varW_below w4 5 A4 1 c4)); have R4 := hid ((R3.out.below b4).below (varW_below w4 5 A4 1 c4)); have S4 := hid (l4.below (varW_below w4 5 A4 1 c4)); have k40 := X4.out.k0; have k41 := X4.out.k1; have B4 := hid (next (next B3.out b4) (varW_below w4 5 A4 1 c4)); clear k30 k31 X3 Y3 R3 B3 b4 o4 l4)
    | (go_at_call 10; refine (mkC A4 _ c4 1 _ (X4.out.o.alloc _) (row_box _ _ (by simp))).mono ?_; rintro e w5 ⟨A5, c5, rfl, o5, b5⟩; have q5 := next ((Below.refl _ _).alloc (Nat.le_refl _) (Obj.cells #[.int .i64 3] 3)) b5; have X5 := hid (SpV.new_ 5 c5 o5); have Y5 := hid ((Y4.out.below q5).below (varW_below w5 5 A5 1 c5)); have R5 := hid ((R4.out.below q5).below (varW_below w5 5 A5 1 c5)); have S5 := hid ((S4.out.below q5).below (varW_below w5 5 A5 1 c5)); have k50 := Y5.out.k0; have k51 := Y5.out.k1; have B5 := hid (next (next B4.out q5) (varW_below w5 5 A5 1 c5)); clear k40 k41 X4 Y4 R4 S4 B4 q5 b5 o5)
    | (go_at_call 10; refine (mkA A2 _ c2 1 _ (Y5.out.o.alloc _) (row_box _ _ (by simp))).mono ?_; rintro e w6 ⟨A6, c6, rfl, o6, b6⟩; have q6 := next ((Below.refl _ _).alloc (Nat.le_refl _) (Obj.cells #[.int .i64 2] 3)) b6; have X6 := hid (SpV.new_ 5 c6 o6); have Y6 := hid ((X5.out.below q6).below (varW_below w6 5 A6 1 c6)); have R6 := hid ((R5.out.below q6).below (varW_below w6 5 A6 1 c6)); have S6 := hid ((S5.out.below q6).below (varW_below w6 5 A6 1 c6)); have k60 := X6.out.k0; have k61 := X6.out.k1; have B6 := hid (next (next B5.out q6) (varW_below w6 5 A6 1 c6)); clear k50 k51 X5 Y5 R5 S5 B5 q6 b6 o6)
    | (go_at_call 8; with_reducible refine (tkF A6 c6 _ X6.out.o).mono ?_; rintro e w7 ⟨A7, c7, L7, d7, rfl, b7⟩; have q7 := next b7 (varW_below w7 0 A7 0 c7); have X7 := hid (X6.out.below q7); have Y7 := hid (Y6.out.below q7); have R7 := hid (R6.out.below q7); have S7 := hid (S6.out.below q7); have B7 := hid (next B6.out q7); clear k60 k61 X6 Y6 R6 S6 B6 q7 b7)
    | (go_at_call 16; with_reducible refine (ints_any L2 _ 2 d2 2 2 [0, 1] [0, 1] _ (R7.out.below ((Below.refl _ _).alloc (Nat.le_refl _) _)) (irow_two _ 0 1 _ (by simp)) (by omega)).mono ?_; rw [eq01]; rintro e w8 ⟨rfl, b8⟩; have q8 := next ((Below.refl _ _).alloc (Nat.le_refl _) (Obj.cells #[.int .i64 0, .int .i64 1] 3)) b8; have X8 := hid (X7.out.below q8); have Y8 := hid (Y7.out.below q8); have S8 := hid (S7.out.below q8); have B8' := hid (next B7.out q8); clear X7 Y7 R7 S7 B7 q8 b8)
    | (go_at_call 16; with_reducible refine (ints_any L4 _ 2 d4 2 2 [0, 2] [0, 2] _ (S8.out.below ((Below.refl _ _).alloc (Nat.le_refl _) _)) (irow_two _ 0 2 _ (by simp)) (by omega)).mono ?_; rw [eq02]; rintro e w9 ⟨rfl, b9⟩; have q9 := next ((Below.refl _ _).alloc (Nat.le_refl _) (Obj.cells #[.int .i64 0, .int .i64 2] 3)) b9; have X9 := hid (X8.out.below q9); have Y9 := hid (Y8.out.below q9); have B9 := hid (next B8'.out q9); have k90 := Y9.out.k0; have k91 := Y9.out.k1; clear X8 Y8 S8 B8' q9 b9)
    | (go_at_call 19; with_reducible refine (count5 A5 c5 _ Y9.out.o).mono ?_; rintro e w10 ⟨rfl, b10⟩; have X10 := X9.out.below b10; have B10 := hid (next B9.out b10); have k1 := X10.k1; have h1 := strP c6 X10.o; rw [packLc] at h1; have e1 := strLc; clear k90 k91 X9 Y9 X10 B9 b10))
  go_ret
  exact ⟨rfl, B10.out⟩
end Go.Proofs.Ytccdgfacdohknaa
