/-
  The law's examples: they come out true. A part of the proof: see the head of the text that ends in 'Law'.
-/
import Derived.Test.YtnloooakfhjggaaOctRdText
namespace Go.Proofs.Ytnloooakfhjggaa
open Go.RowKit
set_option linter.unusedVariables false

theorem p300 : putL 300 2 = [44, 1] := by decide +kernel
theorem p2ab : putL 2 2 ++ [97, 98] = [2, 0, 97, 98] := by decide +kernel
theorem pad100 : ([1] : List UInt8) ++ List.replicate (3 - 1) 0 = [1, 0, 0] := by decide +kernel
theorem n300 : numS [44, 1, 9] ⟨0, 0, 0⟩ 2 = (300, ⟨2, 0, 0⟩) := by rfl
theorem t300 : textS [44, 1, 9] ⟨2, 0, 0⟩ = ([], ⟨2, 2, 2⟩) := by rfl
theorem q1 : (str [44, 1] == (⟨#[44, 1]⟩ : ByteArray)) = true := by decide +kernel
theorem q2 : (str [2, 0, 97, 98] == (⟨#[2, 0, 97, 98]⟩ : ByteArray)) = true := by decide +kernel
theorem q3 : (str [1, 0, 0] == (⟨#[1, 0, 0]⟩ : ByteArray)) = true := by decide +kernel
theorem q4 : (str [] == (⟨#[]⟩ : ByteArray)) = true := by decide +kernel
theorem putAB (w : World) : Calls Try.prog 10 #[.string ⟨#[97, 98]⟩] w fun e w' => ∃ A c, e = .returned (.tuple #[.slice A 4 c, .int .i64 0]) ∧ Oct w' A 4 [2, 0, 97, 98] ∧ Below w.heap.size w w' :=
  (putText_any [97, 98] w (by decide)).mono fun e w' ⟨A, c, he, ho, hb⟩ => by
    refine ⟨A, c, he, ⟨rfl, ?_⟩, hb⟩
    have h := Row.of_own ho
    have e1 : putL (List.length ([97, 98] : List UInt8)) 2 ++ [97, 98] = [2, 0, 97, 98] := p2ab
    rw [e1] at h
    exact h
theorem put300 (w : World) : Calls Try.prog 8 #[.int .u64 300, .int .i64 2] w fun e w' => ∃ A c, e = .returned (.tuple #[.slice A 2 c, .int .i64 0]) ∧ Oct w' A 2 [44, 1] ∧ Below w.heap.size w w' :=
  (put_fits 300 2 w (by omega) (by omega) (by omega) (by decide)).mono fun e w' ⟨A, c, he, ho, hb⟩ => by
    refine ⟨A, c, he, ⟨rfl, ?_⟩, hb⟩
    have h := Row.of_own ho
    rw [p300] at h
    exact h
theorem put256 (w : World) : Calls Try.prog 8 #[.int .u64 256, .int .i64 1] w fun e w' => e = .returned (.tuple #[.slice none 0 0, .int .i64 8]) ∧ Below w.heap.size w w' :=
  put_over 256 1 w (by omega) (by omega) (by omega) (by decide)

theorem oct_row {w : World} {l : List UInt8} {base : Nat} (h : w.ownsRow base 5 1 (.slice (some ⟨base, 0, none⟩) l.length l.length) l.length (l.map B8)) : Oct w (some ⟨base, 0, none⟩) l.length l := ⟨rfl, Row.of_own h⟩

set_option maxHeartbeats 1000000 in
theorem awake_any (w : World) :
    Calls Try.prog 11 #[] w fun e w' => e = .returned (.bool true) ∧ Below w.heap.size w w' := by
  go_enter Try.func11, Try.ntmps11
  go_wp2_with (first
    | (go_at_call 8; with_reducible refine (put300 _).mono ?_; rintro e w1 ⟨A1, c1, rfl, o1, b1⟩)
    | (go_at_call 8; with_reducible refine (put256 _).mono ?_; rintro e w2 ⟨rfl, hx⟩; have b2 := next b1 hx; have o2 := o1.below hx; clear o1 b1 hx)
    | (go_at_call 10; refine (putAB _).mono ?_; rintro e w3 ⟨A3, c3, rfl, t3, hx⟩; have b3 := next b2 hx; have o3 := o2.below hx; clear o2 b2 hx)
    | (go_at_call 13; refine (pad_any (some ⟨w3.heap.size, 0, none⟩) 1 1 3 [1] _ (Oct.of_block [1] (heap_alloc_new w3 _) rfl) (by omega) (by omega)).mono ?_; rintro e w4 ⟨A4, rfl, p4, hx⟩; rw [pad100] at p4; have hy := next ((Below.refl _ w3).alloc (Nat.le_refl _) _) hx; have b4 := next b3 hy; have o4 := o3.below hy; have t4 := t3.below hy; clear o3 b3 t3 hx hy)
    | (go_at_call 16; refine (read_any (some ⟨w4.heap.size, 0, none⟩) 3 3 [44, 1, 9] _ (Oct.of_block [44, 1, 9] (heap_alloc_new w4 _) rfl) (by omega)).mono ?_; rintro e w5 ⟨g, A5, c5, rfl, hg, r5, hA5, _, hx⟩; have hy := next ((Below.refl _ w4).alloc (Nat.le_refl _) _) hx; have hge := Nat.le_trans ((Below.refl _ w4).alloc (Nat.le_refl _) _).size hg; clear hx hg)
    | (go_at_call 18; refine (rnum_any _ g A5 3 c5 [44, 1, 9] ⟨0, 0, 0⟩ 2 r5 (by omega)).mono ?_; rw [n300]; rintro e w6 ⟨rfl, r6, hx⟩; have hy6 := hy.grown hx hy.size (fun k hk => by injection hk with hk; omega); clear hx r5 hy)
    | (go_at_call 19; refine (rtext_any _ g A5 3 c5 [44, 1, 9] ⟨2, 0, 0⟩ r6 (by omega) hA5 (by decide)).mono ?_; rw [t300]; rintro e w7 ⟨rfl, r7, hx⟩; have hy7 := hy6.grown hx hy6.size (fun k hk => by injection hk with hk; omega); clear hx r6 hy6)
    | (go_at_call 24; refine (err_any _ g A5 3 c5 [44, 1, 9] 2 2 2 r7).mono ?_; rintro e w8 ⟨rfl, r8, hx⟩; have hy8 := hy7.grown hx hy7.size (fun k hk => by cases hk); have h1 := strP c1 (o4.below hy8); have h2 := strP c3 (t4.below hy8); have h3 := strP 3 (p4.below hy8); have b8 := next b4 hy8; have e1 := q1; have e2 := q2; have e3 := q3; have e4 := q4; clear hx r7 r8 hy7 hy8 o4 t4 p4 b4))
  go_ret
  exact ⟨rfl, b8⟩
end Go.Proofs.Ytnloooakfhjggaa
