/-
  Names moved. A part of the proof: see the head of the text that ends in 'Law'.
-/
import Derived.Test.YthgopanipmnphaaNa8
namespace Go.Proofs.Ythgopanipmnphaa
open Go.RowKit Go.Shelf
set_option linter.unusedVariables false

/-- A name moved, and the error's number. -/
def moveL (s f t : List UInt8) : List UInt8 × Nat :=
  if (isL s && isL f && isL t) = false then ([], 18)
  else if (toldL s == toldL f || underL s f) = false then ([], 6)
  else if isL (toldL t ++ (toldL s).drop f.length) = true then (toldL t ++ (toldL s).drop f.length, 0) else ([], 18)
/-- What a walk of Move knows. -/
structure MvF (s f t : List UInt8) (a b c : Bool) (x y z : List UInt8) (e u io : Bool) : Prop where
  ha : isL s = a
  hb : isL f = b
  hc : isL t = c
  hx : toldL s = x
  hy : toldL f = y
  hz : toldL t = z
  he : (x == y) = e
  hu : underL s f = u
  ho : isL (z ++ x.drop f.length) = io
theorem mvF (s f t : List UInt8) : ∃ a b c x y z e u io, MvF s f t a b c x y z e u io := ⟨_, _, _, _, _, _, _, _, _, rfl, rfl, rfl, rfl, rfl, rfl, rfl, rfl, rfl⟩
theorem MvF.no {s f t : List UInt8} {a b c : Bool} {x y z : List UInt8} {e u io : Bool} (h : MvF s f t a b c x y z e u io) (hn : (a && b && c) = false) : moveL s f t = ([], 18) := by
  unfold moveL
  rw [h.ha, h.hb, h.hc, if_pos hn]
theorem MvF.none {s f t : List UInt8} {x y z : List UInt8} {io : Bool} (h : MvF s f t true true true x y z false false io) : moveL s f t = ([], 6) := by
  unfold moveL
  rw [h.ha, h.hb, h.hc, if_neg (by decide), h.hx, h.hy, h.hu, h.he]
  rfl
theorem MvF.yes {s f t : List UInt8} {x y z : List UInt8} {e u io : Bool} (h : MvF s f t true true true x y z e u io) (hn : (e || u) = true) : moveL s f t = if io = true then (z ++ x.drop f.length, 0) else ([], 18) := by
  unfold moveL
  rw [h.ha, h.hb, h.hc, if_neg (by decide), h.hx, h.hy, h.hz, h.hu, h.he, if_neg (by rw [hn]; decide), h.ho]
theorem MvF.same {s f t : List UInt8} {a b c : Bool} {x y z : List UInt8} {u io : Bool} (h : MvF s f t a b c x y z true u io) : x.drop f.length = [] := by
  have h1 := beq_iff_eq.1 h.he
  have h2 := toldL_length f
  rw [h.hy, ← h1] at h2
  rw [← h2, List.drop_length]
theorem MvF.fit {s f t : List UInt8} {a b c : Bool} {x y z : List UInt8} {e io : Bool} (h : MvF s f t a b c x y z e true io) : f.length ≤ x.length := by
  have h1 := h.hu
  unfold underL at h1
  rw [h.hx, h.hy] at h1
  have h2 : Lib.hasPrefix x (y ++ [47]) = true := by
    revert h1
    cases isL s <;> cases isL f <;> simp
  have h3 := (List.isPrefixOf_iff_prefix.1 h2).length_le
  have h4 := toldL_length f
  rw [h.hy] at h4
  rw [List.length_append] at h3
  omega
theorem MvF.lens {s f t : List UInt8} {a b c : Bool} {x y z : List UInt8} {e u io : Bool} (h : MvF s f t a b c x y z e u io) : x.length = s.length ∧ y.length = f.length ∧ z.length = t.length :=
  ⟨by rw [← h.hx, toldL_length], by rw [← h.hy, toldL_length], by rw [← h.hz, toldL_length]⟩

set_option maxHeartbeats 1000000 in
theorem move_any (s f t : List UInt8) (w : World) (hs : s.length ≤ 1000) (hf : f.length ≤ 1000) (ht : t.length ≤ 1000) (hG : GM w) :
    Calls Try.prog 11 #[.string (str s), .string (str f), .string (str t)] w fun e w' => e = .returned (.tuple #[.string (str (moveL s f t).1), .int .i64 ((moveL s f t).2 : Nat)]) ∧ Below w.heap.size w w' := by
  have B := hid (Below.refl w.heap.size w)
  have HG := hid hG
  obtain ⟨a, b, c, x, y, z, e, u, io, hM⟩ := mvF s f t
  have HM := hid hM
  have C1 := hid (fun w (hG : GM w) => by have h := is_any s w (by omega) hG; rw [hM.ha] at h; exact h)
  have C2 := hid (fun w (hG : GM w) => by have h := is_any f w (by omega) hG; rw [hM.hb] at h; exact h)
  have C3 := hid (fun w (hG : GM w) => by have h := is_any t w (by omega) hG; rw [hM.hc] at h; exact h)
  have T1 := hid (fun w (hG : GM w) => by have h := told_any s w (by omega) hG; rw [hM.hx] at h; exact h)
  have T2 := hid (fun w (hG : GM w) => by have h := told_any f w (by omega) hG; rw [hM.hy] at h; exact h)
  have T3 := hid (fun w (hG : GM w) => by have h := told_any t w (by omega) hG; rw [hM.hz] at h; exact h)
  have U1 := hid (fun w (hG : GM w) => by have h := under_any s f w (by omega) (by omega) hG; rw [hM.hu] at h; exact h)
  have he1 : (x == y) = e := hM.he
  have he2 : (str x == str y) = e := by rw [str_beq]; exact he1
  clear hG hM
  cases a with
  | false =>
    rw [HM.out.no rfl]
    go_enter Try.func11, Try.ntmps11
    go_wp2_with (go_at_call 13; (with_reducible refine (C1.out _ HG.out).mono ?_); rintro e w1 ⟨rfl, b1⟩; ((first | replace HG := HG.far b1 | replace HG := hid (HG.out.below b1) | skip); (first | replace B := B.far b1 | replace B := hid (B.out.below b1) | skip)); clear b1)
    go_ret2
    exact ⟨rfl, B.out⟩
  | true =>
    cases b with
    | false =>
      rw [HM.out.no rfl]
      go_enter Try.func11, Try.ntmps11
      go_wp2_with (first
        | (go_at_call 13; (with_reducible refine (C1.out _ HG.out).mono ?_); rintro e w1 ⟨rfl, b1⟩; ((first | replace HG := HG.far b1 | replace HG := hid (HG.out.below b1) | skip); (first | replace B := B.far b1 | replace B := hid (B.out.below b1) | skip)); clear b1)
        | (go_at_call 13; (with_reducible refine (C2.out _ HG.out).mono ?_); rintro e w1 ⟨rfl, b1⟩; ((first | replace HG := HG.far b1 | replace HG := hid (HG.out.below b1) | skip); (first | replace B := B.far b1 | replace B := hid (B.out.below b1) | skip)); clear b1))
      go_ret2
      exact ⟨rfl, B.out⟩
    | true =>
      cases c with
      | false =>
        rw [HM.out.no rfl]
        go_enter Try.func11, Try.ntmps11
        go_wp2_with (first
          | (go_at_call 13; (with_reducible refine (C1.out _ HG.out).mono ?_); rintro e w1 ⟨rfl, b1⟩; ((first | replace HG := HG.far b1 | replace HG := hid (HG.out.below b1) | skip); (first | replace B := B.far b1 | replace B := hid (B.out.below b1) | skip)); clear b1)
          | (go_at_call 13; (with_reducible refine (C2.out _ HG.out).mono ?_); rintro e w1 ⟨rfl, b1⟩; ((first | replace HG := HG.far b1 | replace HG := hid (HG.out.below b1) | skip); (first | replace B := B.far b1 | replace B := hid (B.out.below b1) | skip)); clear b1)
          | (go_at_call 13; (with_reducible refine (C3.out _ HG.out).mono ?_); rintro e w1 ⟨rfl, b1⟩; ((first | replace HG := HG.far b1 | replace HG := hid (HG.out.below b1) | skip); (first | replace B := B.far b1 | replace B := hid (B.out.below b1) | skip)); clear b1))
        go_ret2
        exact ⟨rfl, B.out⟩
      | true =>
        have hlen := HM.out.lens
        cases e with
        | true =>
          rw [HM.out.yes rfl, HM.out.same, List.append_nil]
          have ho := HM.out.ho
          rw [HM.out.same, List.append_nil] at ho
          have O1 := hid (fun w (hG : GM w) => by have h := is_any z w (by omega) hG; rw [ho] at h; exact h)
          clear ho
          cases io with
          | true =>
            go_enter Try.func11, Try.ntmps11
            go_wp2_with (first
              | (go_at_call 13; (with_reducible refine (C1.out _ HG.out).mono ?_); rintro e w1 ⟨rfl, b1⟩; ((first | replace HG := HG.far b1 | replace HG := hid (HG.out.below b1) | skip); (first | replace B := B.far b1 | replace B := hid (B.out.below b1) | skip)); clear b1)
              | (go_at_call 13; (with_reducible refine (C2.out _ HG.out).mono ?_); rintro e w1 ⟨rfl, b1⟩; ((first | replace HG := HG.far b1 | replace HG := hid (HG.out.below b1) | skip); (first | replace B := B.far b1 | replace B := hid (B.out.below b1) | skip)); clear b1)
              | (go_at_call 13; (with_reducible refine (C3.out _ HG.out).mono ?_); rintro e w1 ⟨rfl, b1⟩; ((first | replace HG := HG.far b1 | replace HG := hid (HG.out.below b1) | skip); (first | replace B := B.far b1 | replace B := hid (B.out.below b1) | skip)); clear b1)
              | (go_at_call 14; (with_reducible refine (T1.out _ HG.out).mono ?_); rintro e w1 ⟨rfl, b1⟩; ((first | replace HG := HG.far b1 | replace HG := hid (HG.out.below b1) | skip); (first | replace B := B.far b1 | replace B := hid (B.out.below b1) | skip)); clear b1)
              | (go_at_call 14; (with_reducible refine (T2.out _ HG.out).mono ?_); rintro e w1 ⟨rfl, b1⟩; ((first | replace HG := HG.far b1 | replace HG := hid (HG.out.below b1) | skip); (first | replace B := B.far b1 | replace B := hid (B.out.below b1) | skip)); clear b1)
              | (go_at_call 14; (with_reducible refine (T3.out _ HG.out).mono ?_); rintro e w1 ⟨rfl, b1⟩; ((first | replace HG := HG.far b1 | replace HG := hid (HG.out.below b1) | skip); (first | replace B := B.far b1 | replace B := hid (B.out.below b1) | skip)); clear b1)
              | (go_at_call 15; (with_reducible refine (U1.out _ HG.out).mono ?_); rintro e w1 ⟨rfl, b1⟩; ((first | replace HG := HG.far b1 | replace HG := hid (HG.out.below b1) | skip); (first | replace B := B.far b1 | replace B := hid (B.out.below b1) | skip)); clear b1)
              | (go_at_call 13; (with_reducible refine (O1.out _ HG.out).mono ?_); rintro e w1 ⟨rfl, b1⟩; ((first | replace HG := HG.far b1 | replace HG := hid (HG.out.below b1) | skip); (first | replace B := B.far b1 | replace B := hid (B.out.below b1) | skip)); clear b1))
            go_ret2
            exact ⟨rfl, B.out⟩
          | false =>
            go_enter Try.func11, Try.ntmps11
            go_wp2_with (first
              | (go_at_call 13; (with_reducible refine (C1.out _ HG.out).mono ?_); rintro e w1 ⟨rfl, b1⟩; ((first | replace HG := HG.far b1 | replace HG := hid (HG.out.below b1) | skip); (first | replace B := B.far b1 | replace B := hid (B.out.below b1) | skip)); clear b1)
              | (go_at_call 13; (with_reducible refine (C2.out _ HG.out).mono ?_); rintro e w1 ⟨rfl, b1⟩; ((first | replace HG := HG.far b1 | replace HG := hid (HG.out.below b1) | skip); (first | replace B := B.far b1 | replace B := hid (B.out.below b1) | skip)); clear b1)
              | (go_at_call 13; (with_reducible refine (C3.out _ HG.out).mono ?_); rintro e w1 ⟨rfl, b1⟩; ((first | replace HG := HG.far b1 | replace HG := hid (HG.out.below b1) | skip); (first | replace B := B.far b1 | replace B := hid (B.out.below b1) | skip)); clear b1)
              | (go_at_call 14; (with_reducible refine (T1.out _ HG.out).mono ?_); rintro e w1 ⟨rfl, b1⟩; ((first | replace HG := HG.far b1 | replace HG := hid (HG.out.below b1) | skip); (first | replace B := B.far b1 | replace B := hid (B.out.below b1) | skip)); clear b1)
              | (go_at_call 14; (with_reducible refine (T2.out _ HG.out).mono ?_); rintro e w1 ⟨rfl, b1⟩; ((first | replace HG := HG.far b1 | replace HG := hid (HG.out.below b1) | skip); (first | replace B := B.far b1 | replace B := hid (B.out.below b1) | skip)); clear b1)
              | (go_at_call 14; (with_reducible refine (T3.out _ HG.out).mono ?_); rintro e w1 ⟨rfl, b1⟩; ((first | replace HG := HG.far b1 | replace HG := hid (HG.out.below b1) | skip); (first | replace B := B.far b1 | replace B := hid (B.out.below b1) | skip)); clear b1)
              | (go_at_call 15; (with_reducible refine (U1.out _ HG.out).mono ?_); rintro e w1 ⟨rfl, b1⟩; ((first | replace HG := HG.far b1 | replace HG := hid (HG.out.below b1) | skip); (first | replace B := B.far b1 | replace B := hid (B.out.below b1) | skip)); clear b1)
              | (go_at_call 13; (with_reducible refine (O1.out _ HG.out).mono ?_); rintro e w1 ⟨rfl, b1⟩; ((first | replace HG := HG.far b1 | replace HG := hid (HG.out.below b1) | skip); (first | replace B := B.far b1 | replace B := hid (B.out.below b1) | skip)); clear b1))
            go_ret2
            exact ⟨rfl, B.out⟩
        | false =>
          cases u with
          | false =>
            rw [HM.out.none]
            go_enter Try.func11, Try.ntmps11
            go_wp2_with (first
              | (go_at_call 13; (with_reducible refine (C1.out _ HG.out).mono ?_); rintro e w1 ⟨rfl, b1⟩; ((first | replace HG := HG.far b1 | replace HG := hid (HG.out.below b1) | skip); (first | replace B := B.far b1 | replace B := hid (B.out.below b1) | skip)); clear b1)
              | (go_at_call 13; (with_reducible refine (C2.out _ HG.out).mono ?_); rintro e w1 ⟨rfl, b1⟩; ((first | replace HG := HG.far b1 | replace HG := hid (HG.out.below b1) | skip); (first | replace B := B.far b1 | replace B := hid (B.out.below b1) | skip)); clear b1)
              | (go_at_call 13; (with_reducible refine (C3.out _ HG.out).mono ?_); rintro e w1 ⟨rfl, b1⟩; ((first | replace HG := HG.far b1 | replace HG := hid (HG.out.below b1) | skip); (first | replace B := B.far b1 | replace B := hid (B.out.below b1) | skip)); clear b1)
              | (go_at_call 14; (with_reducible refine (T1.out _ HG.out).mono ?_); rintro e w1 ⟨rfl, b1⟩; ((first | replace HG := HG.far b1 | replace HG := hid (HG.out.below b1) | skip); (first | replace B := B.far b1 | replace B := hid (B.out.below b1) | skip)); clear b1)
              | (go_at_call 14; (with_reducible refine (T2.out _ HG.out).mono ?_); rintro e w1 ⟨rfl, b1⟩; ((first | replace HG := HG.far b1 | replace HG := hid (HG.out.below b1) | skip); (first | replace B := B.far b1 | replace B := hid (B.out.below b1) | skip)); clear b1)
              | (go_at_call 14; (with_reducible refine (T3.out _ HG.out).mono ?_); rintro e w1 ⟨rfl, b1⟩; ((first | replace HG := HG.far b1 | replace HG := hid (HG.out.below b1) | skip); (first | replace B := B.far b1 | replace B := hid (B.out.below b1) | skip)); clear b1)
              | (go_at_call 15; (with_reducible refine (U1.out _ HG.out).mono ?_); rintro e w1 ⟨rfl, b1⟩; ((first | replace HG := HG.far b1 | replace HG := hid (HG.out.below b1) | skip); (first | replace B := B.far b1 | replace B := hid (B.out.below b1) | skip)); clear b1))
            go_ret2
            exact ⟨rfl, B.out⟩
          | true =>
            rw [HM.out.yes rfl]
            have O1 := hid (fun w (hG : GM w) => by have h := is_any (z ++ x.drop f.length) w (by rw [List.length_append, List.length_drop]; omega) hG; rw [HM.out.ho] at h; exact h)
            have hfit := HM.out.fit
            have hfit2 : ((str f).size : Int) ≤ ((str x).size : Int) := by rw [str_size, str_size]; omega
            have hex : (str x).extract (str f).size (str x).size = str (x.drop f.length) := by rw [str_extract, str_size, str_size, List.take_of_length_le (by simp)]
            have hap := str_append z (x.drop f.length)
            have hz1 : (str z).size ≤ 1000 := by rw [str_size]; omega
            have hz2 : (str (x.drop f.length)).size ≤ 1000 := by rw [str_size, List.length_drop]; omega
            have hno : ¬ 9223372036854775807 < (str z).size + (str (x.drop f.length)).size := by omega
            cases io with
            | true =>
              go_enter Try.func11, Try.ntmps11
              go_wp2_with (first
                | (go_at_call 13; (with_reducible refine (C1.out _ HG.out).mono ?_); rintro e w1 ⟨rfl, b1⟩; ((first | replace HG := HG.far b1 | replace HG := hid (HG.out.below b1) | skip); (first | replace B := B.far b1 | replace B := hid (B.out.below b1) | skip)); clear b1)
                | (go_at_call 13; (with_reducible refine (C2.out _ HG.out).mono ?_); rintro e w1 ⟨rfl, b1⟩; ((first | replace HG := HG.far b1 | replace HG := hid (HG.out.below b1) | skip); (first | replace B := B.far b1 | replace B := hid (B.out.below b1) | skip)); clear b1)
                | (go_at_call 13; (with_reducible refine (C3.out _ HG.out).mono ?_); rintro e w1 ⟨rfl, b1⟩; ((first | replace HG := HG.far b1 | replace HG := hid (HG.out.below b1) | skip); (first | replace B := B.far b1 | replace B := hid (B.out.below b1) | skip)); clear b1)
                | (go_at_call 14; (with_reducible refine (T1.out _ HG.out).mono ?_); rintro e w1 ⟨rfl, b1⟩; ((first | replace HG := HG.far b1 | replace HG := hid (HG.out.below b1) | skip); (first | replace B := B.far b1 | replace B := hid (B.out.below b1) | skip)); clear b1)
                | (go_at_call 14; (with_reducible refine (T2.out _ HG.out).mono ?_); rintro e w1 ⟨rfl, b1⟩; ((first | replace HG := HG.far b1 | replace HG := hid (HG.out.below b1) | skip); (first | replace B := B.far b1 | replace B := hid (B.out.below b1) | skip)); clear b1)
                | (go_at_call 14; (with_reducible refine (T3.out _ HG.out).mono ?_); rintro e w1 ⟨rfl, b1⟩; ((first | replace HG := HG.far b1 | replace HG := hid (HG.out.below b1) | skip); (first | replace B := B.far b1 | replace B := hid (B.out.below b1) | skip)); clear b1)
                | (go_at_call 15; (with_reducible refine (U1.out _ HG.out).mono ?_); rintro e w1 ⟨rfl, b1⟩; ((first | replace HG := HG.far b1 | replace HG := hid (HG.out.below b1) | skip); (first | replace B := B.far b1 | replace B := hid (B.out.below b1) | skip)); clear b1)
                | (go_at_call 13; (with_reducible refine (O1.out _ HG.out).mono ?_); rintro e w1 ⟨rfl, b1⟩; ((first | replace HG := HG.far b1 | replace HG := hid (HG.out.below b1) | skip); (first | replace B := B.far b1 | replace B := hid (B.out.below b1) | skip)); clear b1))
              go_ret2
              exact ⟨rfl, B.out⟩
            | false =>
              go_enter Try.func11, Try.ntmps11
              go_wp2_with (first
                | (go_at_call 13; (with_reducible refine (C1.out _ HG.out).mono ?_); rintro e w1 ⟨rfl, b1⟩; ((first | replace HG := HG.far b1 | replace HG := hid (HG.out.below b1) | skip); (first | replace B := B.far b1 | replace B := hid (B.out.below b1) | skip)); clear b1)
                | (go_at_call 13; (with_reducible refine (C2.out _ HG.out).mono ?_); rintro e w1 ⟨rfl, b1⟩; ((first | replace HG := HG.far b1 | replace HG := hid (HG.out.below b1) | skip); (first | replace B := B.far b1 | replace B := hid (B.out.below b1) | skip)); clear b1)
                | (go_at_call 13; (with_reducible refine (C3.out _ HG.out).mono ?_); rintro e w1 ⟨rfl, b1⟩; ((first | replace HG := HG.far b1 | replace HG := hid (HG.out.below b1) | skip); (first | replace B := B.far b1 | replace B := hid (B.out.below b1) | skip)); clear b1)
                | (go_at_call 14; (with_reducible refine (T1.out _ HG.out).mono ?_); rintro e w1 ⟨rfl, b1⟩; ((first | replace HG := HG.far b1 | replace HG := hid (HG.out.below b1) | skip); (first | replace B := B.far b1 | replace B := hid (B.out.below b1) | skip)); clear b1)
                | (go_at_call 14; (with_reducible refine (T2.out _ HG.out).mono ?_); rintro e w1 ⟨rfl, b1⟩; ((first | replace HG := HG.far b1 | replace HG := hid (HG.out.below b1) | skip); (first | replace B := B.far b1 | replace B := hid (B.out.below b1) | skip)); clear b1)
                | (go_at_call 14; (with_reducible refine (T3.out _ HG.out).mono ?_); rintro e w1 ⟨rfl, b1⟩; ((first | replace HG := HG.far b1 | replace HG := hid (HG.out.below b1) | skip); (first | replace B := B.far b1 | replace B := hid (B.out.below b1) | skip)); clear b1)
                | (go_at_call 15; (with_reducible refine (U1.out _ HG.out).mono ?_); rintro e w1 ⟨rfl, b1⟩; ((first | replace HG := HG.far b1 | replace HG := hid (HG.out.below b1) | skip); (first | replace B := B.far b1 | replace B := hid (B.out.below b1) | skip)); clear b1)
                | (go_at_call 13; (with_reducible refine (O1.out _ HG.out).mono ?_); rintro e w1 ⟨rfl, b1⟩; ((first | replace HG := HG.far b1 | replace HG := hid (HG.out.below b1) | skip); (first | replace B := B.far b1 | replace B := hid (B.out.below b1) | skip)); clear b1))
              go_ret2
              exact ⟨rfl, B.out⟩

set_option maxHeartbeats 1000000 in
theorem refMove_any (s f t : List UInt8) (w : World) (hs : s.length ≤ 1000) (hf : f.length ≤ 1000) (ht : t.length ≤ 1000) :
    Calls Try.prog 12 #[.string (str s), .string (str f), .string (str t)] w fun e w' => e = .returned (.tuple #[.string (str (moveL s f t).1), .int .i64 ((moveL s f t).2 : Nat)]) ∧ Below w.heap.size w w' := by
  have B := hid (Below.refl w.heap.size w)
  obtain ⟨a, b, c, x, y, z, e, u, io, hM⟩ := mvF s f t
  have HM := hid hM
  have C1 := hid (fun w => by have h := refIs_any s w (by omega); rw [hM.ha] at h; exact h)
  have C2 := hid (fun w => by have h := refIs_any f w (by omega); rw [hM.hb] at h; exact h)
  have C3 := hid (fun w => by have h := refIs_any t w (by omega); rw [hM.hc] at h; exact h)
  have T1 := hid (fun w => by have h := refTold_any s w (by omega); rw [hM.hx] at h; exact h)
  have T2 := hid (fun w => by have h := refTold_any f w (by omega); rw [hM.hy] at h; exact h)
  have T3 := hid (fun w => by have h := refTold_any t w (by omega); rw [hM.hz] at h; exact h)
  have U1 := hid (fun w => by have h := refUnder_any s f w (by omega) (by omega); rw [hM.hu] at h; exact h)
  have he1 : (x == y) = e := hM.he
  have he2 : (str x == str y) = e := by rw [str_beq]; exact he1
  have he3 : (str x != str y) = !e := by rw [← he2]; rfl
  clear hM
  cases a with
  | false =>
    rw [HM.out.no rfl]
    go_enter Try.func12, Try.ntmps12
    go_wp2_with (go_at_call 18; (with_reducible refine (C1.out _).mono ?_); rintro e w1 ⟨rfl, b1⟩; ((first | replace HG := HG.far b1 | replace HG := hid (HG.out.below b1) | skip); (first | replace B := B.far b1 | replace B := hid (B.out.below b1) | skip)); clear b1)
    go_ret2
    exact ⟨rfl, B.out⟩
  | true =>
    cases b with
    | false =>
      rw [HM.out.no rfl]
      go_enter Try.func12, Try.ntmps12
      go_wp2_with (first
        | (go_at_call 18; (with_reducible refine (C1.out _).mono ?_); rintro e w1 ⟨rfl, b1⟩; ((first | replace HG := HG.far b1 | replace HG := hid (HG.out.below b1) | skip); (first | replace B := B.far b1 | replace B := hid (B.out.below b1) | skip)); clear b1)
        | (go_at_call 18; (with_reducible refine (C2.out _).mono ?_); rintro e w1 ⟨rfl, b1⟩; ((first | replace HG := HG.far b1 | replace HG := hid (HG.out.below b1) | skip); (first | replace B := B.far b1 | replace B := hid (B.out.below b1) | skip)); clear b1))
      go_ret2
      exact ⟨rfl, B.out⟩
    | true =>
      cases c with
      | false =>
        rw [HM.out.no rfl]
        go_enter Try.func12, Try.ntmps12
        go_wp2_with (first
          | (go_at_call 18; (with_reducible refine (C1.out _).mono ?_); rintro e w1 ⟨rfl, b1⟩; ((first | replace HG := HG.far b1 | replace HG := hid (HG.out.below b1) | skip); (first | replace B := B.far b1 | replace B := hid (B.out.below b1) | skip)); clear b1)
          | (go_at_call 18; (with_reducible refine (C2.out _).mono ?_); rintro e w1 ⟨rfl, b1⟩; ((first | replace HG := HG.far b1 | replace HG := hid (HG.out.below b1) | skip); (first | replace B := B.far b1 | replace B := hid (B.out.below b1) | skip)); clear b1)
          | (go_at_call 18; (with_reducible refine (C3.out _).mono ?_); rintro e w1 ⟨rfl, b1⟩; ((first | replace HG := HG.far b1 | replace HG := hid (HG.out.below b1) | skip); (first | replace B := B.far b1 | replace B := hid (B.out.below b1) | skip)); clear b1))
        go_ret2
        exact ⟨rfl, B.out⟩
      | true =>
        have hlen := HM.out.lens
        cases e with
        | true =>
          rw [HM.out.yes rfl, HM.out.same, List.append_nil]
          have ho := HM.out.ho
          rw [HM.out.same, List.append_nil] at ho
          have O1 := hid (fun w => by have h := refIs_any (z ++ x.drop f.length) w (by rw [List.length_append, List.length_drop]; omega); rw [HM.out.ho] at h; exact h)
          have hsame := hid HM.out.same
          clear ho
          have hfit : (f.length : Int) ≤ (x.length : Int) := by have := HM.out.same; have := congrArg List.length this; rw [List.length_drop] at this; have h1 := beq_iff_eq.1 HM.out.he; have h2 := hlen.2.1; rw [← h1] at h2; omega
          have hfit2 : ((str f).size : Int) ≤ ((str x).size : Int) := hfit
          have hex : (str x).extract (str f).size (str x).size = str (x.drop f.length) := by rw [str_extract, str_size, str_size, List.take_of_length_le (by simp)]
          have hap := str_append z (x.drop f.length)
          have hz1 : (str z).size ≤ 1000 := by rw [str_size]; omega
          have hz2 : (str (x.drop f.length)).size ≤ 1000 := by rw [str_size, List.length_drop]; omega
          have hno : ¬ 9223372036854775807 < (str z).size + (str (x.drop f.length)).size := by omega
          cases io with
          | true =>
            go_enter Try.func12, Try.ntmps12
            go_wp2_with (first
              | (go_at_call 18; (with_reducible refine (C1.out _).mono ?_); rintro e w1 ⟨rfl, b1⟩; ((first | replace HG := HG.far b1 | replace HG := hid (HG.out.below b1) | skip); (first | replace B := B.far b1 | replace B := hid (B.out.below b1) | skip)); clear b1)
              | (go_at_call 18; (with_reducible refine (C2.out _).mono ?_); rintro e w1 ⟨rfl, b1⟩; ((first | replace HG := HG.far b1 | replace HG := hid (HG.out.below b1) | skip); (first | replace B := B.far b1 | replace B := hid (B.out.below b1) | skip)); clear b1)
              | (go_at_call 18; (with_reducible refine (C3.out _).mono ?_); rintro e w1 ⟨rfl, b1⟩; ((first | replace HG := HG.far b1 | replace HG := hid (HG.out.below b1) | skip); (first | replace B := B.far b1 | replace B := hid (B.out.below b1) | skip)); clear b1)
              | (go_at_call 19; (with_reducible refine (T1.out _).mono ?_); rintro e w1 ⟨rfl, b1⟩; ((first | replace HG := HG.far b1 | replace HG := hid (HG.out.below b1) | skip); (first | replace B := B.far b1 | replace B := hid (B.out.below b1) | skip)); clear b1)
              | (go_at_call 19; (with_reducible refine (T2.out _).mono ?_); rintro e w1 ⟨rfl, b1⟩; ((first | replace HG := HG.far b1 | replace HG := hid (HG.out.below b1) | skip); (first | replace B := B.far b1 | replace B := hid (B.out.below b1) | skip)); clear b1)
              | (go_at_call 19; (with_reducible refine (T3.out _).mono ?_); rintro e w1 ⟨rfl, b1⟩; ((first | replace HG := HG.far b1 | replace HG := hid (HG.out.below b1) | skip); (first | replace B := B.far b1 | replace B := hid (B.out.below b1) | skip)); clear b1)
              | (go_at_call 22; (with_reducible refine (U1.out _).mono ?_); rintro e w1 ⟨rfl, b1⟩; ((first | replace HG := HG.far b1 | replace HG := hid (HG.out.below b1) | skip); (first | replace B := B.far b1 | replace B := hid (B.out.below b1) | skip)); clear b1)
              | (go_at_call 18; (with_reducible refine (O1.out _).mono ?_); rintro e w1 ⟨rfl, b1⟩; ((first | replace HG := HG.far b1 | replace HG := hid (HG.out.below b1) | skip); (first | replace B := B.far b1 | replace B := hid (B.out.below b1) | skip)); clear b1))
            go_ret2
            exact ⟨by rw [hsame.out, List.append_nil]; rfl, B.out⟩
          | false =>
            go_enter Try.func12, Try.ntmps12
            go_wp2_with (first
              | (go_at_call 18; (with_reducible refine (C1.out _).mono ?_); rintro e w1 ⟨rfl, b1⟩; ((first | replace HG := HG.far b1 | replace HG := hid (HG.out.below b1) | skip); (first | replace B := B.far b1 | replace B := hid (B.out.below b1) | skip)); clear b1)
              | (go_at_call 18; (with_reducible refine (C2.out _).mono ?_); rintro e w1 ⟨rfl, b1⟩; ((first | replace HG := HG.far b1 | replace HG := hid (HG.out.below b1) | skip); (first | replace B := B.far b1 | replace B := hid (B.out.below b1) | skip)); clear b1)
              | (go_at_call 18; (with_reducible refine (C3.out _).mono ?_); rintro e w1 ⟨rfl, b1⟩; ((first | replace HG := HG.far b1 | replace HG := hid (HG.out.below b1) | skip); (first | replace B := B.far b1 | replace B := hid (B.out.below b1) | skip)); clear b1)
              | (go_at_call 19; (with_reducible refine (T1.out _).mono ?_); rintro e w1 ⟨rfl, b1⟩; ((first | replace HG := HG.far b1 | replace HG := hid (HG.out.below b1) | skip); (first | replace B := B.far b1 | replace B := hid (B.out.below b1) | skip)); clear b1)
              | (go_at_call 19; (with_reducible refine (T2.out _).mono ?_); rintro e w1 ⟨rfl, b1⟩; ((first | replace HG := HG.far b1 | replace HG := hid (HG.out.below b1) | skip); (first | replace B := B.far b1 | replace B := hid (B.out.below b1) | skip)); clear b1)
              | (go_at_call 19; (with_reducible refine (T3.out _).mono ?_); rintro e w1 ⟨rfl, b1⟩; ((first | replace HG := HG.far b1 | replace HG := hid (HG.out.below b1) | skip); (first | replace B := B.far b1 | replace B := hid (B.out.below b1) | skip)); clear b1)
              | (go_at_call 22; (with_reducible refine (U1.out _).mono ?_); rintro e w1 ⟨rfl, b1⟩; ((first | replace HG := HG.far b1 | replace HG := hid (HG.out.below b1) | skip); (first | replace B := B.far b1 | replace B := hid (B.out.below b1) | skip)); clear b1)
              | (go_at_call 18; (with_reducible refine (O1.out _).mono ?_); rintro e w1 ⟨rfl, b1⟩; ((first | replace HG := HG.far b1 | replace HG := hid (HG.out.below b1) | skip); (first | replace B := B.far b1 | replace B := hid (B.out.below b1) | skip)); clear b1))
            go_ret2
            exact ⟨by rw [hsame.out, List.append_nil]; rfl, B.out⟩
        | false =>
          cases u with
          | false =>
            rw [HM.out.none]
            go_enter Try.func12, Try.ntmps12
            go_wp2_with (first
              | (go_at_call 18; (with_reducible refine (C1.out _).mono ?_); rintro e w1 ⟨rfl, b1⟩; ((first | replace HG := HG.far b1 | replace HG := hid (HG.out.below b1) | skip); (first | replace B := B.far b1 | replace B := hid (B.out.below b1) | skip)); clear b1)
              | (go_at_call 18; (with_reducible refine (C2.out _).mono ?_); rintro e w1 ⟨rfl, b1⟩; ((first | replace HG := HG.far b1 | replace HG := hid (HG.out.below b1) | skip); (first | replace B := B.far b1 | replace B := hid (B.out.below b1) | skip)); clear b1)
              | (go_at_call 18; (with_reducible refine (C3.out _).mono ?_); rintro e w1 ⟨rfl, b1⟩; ((first | replace HG := HG.far b1 | replace HG := hid (HG.out.below b1) | skip); (first | replace B := B.far b1 | replace B := hid (B.out.below b1) | skip)); clear b1)
              | (go_at_call 19; (with_reducible refine (T1.out _).mono ?_); rintro e w1 ⟨rfl, b1⟩; ((first | replace HG := HG.far b1 | replace HG := hid (HG.out.below b1) | skip); (first | replace B := B.far b1 | replace B := hid (B.out.below b1) | skip)); clear b1)
              | (go_at_call 19; (with_reducible refine (T2.out _).mono ?_); rintro e w1 ⟨rfl, b1⟩; ((first | replace HG := HG.far b1 | replace HG := hid (HG.out.below b1) | skip); (first | replace B := B.far b1 | replace B := hid (B.out.below b1) | skip)); clear b1)
              | (go_at_call 19; (with_reducible refine (T3.out _).mono ?_); rintro e w1 ⟨rfl, b1⟩; ((first | replace HG := HG.far b1 | replace HG := hid (HG.out.below b1) | skip); (first | replace B := B.far b1 | replace B := hid (B.out.below b1) | skip)); clear b1)
              | (go_at_call 22; (with_reducible refine (U1.out _).mono ?_); rintro e w1 ⟨rfl, b1⟩; ((first | replace HG := HG.far b1 | replace HG := hid (HG.out.below b1) | skip); (first | replace B := B.far b1 | replace B := hid (B.out.below b1) | skip)); clear b1))
            go_ret2
            exact ⟨rfl, B.out⟩
          | true =>
            rw [HM.out.yes rfl]
            have O1 := hid (fun w => by have h := refIs_any (z ++ x.drop f.length) w (by rw [List.length_append, List.length_drop]; omega); rw [HM.out.ho] at h; exact h)
            have hfit := HM.out.fit
            have hfit2 : ((str f).size : Int) ≤ ((str x).size : Int) := by rw [str_size, str_size]; omega
            have hex : (str x).extract (str f).size (str x).size = str (x.drop f.length) := by rw [str_extract, str_size, str_size, List.take_of_length_le (by simp)]
            have hap := str_append z (x.drop f.length)
            have hz1 : (str z).size ≤ 1000 := by rw [str_size]; omega
            have hz2 : (str (x.drop f.length)).size ≤ 1000 := by rw [str_size, List.length_drop]; omega
            have hno : ¬ 9223372036854775807 < (str z).size + (str (x.drop f.length)).size := by omega
            cases io with
            | true =>
              go_enter Try.func12, Try.ntmps12
              go_wp2_with (first
                | (go_at_call 18; (with_reducible refine (C1.out _).mono ?_); rintro e w1 ⟨rfl, b1⟩; ((first | replace HG := HG.far b1 | replace HG := hid (HG.out.below b1) | skip); (first | replace B := B.far b1 | replace B := hid (B.out.below b1) | skip)); clear b1)
                | (go_at_call 18; (with_reducible refine (C2.out _).mono ?_); rintro e w1 ⟨rfl, b1⟩; ((first | replace HG := HG.far b1 | replace HG := hid (HG.out.below b1) | skip); (first | replace B := B.far b1 | replace B := hid (B.out.below b1) | skip)); clear b1)
                | (go_at_call 18; (with_reducible refine (C3.out _).mono ?_); rintro e w1 ⟨rfl, b1⟩; ((first | replace HG := HG.far b1 | replace HG := hid (HG.out.below b1) | skip); (first | replace B := B.far b1 | replace B := hid (B.out.below b1) | skip)); clear b1)
                | (go_at_call 19; (with_reducible refine (T1.out _).mono ?_); rintro e w1 ⟨rfl, b1⟩; ((first | replace HG := HG.far b1 | replace HG := hid (HG.out.below b1) | skip); (first | replace B := B.far b1 | replace B := hid (B.out.below b1) | skip)); clear b1)
                | (go_at_call 19; (with_reducible refine (T2.out _).mono ?_); rintro e w1 ⟨rfl, b1⟩; ((first | replace HG := HG.far b1 | replace HG := hid (HG.out.below b1) | skip); (first | replace B := B.far b1 | replace B := hid (B.out.below b1) | skip)); clear b1)
                | (go_at_call 19; (with_reducible refine (T3.out _).mono ?_); rintro e w1 ⟨rfl, b1⟩; ((first | replace HG := HG.far b1 | replace HG := hid (HG.out.below b1) | skip); (first | replace B := B.far b1 | replace B := hid (B.out.below b1) | skip)); clear b1)
                | (go_at_call 22; (with_reducible refine (U1.out _).mono ?_); rintro e w1 ⟨rfl, b1⟩; ((first | replace HG := HG.far b1 | replace HG := hid (HG.out.below b1) | skip); (first | replace B := B.far b1 | replace B := hid (B.out.below b1) | skip)); clear b1)
                | (go_at_call 18; (with_reducible refine (O1.out _).mono ?_); rintro e w1 ⟨rfl, b1⟩; ((first | replace HG := HG.far b1 | replace HG := hid (HG.out.below b1) | skip); (first | replace B := B.far b1 | replace B := hid (B.out.below b1) | skip)); clear b1))
              go_ret2
              exact ⟨rfl, B.out⟩
            | false =>
              go_enter Try.func12, Try.ntmps12
              go_wp2_with (first
                | (go_at_call 18; (with_reducible refine (C1.out _).mono ?_); rintro e w1 ⟨rfl, b1⟩; ((first | replace HG := HG.far b1 | replace HG := hid (HG.out.below b1) | skip); (first | replace B := B.far b1 | replace B := hid (B.out.below b1) | skip)); clear b1)
                | (go_at_call 18; (with_reducible refine (C2.out _).mono ?_); rintro e w1 ⟨rfl, b1⟩; ((first | replace HG := HG.far b1 | replace HG := hid (HG.out.below b1) | skip); (first | replace B := B.far b1 | replace B := hid (B.out.below b1) | skip)); clear b1)
                | (go_at_call 18; (with_reducible refine (C3.out _).mono ?_); rintro e w1 ⟨rfl, b1⟩; ((first | replace HG := HG.far b1 | replace HG := hid (HG.out.below b1) | skip); (first | replace B := B.far b1 | replace B := hid (B.out.below b1) | skip)); clear b1)
                | (go_at_call 19; (with_reducible refine (T1.out _).mono ?_); rintro e w1 ⟨rfl, b1⟩; ((first | replace HG := HG.far b1 | replace HG := hid (HG.out.below b1) | skip); (first | replace B := B.far b1 | replace B := hid (B.out.below b1) | skip)); clear b1)
                | (go_at_call 19; (with_reducible refine (T2.out _).mono ?_); rintro e w1 ⟨rfl, b1⟩; ((first | replace HG := HG.far b1 | replace HG := hid (HG.out.below b1) | skip); (first | replace B := B.far b1 | replace B := hid (B.out.below b1) | skip)); clear b1)
                | (go_at_call 19; (with_reducible refine (T3.out _).mono ?_); rintro e w1 ⟨rfl, b1⟩; ((first | replace HG := HG.far b1 | replace HG := hid (HG.out.below b1) | skip); (first | replace B := B.far b1 | replace B := hid (B.out.below b1) | skip)); clear b1)
                | (go_at_call 22; (with_reducible refine (U1.out _).mono ?_); rintro e w1 ⟨rfl, b1⟩; ((first | replace HG := HG.far b1 | replace HG := hid (HG.out.below b1) | skip); (first | replace B := B.far b1 | replace B := hid (B.out.below b1) | skip)); clear b1)
                | (go_at_call 18; (with_reducible refine (O1.out _).mono ?_); rintro e w1 ⟨rfl, b1⟩; ((first | replace HG := HG.far b1 | replace HG := hid (HG.out.below b1) | skip); (first | replace B := B.far b1 | replace B := hid (B.out.below b1) | skip)); clear b1))
              go_ret2
              exact ⟨rfl, B.out⟩
end Go.Proofs.Ythgopanipmnphaa
