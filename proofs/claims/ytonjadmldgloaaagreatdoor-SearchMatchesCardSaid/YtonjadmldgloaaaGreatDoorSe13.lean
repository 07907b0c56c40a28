/-
  Search's Match and Reads. A part of the proof: see the head of the text that ends in 'Law'.
-/
import Derived.Test.YtonjadmldgloaaaGreatDoorSe12
import Derived.Test.YtonjadmldgloaaaGreatDoorSe8
namespace Go.Proofs.YtonjadmldgloaaaGreatDoor
open Go.RowKit Go.Shelf
set_option linter.unusedVariables false
set_option maxRecDepth 100000
attribute [local go_sem] Oper.semAt_some

structure Mt2 (w W : World) (k : KeyT) (h : HitV) (bk bh : Nat) : Prop where
  key : OwnE W bk 37 (keyC k)
  hit : OwnE W bh 30 (hitC h)
  b : Below w.heap.size w W
theorem Mt2.below {w W X : World} {k : KeyT} {h : HitV} {bk bh : Nat} (m : Mt2 w W k h bk bh) (b : Below W.heap.size W X) : Mt2 w X k h bk bh :=
  ⟨m.key.below b, m.hit.below b, past m.b b⟩
theorem mt_start (w : World) (k : KeyT) (h : HitV) :
    Mt2 w ((w.alloc (.cells (keyC k).toArray 37)).alloc (.cells (hitC h).toArray 30)) k h w.heap.size (w.heap.size + 1) := by
  have a1 : Below w.heap.size w (w.alloc (.cells (keyC k).toArray 37)) := (Below.refl _ _).alloc (Nat.le_refl _) _
  have a2 : Below w.heap.size w ((w.alloc (.cells (keyC k).toArray 37)).alloc (.cells (hitC h).toArray 30)) := a1.alloc a1.size _
  have k2 : Below (w.alloc (.cells (keyC k).toArray 37)).heap.size (w.alloc (.cells (keyC k).toArray 37)) ((w.alloc (.cells (keyC k).toArray 37)).alloc (.cells (hitC h).toArray 30)) := (Below.refl _ _).alloc (Nat.le_refl _) _
  refine ⟨(OwnE.new_ w (keyC k) 37).below k2, ?_, a2⟩
  have := OwnE.new_ (w.alloc (.cells (keyC k).toArray 37)) (hitC h) 30
  rw [World.size_alloc] at this
  exact this
set_option maxHeartbeats 8000000 in
theorem match_any (k : KeyT) (h : HitV) (w : World) (hk : KeyIn w 100 k) (hh : HitIn w h) (ht : Tabs w) :
    Calls Tryz.prog 9 #[.agg (keyC k).toArray, .agg (hitC h).toArray] w fun e w' => e = .returned (.bool (mayB k && meansF 9 h k)) ∧ Below w.heap.size w w' := by
  have hmay := fun (X : World) (b : Below w.heap.size w X) => may_any k X (hk.on b)
  have hmn := fun (X : World) (b : Below w.heap.size w X) (hm : mayB k = true) => asks 9 k h X (hk.on b) (may_of hm) (hh.below b) (ht.below b)
  obtain ⟨q, hq⟩ : ∃ q, mayB k = q := ⟨_, rfl⟩
  obtain ⟨r, hr⟩ : ∃ r, meansF 9 h k = r := ⟨_, rfl⟩
  rw [hq, hr]
  rw [hq] at hmay hmn
  rw [hr] at hmn
  have HS := mt_start w k h
  obtain ⟨kind, s, t, n, SA, sn, sc, sp, LA, ln, lc, l⟩ := k
  obtain ⟨uid, sec, zone, size, blob, FA, fn, fc, fl, place, many, great, BA, bn, bc, b⟩ := h
  have HMAY := hid (fun X b => (by exact hmay X b : Calls Tryz.prog 12 #[.agg #[.int .i64 kind, .string (str s), .string (str t), .int .i64 n, .slice SA sn sc, .slice LA ln lc]] X fun e w' => e = .returned (.bool q) ∧ Below X.heap.size X w'))
  have HMN := hid (fun X b z => (by exact hmn X b z : Calls Tryz.prog 19 #[.agg #[.int .i64 kind, .string (str s), .string (str t), .int .i64 n, .slice SA sn sc, .slice LA ln lc], .agg #[.int .i64 uid, .int .i64 sec, .int .i64 zone, .int .i64 size, .int .u64 (blob : Int), .slice FA fn fc, .int .i64 place, .int .i64 many, .int .i64 great, .slice BA bn bc]] X fun e w' => e = .returned (.bool r) ∧ Below X.heap.size X w'))
  obtain ⟨W3, hW3⟩ : ∃ W3, ((w.alloc (.cells #[.int .i64 kind, .string (str s), .string (str t), .int .i64 n, .slice SA sn sc, .slice LA ln lc] 37)).alloc (.cells #[.int .i64 uid, .int .i64 sec, .int .i64 zone, .int .i64 size, .int .u64 (blob : Int), .slice FA fn fc, .int .i64 place, .int .i64 many, .int .i64 great, .slice BA bn bc] 30)) = W3 := ⟨_, rfl⟩
  have M : Hid (Mt2 w W3 ⟨kind, s, t, n, SA, sn, sc, sp, LA, ln, lc, l⟩ ⟨uid, sec, zone, size, blob, FA, fn, fc, fl, place, many, great, BA, bn, bc, b⟩ w.heap.size (w.heap.size + 1)) := hid (by rw [← hW3]; exact HS)
  clear HS hk hh ht hmay hmn hq hr
  show Calls Tryz.prog 9 #[.agg #[.int .i64 kind, .string (str s), .string (str t), .int .i64 n, .slice SA sn sc, .slice LA ln lc], .agg #[.int .i64 uid, .int .i64 sec, .int .i64 zone, .int .i64 size, .int .u64 (blob : Int), .slice FA fn fc, .int .i64 place, .int .i64 many, .int .i64 great, .slice BA bn bc]] w fun e w' => e = .returned (.bool (q && r)) ∧ Below w.heap.size w w'
  have y0 := M.out.key.cell (j := 0) rfl
  have y1 := M.out.key.cell (j := 1) rfl
  have y2 := M.out.key.cell (j := 2) rfl
  have y3 := M.out.key.cell (j := 3) rfl
  have y4 := M.out.key.cell (j := 4) rfl
  have y5 := M.out.key.cell (j := 5) rfl
  go_enter Tryz.func9, Tryz.ntmps9
  cases q with
  | false =>
    clear HMN
    go_wp2_with (go_at_call 12; (with_reducible refine (HMAY.out _ M.out.b).mono ?_); rintro e w4 ⟨rfl, b4⟩; have M := hid (M.out.below b4); clear b4 y0 y1 y2 y3 y4 y5 hW3)
    go_ret
    exact ⟨rfl, M.out.b⟩
  | true =>
    have HMZ := hid (fun X b => HMN.out X b rfl)
    clear HMN
    go_wp2_with first
      | (go_at_call 12
         ((with_reducible refine (HMAY.out _ M.out.b).mono ?_); rintro e w4 ⟨rfl, b4⟩; have M := hid (M.out.below b4); clear b4 y0 y1 y2 y3 y4 y5 hW3 HMAY
          have y0 := M.out.key.cell (j := 0) rfl
          have y1 := M.out.key.cell (j := 1) rfl
          have y2 := M.out.key.cell (j := 2) rfl
          have y3 := M.out.key.cell (j := 3) rfl
          have y4 := M.out.key.cell (j := 4) rfl
          have y5 := M.out.key.cell (j := 5) rfl
          have z0 := M.out.hit.cell (j := 0) rfl
          have z1 := M.out.hit.cell (j := 1) rfl
          have z2 := M.out.hit.cell (j := 2) rfl
          have z3 := M.out.hit.cell (j := 3) rfl
          have z4 := M.out.hit.cell (j := 4) rfl
          have z5 := M.out.hit.cell (j := 5) rfl
          have z6 := M.out.hit.cell (j := 6) rfl
          have z7 := M.out.hit.cell (j := 7) rfl
          have z8 := M.out.hit.cell (j := 8) rfl
          have z9 := M.out.hit.cell (j := 9) rfl
          skip))
      | (refine wpList_build_to rfl 46 _ rfl [(0, .agg #[.int .i64 kind, .string (str s), .string (str t), .int .i64 n, .slice SA sn sc, .slice LA ln lc])] rfl #[.int .i64 kind, .string (str s), .string (str t), .int .i64 n, .slice SA sn sc, .slice LA ln lc] (asked_built ..) ?_)
      | (go_at_call 19; (with_reducible refine (HMZ.out _ M.out.b).mono ?_); rintro e w5 ⟨rfl, b5⟩; have M := hid (M.out.below b5); clear b5 y0 y1 y2 y3 y4 y5 z0 z1 z2 z3 z4 z5 z6 z7 z8 z9)
    go_ret
    exact ⟨rfl, M.out.b⟩
set_option maxHeartbeats 8000000 in
theorem reads_any (k : KeyT) (w : World) (hk : KeyIn w 100 k) :
    Calls Tryz.prog 14 #[.agg (keyC k).toArray] w fun e w' => e = .returned (.bool (mayB k && readsF 9 k)) ∧ Below w.heap.size w w' := by
  have hmay := fun (X : World) (b : Below w.heap.size w X) => may_any k X (hk.on b)
  have hmn := fun (X : World) (b : Below w.heap.size w X) (hm : mayB k = true) => rdss 9 k X (hk.on b) (may_of hm)
  obtain ⟨q, hq⟩ : ∃ q, mayB k = q := ⟨_, rfl⟩
  obtain ⟨r, hr⟩ : ∃ r, readsF 9 k = r := ⟨_, rfl⟩
  rw [hq, hr]
  rw [hq] at hmay hmn
  rw [hr] at hmn
  have O := OwnE.new_ w (keyC k) 37
  have hb : Below w.heap.size w (w.alloc (.cells (keyC k).toArray 37)) := (Below.refl _ _).alloc (Nat.le_refl _) _
  obtain ⟨kind, s, t, n, SA, sn, sc, sp, LA, ln, lc, l⟩ := k
  have HMAY := hid (fun X b => (by exact hmay X b : Calls Tryz.prog 12 #[.agg #[.int .i64 kind, .string (str s), .string (str t), .int .i64 n, .slice SA sn sc, .slice LA ln lc]] X fun e w' => e = .returned (.bool q) ∧ Below X.heap.size X w'))
  have HMN := hid (fun X b z => (by exact hmn X b z : Calls Tryz.prog 35 #[.agg #[.int .i64 kind, .string (str s), .string (str t), .int .i64 n, .slice SA sn sc, .slice LA ln lc]] X fun e w' => e = .returned (.bool r) ∧ Below X.heap.size X w'))
  obtain ⟨W3, hW3⟩ : ∃ W3, (w.alloc (.cells #[.int .i64 kind, .string (str s), .string (str t), .int .i64 n, .slice SA sn sc, .slice LA ln lc] 37)) = W3 := ⟨_, rfl⟩
  have K : Hid (OwnE W3 w.heap.size 37 (keyC ⟨kind, s, t, n, SA, sn, sc, sp, LA, ln, lc, l⟩)) := hid (by rw [← hW3]; exact O)
  have B := hid (show Below w.heap.size w W3 by rw [← hW3]; exact hb)
  clear O hb hk hmay hmn hq hr
  show Calls Tryz.prog 14 #[.agg #[.int .i64 kind, .string (str s), .string (str t), .int .i64 n, .slice SA sn sc, .slice LA ln lc]] w fun e w' => e = .returned (.bool (q && r)) ∧ Below w.heap.size w w'
  have y0 := K.out.cell (j := 0) rfl
  have y1 := K.out.cell (j := 1) rfl
  have y2 := K.out.cell (j := 2) rfl
  have y3 := K.out.cell (j := 3) rfl
  have y4 := K.out.cell (j := 4) rfl
  have y5 := K.out.cell (j := 5) rfl
  go_enter Tryz.func14, Tryz.ntmps14
  cases q with
  | false =>
    clear HMN
    go_wp2_with (go_at_call 12; (with_reducible refine (HMAY.out _ B.out).mono ?_); rintro e w4 ⟨rfl, b4⟩; have B := hid (past B.out b4); clear b4 y0 y1 y2 y3 y4 y5 hW3)
    go_ret
    exact ⟨rfl, B.out⟩
  | true =>
    have HMZ := hid (fun X b => HMN.out X b rfl)
    clear HMN
    go_wp2_with first
      | (go_at_call 12
         ((with_reducible refine (HMAY.out _ B.out).mono ?_); rintro e w4 ⟨rfl, b4⟩; have B := hid (past B.out b4); have K := hid (K.out.below b4); clear b4 y0 y1 y2 y3 y4 y5 hW3 HMAY
          have y0 := K.out.cell (j := 0) rfl
          have y1 := K.out.cell (j := 1) rfl
          have y2 := K.out.cell (j := 2) rfl
          have y3 := K.out.cell (j := 3) rfl
          have y4 := K.out.cell (j := 4) rfl
          have y5 := K.out.cell (j := 5) rfl))
      | (go_at_call 35; (with_reducible refine (HMZ.out _ B.out).mono ?_); rintro e w5 ⟨rfl, b5⟩; have B := hid (past B.out b5); clear b5 y0 y1 y2 y3 y4 y5)
    go_ret
    exact ⟨rfl, B.out⟩
end Go.Proofs.YtonjadmldgloaaaGreatDoor
