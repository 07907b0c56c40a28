/-
  Take, where there are too few pages. A part of the proof: see the head of the text that ends in 'Law'.
-/
import Derived.Test.YtccdgfacdohknaaSp17
namespace Go.Proofs.Ytccdgfacdohknaa
open Go.RowKit Go.Shelf
set_option linter.unusedVariables false

/-- The three cells that Take reads once more, and what lay ahead. -/
structure TkC (w W : World) (k : Int) (N : Int) (A : Option Addr) (n c : Nat) : Prop where
  s0 : W.cell? ⟨w.heap.size, 0, none⟩ = some (.int .i64 N)
  s1 : W.cell? ⟨w.heap.size, 1, none⟩ = some (.slice A n c)
  k0 : W.cell? ⟨w.heap.size + 1, 0, none⟩ = some (.int .i64 k)
  s : OwnC W w.heap.size 24 [.int .i64 N, .slice A n c]
  r : OwnC W (w.heap.size + 1 + 1) 24 [.int .i64 0, .slice none 0 0]
  b : Below w.heap.size w W
theorem TkC.start (w : World) (k : Int) (N : Int) (A : Option Addr) (n c : Nat) : TkC w (((w.alloc (Obj.cells #[.int .i64 N, .slice A n c] 24)).alloc (Obj.cells #[.int .i64 k] 3)).alloc (Obj.cells #[.int .i64 0, .slice none 0 0] 24)) k N A n c := by
  have e0 := ((OwnC.new_ w #[.int .i64 N, .slice A n c] 24).alloc (Obj.cells #[.int .i64 k] 3)).alloc (Obj.cells #[.int .i64 0, .slice none 0 0] 24)
  have e1 := (OwnC.new_ (w.alloc (Obj.cells #[.int .i64 N, .slice A n c] 24)) #[.int .i64 k] 3).alloc (Obj.cells #[.int .i64 0, .slice none 0 0] 24)
  have e2 := OwnC.new_ ((w.alloc (Obj.cells #[.int .i64 N, .slice A n c] 24)).alloc (Obj.cells #[.int .i64 k] 3)) #[.int .i64 0, .slice none 0 0] 24
  rw [World.size_alloc] at e1
  rw [World.size_alloc, World.size_alloc] at e2
  exact ⟨e0.cell rfl, e0.cell rfl, e1.cell rfl, e0, e2, (((Below.refl _ w).alloc (Nat.le_refl _) _).alloc (by simp) _).alloc (by simp; omega) _⟩
theorem TkC.keep {w W W' : World} {k : Int} {N : Int} {A : Option Addr} {n c : Nat} (h : TkC w W k N A n c) (hb : Below W.heap.size W W') : TkC w W' k N A n c :=
  ⟨cells_keep hb h.s0, cells_keep hb h.s1, cells_keep hb h.k0, h.s.below hb, h.r.below hb, next h.b hb⟩

theorem TkC.drew {w W : World} {k : Int} {N : Int} {A : Option Addr} {n c : Nat} (h : TkC w W k N A n c) : TkC w W.drew k N A n c := ⟨h.s0, h.s1, h.k0, h.s.drew, h.r.drew, bq h.b 1⟩
theorem TkC.all {w W : World} {k : Int} {N : Int} {A : Option Addr} {n c : Nat} (h : TkC w W k N A n c) : W.cell? ⟨w.heap.size, 0, none⟩ = some (.int .i64 N) ∧ W.cell? ⟨w.heap.size, 1, none⟩ = some (.slice A n c) ∧ W.cell? ⟨w.heap.size + 1, 0, none⟩ = some (.int .i64 k) ∧ Hid (TkC w W k N A n c) := ⟨h.s0, h.s1, h.k0, hid h⟩
theorem TkC.bel {w W : World} {k : Int} {N : Int} {A : Option Addr} {n c : Nat} (h : W.cell? ⟨w.heap.size, 0, none⟩ = some (.int .i64 N) ∧ W.cell? ⟨w.heap.size, 1, none⟩ = some (.slice A n c) ∧ W.cell? ⟨w.heap.size + 1, 0, none⟩ = some (.int .i64 k) ∧ Hid (TkC w W k N A n c)) : Below w.heap.size w W := h.2.2.2.out.b
theorem TkC.keepS {w W W' : World} {k : Int} {N : Int} {A : Option Addr} {n c : Nat} (h : W.cell? ⟨w.heap.size, 0, none⟩ = some (.int .i64 N) ∧ W.cell? ⟨w.heap.size, 1, none⟩ = some (.slice A n c) ∧ W.cell? ⟨w.heap.size + 1, 0, none⟩ = some (.int .i64 k) ∧ Hid (TkC w W k N A n c)) (hb : Below W.heap.size W W') :
    W'.cell? ⟨w.heap.size, 0, none⟩ = some (.int .i64 N) ∧ W'.cell? ⟨w.heap.size, 1, none⟩ = some (.slice A n c) ∧ W'.cell? ⟨w.heap.size + 1, 0, none⟩ = some (.int .i64 k) ∧ Hid (TkC w W' k N A n c) :=
  have e := h.2.2.2.out.keep hb
  ⟨e.s0, e.s1, e.k0, hid e⟩

set_option maxHeartbeats 2000000 in
theorem take_full (l : List Bool) (A : Option Addr) (n c : Nat) (k : Nat) (w : World) (ho : Oct w A n (packL l)) (hl : l.length ≤ 2048) (hk : (freeL l l.length).length < k) (hk63 : k ≤ 9223372036854775807) :
    Calls Try.prog 8 #[.agg #[.int .i64 l.length, .slice A n c], .int .i64 k] w (TakePost w ([], 5) []) := by
  have hn : n ≤ 4096 := by have := ho.len; rw [packL_length] at this; omega
  have HO := hid ho
  have K0 := hid (TkC.start w k l.length A n c)
  have H1 := hid (mayB_ok (N := l.length) (bits := packL l) ⟨rfl, hl, rfl⟩)
  have hpop := pop_all l
  have hd0 : decide ((k : Int) < 0) = false := by simp
  generalize hP : popL (packL l) = P at hpop
  have HP := hid hP
  have hd1 : decide (IntKind.i64.wrap ((l.length : Int) - (P : Int)) < (k : Int)) = true := by rw [IntKind.wrap_i64, decide_eq_true_eq]; omega
  clear ho hP
  go_enter Try.func8, Try.ntmps8
  go_wp2_with (go_at_call 21; refine (may_any l.length A n c (packL l) _ (HO.out.below K0.out.b) (by omega) (by omega)).mono ?_; rw [H1.out]; rintro e w1 ⟨rfl, hb1⟩; have K1 := hid (K0.out.keep hb1); have kk := K1.out.k0; have ks0 := K1.out.s0; have ks1 := K1.out.s1)
  clear hb1
  have KD := K1.out.drew.all
  go_region_held3 (fun W => W.cell? ⟨w.heap.size, 0, none⟩ = some (.int .i64 l.length) ∧ W.cell? ⟨w.heap.size, 1, none⟩ = some (.slice A n c) ∧ W.cell? ⟨w.heap.size + 1, 0, none⟩ = some (.int .i64 k) ∧ Hid (TkC w W k l.length A n c)) (assumption) (
    (go_at_call 19; refine (count_any l.length A n c (packL l) _ (HO.out.below (TkC.bel (by assumption))) (by omega) (by omega)).mono ?_; rw [if_pos H1.out, HP.out]; rintro e w2 ⟨rfl, hb2⟩; have hS := TkC.keepS (by assumption) hb2; clear hb2))
  have r3 := hS.2.2.2.out.r
  have rc0 := r3.cell (j := 0) (u := .int .i64 0) rfl
  have rc1 := r3.cell (j := 1) (u := .slice none 0 0) rfl
  have rf0 := r3.frozen 0
  have rf1 := r3.frozen 1
  have R3 := hid r3
  have B3 := hid hS.2.2.2.out.b
  clear r3
  go_wp2
  have z1 := (R3.out.set 0 (.int .i64 0)).set 1 (.slice none 0 0)
  have z0 := z1.cell (j := 0) (u := .int .i64 0) rfl
  have z2 := z1.cell (j := 1) (u := .slice none 0 0) rfl
  refine bodyPost_ret (v := .tuple #[.agg #[.int .i64 0, .slice none 0 0], .slice none 0 0, .int .i64 5]) (by simp [results, Try.results8, go_sem, z0, z2]) rfl ?_
  exact TakePost.none_ 5 ((B3.out.setCell (by simp; omega) _).setCell (by simp; omega) _)
end Go.Proofs.Ytccdgfacdohknaa
