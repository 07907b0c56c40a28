/-
  What is read, where nothing is. A part of the proof: see the head of the text that ends in 'Law'.
-/
import Derived.Test.YtkadehdbnkinlaaDk15
namespace Go.Proofs.Ytkadehdbnkinlaa
open Go.RowKit
set_option linter.unusedVariables false
attribute [local go_sem] Oper.semAt_some

/-- The boxes of Read: its argument's, and its results'. -/
theorem rd_boxes (w : World) (i : Int) : ∀ W, W = ((w.alloc (.cells #[.int .i64 i] 3)).alloc (.cells #[.slice none 0 0] 31)).alloc (.cells #[.int .i64 0] 25) →
    W.cell? ⟨w.heap.size, 0, none⟩ = some (.int .i64 i) ∧ OwnE W (w.heap.size + 1) 31 [.slice none 0 0] ∧ OwnE W (w.heap.size + 2) 25 [.int .i64 0] ∧ Below w.heap.size w W := by
  rintro W rfl
  have k1 := ((OwnC.new_ w #[.int .i64 i] 3).alloc (.cells #[.slice none 0 0] 31)).alloc (.cells #[.int .i64 0] 25)
  refine ⟨k1.cell rfl, ?_, ?_, (((Below.refl _ w).alloc (Nat.le_refl _) _).alloc (by simp) _).alloc (by simp; omega) _⟩
  · have h := heap_alloc_new (w.alloc (.cells #[.int .i64 i] 3)) (.cells #[.slice none 0 0] 31)
    rw [World.size_alloc] at h
    exact (Below.heap_alloc _ _ _ (by simp)).trans h
  · have h := heap_alloc_new ((w.alloc (.cells #[.int .i64 i] 3)).alloc (.cells #[.slice none 0 0] 31)) (.cells #[.int .i64 0] 25)
    rw [World.size_alloc, World.size_alloc] at h
    exact h
theorem rd_res {tmps : Array Value} {w : World} {g1 g2 : Nat} {v1 v2 : Value} (p1 : tmps.getD 4 undef = .pointer (some ⟨g1, 0, none⟩)) (p2 : tmps.getD 5 undef = .pointer (some ⟨g2, 0, none⟩)) (h1 : w.cell? ⟨g1, 0, none⟩ = some v1) (h2 : w.cell? ⟨g2, 0, none⟩ = some v2) :
    (results Try.f11 tmps).run Try.prog w = .ok (.tuple #[v1, v2]) w := by
  have p1' : tmps[4]?.getD undef = .pointer (some ⟨g1, 0, none⟩) := by simpa using p1
  have p2' : tmps[5]?.getD undef = .pointer (some ⟨g2, 0, none⟩) := by simpa using p2
  have a1 : (isAgg 31).run Try.prog w = .ok false w := by unfold isAgg; rw [Sem.run_bind, run_underlying Try.underlying31 w]; rfl
  have a2 : (isAgg 25).run Try.prog w = .ok false w := by unfold isAgg; rw [Sem.run_bind, run_underlying Try.underlying25 w]; rfl
  simp [results, Try.results11, p1', p2', asAddr, loadVar, Sem.run_bind, a1, a2, h1, h2, Result.andThen]
theorem read_no {W : World} {b0 d hb : Nat} {V : Value} {D : Dsk} (h : DkAt W b0 d hb V D) (i : Int) (hi : ¬ (0 ≤ i ∧ i < D.has.length)) :
    Calls Try.prog 11 #[.pointer (some ⟨d, 0, none⟩), .int .i64 i] W fun e w' => e = .returned (.tuple #[.slice none 0 0, .int .i64 4]) ∧ Below W.heap.size W w' := by
  obtain ⟨y0, z1, z2, bb⟩ := rd_boxes W i _ rfl
  have his := is_any (h.below bb) i
  rw [decide_eq_false hi] at his
  have HIS := hid his
  have HB := hid bb
  have c1 := z1.cell (j := 0) rfl
  have c2 := z2.cell (j := 0) rfl
  have f1 := z1.frozen 0
  have f2 := z2.frozen 0
  have z1' : ∀ v : Value, (((W.alloc (.cells #[.int .i64 i] 3)).alloc (.cells #[.slice none 0 0] 31)).alloc (.cells #[v] 25)).cell? ⟨W.heap.size + 1, 0, none⟩ = some (.slice none 0 0) ∧ (((W.alloc (.cells #[.int .i64 i] 3)).alloc (.cells #[.slice none 0 0] 31)).alloc (.cells #[v] 25)).cell? ⟨W.heap.size + 1 + 1, 0, none⟩ = some v := fun v => by
    have h1 := (OwnC.new_ (W.alloc (.cells #[.int .i64 i] 3)) #[.slice none 0 0] 31).alloc (.cells #[v] 25)
    have h2 := OwnC.new_ ((W.alloc (.cells #[.int .i64 i] 3)).alloc (.cells #[.slice none 0 0] 31)) #[v] 25
    rw [World.size_alloc] at h1
    rw [World.size_alloc, World.size_alloc] at h2
    exact ⟨h1.cell rfl, h2.cell rfl⟩
  clear h hi his bb z1 z2
  go_enter Try.func11, Try.ntmps11
  go_wp2_with (go_at_call 27; (with_reducible refine HIS.out.mono ?_); rintro e w1 ⟨rfl, hw⟩; subst hw)
  have k1 := z1' (.int .i64 4)
  exact bodyPost_ret (rd_res rfl rfl k1.1 k1.2) rfl ⟨rfl, (((Below.refl _ W).alloc (Nat.le_refl _) _).alloc (by simp) _).alloc (by simp; omega) _⟩
theorem read_off {W : World} {b0 d hb : Nat} {V : Value} {D : Dsk} (h : DkAt W b0 d hb V D) (i : Int) (hi : 0 ≤ i ∧ i < D.has.length) (hoff : D.off = true) :
    Calls Try.prog 11 #[.pointer (some ⟨d, 0, none⟩), .int .i64 i] W fun e w' => e = .returned (.tuple #[.slice none 0 0, .int .i64 10]) ∧ Below W.heap.size W w' := by
  obtain ⟨y0, z1, z2, bb⟩ := rd_boxes W i _ rfl
  have his := is_any (h.below bb) i
  rw [decide_eq_true hi] at his
  have x3 := (h.below bb).cells.cell (j := 3) rfl
  rw [hoff] at x3
  have HIS := hid his
  have HB := hid bb
  have c1 := z1.cell (j := 0) rfl
  have c2 := z2.cell (j := 0) rfl
  have f1 := z1.frozen 0
  have f2 := z2.frozen 0
  have z1' : ∀ v : Value, (((W.alloc (.cells #[.int .i64 i] 3)).alloc (.cells #[.slice none 0 0] 31)).alloc (.cells #[v] 25)).cell? ⟨W.heap.size + 1, 0, none⟩ = some (.slice none 0 0) ∧ (((W.alloc (.cells #[.int .i64 i] 3)).alloc (.cells #[.slice none 0 0] 31)).alloc (.cells #[v] 25)).cell? ⟨W.heap.size + 1 + 1, 0, none⟩ = some v := fun v => by
    have h1 := (OwnC.new_ (W.alloc (.cells #[.int .i64 i] 3)) #[.slice none 0 0] 31).alloc (.cells #[v] 25)
    have h2 := OwnC.new_ ((W.alloc (.cells #[.int .i64 i] 3)).alloc (.cells #[.slice none 0 0] 31)) #[v] 25
    rw [World.size_alloc] at h1
    rw [World.size_alloc, World.size_alloc] at h2
    exact ⟨h1.cell rfl, h2.cell rfl⟩
  clear h hi his bb z1 z2 hoff
  go_enter Try.func11, Try.ntmps11
  go_wp2_with (go_at_call 27; (with_reducible refine HIS.out.mono ?_); rintro e w1 ⟨rfl, hw⟩; subst hw)
  have k1 := z1' (.int .i64 10)
  exact bodyPost_ret (rd_res rfl rfl k1.1 k1.2) rfl ⟨rfl, (((Below.refl _ W).alloc (Nat.le_refl _) _).alloc (by simp) _).alloc (by simp; omega) _⟩
end Go.Proofs.Ytkadehdbnkinlaa
