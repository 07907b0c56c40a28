/-
  A block whose cells are all known. A part of the proof: see the head of the text that ends in 'Law'.
-/
import Derived.Test.YtonjadmldgloaaaGreatDoorCarry
import Derived.Laws.CopyOwn
namespace Go.Proofs.YtonjadmldgloaaaGreatDoor
open Go.RowKit
set_option linter.unusedVariables false

/-- Block g has the cells xs, none of them frozen. -/
def OwnE (w : World) (g : Nat) (T : TypeId) (xs : List Value) : Prop := w.heap[g]? = some (.cells xs.toArray T (0, 0))
theorem OwnE.lt {w : World} {g : Nat} {T : TypeId} {xs : List Value} (h : OwnE w g T xs) : g < w.heap.size := lt_of_heap h
theorem OwnE.cell {w : World} {g : Nat} {T : TypeId} {xs : List Value} (h : OwnE w g T xs) {j : Nat} {u : Value} (hu : xs[j]? = some u) : w.cell? ⟨g, j, none⟩ = some u := by
  rw [cell_of_row w g j _ _ _ h]
  simpa using hu
theorem OwnE.frozen {w : World} {g : Nat} {T : TypeId} {xs : List Value} (h : OwnE w g T xs) (j : Nat) : w.frozen? ⟨g, j, none⟩ = false := frozen_of_row w g j _ _ h
theorem OwnE.set {w : World} {g : Nat} {T : TypeId} {xs : List Value} (h : OwnE w g T xs) (i : Nat) (v : Value) : OwnE (w.setCell ⟨g, i, none⟩ v) g T (xs.set i v) := by
  have := heap_set (i := i) v h
  unfold OwnE
  rw [this]
  simp
theorem OwnE.far {w : World} {g : Nat} {T : TypeId} {xs : List Value} (h : OwnE w g T xs) {b i : Nat} (hne : g ≠ b) (v : Value) : OwnE (w.setCell ⟨b, i, none⟩ v) g T xs := (heap_setCell_other w ⟨b, i, none⟩ g v hne).trans h
theorem OwnE.below {w w' : World} {g : Nat} {T : TypeId} {xs : List Value} (h : OwnE w g T xs) (hb : Below w.heap.size w w') : OwnE w' g T xs := (hb.block g h.lt).trans h
theorem OwnE.upto {w w' : World} {g B : Nat} {T : TypeId} {xs : List Value} (h : OwnE w g T xs) (hb : Below B w w') (hg : g < B) : OwnE w' g T xs := (hb.block g hg).trans h
theorem OwnE.row {w : World} {g : Nat} {T : TypeId} {xs : List Value} (h : OwnE w g T xs) : Row w (some ⟨g, 0, none⟩) xs := fun _ => ⟨g, 0, rfl, fun j v hv => by rw [Nat.zero_add]; exact h.cell hv⟩
/-- 'make([]T, n)'. -/
theorem OwnE.made {w : World} {base : Nat} {T : TypeId} {g n : Nat} {xs : List Value} (h : w.ownsRow base T 1 (.slice (some ⟨g, 0, none⟩) n n) n xs) : OwnE w g T xs := by
  obtain ⟨hl, h⟩ := h
  rcases h with ⟨h1, _⟩ | ⟨g', cap, cur, h1, _, hh, _, _, hs, ht⟩
  · cases h1
  · simp only [Value.slice.injEq, Option.some.injEq, Addr.mk.injEq, and_true, true_and] at h1
    obtain ⟨rfl, rfl⟩ := h1
    have : cur.toList = xs := by
      rw [← ht, List.take_of_length_le (by simp; omega)]
    unfold OwnE
    rw [hh, ← this]
end Go.Proofs.YtonjadmldgloaaaGreatDoor
