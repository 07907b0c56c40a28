/-
  '[]byte(s)': the new block. A part of the proof: see the head of the text that ends in 'Law'.
-/
import Derived.Test.YtonjadmldgloaaaGreatDoorCarry
import Derived.Laws.IdiomStrings
import Derived.Lib.BufferMore
namespace Go.Proofs.YtonjadmldgloaaaGreatDoor
open Go.RowKit
set_option linter.unusedVariables false

/-- Block g begins with the octets l; none of these is frozen. -/
def OwnB (w : World) (g : Nat) (T : TypeId) (l : List UInt8) : Prop := ∃ (cur : Array Value) (fr : Nat × Nat), w.heap[g]? = some (.cells cur T fr) ∧ l.length ≤ fr.1 ∧ ∀ (j : Nat) (u : Value), (l.map B8)[j]? = some u → cur[j]? = some u
theorem OwnB.lt {w : World} {g : Nat} {T : TypeId} {l : List UInt8} (h : OwnB w g T l) : g < w.heap.size := by
  obtain ⟨cur, fr, hh, _⟩ := h
  exact lt_of_heap hh
theorem OwnB.cell {w : World} {g : Nat} {T : TypeId} {l : List UInt8} (h : OwnB w g T l) {j : Nat} {x : UInt8} (hx : l[j]? = some x) : w.cell? ⟨g, j, none⟩ = some (.int .u8 x.toNat) := by
  obtain ⟨cur, fr, hh, _, hc⟩ := h
  rw [cell_of_row w g j cur _ _ hh]
  exact hc j _ (by rw [List.getElem?_map, hx]; rfl)
theorem OwnB.frozen {w : World} {g : Nat} {T : TypeId} {l : List UInt8} (h : OwnB w g T l) {j : Nat} (hj : j < l.length) : w.frozen? ⟨g, j, none⟩ = false := by
  obtain ⟨cur, fr, hh, hf, _⟩ := h
  unfold World.frozen?
  simp only [hh]
  simp
  omega
theorem OwnB.set {w : World} {g : Nat} {T : TypeId} {l : List UInt8} (h : OwnB w g T l) (i : Nat) (x : UInt8) : OwnB (w.setCell ⟨g, i, none⟩ (.int .u8 x.toNat)) g T (l.set i x) := by
  obtain ⟨cur, fr, hh, hf, hc⟩ := h
  refine ⟨_, fr, Go.Lib.heap_setCell_same hh _, by rw [List.length_set]; exact hf, fun j u hu => ?_⟩
  rw [List.map_set] at hu
  rw [Array.getElem?_setIfInBounds]
  rw [List.getElem?_set] at hu
  split
  · rename_i hij
    subst hij
    rw [if_pos rfl] at hu
    split at hu
    · rename_i hlt
      have h1 : ∃ u', (l.map B8)[i]? = some u' := ⟨_, List.getElem?_eq_getElem hlt⟩
      obtain ⟨u', h1⟩ := h1
      have h2 := hc i u' h1
      rw [if_pos (Array.getElem?_eq_some_iff.1 h2).1]
      exact hu
    · cases hu
  · rename_i hij
    rw [if_neg hij] at hu
    exact hc j u hu
theorem OwnB.below {w w' : World} {g : Nat} {T : TypeId} {l : List UInt8} (h : OwnB w g T l) (hb : Below w.heap.size w w') : OwnB w' g T l := by
  have hl := h.lt
  obtain ⟨cur, fr, hh, hf, hc⟩ := h
  exact ⟨cur, fr, (hb.block g hl).trans hh, hf, hc⟩
theorem OwnB.oct {w : World} {g : Nat} {T : TypeId} {l : List UInt8} (h : OwnB w g T l) : Oct w (some ⟨g, 0, none⟩) l.length l := by
  refine ⟨rfl, fun _ => ⟨g, 0, rfl, fun j v hv => ?_⟩⟩
  obtain ⟨cur, fr, hh, _, hc⟩ := h
  rw [Nat.zero_add, cell_of_row w g j cur _ _ hh]
  exact hc j v hv
/-- The world behind '[]byte(s)'. -/
def bytesW (w : World) (T : TypeId) (l : List UInt8) : World := w.drew.alloc (.cells (bytesRow (str l) (grownCap w (str l).size 0 T)) T ((bytesRow (str l) (grownCap w (str l).size 0 T)).size, (bytesRow (str l) (grownCap w (str l).size 0 T)).size + 1))
theorem bytesW_own (w : World) (T : TypeId) (l : List UInt8) : OwnB (bytesW w T l) w.heap.size T l := by
  refine ⟨_, _, heap_alloc_new w.drew _, ?_, fun j u hu => ?_⟩
  · unfold bytesRow
    simp [str]
  · rw [List.getElem?_map] at hu
    cases hx : l[j]? with
    | none => rw [hx] at hu; cases hu
    | some x =>
      rw [hx] at hu
      injection hu with hu
      subst hu
      obtain ⟨h1, h2⟩ := List.getElem?_eq_some_iff.1 hx
      rw [bytesRow_at (str l) _ j (by simpa [str] using h1)]
      subst h2
      rfl
theorem bytesW_below (w : World) (T : TypeId) (l : List UInt8) : Below w.heap.size w (bytesW w T l) := (bq (Below.refl _ _) 1).alloc (Nat.le_refl _) _
theorem bytesW_size (w : World) (T : TypeId) (l : List UInt8) : (bytesW w T l).heap.size = w.heap.size + 1 := by
  unfold bytesW
  simp
theorem run_bytes {P : Program} (w : World) (src dst e : TypeId) (l : List UInt8) (hs : P.underlying src = some .string) (hd : P.underlying dst = some (.slice e)) (he : P.underlying e = some (.int .u8)) :
    ∃ c, (convert src dst (.string (str l))).run P w = .ok (.slice (some ⟨w.heap.size, 0, none⟩) (str l).size c) (bytesW w e l) :=
  ⟨_, run_bytes_of_string w src dst e (str l) hs hd he⟩
end Go.Proofs.YtonjadmldgloaaaGreatDoor
