/-
  More words for memory that all texts of a seat share. No program is in sight.
-/
import Derived.Test.YtonjadmldgloaaaGreatDoorLib
namespace Go.Proofs.YtonjadmldgloaaaGreatDoor
open Go.RowKit
set_option linter.unusedVariables false

theorem one_cell (k : Nat) (hk : k < 256) : #[Value.int .u8 (k : Int)] = ([UInt8.ofNat k].map B8).toArray := by
  simp [B8, UInt8.toNat_ofNat', Nat.mod_eq_of_lt hk]
theorem oct_one (w : World) (t : TypeId) (k : Nat) (hk : k < 256) : Oct (w.alloc (.cells #[Value.int .u8 (k : Int)] t)) (some ⟨w.heap.size, 0, none⟩) 1 [UInt8.ofNat k] :=
  Oct.of_block [UInt8.ofNat k] (heap_alloc_new _ _) (one_cell k hk)

theorem oct_mod (w : World) (t : TypeId) (k : Nat) : Oct (w.alloc (.cells #[Value.int .u8 ((k : Int) % 256)] t)) (some ⟨w.heap.size, 0, none⟩) 1 [UInt8.ofNat (k % 256)] := by
  rw [show ((k : Int) % 256) = ((k % 256 : Nat) : Int) by omega]
  exact oct_one w t (k % 256) (by omega)
theorem bq {B : Nat} {a w : World} (h : Below B a w) (n : Nat) : Below B a (w.drewN n) := ⟨h.os, h.tape, h.output, h.size, h.block⟩
theorem Oct.of_own {w : World} {base : Nat} {e : TypeId} {A : Option Addr} {n c : Nat} {l : List UInt8} (h : w.ownsRow base e 1 (.slice A n c) n (l.map B8)) : Oct w A n l := ⟨by simpa using h.1, Row.of_own h⟩

theorem lt_of_heap {w : World} {g : Nat} {o : Obj} (h : w.heap[g]? = some o) : g < w.heap.size := by
  rcases Nat.lt_or_ge g w.heap.size with hlt | hge
  · exact hlt
  · rw [Array.getElem?_eq_none hge] at h
    cases h
theorem heap_set {w : World} {g i : Nat} {cs : Array Value} {t : TypeId} (v : Value) (h : w.heap[g]? = some (.cells cs t (0, 0))) : (w.setCell ⟨g, i, none⟩ v).heap[g]? = some (.cells (cs.setIfInBounds i v) t (0, 0)) := heap_setCell_same w g i cs t v h
/-- Block g, of elements of type T, begins with the cells xs; none of it is frozen. -/
def OwnC (w : World) (g : Nat) (T : TypeId) (xs : List Value) : Prop := ∃ cur : Array Value, w.heap[g]? = some (.cells cur T (0, 0)) ∧ ∀ (j : Nat) (u : Value), xs[j]? = some u → cur[j]? = some u
theorem OwnC.lt {w : World} {g : Nat} {T : TypeId} {xs : List Value} (h : OwnC w g T xs) : g < w.heap.size := by
  obtain ⟨cur, hh, _⟩ := h
  exact lt_of_heap hh
theorem OwnC.cell {w : World} {g : Nat} {T : TypeId} {xs : List Value} (h : OwnC w g T xs) {j : Nat} {u : Value} (hu : xs[j]? = some u) : w.cell? ⟨g, j, none⟩ = some u := by
  obtain ⟨cur, hh, hc⟩ := h
  rw [cell_of_row w g j cur _ _ hh]
  exact hc j u hu
theorem OwnC.frozen {w : World} {g : Nat} {T : TypeId} {xs : List Value} (h : OwnC w g T xs) (j : Nat) : w.frozen? ⟨g, j, none⟩ = false := by
  obtain ⟨cur, hh, hc⟩ := h
  exact frozen_of_row w g j cur _ hh
theorem OwnC.set {w : World} {g : Nat} {T : TypeId} {xs : List Value} (h : OwnC w g T xs) (i : Nat) (v : Value) : OwnC (w.setCell ⟨g, i, none⟩ v) g T (xs.set i v) := by
  obtain ⟨cur, hh, hc⟩ := h
  refine ⟨_, heap_set v hh, fun j u hu => ?_⟩
  rw [List.getElem?_set] at hu
  split at hu
  · rename_i hij
    subst hij
    split at hu
    · rename_i hlt
      have h1 := hc i (xs[i]) (List.getElem?_eq_getElem hlt)
      have h2 : i < cur.size := (Array.getElem?_eq_some_iff.1 h1).1
      rw [Array.getElem?_setIfInBounds_self_of_lt h2]
      exact hu
    · cases hu
  · rename_i hij
    rw [Array.getElem?_setIfInBounds_ne hij]
    exact hc j u hu
theorem OwnC.below {w w' : World} {g : Nat} {T : TypeId} {xs : List Value} (h : OwnC w g T xs) (hb : Below w.heap.size w w') : OwnC w' g T xs := by
  have hl := h.lt
  obtain ⟨cur, hh, hc⟩ := h
  exact ⟨cur, (hb.block g hl).trans hh, hc⟩
theorem OwnC.upto {w w' : World} {g B : Nat} {T : TypeId} {xs : List Value} (h : OwnC w g T xs) (hb : Below B w w') (hg : g < B) : OwnC w' g T xs := by
  obtain ⟨cur, hh, hc⟩ := h
  exact ⟨cur, (hb.block g hg).trans hh, hc⟩
theorem OwnC.far {w : World} {g : Nat} {T : TypeId} {xs : List Value} (h : OwnC w g T xs) {b i : Nat} (hne : g ≠ b) (v : Value) : OwnC (w.setCell ⟨b, i, none⟩ v) g T xs := by
  obtain ⟨cur, hh, hc⟩ := h
  exact ⟨cur, (heap_setCell_other w ⟨b, i, none⟩ g v hne).trans hh, hc⟩
theorem OwnC.drew {w : World} {g : Nat} {T : TypeId} {xs : List Value} (h : OwnC w g T xs) : OwnC w.drew g T xs := h
theorem OwnC.drewN {w : World} {g : Nat} {T : TypeId} {xs : List Value} (h : OwnC w g T xs) (k : Nat) : OwnC (w.drewN k) g T xs := h
theorem OwnC.alloc {w : World} {g : Nat} {T : TypeId} {xs : List Value} (h : OwnC w g T xs) (o : Obj) : OwnC (w.alloc o) g T xs := h.below ((Below.refl _ _).alloc (Nat.le_refl _) o)
theorem OwnC.row {w : World} {g : Nat} {T : TypeId} {xs : List Value} (h : OwnC w g T xs) : Row w (some ⟨g, 0, none⟩) xs := fun _ => ⟨g, 0, rfl, fun j v hv => by rw [Nat.zero_add]; exact h.cell hv⟩
theorem OwnC.oct {w : World} {g : Nat} {T : TypeId} {l : List UInt8} (h : OwnC w g T (l.map B8)) : Oct w (some ⟨g, 0, none⟩) l.length l := ⟨rfl, h.row⟩
theorem OwnC.new_ (w : World) (cs : Array Value) (T : TypeId) : OwnC (w.alloc (.cells cs T)) w.heap.size T cs.toList := ⟨cs, heap_alloc_new w _, fun j u hu => by simpa using hu⟩
/-- A slice stays where a cell is stored that held none of its elements. -/
theorem Row.poke {w : World} {A : Option Addr} {xs : List Value} (h : Row w A xs) {a : Addr} {u : Value} (hu : w.cell? a = some u) (hn : u ∉ xs) (v : Value) : Row (w.setCell a v) A xs := fun hx => by
  obtain ⟨b, off, hA, hc⟩ := h hx
  refine ⟨b, off, hA, fun j y hy => ?_⟩
  have h1 := hc j y hy
  rw [World.cell?_setCell_other _ _ _ _ (fun e => ?_)]
  · exact h1
  · rw [← e, hu] at h1
    injection h1 with h1
    subst h1
    exact hn (List.mem_of_getElem? hy)
theorem Oct.poke {w : World} {A : Option Addr} {n : Nat} {l : List UInt8} (h : Oct w A n l) {a : Addr} {u : Value} (hu : w.cell? a = some u) (hn : ∀ x : UInt8, u ≠ B8 x) (v : Value) : Oct (w.setCell a v) A n l :=
  ⟨h.1, h.2.poke hu (fun hm => by obtain ⟨x, _, e⟩ := List.mem_map.1 hm; exact hn x e.symm) v⟩
theorem made_one (v : Value) (hv : v.cells = #[v]) (n : Nat) : (madeCells v.cells (n * 1)).toList = List.replicate n v := by
  rw [Nat.mul_one, hv]
  exact toList_madeCells_one _ n
theorem own_row {w : World} {base : Nat} {e : TypeId} {n c : Nat} {A : Option Addr} {xs : List Value} (h : w.ownsRow base e 1 (.slice A n c) n xs) (h0 : 0 < n) : ∃ g, A = some ⟨g, 0, none⟩ ∧ base ≤ g ∧ OwnC w g e xs := by
  rcases h.2 with ⟨hv, h1⟩ | ⟨g, cap, cur, hv, hg, hh, h1, h2, h3, h4⟩
  · omega
  · injection hv with hA _ _
    subst hA
    refine ⟨g, rfl, hg, cur, hh, fun j u hu => ?_⟩
    have := h.cells (g := g) rfl j u hu
    rwa [Addr.add_mid, Nat.zero_add, cell_of_row w g j cur _ _ hh] at this
theorem own_alloc {w : World} {base n : Nat} {e : TypeId} {v : Value} {xs : List Value} (h : w.ownsRow base e 1 v n xs) (o : Obj) : (w.alloc o).ownsRow base e 1 v n xs := own_below h ((Below.refl _ _).alloc (Nat.le_refl _) o)
theorem own_ne {w : World} {base g n : Nat} {e T : TypeId} {v : Value} {xs ys : List Value} (h : w.ownsRow base e 1 v n xs) (hg : OwnC w g T ys) (hne : e ≠ T) : v.ownBlock ≠ some g := by
  intro hb
  rcases h.2 with ⟨rfl, _⟩ | ⟨g', cap, cur, rfl, _, hh, _⟩
  · simp [Value.ownBlock] at hb
  · simp [Value.ownBlock] at hb
    subst hb
    obtain ⟨cur', hh', _⟩ := hg
    rw [hh] at hh'
    injection hh' with hh'
    injection hh' with _ ht
    exact hne ht
theorem own_off {w : World} {base n b i : Nat} {e : TypeId} {v : Value} {xs : List Value} (h : w.ownsRow base e 1 v n xs) (hb : v.ownBlock ≠ some b) (u : Value) : (w.setCell ⟨b, i, none⟩ u).ownsRow base e 1 v n xs := by
  refine ⟨h.1, ?_⟩
  rcases h.2 with h2 | ⟨g, cap, cur, hv, hg, hh, r⟩
  · exact Or.inl h2
  · refine Or.inr ⟨g, cap, cur, hv, hg, (heap_setCell_other w ⟨b, i, none⟩ g u ?_).trans hh, r⟩
    rintro rfl
    exact hb (by rw [hv]; rfl)
theorem OwnC.grown {w w' : World} {g : Nat} {T : TypeId} {xs : List Value} {row : Option Nat} (h : OwnC w g T xs) (hg : w.grownBy w' row) (hne : row ≠ some g) : OwnC w' g T xs := by
  have hl := h.lt
  obtain ⟨cur, hh, hc⟩ := h
  exact ⟨cur, (hg.block g hl (fun e => hne e.symm)).trans hh, hc⟩
theorem row_box {w : World} (u : Value) (T : TypeId) {s : Nat} (hs : w.heap.size = s) : Row (w.alloc (.cells #[u] T)) (some ⟨s, 0, none⟩) [u] := by
  subst hs
  exact Row.of_block (heap_alloc_new w (.cells #[u] T))
theorem own_base {w : World} {base : Nat} {e : TypeId} {size n : Nat} {v : Value} {xs : List Value} (h : w.ownsRow base e size v n xs) : ∀ k, v.ownBlock = some k → base ≤ k := by
  intro k hk
  rcases h.2 with ⟨rfl, _⟩ | ⟨g, cap, cur, rfl, hg, _⟩
  · simp [Value.ownBlock] at hk
  · simp [Value.ownBlock] at hk
    omega
end Go.Proofs.YtonjadmldgloaaaGreatDoor
