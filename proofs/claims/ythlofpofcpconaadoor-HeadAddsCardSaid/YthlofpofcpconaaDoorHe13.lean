/-
  strings.Builder: a text is written. A part of the proof: see the head of the text that ends in 'Law'.
-/
import Derived.Test.YthlofpofcpconaaDoorHe12
import Derived.RangeFuncNested
import Derived.Lib.Builder
import Derived.Laws.Externs
namespace Go.Proofs.YthlofpofcpconaaDoor
open Go.RowKit
set_option linter.unusedVariables false
attribute [local go_sem] Oper.semAt_some

/-- A builder at b, made behind B, that holds l. -/
def BldAt (B b : Nat) (l : List UInt8) (w : World) : Prop := Lib.IsBuilder 65 5 B b (l.map B8) w
/-- What is no cells lies as it lay, and so does every box but b that holds no octets. -/
def KeptB (b : Nat) (w w' : World) : Prop := KeepsOthers w w' ∧ ∀ (B0 : Nat) (T : TypeId) (cs : Array Value), T ≠ 5 → B0 ≠ b → w.heap[B0]? = some (.cells cs T (0, 0)) → w'.heap[B0]? = some (.cells cs T (0, 0))
theorem KeptB.refl (b : Nat) (w : World) : KeptB b w w := ⟨KeepsOthers.refl w, fun _ _ _ _ _ h => h⟩
theorem KeptB.trans {b : Nat} {w w1 w2 : World} (h : KeptB b w w1) (k : KeptB b w1 w2) : KeptB b w w2 := ⟨h.1.trans k.1, fun B T u h1 h2 h3 => k.2 B T u h1 h2 (h.2 B T u h1 h2 h3)⟩
theorem KeptB.set (b : Nat) (w : World) (j : Nat) (v : Value) : KeptB b w (w.setCell ⟨b, j, none⟩ v) := ⟨KeepsOthers.setCell _ _ _, fun B T u h1 h2 h3 => (heap_setCell_other w ⟨b, j, none⟩ B v h2).trans h3⟩
theorem bld_size : (Tryd.prog.info? 65).map (·.size) = some 2 := by kernel_rfl
theorem bld_lies : liesAt Tryd.prog Tryd.prog.depth 65 (2 / Tryd.prog.cellsOf 65) 0 65 1 = true := by kernel_rfl
set_option maxRecDepth 100000 in
theorem copyCheck_any (B b : Nat) (bs : List Value) (w : World) (h : Lib.IsBuilder 65 5 B b bs w) :
    Calls Tryd.prog 54 #[.pointer (some ⟨b, 0, none⟩)] w fun e w' => e = .returned (.tuple #[]) ∧ Lib.BuilderAt 65 5 B b (.pointer (some ⟨b, 0, none⟩)) bs w' ∧ Below B w w' ∧ KeptB b w w' := by
  obtain ⟨j, hj, hjs⟩ := Option.map_eq_some_iff.1 bld_size
  rcases h with h | h
  · have x0 := h.cell0
    have f0 := h.frozen0
    have hsh := h.shape
    have q1 := Lib.run_to_unsafe (P := Tryd.prog) w ⟨b, 0, none⟩ Tryd.underlying63 Tryd.underlying87 hj (by rw [hjs]; decide) hsh (Nat.zero_lt_succ 1)
    have q2 := Lib.run_from_unsafe (P := Tryd.prog) w ⟨b, 0, none⟩ Tryd.underlying87 Tryd.underlying63 hj hsh bld_lies
    have H := hid h
    clear h hj hjs hsh
    go_enter Tryd.func54, Tryd.ntmps54
    go_wp2
    rw [run_callFunc_extern Tryd.func69 (by kernel_rfl) (by kernel_rfl) (by kernel_rfl) (e := Extern.AbiNoEscape.same) (by kernel_rfl)]
    rw [Lib.run_noEscape]
    simp only [Result.andThen]
    rw [Oper.upon_value]
    go_wp2
    go_end0
    exact ⟨rfl, H.out.used _, (Below.refl B w).setCell (p := ⟨b, 0, none⟩) H.out.1 _, KeptB.set b w 0 _⟩
  · have x0 := h.cell0
    have q1 := Lib.run_neq_ptr_same (P := Tryd.prog) w ⟨b, 0, none⟩ Tryd.underlying63 hj
    have H := hid h
    clear h hj hjs
    go_enter Tryd.func54, Tryd.ntmps54
    go_wp2
    go_end0
    exact ⟨rfl, H.out, Below.refl _ _, KeptB.refl _ _⟩
theorem u8S : SliceT Tryd.prog 22 5 (.int .u8 0) 1 1 := ⟨Tryd.underlying22, by kernel_rfl, rfl, by decide⟩
theorem string_any (B b : Nat) (l : List UInt8) (w : World) (h : BldAt B b l w) (hBw : B ≤ w.heap.size) :
    Calls Tryd.prog 45 #[.pointer (some ⟨b, 0, none⟩)] w fun e w' => e = .returned (.string (str l)) ∧ Below B w w' := Tryd.Builder_String_any B b l w h hBw
/-- A fresh one. -/
theorem bld_new (w : World) : BldAt w.heap.size w.heap.size [] (w.alloc (.cells #[.pointer none, .slice none 0 0] 65)) :=
  .inl ⟨Nat.le_refl _, .slice none 0 0, heap_alloc_new w _, World.ownsRow_nil _ _ _ _, by simp [Value.ownBlock]⟩
end Go.Proofs.YthlofpofcpconaaDoor
