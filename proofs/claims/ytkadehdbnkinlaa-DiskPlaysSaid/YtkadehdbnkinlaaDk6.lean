/-
  A write that waits, built. A part of the proof: see the head of the text that ends in 'Law'.
-/
import Derived.Test.YtkadehdbnkinlaaDk5
import Derived.Great.FillDense
import Derived.Great.BuildSlice
import Derived.Deep.MidRow
namespace Go.Proofs.Ytkadehdbnkinlaa
open Go.RowKit
set_option linter.unusedVariables false
attribute [local go_sem] Oper.semAt_some

def zIss : Array Value := #[Value.int .i64 0] ++ Array.replicate 128 (Value.int .u8 0)
theorem zIss_size : zIss.size = 129 := by unfold zIss; simp
theorem iss_built (ps : List (Nat × Value)) : Try.prog.built 66 ps = Instr.fill (fun i => (#[(0, 1), (1, 128)] : Array (Nat × Nat))[i]?) zIss ps := by kernel_rfl
theorem fill_two (i : Int) (cs : List Value) (hc : cs.length = 128) (z : Array Value) (hz : z.size = 129) : Instr.fill (fun i => (#[(0, 1), (1, 128)] : Array (Nat × Nat))[i]?) z [(0, .int .i64 i), (1, .agg cs.toArray)] = some (.int .i64 i :: cs).toArray := by
  obtain ⟨g1, g2⟩ := Go.Great.foldl_set 1 cs 0 (z.setIfInBounds 0 (.int .i64 i))
  have hcz : (Value.int IntKind.i64 i).cells = #[.int .i64 i] := rfl
  have hcv : (Value.agg cs.toArray).cells = cs.toArray := rfl
  rw [Instr.fill]
  simp only [List.getElem?_toArray, List.getElem?_cons_zero, hcz]
  rw [if_neg (by rw [hz]; simp)]
  have e1 : ∀ z : Array Value, Array.foldl (fun (cs : Array Value) (x : Value × Nat) => cs.setIfInBounds (0 + x.2) x.1) z (#[Value.int IntKind.i64 i].zipIdx) = z.setIfInBounds 0 (.int .i64 i) := fun z => by simp
  rw [e1, Instr.fill]
  simp only [List.getElem?_toArray, List.getElem?_cons_succ, List.getElem?_cons_zero, hcv]
  rw [if_neg (by simp [hc, hz]), Instr.fill]
  congr 1
  rw [← Array.foldl_toList, Array.toList_zipIdx]
  apply Array.ext_getElem?
  intro k
  rw [g2 k]
  simp only [Array.size_setIfInBounds, hz, hc]
  rw [show (Value.int IntKind.i64 i :: cs).toArray[k]? = (Value.int IntKind.i64 i :: cs)[k]? by simp]
  by_cases h0 : k = 0
  · subst h0
    rw [if_neg (by omega)]
    simp [hz]
  · obtain ⟨j, rfl⟩ : ∃ j, k = j + 1 := ⟨k - 1, by omega⟩
    rw [List.getElem?_cons_succ]
    by_cases hj : j < 128
    · rw [if_pos (by omega), show j + 1 - (1 + 0) = j by omega]
    · rw [if_neg (by omega), Array.getElem?_eq_none (by simp [hz]; omega), List.getElem?_eq_none (by omega)]
/-- A write that waits, as it is built. -/
theorem issued_built (i : Int) (s : List UInt8) (hs : s.length = 128) : Try.prog.built 66 [(0, .int .i64 i), (1, .agg (s.map B8).toArray)] = some (isC (i, s)).toArray := by
  rw [iss_built]
  exact fill_two i (s.map B8) (by rw [List.length_map, hs]) zIss zIss_size
theorem isC_len (p : Int × List UInt8) (h : p.2.length = 128) : (isC p).length = 129 := by unfold isC; simp [h]
theorem issS : SliceT Try.prog 59 66 (.agg zIss) 129 136 := ⟨Try.underlying59, by kernel_rfl, by show zIss.size = 129; exact zIss_size, by omega⟩
/-- A slice of one write that waits. -/
theorem iss_one (p : Int × List UInt8) (h : p.2.length = 128) (ie : TypeInfo) (h1 : ie.size = 129) (cells : Array Value) (hc : cells.size = 129) :
    Instr.fill (fun i => some (i * ie.size, ie.size)) cells [(0, .agg (isC p).toArray)] = some (isC p).toArray := by
  have := Go.Great.fill_whole (s := 129) (by omega) [.agg (isC p).toArray] cells (by intro v hv; simp at hv; rw [hv]; show (isC p).toArray.size = 129; simp [isC_len p h]) (by simp [hc])
  rw [h1]
  simpa [Value.cells] using this
end Go.Proofs.Ytkadehdbnkinlaa
