/-
  What the laws' arguments are. A part of the proof: see the head of the text that ends in 'Law'.
-/
import Derived.Test.YtpppmijohfjigaaRd
import Derived.Test.YtpppmijohfjigaaJn1
import Derived.Test.YtpppmijohfjigaaProg
namespace Go.Proofs.Ytpppmijohfjigaa
open Go.ChangeShapes Go.WideShapes Go.ChangeAt Go.RowKit
set_option linter.unusedVariables false
set_option maxRecDepth 100000
abbrev PutA : Type := Int × SlOf UInt8
def u8C (x : UInt8) : List Value := [B8 x]
def putA (a : PutA) : List Value := [.int .i64 a.1] ++ [a.2.val]
def okPut (W : World) (a : PutA) : Prop := in64 a.1 ∧ a.2.Ok u8C (fun _ => True) W
theorem rd_put {H : Type} {enc : TypeId × Value → H} {W : World} : RdAs enc Try.prog W 47 putA (okPut W) := by
  have R := rd_struct2 Try.underlying47 (rd_int (enc := enc) (W := W) Try.underlying3) (rd_slice Try.underlying24 (rd_u8 Try.underlying5) 1 (by kernel_rfl) (fun _ => rfl)) ⟨rfl, by kernel_rfl, by kernel_rfl⟩
  exact R
theorem arg_puts {H : Type} {enc : TypeId × Value → H} {W : World} {r : Reach} {b0 : Nat} {v : Value} {d : DataW H} {p : List MemPlace} (hval : Value.okWide Try.prog W r b0 22 v) (h : DataW.Trod enc Try.prog W 0 (fun _ => true) true 22 v d p) :
    ∃ s : SlOf PutA, v = s.val ∧ s.Ok putA (okPut W) W :=
  arg_sl Try.underlying22 rd_put 2 (by kernel_rfl) (fun _ => rfl) hval h
theorem flat_map (l : List UInt8) : l.flatMap u8C = l.map B8 := by
  induction l with
  | nil => rfl
  | cons a r ih => rw [List.flatMap_cons, List.map_cons, ih]; rfl
def puV (a : PutA) : PuV := ⟨a.1, a.2.A, a.2.n, a.2.c, a.2.l⟩
theorem flat_puts (l : List PutA) : (l.map puV).flatMap puC = l.flatMap putA := by
  induction l with
  | nil => rfl
  | cons a r ih => rw [List.map_cons, List.flatMap_cons, List.flatMap_cons, ih]; rfl
theorem puts_of {W : World} {s : SlOf PutA} (h : s.Ok putA (okPut W) W) : PutsIn W s.A s.n (s.l.map puV) := by
  refine ⟨by rw [List.length_map]; exact h.len, by rw [flat_puts]; exact h.row, ?_, ?_, ?_⟩
  all_goals (intro v hv; obtain ⟨a, ha, rfl⟩ := List.mem_map.1 hv; have g := h.good a ha)
  · exact ⟨g.2.len, by rw [← flat_map]; exact g.2.row⟩
  · exact g.1
  · exact g.2.nc
end Go.Proofs.Ytpppmijohfjigaa
