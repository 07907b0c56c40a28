/-
  What the laws' arguments are. A part of the proof: see the head of the text that ends in 'Law'.
-/
import Derived.Test.YtkjlkkaoaiphcaaDoorRd
import Derived.Test.YtkjlkkaoaiphcaaDoorProg
namespace Go.Proofs.YtkjlkkaoaiphcaaDoor
open Go.ChangeShapes Go.WideShapes Go.ChangeAt Go.RowKit
set_option linter.unusedVariables false
set_option maxRecDepth 100000
theorem arg_four {H : Type} {enc : TypeId × Value → H} {W : World} {r : Reach} {b0 : Nat} {v : Value} {d : DataW H} {p : List MemPlace} (hval : Value.okWide Tryd.prog W r b0 23 v) (h : DataW.Trod enc Tryd.prog W 0 (fun _ => true) true 23 v d p) :
    ∃ a b c e : Int, v = .agg #[.int .i64 a, .int .i64 b, .int .i64 c, .int .i64 e] := by
  obtain ⟨⟨a, b, c, e⟩, rfl, _, _, _, _⟩ := arg_st Tryd.underlying23
    (rd_struct4 Tryd.underlying23 (rd_int Tryd.underlying3) (rd_int Tryd.underlying3) (rd_int Tryd.underlying3) (rd_int Tryd.underlying3) ⟨rfl, by kernel_rfl, by kernel_rfl, by kernel_rfl, by kernel_rfl⟩) hval h
  exact ⟨a, b, c, e, rfl⟩
theorem arg_date {H : Type} {enc : TypeId × Value → H} {W : World} {r : Reach} {b0 : Nat} {v : Value} {d : DataW H} {p : List MemPlace} (hval : Value.okWide Tryd.prog W r b0 37 v) (h : DataW.Trod enc Tryd.prog W 0 (fun _ => true) true 37 v d p) :
    ∃ s z : Int, v = .agg #[.int .i64 s, .int .i64 z] ∧ (-9223372036854775808 ≤ s ∧ s ≤ 9223372036854775807) ∧ (-9223372036854775808 ≤ z ∧ z ≤ 9223372036854775807) := by
  obtain ⟨⟨a, b⟩, rfl, ha, hb⟩ := arg_st Tryd.underlying37
    (rd_struct2 Tryd.underlying37 (rd_int Tryd.underlying2) (rd_int Tryd.underlying3) ⟨rfl, by kernel_rfl, by kernel_rfl⟩) hval h
  exact ⟨a, b, rfl, ha, hb⟩
end Go.Proofs.YtkjlkkaoaiphcaaDoor
