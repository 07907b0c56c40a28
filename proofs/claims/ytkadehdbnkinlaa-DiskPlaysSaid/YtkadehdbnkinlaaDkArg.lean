/-
  What the laws' arguments are. A part of the proof: see the head of the text that ends in 'Law'.
-/
import Derived.Test.YtkadehdbnkinlaaRd
import Derived.Test.YtkadehdbnkinlaaProg
namespace Go.Proofs.Ytkadehdbnkinlaa
open Go.ChangeShapes Go.WideShapes Go.ChangeAt Go.RowKit
set_option linter.unusedVariables false
set_option maxRecDepth 100000
abbrev ActV : Type := Int × Int × UInt8 × Bool × SlOf Bool
def actC (a : ActV) : List Value := [.int .i64 a.1] ++ ([.int .i64 a.2.1] ++ ([B8 a.2.2.1] ++ ([.bool a.2.2.2.1] ++ [a.2.2.2.2.val])))
theorem rd_act {H : Type} {enc : TypeId × Value → H} {W : World} : RdAs enc Try.prog W 30 actC (fun a => in64 a.1 ∧ in64 a.2.1 ∧ True ∧ True ∧ a.2.2.2.2.Ok (fun b : Bool => [.bool b]) (fun _ => True) W) := by
  have R := rd_struct5 Try.underlying30 (rd_int (enc := enc) (W := W) Try.underlying3) (rd_int Try.underlying3) (rd_u8 Try.underlying5) (rd_bool Try.underlying4) (rd_slice Try.underlying23 (rd_bool Try.underlying4) 1 (by kernel_rfl) (fun _ => rfl)) ⟨rfl, by kernel_rfl, by kernel_rfl, by kernel_rfl, by kernel_rfl, by kernel_rfl⟩
  exact R
theorem arg_acts {H : Type} {enc : TypeId × Value → H} {W : World} {r : Reach} {b0 : Nat} {v : Value} {d : DataW H} {p : List MemPlace} (hval : Value.okWide Try.prog W r b0 22 v) (h : DataW.Trod enc Try.prog W 0 (fun _ => true) true 22 v d p) :
    ∃ s : SlOf ActV, v = s.val ∧ s.Ok actC (fun a => in64 a.1 ∧ in64 a.2.1 ∧ True ∧ True ∧ a.2.2.2.2.Ok (fun b : Bool => [.bool b]) (fun _ => True) W) W :=
  arg_sl Try.underlying22 rd_act 5 (by kernel_rfl) (fun _ => rfl) hval h
end Go.Proofs.Ytkadehdbnkinlaa
