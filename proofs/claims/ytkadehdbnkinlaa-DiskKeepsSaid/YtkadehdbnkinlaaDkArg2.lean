/-
  What the laws' arguments are: which waits are kept. A part of the proof: see the head of the text that ends in 'Law'.
-/
import Derived.Test.YtkadehdbnkinlaaDkArg
import Derived.Test.YtkadehdbnkinlaaDk25
namespace Go.Proofs.Ytkadehdbnkinlaa
open Go.ChangeShapes Go.WideShapes Go.ChangeAt Go.RowKit
set_option linter.unusedVariables false
theorem arg_bools {H : Type} {enc : TypeId × Value → H} {W : World} {r : Reach} {b0 : Nat} {v : Value} {d : DataW H} {p : List MemPlace} (hval : Value.okWide Try.prog W r b0 23 v) (h : DataW.Trod enc Try.prog W 0 (fun _ => true) true 23 v d p) :
    ∃ s : SlOf Bool, v = s.val ∧ s.Ok (fun b : Bool => [.bool b]) (fun _ => True) W :=
  arg_sl Try.underlying23 (rd_bool Try.underlying4) 1 (by kernel_rfl) (fun _ => rfl) hval h
end Go.Proofs.Ytkadehdbnkinlaa
