/-
  What is known of a world's memory is carried over into the world behind a call. A part of the proof: see the head of the text that ends in 'Law'.
-/
import Derived.Test.YtonjadmldgloaaaGreatDoorLib2
namespace Go.Proofs.YtonjadmldgloaaaGreatDoor
open Go.RowKit
set_option linter.unusedVariables false

theorem _root_.Go.RowKit.Hid.far {w0 w w' : World} (h : Hid (Below w0.heap.size w0 w)) (hb : Below w.heap.size w w') : Hid (Below w0.heap.size w0 w') := hid (next h.out hb)
/-- A draw leaves the memory as it lay. -/
theorem drew_below (w : World) : Below w.heap.size w w.drew := bq (Below.refl _ _) 1
end Go.Proofs.YtonjadmldgloaaaGreatDoor
