/-
  A package's variable of the library's is there. A part of the proof: see the head of the text that ends in 'Law'.
-/
import Derived.Test.YtlddhgnecfgnkaaLi26
import Derived.Test.YtlddhgnecfgnkaaShelf
namespace Go.Proofs.Ytlddhgnecfgnkaa
open Go.RowKit Go.Shelf

theorem gm_shaped (w : World) (h : w.ShapedOpen Try.prog) : GM w := Try.laysM219.s1_3 w h
end Go.Proofs.Ytlddhgnecfgnkaa
