/-
  How a slice of tokens is opened. A part of the proof: see the head of the text that ends in 'Law'.
-/
import Derived.Test.YtaoigplmkckieaaRow
import Derived.Test.YtaoigplmkckieaaRd
import Derived.Test.YtaoigplmkckieaaMa2
namespace Go.Proofs.Ytaoigplmkckieaa
open Go.ChangeShapes Go.WideShapes Go.ChangeAt Go.RowKit
set_option linter.unusedVariables false

theorem arg_toks {H : Type} {enc : TypeId × Value → H} {W : World} {r : Reach} {b0 : Nat} {v : Value} {d : DataW H} {p : List MemPlace}
    (hval : Value.okWide Try.prog W r b0 24 v) (h : DataW.Trod enc Try.prog W 0 (fun _ => true) true 24 v d p) :
    ∃ A n c, ∃ L : List Tok, v = .slice A n c ∧ TRow W A n L ∧ n ≤ c ∧ c ≤ maxLen := by
  obtain ⟨s, rfl, hs⟩ := arg_sl Try.underlying24
    (rd_struct3 Try.underlying50 (rd_u8 Try.underlying5) (rd_int Try.underlying3) (rd_int Try.underlying3) ⟨rfl, by kernel_rfl, by kernel_rfl, by kernel_rfl⟩) 3 (by kernel_rfl) (fun _ => rfl) hval h
  refine ⟨s.A, s.n, s.c, s.l.map (fun x => ⟨x.1, x.2.1, x.2.2⟩), rfl, ⟨by rw [List.length_map]; exact hs.len, ?_⟩, hs.nc, hs.cm⟩
  have := hs.row
  rwa [show (s.l.map (fun x => (⟨x.1, x.2.1, x.2.2⟩ : Tok))).flatMap Tok.cells = s.l.flatMap (fun x : UInt8 × Int × Int => [B8 x.1] ++ ([.int .i64 x.2.1] ++ [.int .i64 x.2.2])) from by
    rw [List.flatMap_map]
    rfl]
end Go.Proofs.Ytaoigplmkckieaa
