/-
  Texts that are handed in. A part of the proof: see the head of the text that ends in 'Law'.
-/
import Derived.Test.YtdanhdiinkgjnaaDoorRow
import Derived.Test.YtdanhdiinkgjnaaDoorMem
namespace Go.Proofs.YtdanhdiinkgjnaaDoor
open Go.ChangeShapes Go.WideShapes Go.ChangeAt Go.RowKit
section
variable {H : Type} {enc : TypeId × Value → H} {P : Program} {W : World} {base : Nat} {r : Reach} {b0 : Nat} {t : TypeId} {v : Value} {d : DataW H} {p : List MemPlace}
theorem arg_strs {e : TypeId} (ht : P.underlying t = some (.slice e)) (hc : P.cellsOf e = 1) (he : P.underlying e = some .string) (hval : Value.okWide P W r b0 t v) (h : DataW.Trod enc P W 0 (fun _ => true) true t v d p) :
    ∃ A n c, ∃ L : List (List UInt8), v = .slice A n c ∧ n ≤ c ∧ c ≤ maxLen ∧ L.length = n ∧ Row W A (L.map SV) ∧ ∀ a ∈ L, a.length ≤ maxLen := by
  obtain ⟨a, n, c, rfl⟩ := okWide_slice ht hval
  obtain ⟨fuel, hf⟩ := h
  exact rd_slice1 SV (fun l => l.length ≤ maxLen) ht hc (fun n u y hy => by
    obtain ⟨s, hs0, _, hs⟩ := DataW.trod_string he hy
    injection hs0 with hs0
    refine ⟨s.data.toList, ?_, by simpa using hs⟩
    rw [hs0]
    unfold SV
    have : str s.data.toList = s := by simp [str]
    rw [this]) hf
end
end Go.Proofs.YtdanhdiinkgjnaaDoor
