/-
  Texts that are handed in. A part of the proof: see the head of the text that ends in 'Law'.
-/
import Derived.Test.YthlofpofcpconaaDoorRow
import Derived.Test.YthlofpofcpconaaDoorMem
import Derived.Test.YthlofpofcpconaaDoorRd
import Derived.Test.YthlofpofcpconaaDoorProg
namespace Go.Proofs.YthlofpofcpconaaDoor
open Go.ChangeShapes Go.WideShapes Go.ChangeAt Go.RowKit
section
variable {H : Type} {enc : TypeId × Value → H} {P : Program} {W : World} {base : Nat} {r : Reach} {b0 : Nat} {t : TypeId} {v : Value} {d : DataW H} {p : List MemPlace}
theorem arg_strs {e : TypeId} (ht : P.underlying t = some (.slice e)) (hc : P.cellsOf e = 1) (he : P.underlying e = some .string) (hval : Value.okWide P W r b0 t v) (h : DataW.Trod enc P W 0 (fun _ => true) true t v d p) :
    ∃ A n c, ∃ L : List (List UInt8), v = .slice A n c ∧ n ≤ c ∧ c ≤ maxLen ∧ L.length = n ∧ Row W A (L.map SV) ∧ ∀ a ∈ L, a.length ≤ maxLen := by
  obtain ⟨a, n, c, rfl⟩ := okWide_slice ht hval
  obtain ⟨fuel, hf⟩ := h
  exact rd_slice1 SV (fun l => l.length ≤ maxLen) ht hc (fun n u y hy => by
    obtain ⟨s, hs0, _, hs⟩ := DataW.trod_string he hy
    injection hs0 with hs0
    refine ⟨s.data.toList, ?_, by simpa using hs⟩
    rw [hs0]
    unfold SV
    have : str s.data.toList = s := by simp [str]
    rw [this]) hf
/-- A slice of octets; a nil one has no room. -/
theorem arg_octZ {e : TypeId} (ht : P.underlying t = some (.slice e)) (he : P.underlying e = some (.int .u8)) (hc : P.cellsOf e = 1) (hval : Value.okWide P W r b0 t v) (h : DataW.Trod enc P W 0 (fun _ => true) true t v d p) :
    ∃ A n c l, v = .slice A n c ∧ n ≤ c ∧ c ≤ maxLen ∧ Oct W A n l ∧ (A = none → c = 0) := by
  obtain ⟨A, n, c, l, hv, h1, h2, h3⟩ := arg_oct ht he hc hval h
  obtain ⟨fuel, hf⟩ := h
  rcases open_ints ht he hc hf with ⟨hcs, _⟩ | ⟨x, l', c', zs, hcs, _, hl, hm, hz, _, hcell, hwz⟩
  · rw [hv] at hcs
    have hcs2 : [Value.slice A n c] = [Value.slice none 0 0] := hcs
    injection hcs2 with hv2
    injection hv2 with e1 e2 e3
    exact ⟨A, n, c, l, hv, h1, h2, h3, fun _ => e3⟩
  · rw [hv] at hcs
    have hcs2 : [Value.slice A n c] = [Value.slice (some x) l' c'] := hcs
    injection hcs2 with hv2
    injection hv2 with e1 e2 e3
    exact ⟨A, n, c, l, hv, h1, h2, h3, fun hA => by rw [hA] at e1; cases e1⟩
end
set_option maxRecDepth 100000
theorem arg_fd {H : Type} {enc : TypeId × Value → H} {W : World} {r : Reach} {b0 : Nat} {v : Value} {d : DataW H} {p : List MemPlace} (hval : Value.okWide Tryd.prog W r b0 39 v) (h : DataW.Trod enc Tryd.prog W 0 (fun _ => true) true 39 v d p) :
    ∃ (nm : List UInt8) (a b c : Int), v = .agg #[.string (str nm), .int .i64 a, .int .i64 b, .int .i64 c] := by
  obtain ⟨⟨a, b, c, e⟩, rfl, _, _, _, _⟩ := arg_st Tryd.underlying39
    (rd_struct4 Tryd.underlying39 (rd_str Tryd.underlying9) (rd_int Tryd.underlying3) (rd_int Tryd.underlying3) (rd_int Tryd.underlying3) ⟨rfl, by kernel_rfl, by kernel_rfl, by kernel_rfl, by kernel_rfl⟩) hval h
  exact ⟨a, b, c, e, rfl⟩
end Go.Proofs.YthlofpofcpconaaDoor
