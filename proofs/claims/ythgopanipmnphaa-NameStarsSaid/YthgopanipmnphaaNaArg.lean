/-
  How a name to cut is opened. A part of the proof: see the head of the text that ends in 'Law'.
-/
import Derived.Test.YthgopanipmnphaaRow
import Derived.Test.YthgopanipmnphaaRd
import Derived.Test.YthgopanipmnphaaProg
namespace Go.Proofs.Ythgopanipmnphaa
open Go.ChangeShapes Go.WideShapes Go.ChangeAt Go.RowKit
set_option linter.unusedVariables false

theorem arg_cut {H : Type} {enc : TypeId × Value → H} {W : World} {r : Reach} {b0 : Nat} {v : Value} {d : DataW H} {p : List MemPlace}
    (hval : Value.okWide Try.prog W r b0 32 v) (h : DataW.Trod enc Try.prog W 0 (fun _ => true) true 32 v d p) :
    ∃ (l q : List UInt8) (f t : Nat), v = .agg #[.string (str l), .string (str q), .int .u8 f, .int .u8 t] ∧ l.length ≤ maxLen ∧ q.length ≤ maxLen ∧ f < 256 ∧ t < 256 := by
  obtain ⟨⟨l, q, f, t⟩, rfl, hl, hq, _, _⟩ := arg_st Try.underlying32
    (rd_struct4 Try.underlying32 (rd_str Try.underlying9) (rd_str Try.underlying9) (rd_u8 Try.underlying5) (rd_u8 Try.underlying5) ⟨rfl, by kernel_rfl, by kernel_rfl, by kernel_rfl, by kernel_rfl⟩) hval h
  exact ⟨l, q, f.toNat, t.toNat, rfl, hl, hq, f.toNat_lt, t.toNat_lt⟩
end Go.Proofs.Ythgopanipmnphaa
