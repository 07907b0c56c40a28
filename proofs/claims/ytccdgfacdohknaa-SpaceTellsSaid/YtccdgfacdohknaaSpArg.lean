/-
  How a space handed over is opened. A part of the proof: see the head of the text that ends in 'Law'.
-/
import Derived.Test.YtccdgfacdohknaaRow
import Derived.Test.YtccdgfacdohknaaRd
import Derived.Test.YtccdgfacdohknaaSp9
namespace Go.Proofs.Ytccdgfacdohknaa
open Go.ChangeShapes Go.WideShapes Go.ChangeAt Go.RowKit
set_option linter.unusedVariables false

theorem arg_space {H : Type} {enc : TypeId × Value → H} {W : World} {r : Reach} {b0 : Nat} {v : Value} {d : DataW H} {p : List MemPlace}
    (hval : Value.okWide Try.prog W r b0 24 v) (h : DataW.Trod enc Try.prog W 0 (fun _ => true) true 24 v d p) :
    ∃ (N : Int), ∃ A n c bits, v = .agg #[.int .i64 N, .slice A n c] ∧ Oct W A n bits ∧ n ≤ c ∧ c ≤ maxLen ∧ (-9223372036854775808 ≤ N ∧ N ≤ 9223372036854775807) := by
  have R1 : RdAs enc Try.prog W 22 (fun s : SlOf UInt8 => [s.val]) (SlOf.Ok (fun x => [B8 x]) (fun _ => True) W) := rd_slice Try.underlying22 (rd_u8 Try.underlying5) 1 (by kernel_rfl) (fun _ => rfl)
  obtain ⟨⟨x, a⟩, rfl, hx, ha⟩ := arg_st Try.underlying24
    (rd_struct2 Try.underlying24 (rd_int Try.underlying3) R1 ⟨rfl, by kernel_rfl, by kernel_rfl⟩) hval h
  exact ⟨x, a.A, a.n, a.c, a.l, rfl, oct_of_sl ha, ha.nc, ha.cm, hx⟩
theorem arg_u8 {H : Type} {enc : TypeId × Value → H} {W : World} {r : Reach} {b0 : Nat} {v : Value} {d : DataW H} {p : List MemPlace}
    (hval : Value.okWide Try.prog W r b0 5 v) (h : DataW.Trod enc Try.prog W 0 (fun _ => true) true 5 v d p) : ∃ k : Nat, v = .int .u8 k ∧ k < 256 := by
  obtain ⟨k, rfl, hk⟩ := arg_uint (k := .u8) rfl Try.underlying5 hval h
  refine ⟨k, rfl, ?_⟩
  simp [IntKind.max, IntKind.signed, IntKind.bits] at hk
  omega
theorem arg_ints {H : Type} {enc : TypeId × Value → H} {W : World} {r : Reach} {b0 : Nat} {v : Value} {d : DataW H} {p : List MemPlace}
    (hval : Value.okWide Try.prog W r b0 25 v) (h : DataW.Trod enc Try.prog W 0 (fun _ => true) true 25 v d p) :
    ∃ A n c xs, v = .slice A n c ∧ IRow W A n xs ∧ n ≤ c ∧ c ≤ maxLen := by
  obtain ⟨a, rfl, ha⟩ := arg_sl Try.underlying25 (rd_int Try.underlying3) 1 (by kernel_rfl) (fun _ => rfl) hval h
  exact ⟨a.A, a.n, a.c, a.l, rfl, ⟨ha.len, by have h := ha.row; rwa [show a.l.flatMap (fun x : Int => [Value.int .i64 x]) = a.l.map (Value.int .i64) from List.map_eq_flatMap.symm] at h⟩, ha.nc, ha.cm⟩
end Go.Proofs.Ytccdgfacdohknaa
