/-
  How the argument of OctetBack is opened: a struct of five fields. A part of the proof: see the head of the text that ends in 'Law'.
-/
import Derived.Test.YtnloooakfhjggaaRd
import Derived.Test.YtnloooakfhjggaaOctRd
namespace Go.Proofs.Ytnloooakfhjggaa
open Go.ChangeShapes Go.WideShapes Go.ChangeAt Go.RowKit
set_option linter.unusedVariables false

theorem arg_whole {H : Type} {enc : TypeId × Value → H} {W : World} {r : Reach} {b0 : Nat} {v : Value} {d : DataW H} {p : List MemPlace}
    (hval : Value.okWide Try.prog W r b0 41 v) (h : DataW.Trod enc Try.prog W 0 (fun _ => true) true 41 v d p) :
    ∃ A0 n0 c0 l0 A1 n1 c1 l1, ∃ (x : Nat) (y : Int) (s : List UInt8), v = .agg #[.slice A0 n0 c0, .slice A1 n1 c1, .int .u64 x, .int .i64 y, .string (str s)] ∧ Oct W A0 n0 l0 ∧ n0 ≤ c0 ∧ Oct W A1 n1 l1 ∧ n1 ≤ c1 ∧ x < 18446744073709551616 := by
  have R1 : RdAs enc Try.prog W 23 (fun s : SlOf UInt8 => [s.val]) (SlOf.Ok (fun x => [B8 x]) (fun _ => True) W) := rd_slice Try.underlying23 (rd_u8 Try.underlying5) 1 (by kernel_rfl) (fun _ => rfl)
  obtain ⟨⟨a, b, x, y, s⟩, rfl, ha, hb, hx, _⟩ := arg_st Try.underlying41
    (rd_struct5 Try.underlying41 R1 R1 (rd_uint (k := .u64) rfl Try.underlying22) (rd_int Try.underlying3) (rd_str Try.underlying9) ⟨rfl, by kernel_rfl, by kernel_rfl, by kernel_rfl, by kernel_rfl, by kernel_rfl⟩) hval h
  refine ⟨a.A, a.n, a.c, a.l, b.A, b.n, b.c, b.l, x, y, s, rfl, oct_of_sl ha, ha.nc, oct_of_sl hb, hb.nc, ?_⟩
  simp [IntKind.max, IntKind.signed, IntKind.bits] at hx
  omega
end Go.Proofs.Ytnloooakfhjggaa
