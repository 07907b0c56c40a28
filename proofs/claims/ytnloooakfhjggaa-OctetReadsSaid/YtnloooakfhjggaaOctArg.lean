/-
  How the arguments of OctetReads and OctetBack are opened: a slice of pairs of numbers, a struct of five fields. A part of the proof: see the head of the text that ends in 'Law'.
-/
import Derived.Test.YtnloooakfhjggaaRow
import Derived.Deep.SlicePairs
import Derived.Lib.SmallJoins
namespace Go.Proofs.Ytnloooakfhjggaa
open Go.ChangeShapes Go.WideShapes Go.ChangeAt Go.RowKit
set_option linter.unusedVariables false

section
variable {H : Type} {enc : TypeId × Value → H} {P : Program} {W : World} {base : Nat} {r : Reach} {b0 : Nat} {t : TypeId} {v : Value} {d : DataW H} {p : List MemPlace}

theorem rd_int {n : Nat} {e : TypeId} {u : Value} {y : DataW H × List MemPlace} (he : P.underlying e = some (.int .i64)) (h : DataW.trod enc P W 0 (fun _ => true) true n e [u] = some y) :
    ∃ x : Int, u = .int .i64 x ∧ -9223372036854775808 ≤ x ∧ x ≤ 9223372036854775807 := by
  obtain ⟨x, hu, _, wx⟩ := DataW.trod_int he h
  injection hu with hu
  have : -9223372036854775808 ≤ x ∧ x ≤ 9223372036854775807 := by simpa [Lit.wf, IntKind.min, IntKind.max, IntKind.signed, IntKind.bits] using wx
  exact ⟨x, hu, this⟩

/-- A slice whose elements are pairs of numbers. -/
def Prs (w : World) (A : Option Addr) (n : Nat) (L : List (Int × Int)) : Prop :=
  L.length = n ∧ (L ≠ [] → ∃ b off, A = some ⟨b, off, none⟩ ∧ ∀ i (hi : i < L.length), w.cell? ⟨b, off + i * 2, none⟩ = some (.int .i64 L[i].1) ∧ w.cell? ⟨b, off + (i * 2 + 1), none⟩ = some (.int .i64 L[i].2))

theorem Prs.below {w w' : World} {A : Option Addr} {n : Nat} {L : List (Int × Int)} (h : Prs w A n L) (hb : Below w.heap.size w w') : Prs w' A n L := by
  refine ⟨h.1, fun hne => ?_⟩
  obtain ⟨b, off, hA, hc⟩ := h.2 hne
  exact ⟨b, off, hA, fun i hi => ⟨cells_keep hb (hc i hi).1, cells_keep hb (hc i hi).2⟩⟩

def in64 (x : Int) : Prop := -9223372036854775808 ≤ x ∧ x ≤ 9223372036854775807

theorem arg_pairs {e : TypeId} {f0 f1 : Field} (ht : P.underlying t = some (.slice e)) (he : P.underlying e = some (.struct #[f0, f1]))
    (ce : P.cellsOf e = 2) (o0 : f0.offset = 0) (o1 : f1.offset = 1) (c0 : P.cellsOf f0.type = 1) (c1 : P.cellsOf f1.type = 1) (t0 : P.underlying f0.type = some (.int .i64)) (t1 : P.underlying f1.type = some (.int .i64))
    (hval : Value.okWide P W r b0 t v) (h : DataW.Trod enc P W 0 (fun _ => true) true t v d p) :
    ∃ A n c, ∃ L : List (Int × Int), v = .slice A n c ∧ n ≤ c ∧ c ≤ maxLen ∧ Prs W A n L ∧ ∀ q ∈ L, in64 q.1 ∧ in64 q.2 := by
  obtain ⟨a, n, c, rfl⟩ := okWide_slice ht hval
  obtain ⟨fuel, hf⟩ := h
  rcases Deep.open_slice_pairs ht he ce o0 o1 c0 c1 hf with ⟨hcs, _⟩ | ⟨x, len, cap, m, k, V0, V1, D0, D1, P0, P1, hcs, _, hl, hm, hmm, _, hV⟩
  · injection hcs with hv
    injection hv with h1 h2 h3
    subst h1 h2 h3
    exact ⟨none, 0, 0, [], rfl, Nat.le_refl _, Nat.zero_le _, ⟨rfl, fun h => absurd rfl h⟩, fun q hq => by cases hq⟩
  · injection hcs with hv
    injection hv with h1 h2 h3
    subst h1 h2 h3
    have hmc : m = c := by simpa using hmm
    subst hmc
    obtain ⟨L, hL, hp⟩ := list_of_fun n (fun i (q : Int × Int) => V0 i = .int .i64 q.1 ∧ V1 i = .int .i64 q.2 ∧ in64 q.1 ∧ in64 q.2) (fun i hi => by
      obtain ⟨_, _, g0, g1⟩ := hV i (by omega)
      obtain ⟨y0, e0, b0⟩ := rd_int t0 g0
      obtain ⟨y1, e1, b1⟩ := rd_int t1 g1
      exact ⟨(y0, y1), e0, e1, b0, b1⟩)
    refine ⟨some x, n, m, L, rfl, hl, hm, ⟨hL, fun hne => ?_⟩, fun q hq => ?_⟩
    · have h0 : 0 < n := by
        rcases Nat.eq_zero_or_pos n with h0 | h0
        · exact absurd (List.eq_nil_of_length_eq_zero (hL.trans h0)) hne
        · exact h0
      obtain ⟨b, off, spot⟩ := x
      have hsp : spot = none := by
        have := World.cell?_spot (hV 0 (by omega)).1
        simpa [Addr.add] using this
      subst hsp
      refine ⟨b, off, rfl, fun i hi => ?_⟩
      obtain ⟨g0, g1, _, _⟩ := hV i (by omega)
      rw [Addr.add_mid] at g0 g1
      obtain ⟨e0, e1, _⟩ := hp i hi
      rw [g0, g1, e0, e1]
      exact ⟨rfl, rfl⟩
    · obtain ⟨i, hi, rfl⟩ := List.getElem_of_mem hq
      exact ⟨(hp i hi).2.2.1, (hp i hi).2.2.2⟩
end
end Go.Proofs.Ytnloooakfhjggaa
