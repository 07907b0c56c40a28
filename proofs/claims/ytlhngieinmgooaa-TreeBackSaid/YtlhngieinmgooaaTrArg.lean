/-
  How a slice of pairs of numbers is opened. A part of the proof: see the head of the text that ends in 'Law'.
-/
import Derived.Test.YtlhngieinmgooaaRow
import Derived.Test.YtlhngieinmgooaaTr3
import Derived.Deep.SlicePairs
namespace Go.Proofs.Ytlhngieinmgooaa
open Go.ChangeShapes Go.WideShapes Go.ChangeAt Go.RowKit
set_option linter.unusedVariables false

section
variable {H : Type} {enc : TypeId × Value → H} {P : Program} {W : World} {base : Nat} {r : Reach} {b0 : Nat} {t : TypeId} {v : Value} {d : DataW H} {p : List MemPlace}

theorem rd_u64 {n : Nat} {e : TypeId} {u : Value} {y : DataW H × List MemPlace} (he : P.underlying e = some (.int .u64)) (h : DataW.trod enc P W 0 (fun _ => true) true n e [u] = some y) :
    ∃ x : Nat, u = .int .u64 (x : Int) ∧ x < 18446744073709551616 := by
  obtain ⟨x, hu, _, wx⟩ := DataW.trod_int he h
  injection hu with hu
  have : 0 ≤ x ∧ x ≤ 18446744073709551615 := by simpa [Lit.wf, IntKind.min, IntKind.max, IntKind.signed, IntKind.bits] using wx
  obtain ⟨k, rfl⟩ := Int.eq_ofNat_of_zero_le this.1
  exact ⟨k, hu, by omega⟩

theorem arg_pas {e : TypeId} {f0 f1 : Field} (ht : P.underlying t = some (.slice e)) (he : P.underlying e = some (.struct #[f0, f1]))
    (ce : P.cellsOf e = 2) (o0 : f0.offset = 0) (o1 : f1.offset = 1) (c0 : P.cellsOf f0.type = 1) (c1 : P.cellsOf f1.type = 1) (t0 : P.underlying f0.type = some (.int .u64)) (t1 : P.underlying f1.type = some (.int .u64))
    (hval : Value.okWide P W r b0 t v) (h : DataW.Trod enc P W 0 (fun _ => true) true t v d p) :
    ∃ A n c, ∃ L : List Pa, v = .slice A n c ∧ n ≤ c ∧ c ≤ maxLen ∧ L.length = n ∧ Row W A (L.flatMap paC) ∧ ∀ q ∈ L, q.ok := by
  obtain ⟨a, n, c, rfl⟩ := okWide_slice ht hval
  obtain ⟨fuel, hf⟩ := h
  rcases Deep.open_slice_pairs ht he ce o0 o1 c0 c1 hf with ⟨hcs, _⟩ | ⟨x, len, cap, m, k, V0, V1, D0, D1, P0, P1, hcs, _, hl, hm, hmm, _, hV⟩
  · injection hcs with hv
    injection hv with h1 h2 h3
    subst h1 h2 h3
    exact ⟨none, 0, 0, [], rfl, Nat.le_refl _, Nat.zero_le _, rfl, Row.nil _ _, fun q hq => by cases hq⟩
  · injection hcs with hv
    injection hv with h1 h2 h3
    subst h1 h2 h3
    have hmc : m = c := by simpa using hmm
    subst hmc
    obtain ⟨L, hL, hp⟩ := list_of_fun n (fun i (q : Pa) => V0 i = .int .u64 (q.key : Int) ∧ V1 i = .int .u64 (q.val : Int) ∧ q.ok) (fun i hi => by
      obtain ⟨_, _, g0, g1⟩ := hV i (by omega)
      obtain ⟨y0, e0, b0⟩ := rd_u64 t0 g0
      obtain ⟨y1, e1, b1⟩ := rd_u64 t1 g1
      exact ⟨⟨y0, y1⟩, e0, e1, b0, b1⟩)
    refine ⟨some x, n, m, L, rfl, hl, hm, hL, fun hne => ?_, fun q hq => ?_⟩
    · have h0 : 0 < n := by
        rcases Nat.eq_zero_or_pos n with h0 | h0
        · exact absurd (by rw [List.eq_nil_of_length_eq_zero (hL.trans h0)]; rfl) hne
        · exact h0
      obtain ⟨b, off, spot⟩ := x
      have hsp : spot = none := by
        have := World.cell?_spot (hV 0 (by omega)).1
        simpa [Addr.add] using this
      subst hsp
      refine ⟨b, off, rfl, fun j u hu => ?_⟩
      have hj : j < L.length * 2 := by
        have := (List.getElem?_eq_some_iff.1 hu).1
        rwa [paC_len] at this
      obtain ⟨i, s, hs, rfl⟩ : ∃ i s, s < 2 ∧ j = i * 2 + s := ⟨j / 2, j % 2, by omega, by omega⟩
      have hi : i < L.length := by omega
      rw [paC_get L i hi s hs] at hu
      obtain ⟨g0, g1, _, _⟩ := hV i (by omega)
      rw [Addr.add_mid] at g0 g1
      obtain ⟨e0, e1, _⟩ := hp i hi
      match s, hs with
      | 0, _ =>
        have : u = .int .u64 (L[i].key : Int) := by simpa [paC] using hu.symm
        rw [this, ← e0]
        exact g0
      | 1, _ =>
        have : u = .int .u64 (L[i].val : Int) := by simpa [paC] using hu.symm
        rw [this, ← e1]
        exact g1
    · obtain ⟨i, hi, rfl⟩ := List.getElem_of_mem hq
      exact (hp i hi).2.2
end
end Go.Proofs.Ytlhngieinmgooaa
