/-
  Pieces of octets that are handed in: none is longer than may be reached. A part of the proof: see the head of the text that ends in 'Law'.
-/
import Derived.Test.YtlddhgnecfgnkaaRow
import Derived.SizedLaws
namespace Go.Proofs.Ytlddhgnecfgnkaa
open Go.ChangeShapes Go.WideShapes Go.ChangeAt Go.RowKit

section
variable {H : Type} {enc : TypeId × Value → H} {P : Program} {W : World} {base : Nat} {r : Reach} {b0 : Nat} {t : TypeId} {v : Value} {d : DataW H} {p : List MemPlace}

theorem weightsAll_mem {e : TypeId} : ∀ {l : List (DataW H)} {d : DataW H}, d ∈ l → ∀ n ∈ d.weights P e, n ∈ DataW.weightsAll P e l
  | a :: l, d, hd, n, hn => by
    simp only [DataW.weightsAll, List.mem_append]
    rcases List.mem_cons.1 hd with rfl | hd
    · exact .inl hn
    · exact .inr (weightsAll_mem hd n hn)
theorem cap_sized {e : TypeId} {fuel : Nat} {x : DataW H × List MemPlace} {A : Option Addr} {n c : Nat} (ht : P.underlying t = some (.slice e)) (hc : P.cellsOf e = 1) (hb : P.bytesOf e = 1) (hf : DataW.trod enc P W 0 (fun _ => true) true fuel t [.slice A n c] = some x) (hw : ∀ k ∈ x.1.weights P t, k ≤ reachBytes) : c ≤ reachBytes := by
  rcases Deep.open_slice1 ht hc hf with ⟨hcs, _⟩ | ⟨a, len, cap, m, n', V, D, Pl, hcs, _, hl, hm, hmm, hx, hV⟩
  · injection hcs with hv
    injection hv with h1 h2 h3
    rw [h3]
    exact Nat.zero_le _
  · injection hcs with hv
    injection hv with h1 h2 h3
    have hmc : m = cap := by simpa using hmm
    subst hmc
    rw [hx] at hw
    have := hw ((((List.range len).map D).length + ((List.range (m - len)).map fun j => D (len + j)).length) * P.bytesOf e) (by simp [DataW.weights, ht])
    simp [hb] at this
    omega
theorem arg_octs_sized {e e2 : TypeId} (ht : P.underlying t = some (.slice e)) (hc : P.cellsOf e = 1) (he : P.underlying e = some (.slice e2)) (he2 : P.underlying e2 = some (.int .u8)) (hc2 : P.cellsOf e2 = 1) (hb2 : P.bytesOf e2 = 1) (hval : Value.okWide P W r b0 t v) (h : DataW.Trod enc P W 0 (fun _ => true) true t v d p) (hw : ∀ k ∈ d.weights P t, k ≤ reachBytes) :
    ∃ A n c, ∃ L : List Sl, v = .slice A n c ∧ n ≤ c ∧ c ≤ maxLen ∧ L.length = n ∧ Row W A (L.map Sl.v) ∧ ∀ a ∈ L, Sl.ok W a ∧ a.c ≤ reachBytes := by
  obtain ⟨a, n, c, rfl⟩ := okWide_slice ht hval
  obtain ⟨fuel, hf⟩ := h
  rcases Deep.open_slice1 ht hc hf with ⟨hcs, _⟩ | ⟨a, len, cap, m, n, V, D, Pl, hcs, _, hl, hm, hmm, hx, hV⟩
  · injection hcs with hv
    exact ⟨none, 0, 0, [], hv, Nat.le_refl _, Nat.zero_le _, rfl, Row.nil _ _, fun a ha => by cases ha⟩
  · injection hcs with hv
    have hmc : m = cap := by simpa using hmm
    subst hmc
    have hd : d = .slice ((List.range len).map D) ((List.range (m - len)).map fun j => D (len + j)) := by
      have := congrArg Prod.fst hx
      exact this
    have hwi : ∀ i, i < len → ∀ k ∈ (D i).weights P e, k ≤ reachBytes := fun i hi k hk => hw k (by
      rw [hd]
      simp only [DataW.weights, ht, List.mem_cons, List.mem_append]
      exact .inr (.inl (weightsAll_mem (List.mem_map.2 ⟨i, List.mem_range.2 hi, rfl⟩) k hk)))
    obtain ⟨L, hL, hp⟩ := list_of_fun len (fun i (b : Sl) => V i = b.v ∧ Sl.ok W b ∧ b.c ≤ reachBytes) (fun i hi => by
      have h1 := (hV i (by omega)).2
      obtain ⟨A, n2, c2, l, h2, h3, h4, h5⟩ := rd_oct he he2 hc2 h1
      rw [h2] at h1
      exact ⟨⟨A, n2, c2, l⟩, h2, ⟨h3, h4, h5⟩, cap_sized he hc2 hb2 h1 (hwi i hi)⟩)
    refine ⟨some a, len, m, L, hv, hl, hm, hL, fun hne => ?_, fun b hb => ?_⟩
    · have h0 : 0 < len := by
        rcases Nat.eq_zero_or_pos len with h0 | h0
        · exact absurd (by rw [List.eq_nil_of_length_eq_zero (hL.trans h0)]; rfl) hne
        · exact h0
      obtain ⟨b, off, spot⟩ := a
      have hsp : spot = none := by
        have := World.cell?_spot (hV 0 (by omega)).1
        simpa [Addr.add] using this
      subst hsp
      refine ⟨b, off, rfl, fun j u hu => ?_⟩
      rw [List.getElem?_map] at hu
      obtain ⟨y, hy, rfl⟩ := Option.map_eq_some_iff.1 hu
      obtain ⟨hj, rfl⟩ := List.getElem?_eq_some_iff.1 hy
      have h1 := (hV j (by omega)).1
      rw [Addr.add_mid] at h1
      rw [h1, (hp j hj).1]
    · obtain ⟨i, hi, rfl⟩ := List.getElem_of_mem hb
      exact (hp i hi).2
end
end Go.Proofs.Ytlddhgnecfgnkaa
