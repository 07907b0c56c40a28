/-
  How the arguments of a law are opened: what a value of each type that can be read is, in the words of this seat's texts. No program is in sight.
-/
import Derived.Test.YtonjadmldgloaaaGreatDoorLib
import Derived.Deep.Slices
namespace Go.Proofs.YtonjadmldgloaaaGreatDoor
open Go.ChangeShapes Go.WideShapes Go.ChangeAt Go.RowKit
open Go.ChangeMaps (open_string shut_string)

section
variable {H : Type} {enc : TypeId × Value → H} {P : Program} {W : World} {base : Nat} {r : Reach} {b0 : Nat} {t : TypeId} {v : Value} {d : DataW H} {p : List MemPlace}

theorem arg_lt (h : DataW.Trod enc P W 0 (fun _ => true) true t v d p) : ∀ x ∈ p, x.block < W.heap.size := by
  obtain ⟨m, hm⟩ := h
  exact DataW.trod_lt m _ _ _ hm

/-- A slice of octets, as a cell holds it. -/
theorem rd_oct {e : TypeId} {fuel : Nat} {x : DataW H × List MemPlace} (ht : P.underlying t = some (.slice e)) (he : P.underlying e = some (.int .u8)) (hc : P.cellsOf e = 1) (hf : DataW.trod enc P W 0 (fun _ => true) true fuel t [v] = some x) :
    ∃ A n c l, v = .slice A n c ∧ n ≤ c ∧ c ≤ maxLen ∧ Oct W A n l := by
  rcases open_ints ht he hc hf with ⟨hcs, _⟩ | ⟨x, l, c', zs, hcs, _, hl, hm, hz, _, hcell, hwz⟩
  · injection hcs with hv
    exact ⟨none, 0, 0, [], hv, Nat.le_refl _, Nat.zero_le _, Oct.nil _ _⟩
  · injection hcs with hv
    have hz' : zs.length = c' := by simpa using hz
    have hbd : ∀ z ∈ zs, 0 ≤ z ∧ z ≤ 255 := fun z hz => by simpa [Lit.wf, IntKind.min, IntKind.max, IntKind.signed, IntKind.bits] using hwz z hz
    refine ⟨some x, l, c', (zs.take l).map fun z => UInt8.ofNat z.toNat, hv, hl, hm, by simp [hz', hl], fun hne => ?_⟩
    have hn : 0 < l := by
      rcases Nat.eq_zero_or_pos l with h0 | h0
      · subst h0; exact absurd (by simp) hne
      · exact h0
    obtain ⟨b, off, spot⟩ := x
    have h0 := hcell 0 (by omega)
    have hsp : spot = none := by
      have := World.cell?_spot h0
      simpa [Addr.add] using this
    subst hsp
    refine ⟨b, off, rfl, fun j v hv => ?_⟩
    rw [List.map_map, List.getElem?_map] at hv
    obtain ⟨z, hz2, rfl⟩ := Option.map_eq_some_iff.1 hv
    rw [List.getElem?_take] at hz2
    split at hz2
    · rename_i hjn
      have hj : j < zs.length := by omega
      have hcj := hcell j hj
      rw [Addr.add_mid] at hcj
      rw [hcj]
      have hzz : zs[j] = z := by rw [List.getElem?_eq_getElem hj] at hz2; injection hz2
      have hb := hbd z (by rw [← hzz]; exact List.getElem_mem hj)
      simp only [Function.comp, B8]
      rw [List.getD_eq_getElem?_getD, hz2, UInt8.toNat_ofNat', Nat.mod_eq_of_lt (by omega)]
      simp
      omega
    · cases hz2

theorem arg_oct {e : TypeId} (ht : P.underlying t = some (.slice e)) (he : P.underlying e = some (.int .u8)) (hc : P.cellsOf e = 1) (hval : Value.okWide P W r b0 t v) (h : DataW.Trod enc P W 0 (fun _ => true) true t v d p) :
    ∃ A n c l, v = .slice A n c ∧ n ≤ c ∧ c ≤ maxLen ∧ Oct W A n l := by
  obtain ⟨a, n, c, rfl⟩ := okWide_slice ht hval
  obtain ⟨fuel, hf⟩ := h
  exact rd_oct ht he hc hf

theorem list_of_fun {α : Type} (n : Nat) (p : Nat → α → Prop) (h : ∀ i, i < n → ∃ x, p i x) : ∃ L : List α, L.length = n ∧ ∀ i (hi : i < L.length), p i L[i] := by
  induction n with
  | zero => exact ⟨[], rfl, fun i hi => absurd hi (Nat.not_lt_zero i)⟩
  | succ n ih =>
    obtain ⟨L, hl, hL⟩ := ih (fun i hi => h i (by omega))
    obtain ⟨x, hx⟩ := h n (by omega)
    refine ⟨L ++ [x], by simp [hl], fun i hi => ?_⟩
    by_cases hin : i < L.length
    · rw [List.getElem_append_left hin]
      exact hL i hin
    · have e : i = n := by simp at hi; omega
      subst e
      rw [List.getElem_append_right (by omega)]
      simpa [hl] using hx

/-- A slice of whatever elements of one cell each. -/
theorem rd_slice1 {α : Type} (f : α → Value) (good : α → Prop) {e : TypeId} {fuel : Nat} {x : DataW H × List MemPlace} (ht : P.underlying t = some (.slice e)) (hc : P.cellsOf e = 1)
    (rd : ∀ n u y, DataW.trod enc P W 0 (fun _ => true) true n e [u] = some y → ∃ a, u = f a ∧ good a) (hf : DataW.trod enc P W 0 (fun _ => true) true fuel t [v] = some x) :
    ∃ A n c, ∃ L : List α, v = .slice A n c ∧ n ≤ c ∧ c ≤ maxLen ∧ L.length = n ∧ Row W A (L.map f) ∧ ∀ a ∈ L, good a := by
  rcases Deep.open_slice1 ht hc hf with ⟨hcs, _⟩ | ⟨a, len, cap, m, n, V, D, Pl, hcs, _, hl, hm, hmm, _, hV⟩
  · injection hcs with hv
    exact ⟨none, 0, 0, [], hv, Nat.le_refl _, Nat.zero_le _, rfl, Row.nil _ _, fun a ha => by cases ha⟩
  · injection hcs with hv
    have hmc : m = cap := by simpa using hmm
    subst hmc
    obtain ⟨L, hL, hp⟩ := list_of_fun len (fun i b => V i = f b ∧ good b) (fun i hi => rd n (V i) _ (hV i (by omega)).2)
    refine ⟨some a, len, m, L, hv, hl, hm, hL, fun hne => ?_, fun b hb => ?_⟩
    · have h0 : 0 < len := by
        rcases Nat.eq_zero_or_pos len with h0 | h0
        · exact absurd (by rw [List.eq_nil_of_length_eq_zero (hL.trans h0)]; rfl) hne
        · exact h0
      obtain ⟨b, off, spot⟩ := a
      have hsp : spot = none := by
        have := World.cell?_spot (hV 0 (by omega)).1
        simpa [Addr.add] using this
      subst hsp
      refine ⟨b, off, rfl, fun j u hu => ?_⟩
      rw [List.getElem?_map] at hu
      obtain ⟨y, hy, rfl⟩ := Option.map_eq_some_iff.1 hu
      obtain ⟨hj, rfl⟩ := List.getElem?_eq_some_iff.1 hy
      have h1 := (hV j (by omega)).1
      rw [Addr.add_mid] at h1
      rw [h1, (hp j hj).1]
    · obtain ⟨i, hi, rfl⟩ := List.getElem_of_mem hb
      exact (hp i hi).2

theorem arg_octs {e e2 : TypeId} (ht : P.underlying t = some (.slice e)) (hc : P.cellsOf e = 1) (he : P.underlying e = some (.slice e2)) (he2 : P.underlying e2 = some (.int .u8)) (hc2 : P.cellsOf e2 = 1) (hval : Value.okWide P W r b0 t v) (h : DataW.Trod enc P W 0 (fun _ => true) true t v d p) :
    ∃ A n c, ∃ L : List Sl, v = .slice A n c ∧ n ≤ c ∧ c ≤ maxLen ∧ L.length = n ∧ Row W A (L.map Sl.v) ∧ ∀ a ∈ L, Sl.ok W a := by
  obtain ⟨a, n, c, rfl⟩ := okWide_slice ht hval
  obtain ⟨fuel, hf⟩ := h
  exact rd_slice1 Sl.v (Sl.ok W) ht hc (fun n u y hy => by
    obtain ⟨A, n, c, l, rfl, h1, h2, h3⟩ := rd_oct he he2 hc2 hy
    exact ⟨⟨A, n, c, l⟩, rfl, h1, h2, h3⟩) hf

theorem arg_uint {k : IntKind} (hs : k.signed = false) (ht : P.underlying t = some (.int k)) (hval : Value.okWide P W r b0 t v) (h : DataW.Trod enc P W 0 (fun _ => true) true t v d p) :
    ∃ n : Nat, v = .int k n ∧ (n : Int) ≤ k.max := by
  obtain ⟨x, rfl, _, _, wx⟩ := open_int ht hval h
  simp only [Lit.wf, IntKind.min, hs] at wx
  simp at wx
  obtain ⟨n, rfl⟩ := Int.eq_ofNat_of_zero_le wx.1
  exact ⟨n, rfl, wx.2⟩
theorem arg_int (ht : P.underlying t = some (.int .i64)) (hval : Value.okWide P W r b0 t v) (h : DataW.Trod enc P W 0 (fun _ => true) true t v d p) :
    ∃ x : Int, v = .int .i64 x ∧ -9223372036854775808 ≤ x ∧ x ≤ 9223372036854775807 := by
  obtain ⟨x, rfl, _, _, wx⟩ := open_int ht hval h
  have : -9223372036854775808 ≤ x ∧ x ≤ 9223372036854775807 := by simpa [Lit.wf, IntKind.min, IntKind.max, IntKind.signed, IntKind.bits] using wx
  exact ⟨x, rfl, this⟩
theorem arg_bool (ht : P.underlying t = some .bool) (hval : Value.okWide P W r b0 t v) (h : DataW.Trod enc P W 0 (fun _ => true) true t v d p) : ∃ b : Bool, v = .bool b := by
  obtain ⟨b, rfl, _, _⟩ := open_bool ht hval h
  exact ⟨b, rfl⟩
theorem arg_str (ht : P.underlying t = some .string) (hval : Value.okWide P W r b0 t v) (h : DataW.Trod enc P W 0 (fun _ => true) true t v d p) : ∃ l : List UInt8, v = .string (str l) ∧ l.length ≤ maxLen := by
  obtain ⟨s, rfl, _, _, hs⟩ := open_string ht hval h
  refine ⟨s.data.toList, ?_, by simpa using hs⟩
  have : str s.data.toList = s := by simp [str]
  rw [this]
end
end Go.Proofs.YtonjadmldgloaaaGreatDoor
