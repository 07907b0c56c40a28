/-
  How the arguments of a law are opened: what a value of each type that can be read is, in the words of this seat's texts. No program is in sight.
-/
import Derived.Test.YtccibhgdpfmjlaaLib
namespace Go.Proofs.Ytccibhgdpfmjlaa
open Go.ChangeShapes Go.WideShapes Go.ChangeAt Go.RowKit
open Go.ChangeMaps (open_string shut_string)

section
variable {H : Type} {enc : TypeId × Value → H} {P : Program} {W : World} {base : Nat} {r : Reach} {b0 : Nat} {t : TypeId} {v : Value} {d : DataW H} {p : List MemPlace}

theorem arg_lt (h : DataW.Trod enc P W 0 (fun _ => true) true t v d p) : ∀ x ∈ p, x.block < W.heap.size := by
  obtain ⟨m, hm⟩ := h
  exact DataW.trod_lt m _ _ _ hm

theorem arg_oct {e : TypeId} (ht : P.underlying t = some (.slice e)) (he : P.underlying e = some (.int .u8)) (hc : P.cellsOf e = 1) (hval : Value.okWide P W r b0 t v) (h : DataW.Trod enc P W 0 (fun _ => true) true t v d p) :
    ∃ A n c l, v = .slice A n c ∧ n ≤ c ∧ c ≤ maxLen ∧ Oct W A n l := by
  obtain ⟨a, n, c, rfl⟩ := okWide_slice ht hval
  obtain ⟨fuel, hf⟩ := h
  rcases open_ints ht he hc hf with ⟨hcs, _⟩ | ⟨x, l, c', zs, hcs, _, hl, hm, hz, _, hcell, hwz⟩
  · simp [Value.cells] at hcs
    obtain ⟨rfl, rfl, rfl⟩ := hcs
    exact ⟨none, 0, 0, [], rfl, Nat.le_refl _, Nat.zero_le _, Oct.nil _ _⟩
  · simp [Value.cells] at hcs
    obtain ⟨rfl, rfl, rfl⟩ := hcs
    have hz' : zs.length = c := by simpa using hz
    have hbd : ∀ z ∈ zs, 0 ≤ z ∧ z ≤ 255 := fun z hz => by simpa [Lit.wf, IntKind.min, IntKind.max, IntKind.signed, IntKind.bits] using hwz z hz
    refine ⟨some x, n, c, (zs.take n).map fun z => UInt8.ofNat z.toNat, rfl, hl, hm, by simp [hz', hl], fun hne => ?_⟩
    have hn : 0 < n := by
      rcases Nat.eq_zero_or_pos n with h0 | h0
      · subst h0; exact absurd (by simp) hne
      · exact h0
    obtain ⟨b, off, spot⟩ := x
    have h0 := hcell 0 (by omega)
    have hsp : spot = none := by
      have := World.cell?_spot h0
      simpa [Addr.add] using this
    subst hsp
    refine ⟨b, off, rfl, fun j v hv => ?_⟩
    rw [List.map_map, List.getElem?_map] at hv
    obtain ⟨z, hz2, rfl⟩ := Option.map_eq_some_iff.1 hv
    rw [List.getElem?_take] at hz2
    split at hz2
    · rename_i hjn
      have hj : j < zs.length := by omega
      have hcj := hcell j hj
      rw [Addr.add_mid] at hcj
      rw [hcj]
      have hzz : zs[j] = z := by rw [List.getElem?_eq_getElem hj] at hz2; injection hz2
      have hb := hbd z (by rw [← hzz]; exact List.getElem_mem hj)
      simp only [Function.comp, B8]
      rw [List.getD_eq_getElem?_getD, hz2, UInt8.toNat_ofNat', Nat.mod_eq_of_lt (by omega)]
      simp
      omega
    · cases hz2

theorem arg_uint {k : IntKind} (hs : k.signed = false) (ht : P.underlying t = some (.int k)) (hval : Value.okWide P W r b0 t v) (h : DataW.Trod enc P W 0 (fun _ => true) true t v d p) :
    ∃ n : Nat, v = .int k n ∧ (n : Int) ≤ k.max := by
  obtain ⟨x, rfl, _, _, wx⟩ := open_int ht hval h
  simp only [Lit.wf, IntKind.min, hs] at wx
  simp at wx
  obtain ⟨n, rfl⟩ := Int.eq_ofNat_of_zero_le wx.1
  exact ⟨n, rfl, wx.2⟩
theorem arg_int (ht : P.underlying t = some (.int .i64)) (hval : Value.okWide P W r b0 t v) (h : DataW.Trod enc P W 0 (fun _ => true) true t v d p) :
    ∃ x : Int, v = .int .i64 x ∧ -9223372036854775808 ≤ x ∧ x ≤ 9223372036854775807 := by
  obtain ⟨x, rfl, _, _, wx⟩ := open_int ht hval h
  have : -9223372036854775808 ≤ x ∧ x ≤ 9223372036854775807 := by simpa [Lit.wf, IntKind.min, IntKind.max, IntKind.signed, IntKind.bits] using wx
  exact ⟨x, rfl, this⟩
theorem arg_bool (ht : P.underlying t = some .bool) (hval : Value.okWide P W r b0 t v) (h : DataW.Trod enc P W 0 (fun _ => true) true t v d p) : ∃ b : Bool, v = .bool b := by
  obtain ⟨b, rfl, _, _⟩ := open_bool ht hval h
  exact ⟨b, rfl⟩
theorem arg_str (ht : P.underlying t = some .string) (hval : Value.okWide P W r b0 t v) (h : DataW.Trod enc P W 0 (fun _ => true) true t v d p) : ∃ l : List UInt8, v = .string (str l) ∧ l.length ≤ maxLen := by
  obtain ⟨s, rfl, _, _, hs⟩ := open_string ht hval h
  refine ⟨s.data.toList, ?_, by simpa using hs⟩
  have : str s.data.toList = s := by simp [str]
  rw [this]
end
end Go.Proofs.Ytccibhgdpfmjlaa
