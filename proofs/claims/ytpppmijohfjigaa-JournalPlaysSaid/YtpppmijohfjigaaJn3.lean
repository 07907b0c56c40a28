/-
  Octets that are put behind others, in a block of one's own whose room is not known. A part of the proof: see the head of the text that ends in 'Law'.
-/
import Derived.Test.YtpppmijohfjigaaJn2
import Derived.Test.YtpppmijohfjigaaShelf
import Derived.ArgAppend
namespace Go.Proofs.Ytpppmijohfjigaa
open Go.RowKit
set_option linter.unusedVariables false
set_option maxRecDepth 100000

/-- A slice of these octets at the head of a block of one's own. -/
structure FrB (base : Nat) (W : World) (g cap : Nat) (l : List UInt8) : Prop where
  b0 : base ≤ g
  lc : l.length ≤ cap
  cm : cap ≤ maxLen
  cell : ∀ j u, (l.map B8)[j]? = some u → W.cell? ⟨g, j, none⟩ = some u
  room : ∀ i, i < cap → (W.cell? ⟨g, i, none⟩).isSome = true ∧ W.frozen? ⟨g, i, none⟩ = false
theorem FrB.oct {base : Nat} {W : World} {g cap : Nat} {l : List UInt8} (h : FrB base W g cap l) : Oct W (some ⟨g, 0, none⟩) l.length l :=
  ⟨rfl, fun _ => ⟨g, 0, rfl, fun j u hu => by rw [Nat.zero_add]; exact h.cell j u hu⟩⟩
theorem keep_cells {W W' : World} (hb : Below W.heap.size W W') {a : Addr} {u : Value} (h : W.cell? a = some u) : W'.cell? a = some u := cells_keep hb h
theorem FrB.below {base : Nat} {W W' : World} {g cap : Nat} {l : List UInt8} (h : FrB base W g cap l) (hb : Below W.heap.size W W') : FrB base W' g cap l := by
  refine ⟨h.b0, h.lc, h.cm, fun j u hu => cells_keep hb (h.cell j u hu), fun i hi => ?_⟩
  obtain ⟨h1, h2⟩ := h.room i hi
  obtain ⟨v, hv⟩ := Option.isSome_iff_exists.1 h1
  refine ⟨by rw [cells_keep hb hv]; rfl, ?_⟩
  have hlt := World.block_lt_of_cell? W _ hv
  have he := hb.block g hlt
  unfold World.frozen? at h2 ⊢
  rw [he]
  exact h2
theorem map_nums (zs : List Int) (hz : ∀ x ∈ zs, 0 ≤ x ∧ x < 256) : (zs.map fun z => UInt8.ofNat z.toNat).map B8 = zs.map (Value.int .u8) := by
  rw [List.map_map]
  refine List.map_congr_left (fun z hm => ?_)
  have := hz z hm
  show Value.int .u8 ((UInt8.ofNat z.toNat).toNat : Int) = _
  rw [UInt8.toNat_ofNat_of_lt' (show z.toNat < 256 by omega)]
  congr 1
  omega
set_option maxHeartbeats 1000000 in
theorem append_fr (W : World) (base g cap : Nat) (l r : List UInt8) (A : Option Addr) (m c : Nat) (ty : TypeId) (h : FrB base W g cap l) (hr : Oct W A m r) (hbase : base ≤ W.heap.size) (h1 : l.length ≤ 100000) (h2 : m ≤ 100000) :
    ∃ g' c' w', (Builtin.append_ #[24, 24] ty #[.slice (some ⟨g, 0, none⟩) l.length cap, .slice A m c]).run Try.prog W = .ok (.slice (some ⟨g', 0, none⟩) (l.length + m) c') w' ∧ FrB base w' g' c' (l ++ r) ∧ Below base W w' := by
  obtain ⟨i0, hi, hz0, hz1, hz2⟩ := info_parts u8S.info
  rcases (by cases A with | none => exact .inl rfl | some a => exact .inr ⟨a, rfl⟩ : A = none ∨ ∃ a, A = some a) with rfl | ⟨ad, rfl⟩
  · have hm : m = 0 := by
      rcases Nat.eq_zero_or_pos m with h | h
      · exact h
      · obtain ⟨b, off, h3, -⟩ := hr.at_ h; cases h3
    subst hm
    have hrn : r = [] := List.eq_nil_of_length_eq_zero hr.1
    subst hrn
    refine ⟨g, cap, W, ?_, by rw [List.append_nil]; exact h, Below.refl _ _⟩
    simp [Builtin.append_, run_underlying u8S.und, sizeOf, typeInfo, hi, Builtin.lenOf, Builtin.firstCells, h.lc, storeCells]
  · have hnews : ∀ j u, (r.map B8)[j]? = some u → W.cell? (ad.add j) = some u := by
      intro j u hu
      obtain ⟨b, off, h3, h4⟩ := hr.2 (by rintro h; rw [h] at hu; simp at hu)
      injection h3 with h3
      subst h3
      rw [Addr.add_mid]
      exact h4 j u hu
    have hlen : (r.map B8).length = m := by rw [List.length_map, hr.1]
    by_cases hroom : l.length + m ≤ cap
    · have hcs : ∀ j, j < (r.map B8).length → (W.cell? ⟨g, 0 + l.length * i0.size + j, none⟩).isSome = true := by
        intro j hj
        rw [hlen] at hj
        rw [hz1, Nat.mul_one, Nat.zero_add]
        exact (h.room _ (by omega)).1
      have hfz : ∀ j, j < (r.map B8).length → W.frozen? ⟨g, 0 + l.length * i0.size + j, none⟩ = false := by
        intro j hj
        rw [hlen] at hj
        rw [hz1, Nat.mul_one, Nat.zero_add]
        exact (h.room _ (by omega)).2
      have hrun := run_append_room_cells (P := Try.prog) W 24 ty 5 i0 u8S.und hi g 0 l.length cap ad m c (r.map B8) (by rw [hlen, hz1, Nat.mul_one]) hnews (one_B8 _) hroom hcs hfz
      rw [hz1, Nat.mul_one, Nat.zero_add] at hrun hcs
      refine ⟨g, cap, _, hrun, ⟨h.b0, by rw [List.length_append, hr.1]; exact hroom, h.cm, fun j v hv => ?_, fun i hi2 => ?_⟩, ?_⟩
      · rw [List.map_append] at hv
        rcases Nat.lt_or_ge j l.length with hj | hj
        · rw [World.cell?_setCells_out g _ _ W _ (fun _ _ => .inl (by simpa using hj))]
          rw [List.getElem?_append_left (by rw [List.length_map]; exact hj)] at hv
          exact h.cell j v hv
        · rw [List.getElem?_append_right (by rw [List.length_map]; exact hj), List.length_map] at hv
          obtain ⟨hj2, hv2⟩ := List.getElem?_eq_some_iff.1 hv
          have := World.cell?_setCells_in g (r.map B8) l.length W hcs (j - l.length) hj2
          rw [show l.length + (j - l.length) = j by omega] at this
          rw [this, hv2]
      · rw [World.frozen?_setCells]
        exact ⟨World.isSome_setCells g _ _ W _ (h.room i hi2).1, (h.room i hi2).2⟩
      · have key : ∀ (vs : List Value) (o : Nat) (w' : World), Below base W w' → Below base W (w'.setCells g o vs) := by
          intro vs
          induction vs with
          | nil => intro o w' hb; exact hb
          | cons v r ih => intro o w' hb; exact ih (o + 1) _ (hb.setCell (p := ⟨g, o, none⟩) h.b0 v)
        exact key _ _ _ (Below.refl _ _)
    · obtain ⟨v', w', hrun, h3, h4⟩ := run_append_arg_grows (P := Try.prog) W 24 ty 5 i0 (.int .u8 0) 1 1 u8S.und hi hz0 hz1 hz2 rfl (by decide) ⟨g, 0, none⟩ l.length cap (l.map B8) (by rw [List.length_map, Nat.mul_one]) (fun j u hu => by
          rw [Addr.add_mid, Nat.zero_add]
          exact h.cell j u hu) ad m c (r.map B8) (by rw [hlen, Nat.mul_one]) hnews (by omega) (by simp only [maxLen]; omega) (by omega)
      have hpos : 0 < l.length + m := by omega
      obtain ⟨A', c', rfl, hA⟩ := own_slice h3
      obtain ⟨g', rfl⟩ := hA hpos
      have hcap := own_cap h3
      have hrw := Row.of_own h3
      obtain ⟨cur, hcur⟩ := own_type h3 g' rfl
      have hg0 : W.heap.size ≤ g' := own_base h3 g' rfl
      rcases h3.2 with ⟨e, _⟩ | ⟨k, cap2, cur2, e, _, hk, hk2, hk3, hk4, hk5⟩
      · cases e
      · injection e with e1 e2 e3
        injection e1 with e1
        injection e1 with e1
        subst e1 e3
        refine ⟨g', c', w', hrun, ⟨Nat.le_trans hbase hg0, by rw [List.length_append, hr.1]; exact hcap.1, hcap.2, fun j v hv => ?_, fun i hi2 => ?_⟩, (Below.refl base W).grown h4 hbase (fun k hk => by cases hk)⟩
        · rw [List.map_append] at hv
          obtain ⟨b, off, e, hc⟩ := hrw (by intro e; rw [e] at hv; simp at hv)
          injection e with e
          injection e with e1 e2
          subst e1 e2
          have := hc j v hv
          rwa [Nat.zero_add] at this
        · refine ⟨?_, frozen_of_row w' g' i _ _ hk⟩
          rw [cell_of_row w' g' i _ _ _ hk, Array.getElem?_eq_getElem (by rw [hk4]; omega)]
          rfl
end Go.Proofs.Ytpppmijohfjigaa
