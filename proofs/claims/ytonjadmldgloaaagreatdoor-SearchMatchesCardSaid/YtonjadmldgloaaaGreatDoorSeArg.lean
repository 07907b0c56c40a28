/-
  Keys and messages that are handed in. A part of the proof: see the head of the text that ends in 'Law'.
-/
import Derived.Test.YtonjadmldgloaaaGreatDoorRd
import Derived.Test.YtonjadmldgloaaaGreatDoorSe16
import Derived.Test.YtonjadmldgloaaaGreatDoorProg
namespace Go.Proofs.YtonjadmldgloaaaGreatDoor
open Go.ChangeShapes Go.WideShapes Go.ChangeAt Go.RowKit
set_option linter.unusedVariables false

section
variable {H : Type} {enc : TypeId × Value → H} {P : Program} {W : World} {base : Nat} {r : Reach} {b0 : Nat} {t : TypeId} {v : Value} {d : DataW H} {p : List MemPlace}
/-- What cells of type T hold, read so deep. -/
def RdAt {H : Type} (enc : TypeId × Value → H) (P : Program) (W : World) (n : Nat) (T : TypeId) {α : Type} (f : α → List Value) (good : α → Prop) : Prop :=
  ∀ cs (y : DataW H × List MemPlace), DataW.trod enc P W 0 (fun _ => true) true n T cs = some y → ∃ a, cs = f a ∧ good a
theorem rdat_zero {T : TypeId} {α : Type} {f : α → List Value} {good : α → Prop} : RdAt enc P W 0 T f good := by
  intro cs y h
  simp [DataW.trod] at h
theorem rdat_slice {n : Nat} {α : Type} {f : α → List Value} {good : α → Prop} {e : TypeId} (ht : P.underlying t = some (.slice e)) (hE : RdAt enc P W n e f good) (k : Nat) (hc : P.cellsOf e = k) (hk : ∀ a, (f a).length = k) :
    RdAt enc P W (n + 1) t (fun s : SlOf α => [s.val]) (SlOf.Ok f good W) := by
  intro cs y hf
  rcases DataW.trod_slice ht hf with ⟨rfl, _⟩ | ⟨a, len, cap, elems, rest, m, hfu, rfl, _, _, hl, hm, hlen, hel, _, _⟩
  · exact ⟨⟨none, 0, 0, []⟩, rfl, ⟨Nat.le_refl _, Nat.zero_le _, rfl, Row.nil _ _, fun a ha => by cases ha⟩⟩
  · obtain rfl : m = n := by omega
    obtain ⟨L, hL, hp⟩ := list_of_fun len (fun i b => (∀ j, j < k → W.cell? (a.add (i * k + j)) = (f b)[j]?) ∧ good b) (fun i hi => by
      have h1 := hel i hi
      rw [List.getElem?_eq_getElem (by rw [hlen]; exact hi)] at h1
      obtain ⟨cs', hcs, htr⟩ := Option.bind_eq_some_iff.1 h1
      obtain ⟨b, rfl, hb⟩ := hE _ _ htr
      obtain ⟨_, _, hcell⟩ := World.cells?_some hcs
      refine ⟨b, fun j hj => ?_, hb⟩
      rw [hc] at hcell
      have := hcell j hj
      rwa [Deep.add_add] at this)
    refine ⟨⟨some a, len, cap, L⟩, rfl, ⟨hl, hm, hL, fun hne => ?_, fun b hb => ?_⟩⟩
    · have hlen := flatMap_len f k hk L
      have hpos : 0 < L.length * k := by
        rcases Nat.eq_zero_or_pos (L.length * k) with h0 | h0
        · exact absurd (List.eq_nil_of_length_eq_zero (hlen.trans h0)) hne
        · exact h0
      have hL0 : 0 < L.length := Nat.pos_of_mul_pos_right hpos
      have hk0 : 0 < k := Nat.pos_of_mul_pos_left hpos
      obtain ⟨b, off, spot⟩ := a
      have hsp : spot = none := by
        have h1 := (hp 0 hL0).1 0 hk0
        rw [List.getElem?_eq_getElem (by rw [hk]; exact hk0)] at h1
        have := World.cell?_spot h1
        simpa [Addr.add] using this
      subst hsp
      refine ⟨b, off, rfl, fun q u hu => ?_⟩
      have hq : q < L.length * k := by
        rcases Nat.lt_or_ge q (L.length * k) with h | h
        · exact h
        · rw [List.getElem?_eq_none (by rw [hlen]; exact h)] at hu
          cases hu
      have hqi : q / k < L.length := (Nat.div_lt_iff_lt_mul hk0).2 hq
      have hqj : q % k < k := Nat.mod_lt _ hk0
      have hqq : q / k * k + q % k = q := by rw [Nat.mul_comm]; exact Nat.div_add_mod q k
      have h1 := (hp (q / k) hqi).1 (q % k) hqj
      rw [← flatMap_get f k hk L (q / k) (q % k) hqi hqj, hqq, Addr.add_mid] at h1
      rw [h1]
      exact hu
    · obtain ⟨i, hi, rfl⟩ := List.getElem_of_mem hb
      exact (hp i hi).2
theorem rdat_struct6 {n : Nat} {α0 α1 α2 α3 α4 α5 : Type} {g0 : α0 → List Value} {good0 : α0 → Prop} {g1 : α1 → List Value} {good1 : α1 → Prop} {g2 : α2 → List Value} {good2 : α2 → Prop} {g3 : α3 → List Value} {good3 : α3 → Prop} {g4 : α4 → List Value} {good4 : α4 → Prop} {g5 : α5 → List Value} {good5 : α5 → Prop} {f0 f1 f2 f3 f4 f5 : Field} (ht : P.underlying t = some (.struct #[f0, f1, f2, f3, f4, f5])) (h0 : RdAt enc P W n f0.type g0 good0) (h1 : RdAt enc P W n f1.type g1 good1) (h2 : RdAt enc P W n f2.type g2 good2) (h3 : RdAt enc P W n f3.type g3 good3) (h4 : RdAt enc P W n f4.type g4 good4) (h5 : RdAt enc P W n f5.type g5 good5)
    (ho : f0.offset = 0 ∧ f1.offset = f0.offset + P.cellsOf f0.type ∧ f2.offset = f1.offset + P.cellsOf f1.type ∧ f3.offset = f2.offset + P.cellsOf f2.type ∧ f4.offset = f3.offset + P.cellsOf f3.type ∧ f5.offset = f4.offset + P.cellsOf f4.type ∧ P.cellsOf t = f5.offset + P.cellsOf f5.type) :
    RdAt enc P W (n + 1) t (fun x : α0 × α1 × α2 × α3 × α4 × α5 => g0 x.1 ++ (g1 x.2.1 ++ (g2 x.2.2.1 ++ (g3 x.2.2.2.1 ++ (g4 x.2.2.2.2.1 ++ (g5 x.2.2.2.2.2)))))) (fun x => good0 x.1 ∧ good1 x.2.1 ∧ good2 x.2.2.1 ∧ good3 x.2.2.2.1 ∧ good4 x.2.2.2.2.1 ∧ good5 x.2.2.2.2.2) := by
  intro cs y hf
  obtain ⟨xs, m, hfu, _, hlen, hxl, hg⟩ := DataW.trod_struct ht hf
  obtain rfl : m = n := by omega
  obtain ⟨o0, o1, o2, o3, o4, o5, oe⟩ := ho
  have hx (i : Nat) (hi : i < 6) : ∃ z, xs[i]? = some z := ⟨xs[i]'(by rw [hxl]; exact hi), List.getElem?_eq_getElem _⟩
  obtain ⟨z0, hz0⟩ := hx 0 (by omega)
  obtain ⟨a0, e0, k0⟩ := h0 _ _ ((hg 0 f0 rfl).trans hz0)
  obtain ⟨z1, hz1⟩ := hx 1 (by omega)
  obtain ⟨a1, e1, k1⟩ := h1 _ _ ((hg 1 f1 rfl).trans hz1)
  obtain ⟨z2, hz2⟩ := hx 2 (by omega)
  obtain ⟨a2, e2, k2⟩ := h2 _ _ ((hg 2 f2 rfl).trans hz2)
  obtain ⟨z3, hz3⟩ := hx 3 (by omega)
  obtain ⟨a3, e3, k3⟩ := h3 _ _ ((hg 3 f3 rfl).trans hz3)
  obtain ⟨z4, hz4⟩ := hx 4 (by omega)
  obtain ⟨a4, e4, k4⟩ := h4 _ _ ((hg 4 f4 rfl).trans hz4)
  obtain ⟨z5, hz5⟩ := hx 5 (by omega)
  obtain ⟨a5, e5, k5⟩ := h5 _ _ ((hg 5 f5 rfl).trans hz5)
  refine ⟨(a0, a1, a2, a3, a4, a5), ?_, ⟨k0, k1, k2, k3, k4, k5⟩⟩
  have q : cs.drop f0.offset = cs := by rw [o0]; rfl
  rw [← q]
  rw [cut_cells cs f0.offset (P.cellsOf f0.type) f1.offset o1.symm, e0]
  rw [cut_cells cs f1.offset (P.cellsOf f1.type) f2.offset o2.symm, e1]
  rw [cut_cells cs f2.offset (P.cellsOf f2.type) f3.offset o3.symm, e2]
  rw [cut_cells cs f3.offset (P.cellsOf f3.type) f4.offset o4.symm, e3]
  rw [cut_cells cs f4.offset (P.cellsOf f4.type) f5.offset o5.symm, e4]
  rw [cut_cells cs f5.offset (P.cellsOf f5.type) (P.cellsOf t) oe.symm, e5]
  rw [end_cells cs _ hlen, List.append_nil]
  all_goals simp only [List.append_assoc]
end
set_option maxRecDepth 100000
section
variable {H : Type} {enc : TypeId × Value → H} {W : World} {r : Reach} {b0 : Nat} {v : Value} {d : DataW H} {p : List MemPlace}
abbrev SpA : Type := Int × Int
def spA (a : SpA) : List Value := [.int .i64 a.1] ++ [.int .i64 a.2]
theorem rd_span : RdAs enc Tryz.prog W 92 spA (fun a => in64 a.1 ∧ in64 a.2) := by
  have R := rd_struct2 Tryz.underlying92 (rd_int (enc := enc) (W := W) Tryz.underlying3) (rd_int Tryz.underlying3) ⟨rfl, by kernel_rfl, by kernel_rfl⟩
  exact R
abbrev KeyA : Type := Int × List UInt8 × List UInt8 × Int × SlOf SpA × SlOf KeyT
def keyA (a : KeyA) : List Value := [.int .i64 a.1] ++ ([.string (str a.2.1)] ++ ([.string (str a.2.2.1)] ++ ([.int .i64 a.2.2.2.1] ++ ([a.2.2.2.2.1.val] ++ [a.2.2.2.2.2.val]))))
def keyV (a : KeyA) : KeyT := ⟨a.1, a.2.1, a.2.2.1, a.2.2.2.1, a.2.2.2.2.1.A, a.2.2.2.2.1.n, a.2.2.2.2.1.c, a.2.2.2.2.1.l, a.2.2.2.2.2.A, a.2.2.2.2.2.n, a.2.2.2.2.2.c, a.2.2.2.2.2.l⟩
theorem rdat_keys (n : Nat) (ih : RdAt enc Tryz.prog W n 37 keyC (KeyIn W maxLen)) : RdAt enc Tryz.prog W (n + 1) 35 (fun s : SlOf KeyT => [s.val]) (SlOf.Ok keyC (KeyIn W maxLen) W) :=
  rdat_slice Tryz.underlying35 ih 6 (by kernel_rfl) (fun _ => rfl)
theorem rdat_key1 (n : Nat) (ih : RdAt enc Tryz.prog W n 35 (fun s : SlOf KeyT => [s.val]) (SlOf.Ok keyC (KeyIn W maxLen) W)) : RdAt enc Tryz.prog W (n + 1) 37 keyC (KeyIn W maxLen) := by
  have R := rdat_struct6 Tryz.underlying37 (rd_int (enc := enc) (W := W) Tryz.underlying3 n) (rd_str (enc := enc) (W := W) Tryz.underlying9 n) (rd_str (enc := enc) (W := W) Tryz.underlying9 n) (rd_int (enc := enc) (W := W) Tryz.underlying3 n) (rd_slice Tryz.underlying34 rd_span 2 (by kernel_rfl) (fun _ => rfl) n) ih ⟨rfl, by kernel_rfl, by kernel_rfl, by kernel_rfl, by kernel_rfl, by kernel_rfl, by kernel_rfl⟩
  intro cs y h
  obtain ⟨a, ha, g0, g1, g2, g3, g4, g5⟩ := R cs y h
  refine ⟨keyV a, ha.trans rfl, .mk _ ⟨g0, g3, g1, g2, g4.len, Nat.le_trans g4.nc g4.cm, g4.nc, g4.row, g4.good, g5.len, Nat.le_trans g5.nc g5.cm, g5.nc, g5.row⟩ g5.good⟩
theorem rdat_both : ∀ n, RdAt enc Tryz.prog W n 37 keyC (KeyIn W maxLen) ∧ RdAt enc Tryz.prog W n 35 (fun s : SlOf KeyT => [s.val]) (SlOf.Ok keyC (KeyIn W maxLen) W)
  | 0 => ⟨rdat_zero, rdat_zero⟩
  | n + 1 => ⟨rdat_key1 n (rdat_both n).2, rdat_keys n (rdat_both n).1⟩
theorem rd_key : RdAs enc Tryz.prog W 37 keyC (KeyIn W maxLen) := fun n => (rdat_both n).1
theorem arg_key (hval : Value.okWide Tryz.prog W r b0 37 v) (h : DataW.Trod enc Tryz.prog W 0 (fun _ => true) true 37 v d p) : ∃ k : KeyT, v = .agg (keyC k).toArray ∧ KeyIn W maxLen k :=
  arg_st Tryz.underlying37 rd_key hval h
abbrev MsgA : Type := Int × (Int × Int) × Int × Nat × SlOf (List UInt8)
def strC (a : List UInt8) : List Value := [.string (str a)]
def octC (a : UInt8) : List Value := [B8 a]
def msgA (a : MsgA) : List Value := [.int .i64 a.1] ++ (([.int .i64 a.2.1.1] ++ [.int .i64 a.2.1.2]) ++ ([.int .i64 a.2.2.1] ++ ([.int .u64 (a.2.2.2.1 : Int)] ++ [a.2.2.2.2.val])))
def okMsg (W : World) (a : MsgA) : Prop := in64 a.1 ∧ (in64 a.2.1.1 ∧ in64 a.2.1.2) ∧ in64 a.2.2.1 ∧ (a.2.2.2.1 : Int) ≤ IntKind.u64.max ∧ a.2.2.2.2.Ok strC (fun l => l.length ≤ maxLen) W
theorem rd_msg : RdAs enc Tryz.prog W 27 msgA (okMsg W) := by
  have D := rd_struct2 Tryz.underlying23 (rd_int (enc := enc) (W := W) Tryz.underlying3) (rd_int Tryz.underlying3) ⟨rfl, by kernel_rfl, by kernel_rfl⟩
  have R := rd_struct5 Tryz.underlying27 (rd_int (enc := enc) (W := W) Tryz.underlying3) D (rd_int Tryz.underlying3) (rd_uint (k := .u64) rfl Tryz.underlying24) (rd_slice Tryz.underlying25 (rd_str Tryz.underlying9) 1 (by kernel_rfl) (fun _ => rfl)) ⟨rfl, by kernel_rfl, by kernel_rfl, by kernel_rfl, by kernel_rfl, by kernel_rfl⟩
  exact R
abbrev HitA : Type := MsgA × Int × Int × Int × SlOf UInt8
def hitA (a : HitA) : List Value := msgA a.1 ++ ([.int .i64 a.2.1] ++ ([.int .i64 a.2.2.1] ++ ([.int .i64 a.2.2.2.1] ++ [a.2.2.2.2.val])))
def okHit (W : World) (a : HitA) : Prop := okMsg W a.1 ∧ in64 a.2.1 ∧ in64 a.2.2.1 ∧ in64 a.2.2.2.1 ∧ a.2.2.2.2.Ok octC (fun _ => True) W
theorem rd_hit : RdAs enc Tryz.prog W 30 hitA (okHit W) := by
  have R := rd_struct5 Tryz.underlying30 (rd_msg (enc := enc) (W := W)) (rd_int Tryz.underlying3) (rd_int Tryz.underlying3) (rd_int Tryz.underlying3) (rd_slice Tryz.underlying28 (rd_u8 Tryz.underlying5) 1 (by kernel_rfl) (fun _ => rfl)) ⟨rfl, by kernel_rfl, by kernel_rfl, by kernel_rfl, by kernel_rfl, by kernel_rfl⟩
  exact R
def hitV (a : HitA) : HitV := ⟨a.1.1, a.1.2.1.1, a.1.2.1.2, a.1.2.2.1, a.1.2.2.2.1, a.1.2.2.2.2.A, a.1.2.2.2.2.n, a.1.2.2.2.2.c, a.1.2.2.2.2.l, a.2.1, a.2.2.1, a.2.2.2.1, a.2.2.2.2.A, a.2.2.2.2.n, a.2.2.2.2.c, a.2.2.2.2.l⟩
theorem flat_strs (l : List (List UInt8)) : l.flatMap strC = l.map strV := by
  induction l with
  | nil => rfl
  | cons a r ih => rw [List.flatMap_cons, List.map_cons, ih]; rfl
theorem arg_hit (hval : Value.okWide Tryz.prog W r b0 30 v) (h : DataW.Trod enc Tryz.prog W 0 (fun _ => true) true 30 v d p) : ∃ k : HitV, v = .agg (hitC k).toArray ∧ HitBig W k := by
  obtain ⟨a, ha, g⟩ := arg_st Tryz.underlying30 rd_hit hval h
  obtain ⟨⟨g0, ⟨g1, g2⟩, g3, g4, g5⟩, g6, g7, g8, g9⟩ := g
  refine ⟨hitV a, ha.trans rfl, ⟨⟨g0, g1, g2, g3, g6, g7, g8⟩, ?_, g5.len, g5.nc, ?_, oct_of_sl g9, g9.nc⟩⟩
  · have e : IntKind.u64.max = 18446744073709551615 := by decide
    rw [e] at g4
    show a.1.2.2.2.1 ≤ 18446744073709551615
    omega
  · have := g5.row
    rw [flat_strs] at this
    exact this
end
end Go.Proofs.YtonjadmldgloaaaGreatDoor
