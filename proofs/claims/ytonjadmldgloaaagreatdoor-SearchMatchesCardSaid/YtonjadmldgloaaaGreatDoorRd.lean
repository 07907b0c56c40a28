/-
  How arguments of a law are opened, type by type: what the cells of each type that can be read hold. No program is in sight.
-/
import Derived.Test.YtonjadmldgloaaaGreatDoorRow
import Derived.Deep.Slices
import Derived.Lib.SmallJoins
namespace Go.Proofs.YtonjadmldgloaaaGreatDoor
open Go.ChangeShapes Go.WideShapes Go.ChangeAt Go.RowKit Go.Joins
set_option linter.unusedVariables false

section
variable {H : Type} {enc : TypeId × Value → H} {P : Program} {W : World} {base : Nat} {r : Reach} {b0 : Nat} {t : TypeId} {v : Value} {d : DataW H} {p : List MemPlace}

/-- What cells of type T hold: those of one of α, as f tells them. -/
def RdAs {H : Type} (enc : TypeId × Value → H) (P : Program) (W : World) (T : TypeId) {α : Type} (f : α → List Value) (good : α → Prop) : Prop :=
  ∀ n cs (y : DataW H × List MemPlace), DataW.trod enc P W 0 (fun _ => true) true n T cs = some y → ∃ a, cs = f a ∧ good a

def in64 (x : Int) : Prop := -9223372036854775808 ≤ x ∧ x ≤ 9223372036854775807
theorem rd_int (he : P.underlying t = some (.int .i64)) : RdAs enc P W t (fun x : Int => [.int .i64 x]) in64 := by
  intro n cs y h
  obtain ⟨x, rfl, _, wx⟩ := DataW.trod_int he h
  exact ⟨x, rfl, by simpa [in64, Lit.wf, IntKind.min, IntKind.max, IntKind.signed, IntKind.bits] using wx⟩
theorem rd_uint {k : IntKind} (hs : k.signed = false) (he : P.underlying t = some (.int k)) : RdAs enc P W t (fun x : Nat => [.int k x]) (fun x => (x : Int) ≤ k.max) := by
  intro n cs y h
  obtain ⟨x, rfl, _, wx⟩ := DataW.trod_int he h
  simp only [Lit.wf, IntKind.min, hs] at wx
  simp at wx
  obtain ⟨m, rfl⟩ := Int.eq_ofNat_of_zero_le wx.1
  exact ⟨m, rfl, wx.2⟩
theorem rd_u8 (he : P.underlying t = some (.int .u8)) : RdAs enc P W t (fun x : UInt8 => [B8 x]) (fun _ => True) := by
  intro n cs y h
  obtain ⟨x, rfl, hx⟩ := rd_uint (k := .u8) rfl he n cs y h
  have h1 : x ≤ 255 := by simp [IntKind.max, IntKind.signed, IntKind.bits] at hx; omega
  exact ⟨UInt8.ofNat x, by simp [B8, UInt8.toNat_ofNat', Nat.mod_eq_of_lt (show x < 256 by omega)], trivial⟩
theorem rd_bool (he : P.underlying t = some .bool) : RdAs enc P W t (fun x : Bool => [.bool x]) (fun _ => True) := by
  intro n cs y h
  obtain ⟨x, rfl, _⟩ := DataW.trod_bool he h
  exact ⟨x, rfl, trivial⟩
theorem rd_str (he : P.underlying t = some .string) : RdAs enc P W t (fun l : List UInt8 => [.string (str l)]) (fun l => l.length ≤ maxLen) := by
  intro n cs y h
  obtain ⟨s, rfl, _, hs⟩ := DataW.trod_string he h
  refine ⟨s.data.toList, ?_, by simpa using hs⟩
  show [Value.string s] = [Value.string (str s.data.toList)]
  have : str s.data.toList = s := by simp [str]
  rw [this]

/-- A slice whose elements are of α. -/
structure SlOf (α : Type) where
  A : Option Addr
  n : Nat
  c : Nat
  l : List α
def SlOf.val {α : Type} (s : SlOf α) : Value := .slice s.A s.n s.c
/-- What is known of it: its elements' cells, as f tells them, lie in w. -/
structure SlOf.Ok {α : Type} (f : α → List Value) (good : α → Prop) (w : World) (s : SlOf α) : Prop where
  nc : s.n ≤ s.c
  cm : s.c ≤ maxLen
  len : s.l.length = s.n
  row : Row w s.A (s.l.flatMap f)
  good : ∀ a ∈ s.l, good a

theorem flatMap_get {α : Type} (f : α → List Value) (k : Nat) (hk : ∀ a, (f a).length = k) : ∀ (l : List α) (i j : Nat) (hi : i < l.length), j < k → (l.flatMap f)[i * k + j]? = (f l[i])[j]?
  | [], i, j, hi, _ => absurd hi (Nat.not_lt_zero i)
  | a :: l, 0, j, hi, hj => by
    rw [List.flatMap_cons, Nat.zero_mul, Nat.zero_add, List.getElem?_append_left (by rw [hk]; exact hj)]
    rfl
  | a :: l, i + 1, j, hi, hj => by
    rw [List.flatMap_cons, List.getElem?_append_right (by rw [hk, Nat.add_mul]; omega), hk]
    rw [show (i + 1) * k + j - k = i * k + j by rw [Nat.add_mul]; omega]
    rw [flatMap_get f k hk l i j (by simpa using hi) hj]
    rfl
theorem flatMap_len {α : Type} (f : α → List Value) (k : Nat) (hk : ∀ a, (f a).length = k) (l : List α) : (l.flatMap f).length = l.length * k := by
  induction l with
  | nil => simp
  | cons a l ih => rw [List.flatMap_cons, List.length_append, hk, ih, List.length_cons, Nat.add_mul]; omega
/-- Element i's cells. -/
theorem row_elem {w : World} {A : Option Addr} {α : Type} {l : List α} {f : α → List Value} {k : Nat} (hr : Row w A (l.flatMap f)) (hk : ∀ a, (f a).length = k) (h0 : 0 < k) (i : Nat) (hi : i < l.length) :
    ∃ b off, A = some ⟨b, off, none⟩ ∧ ∀ i (hi : i < l.length) (j : Nat) u, (f l[i])[j]? = some u → w.cell? ⟨b, off + (i * k + j), none⟩ = some u := by
  have hne : l.flatMap f ≠ [] := by
    intro e
    have h1 := flatMap_len f k hk l
    rw [e] at h1
    have h2 : 0 < l.length * k := Nat.mul_pos (by omega) h0
    simp at h1
    omega
  obtain ⟨b, off, hA, hc⟩ := hr hne
  refine ⟨b, off, hA, fun i hi j u hu => hc _ u ?_⟩
  have hj : j < k := by
    rcases Nat.lt_or_ge j k with h | h
    · exact h
    · rw [List.getElem?_eq_none (by rw [hk]; exact h)] at hu
      cases hu
  rw [flatMap_get f k hk l i j hi hj]
  exact hu

theorem rd_slice {α : Type} {f : α → List Value} {good : α → Prop} {e : TypeId} (ht : P.underlying t = some (.slice e)) (hE : RdAs enc P W e f good) (k : Nat) (hc : P.cellsOf e = k) (hk : ∀ a, (f a).length = k) :
    RdAs enc P W t (fun s : SlOf α => [s.val]) (SlOf.Ok f good W) := by
  intro fuel cs y hf
  rcases Deep.open_slice ht hf with ⟨rfl, _⟩ | ⟨a, len, cap, m, n, D, Pl, rfl, _, hl, hm, hmm, _, hV⟩
  · exact ⟨⟨none, 0, 0, []⟩, rfl, ⟨Nat.le_refl _, Nat.zero_le _, rfl, Row.nil _ _, fun a ha => by cases ha⟩⟩
  · have hmc : m = cap := by simpa using hmm
    subst hmc
    obtain ⟨L, hL, hp⟩ := list_of_fun len (fun i b => (∀ j, j < k → W.cell? (a.add (i * k + j)) = (f b)[j]?) ∧ good b) (fun i hi => by
      obtain ⟨cs', hcs, htr⟩ := hV i (by omega)
      obtain ⟨b, rfl, hb⟩ := hE _ _ _ htr
      obtain ⟨_, _, hcell⟩ := World.cells?_some hcs
      refine ⟨b, fun j hj => ?_, hb⟩
      rw [hc] at hcell
      have := hcell j hj
      rwa [Deep.add_add] at this)
    refine ⟨⟨some a, len, m, L⟩, rfl, ⟨hl, hm, hL, fun hne => ?_, fun b hb => ?_⟩⟩
    · have hlen := flatMap_len f k hk L
      have hpos : 0 < L.length * k := by
        rcases Nat.eq_zero_or_pos (L.length * k) with h0 | h0
        · exact absurd (List.eq_nil_of_length_eq_zero (hlen.trans h0)) hne
        · exact h0
      have hL0 : 0 < L.length := Nat.pos_of_mul_pos_right hpos
      have hk0 : 0 < k := Nat.pos_of_mul_pos_left hpos
      obtain ⟨b, off, spot⟩ := a
      have hsp : spot = none := by
        have h1 := (hp 0 hL0).1 0 hk0
        rw [List.getElem?_eq_getElem (by rw [hk]; exact hk0)] at h1
        have := World.cell?_spot h1
        simpa [Addr.add] using this
      subst hsp
      refine ⟨b, off, rfl, fun q u hu => ?_⟩
      have hq : q < L.length * k := by
        rcases Nat.lt_or_ge q (L.length * k) with h | h
        · exact h
        · rw [List.getElem?_eq_none (by rw [hlen]; exact h)] at hu
          cases hu
      have hqi : q / k < L.length := (Nat.div_lt_iff_lt_mul hk0).2 hq
      have hqj : q % k < k := Nat.mod_lt _ hk0
      have hqq : q / k * k + q % k = q := by rw [Nat.mul_comm]; exact Nat.div_add_mod q k
      have h1 := (hp (q / k) hqi).1 (q % k) hqj
      rw [← flatMap_get f k hk L (q / k) (q % k) hqi hqj, hqq, Addr.add_mid] at h1
      rw [h1]
      exact hu
    · obtain ⟨i, hi, rfl⟩ := List.getElem_of_mem hb
      exact (hp i hi).2

theorem cut_cells (cs : List Value) (o k m : Nat) (h : o + k = m) : cs.drop o = (cs.drop o).take k ++ cs.drop m := by
  subst h
  rw [← List.drop_drop, List.take_append_drop]
theorem end_cells (cs : List Value) (o : Nat) (h : cs.length = o) : cs.drop o = [] := by
  rw [List.drop_eq_nil_of_le (by omega)]

theorem rd_struct1 {α0 : Type} {g0 : α0 → List Value} {good0 : α0 → Prop} {f0 : Field} (ht : P.underlying t = some (.struct #[f0])) (h0 : RdAs enc P W f0.type g0 good0) 
    (ho : f0.offset = 0 ∧ P.cellsOf t = f0.offset + P.cellsOf f0.type) :
    RdAs enc P W t (fun x : α0 => g0 x) (fun x => good0 x) := by
  intro fuel cs y hf
  obtain ⟨xs, m, _, _, hlen, hxl, hg⟩ := DataW.trod_struct ht hf
  obtain ⟨o0, oe⟩ := ho
  have hx (i : Nat) (hi : i < 1) : ∃ z, xs[i]? = some z := ⟨xs[i]'(by rw [hxl]; exact hi), List.getElem?_eq_getElem _⟩
  obtain ⟨z0, hz0⟩ := hx 0 (by omega)
  obtain ⟨a0, e0, k0⟩ := h0 _ _ _ ((hg 0 f0 rfl).trans hz0)
  refine ⟨a0, ?_, k0⟩
  have q : cs.drop f0.offset = cs := by rw [o0]; rfl
  rw [← q]
  rw [cut_cells cs f0.offset (P.cellsOf f0.type) (P.cellsOf t) oe.symm, e0]
  rw [end_cells cs _ hlen, List.append_nil]

theorem rd_struct2 {α0 α1 : Type} {g0 : α0 → List Value} {good0 : α0 → Prop} {g1 : α1 → List Value} {good1 : α1 → Prop} {f0 f1 : Field} (ht : P.underlying t = some (.struct #[f0, f1])) (h0 : RdAs enc P W f0.type g0 good0) (h1 : RdAs enc P W f1.type g1 good1) 
    (ho : f0.offset = 0 ∧ f1.offset = f0.offset + P.cellsOf f0.type ∧ P.cellsOf t = f1.offset + P.cellsOf f1.type) :
    RdAs enc P W t (fun x : α0 × α1 => g0 x.1 ++ (g1 x.2)) (fun x => good0 x.1 ∧ good1 x.2) := by
  intro fuel cs y hf
  obtain ⟨xs, m, _, _, hlen, hxl, hg⟩ := DataW.trod_struct ht hf
  obtain ⟨o0, o1, oe⟩ := ho
  have hx (i : Nat) (hi : i < 2) : ∃ z, xs[i]? = some z := ⟨xs[i]'(by rw [hxl]; exact hi), List.getElem?_eq_getElem _⟩
  obtain ⟨z0, hz0⟩ := hx 0 (by omega)
  obtain ⟨a0, e0, k0⟩ := h0 _ _ _ ((hg 0 f0 rfl).trans hz0)
  obtain ⟨z1, hz1⟩ := hx 1 (by omega)
  obtain ⟨a1, e1, k1⟩ := h1 _ _ _ ((hg 1 f1 rfl).trans hz1)
  refine ⟨(a0, a1), ?_, ⟨k0, k1⟩⟩
  have q : cs.drop f0.offset = cs := by rw [o0]; rfl
  rw [← q]
  rw [cut_cells cs f0.offset (P.cellsOf f0.type) f1.offset o1.symm, e0]
  rw [cut_cells cs f1.offset (P.cellsOf f1.type) (P.cellsOf t) oe.symm, e1]
  rw [end_cells cs _ hlen, List.append_nil]

theorem rd_struct3 {α0 α1 α2 : Type} {g0 : α0 → List Value} {good0 : α0 → Prop} {g1 : α1 → List Value} {good1 : α1 → Prop} {g2 : α2 → List Value} {good2 : α2 → Prop} {f0 f1 f2 : Field} (ht : P.underlying t = some (.struct #[f0, f1, f2])) (h0 : RdAs enc P W f0.type g0 good0) (h1 : RdAs enc P W f1.type g1 good1) (h2 : RdAs enc P W f2.type g2 good2) 
    (ho : f0.offset = 0 ∧ f1.offset = f0.offset + P.cellsOf f0.type ∧ f2.offset = f1.offset + P.cellsOf f1.type ∧ P.cellsOf t = f2.offset + P.cellsOf f2.type) :
    RdAs enc P W t (fun x : α0 × α1 × α2 => g0 x.1 ++ (g1 x.2.1 ++ (g2 x.2.2))) (fun x => good0 x.1 ∧ good1 x.2.1 ∧ good2 x.2.2) := by
  intro fuel cs y hf
  obtain ⟨xs, m, _, _, hlen, hxl, hg⟩ := DataW.trod_struct ht hf
  obtain ⟨o0, o1, o2, oe⟩ := ho
  have hx (i : Nat) (hi : i < 3) : ∃ z, xs[i]? = some z := ⟨xs[i]'(by rw [hxl]; exact hi), List.getElem?_eq_getElem _⟩
  obtain ⟨z0, hz0⟩ := hx 0 (by omega)
  obtain ⟨a0, e0, k0⟩ := h0 _ _ _ ((hg 0 f0 rfl).trans hz0)
  obtain ⟨z1, hz1⟩ := hx 1 (by omega)
  obtain ⟨a1, e1, k1⟩ := h1 _ _ _ ((hg 1 f1 rfl).trans hz1)
  obtain ⟨z2, hz2⟩ := hx 2 (by omega)
  obtain ⟨a2, e2, k2⟩ := h2 _ _ _ ((hg 2 f2 rfl).trans hz2)
  refine ⟨(a0, a1, a2), ?_, ⟨k0, k1, k2⟩⟩
  have q : cs.drop f0.offset = cs := by rw [o0]; rfl
  rw [← q]
  rw [cut_cells cs f0.offset (P.cellsOf f0.type) f1.offset o1.symm, e0]
  rw [cut_cells cs f1.offset (P.cellsOf f1.type) f2.offset o2.symm, e1]
  rw [cut_cells cs f2.offset (P.cellsOf f2.type) (P.cellsOf t) oe.symm, e2]
  rw [end_cells cs _ hlen, List.append_nil]
  all_goals simp only [List.append_assoc]

theorem rd_struct4 {α0 α1 α2 α3 : Type} {g0 : α0 → List Value} {good0 : α0 → Prop} {g1 : α1 → List Value} {good1 : α1 → Prop} {g2 : α2 → List Value} {good2 : α2 → Prop} {g3 : α3 → List Value} {good3 : α3 → Prop} {f0 f1 f2 f3 : Field} (ht : P.underlying t = some (.struct #[f0, f1, f2, f3])) (h0 : RdAs enc P W f0.type g0 good0) (h1 : RdAs enc P W f1.type g1 good1) (h2 : RdAs enc P W f2.type g2 good2) (h3 : RdAs enc P W f3.type g3 good3) 
    (ho : f0.offset = 0 ∧ f1.offset = f0.offset + P.cellsOf f0.type ∧ f2.offset = f1.offset + P.cellsOf f1.type ∧ f3.offset = f2.offset + P.cellsOf f2.type ∧ P.cellsOf t = f3.offset + P.cellsOf f3.type) :
    RdAs enc P W t (fun x : α0 × α1 × α2 × α3 => g0 x.1 ++ (g1 x.2.1 ++ (g2 x.2.2.1 ++ (g3 x.2.2.2)))) (fun x => good0 x.1 ∧ good1 x.2.1 ∧ good2 x.2.2.1 ∧ good3 x.2.2.2) := by
  intro fuel cs y hf
  obtain ⟨xs, m, _, _, hlen, hxl, hg⟩ := DataW.trod_struct ht hf
  obtain ⟨o0, o1, o2, o3, oe⟩ := ho
  have hx (i : Nat) (hi : i < 4) : ∃ z, xs[i]? = some z := ⟨xs[i]'(by rw [hxl]; exact hi), List.getElem?_eq_getElem _⟩
  obtain ⟨z0, hz0⟩ := hx 0 (by omega)
  obtain ⟨a0, e0, k0⟩ := h0 _ _ _ ((hg 0 f0 rfl).trans hz0)
  obtain ⟨z1, hz1⟩ := hx 1 (by omega)
  obtain ⟨a1, e1, k1⟩ := h1 _ _ _ ((hg 1 f1 rfl).trans hz1)
  obtain ⟨z2, hz2⟩ := hx 2 (by omega)
  obtain ⟨a2, e2, k2⟩ := h2 _ _ _ ((hg 2 f2 rfl).trans hz2)
  obtain ⟨z3, hz3⟩ := hx 3 (by omega)
  obtain ⟨a3, e3, k3⟩ := h3 _ _ _ ((hg 3 f3 rfl).trans hz3)
  refine ⟨(a0, a1, a2, a3), ?_, ⟨k0, k1, k2, k3⟩⟩
  have q : cs.drop f0.offset = cs := by rw [o0]; rfl
  rw [← q]
  rw [cut_cells cs f0.offset (P.cellsOf f0.type) f1.offset o1.symm, e0]
  rw [cut_cells cs f1.offset (P.cellsOf f1.type) f2.offset o2.symm, e1]
  rw [cut_cells cs f2.offset (P.cellsOf f2.type) f3.offset o3.symm, e2]
  rw [cut_cells cs f3.offset (P.cellsOf f3.type) (P.cellsOf t) oe.symm, e3]
  rw [end_cells cs _ hlen, List.append_nil]
  all_goals simp only [List.append_assoc]

theorem rd_struct5 {α0 α1 α2 α3 α4 : Type} {g0 : α0 → List Value} {good0 : α0 → Prop} {g1 : α1 → List Value} {good1 : α1 → Prop} {g2 : α2 → List Value} {good2 : α2 → Prop} {g3 : α3 → List Value} {good3 : α3 → Prop} {g4 : α4 → List Value} {good4 : α4 → Prop} {f0 f1 f2 f3 f4 : Field} (ht : P.underlying t = some (.struct #[f0, f1, f2, f3, f4])) (h0 : RdAs enc P W f0.type g0 good0) (h1 : RdAs enc P W f1.type g1 good1) (h2 : RdAs enc P W f2.type g2 good2) (h3 : RdAs enc P W f3.type g3 good3) (h4 : RdAs enc P W f4.type g4 good4) 
    (ho : f0.offset = 0 ∧ f1.offset = f0.offset + P.cellsOf f0.type ∧ f2.offset = f1.offset + P.cellsOf f1.type ∧ f3.offset = f2.offset + P.cellsOf f2.type ∧ f4.offset = f3.offset + P.cellsOf f3.type ∧ P.cellsOf t = f4.offset + P.cellsOf f4.type) :
    RdAs enc P W t (fun x : α0 × α1 × α2 × α3 × α4 => g0 x.1 ++ (g1 x.2.1 ++ (g2 x.2.2.1 ++ (g3 x.2.2.2.1 ++ (g4 x.2.2.2.2))))) (fun x => good0 x.1 ∧ good1 x.2.1 ∧ good2 x.2.2.1 ∧ good3 x.2.2.2.1 ∧ good4 x.2.2.2.2) := by
  intro fuel cs y hf
  obtain ⟨xs, m, _, _, hlen, hxl, hg⟩ := DataW.trod_struct ht hf
  obtain ⟨o0, o1, o2, o3, o4, oe⟩ := ho
  have hx (i : Nat) (hi : i < 5) : ∃ z, xs[i]? = some z := ⟨xs[i]'(by rw [hxl]; exact hi), List.getElem?_eq_getElem _⟩
  obtain ⟨z0, hz0⟩ := hx 0 (by omega)
  obtain ⟨a0, e0, k0⟩ := h0 _ _ _ ((hg 0 f0 rfl).trans hz0)
  obtain ⟨z1, hz1⟩ := hx 1 (by omega)
  obtain ⟨a1, e1, k1⟩ := h1 _ _ _ ((hg 1 f1 rfl).trans hz1)
  obtain ⟨z2, hz2⟩ := hx 2 (by omega)
  obtain ⟨a2, e2, k2⟩ := h2 _ _ _ ((hg 2 f2 rfl).trans hz2)
  obtain ⟨z3, hz3⟩ := hx 3 (by omega)
  obtain ⟨a3, e3, k3⟩ := h3 _ _ _ ((hg 3 f3 rfl).trans hz3)
  obtain ⟨z4, hz4⟩ := hx 4 (by omega)
  obtain ⟨a4, e4, k4⟩ := h4 _ _ _ ((hg 4 f4 rfl).trans hz4)
  refine ⟨(a0, a1, a2, a3, a4), ?_, ⟨k0, k1, k2, k3, k4⟩⟩
  have q : cs.drop f0.offset = cs := by rw [o0]; rfl
  rw [← q]
  rw [cut_cells cs f0.offset (P.cellsOf f0.type) f1.offset o1.symm, e0]
  rw [cut_cells cs f1.offset (P.cellsOf f1.type) f2.offset o2.symm, e1]
  rw [cut_cells cs f2.offset (P.cellsOf f2.type) f3.offset o3.symm, e2]
  rw [cut_cells cs f3.offset (P.cellsOf f3.type) f4.offset o4.symm, e3]
  rw [cut_cells cs f4.offset (P.cellsOf f4.type) (P.cellsOf t) oe.symm, e4]
  rw [end_cells cs _ hlen, List.append_nil]
  all_goals simp only [List.append_assoc]

theorem rd_struct6 {α0 α1 α2 α3 α4 α5 : Type} {g0 : α0 → List Value} {good0 : α0 → Prop} {g1 : α1 → List Value} {good1 : α1 → Prop} {g2 : α2 → List Value} {good2 : α2 → Prop} {g3 : α3 → List Value} {good3 : α3 → Prop} {g4 : α4 → List Value} {good4 : α4 → Prop} {g5 : α5 → List Value} {good5 : α5 → Prop} {f0 f1 f2 f3 f4 f5 : Field} (ht : P.underlying t = some (.struct #[f0, f1, f2, f3, f4, f5])) (h0 : RdAs enc P W f0.type g0 good0) (h1 : RdAs enc P W f1.type g1 good1) (h2 : RdAs enc P W f2.type g2 good2) (h3 : RdAs enc P W f3.type g3 good3) (h4 : RdAs enc P W f4.type g4 good4) (h5 : RdAs enc P W f5.type g5 good5) 
    (ho : f0.offset = 0 ∧ f1.offset = f0.offset + P.cellsOf f0.type ∧ f2.offset = f1.offset + P.cellsOf f1.type ∧ f3.offset = f2.offset + P.cellsOf f2.type ∧ f4.offset = f3.offset + P.cellsOf f3.type ∧ f5.offset = f4.offset + P.cellsOf f4.type ∧ P.cellsOf t = f5.offset + P.cellsOf f5.type) :
    RdAs enc P W t (fun x : α0 × α1 × α2 × α3 × α4 × α5 => g0 x.1 ++ (g1 x.2.1 ++ (g2 x.2.2.1 ++ (g3 x.2.2.2.1 ++ (g4 x.2.2.2.2.1 ++ (g5 x.2.2.2.2.2)))))) (fun x => good0 x.1 ∧ good1 x.2.1 ∧ good2 x.2.2.1 ∧ good3 x.2.2.2.1 ∧ good4 x.2.2.2.2.1 ∧ good5 x.2.2.2.2.2) := by
  intro fuel cs y hf
  obtain ⟨xs, m, _, _, hlen, hxl, hg⟩ := DataW.trod_struct ht hf
  obtain ⟨o0, o1, o2, o3, o4, o5, oe⟩ := ho
  have hx (i : Nat) (hi : i < 6) : ∃ z, xs[i]? = some z := ⟨xs[i]'(by rw [hxl]; exact hi), List.getElem?_eq_getElem _⟩
  obtain ⟨z0, hz0⟩ := hx 0 (by omega)
  obtain ⟨a0, e0, k0⟩ := h0 _ _ _ ((hg 0 f0 rfl).trans hz0)
  obtain ⟨z1, hz1⟩ := hx 1 (by omega)
  obtain ⟨a1, e1, k1⟩ := h1 _ _ _ ((hg 1 f1 rfl).trans hz1)
  obtain ⟨z2, hz2⟩ := hx 2 (by omega)
  obtain ⟨a2, e2, k2⟩ := h2 _ _ _ ((hg 2 f2 rfl).trans hz2)
  obtain ⟨z3, hz3⟩ := hx 3 (by omega)
  obtain ⟨a3, e3, k3⟩ := h3 _ _ _ ((hg 3 f3 rfl).trans hz3)
  obtain ⟨z4, hz4⟩ := hx 4 (by omega)
  obtain ⟨a4, e4, k4⟩ := h4 _ _ _ ((hg 4 f4 rfl).trans hz4)
  obtain ⟨z5, hz5⟩ := hx 5 (by omega)
  obtain ⟨a5, e5, k5⟩ := h5 _ _ _ ((hg 5 f5 rfl).trans hz5)
  refine ⟨(a0, a1, a2, a3, a4, a5), ?_, ⟨k0, k1, k2, k3, k4, k5⟩⟩
  have q : cs.drop f0.offset = cs := by rw [o0]; rfl
  rw [← q]
  rw [cut_cells cs f0.offset (P.cellsOf f0.type) f1.offset o1.symm, e0]
  rw [cut_cells cs f1.offset (P.cellsOf f1.type) f2.offset o2.symm, e1]
  rw [cut_cells cs f2.offset (P.cellsOf f2.type) f3.offset o3.symm, e2]
  rw [cut_cells cs f3.offset (P.cellsOf f3.type) f4.offset o4.symm, e3]
  rw [cut_cells cs f4.offset (P.cellsOf f4.type) f5.offset o5.symm, e4]
  rw [cut_cells cs f5.offset (P.cellsOf f5.type) (P.cellsOf t) oe.symm, e5]
  rw [end_cells cs _ hlen, List.append_nil]
  all_goals simp only [List.append_assoc]

theorem rd_struct7 {α0 α1 α2 α3 α4 α5 α6 : Type} {g0 : α0 → List Value} {good0 : α0 → Prop} {g1 : α1 → List Value} {good1 : α1 → Prop} {g2 : α2 → List Value} {good2 : α2 → Prop} {g3 : α3 → List Value} {good3 : α3 → Prop} {g4 : α4 → List Value} {good4 : α4 → Prop} {g5 : α5 → List Value} {good5 : α5 → Prop} {g6 : α6 → List Value} {good6 : α6 → Prop} {f0 f1 f2 f3 f4 f5 f6 : Field} (ht : P.underlying t = some (.struct #[f0, f1, f2, f3, f4, f5, f6])) (h0 : RdAs enc P W f0.type g0 good0) (h1 : RdAs enc P W f1.type g1 good1) (h2 : RdAs enc P W f2.type g2 good2) (h3 : RdAs enc P W f3.type g3 good3) (h4 : RdAs enc P W f4.type g4 good4) (h5 : RdAs enc P W f5.type g5 good5) (h6 : RdAs enc P W f6.type g6 good6) 
    (ho : f0.offset = 0 ∧ f1.offset = f0.offset + P.cellsOf f0.type ∧ f2.offset = f1.offset + P.cellsOf f1.type ∧ f3.offset = f2.offset + P.cellsOf f2.type ∧ f4.offset = f3.offset + P.cellsOf f3.type ∧ f5.offset = f4.offset + P.cellsOf f4.type ∧ f6.offset = f5.offset + P.cellsOf f5.type ∧ P.cellsOf t = f6.offset + P.cellsOf f6.type) :
    RdAs enc P W t (fun x : α0 × α1 × α2 × α3 × α4 × α5 × α6 => g0 x.1 ++ (g1 x.2.1 ++ (g2 x.2.2.1 ++ (g3 x.2.2.2.1 ++ (g4 x.2.2.2.2.1 ++ (g5 x.2.2.2.2.2.1 ++ (g6 x.2.2.2.2.2.2))))))) (fun x => good0 x.1 ∧ good1 x.2.1 ∧ good2 x.2.2.1 ∧ good3 x.2.2.2.1 ∧ good4 x.2.2.2.2.1 ∧ good5 x.2.2.2.2.2.1 ∧ good6 x.2.2.2.2.2.2) := by
  intro fuel cs y hf
  obtain ⟨xs, m, _, _, hlen, hxl, hg⟩ := DataW.trod_struct ht hf
  obtain ⟨o0, o1, o2, o3, o4, o5, o6, oe⟩ := ho
  have hx (i : Nat) (hi : i < 7) : ∃ z, xs[i]? = some z := ⟨xs[i]'(by rw [hxl]; exact hi), List.getElem?_eq_getElem _⟩
  obtain ⟨z0, hz0⟩ := hx 0 (by omega)
  obtain ⟨a0, e0, k0⟩ := h0 _ _ _ ((hg 0 f0 rfl).trans hz0)
  obtain ⟨z1, hz1⟩ := hx 1 (by omega)
  obtain ⟨a1, e1, k1⟩ := h1 _ _ _ ((hg 1 f1 rfl).trans hz1)
  obtain ⟨z2, hz2⟩ := hx 2 (by omega)
  obtain ⟨a2, e2, k2⟩ := h2 _ _ _ ((hg 2 f2 rfl).trans hz2)
  obtain ⟨z3, hz3⟩ := hx 3 (by omega)
  obtain ⟨a3, e3, k3⟩ := h3 _ _ _ ((hg 3 f3 rfl).trans hz3)
  obtain ⟨z4, hz4⟩ := hx 4 (by omega)
  obtain ⟨a4, e4, k4⟩ := h4 _ _ _ ((hg 4 f4 rfl).trans hz4)
  obtain ⟨z5, hz5⟩ := hx 5 (by omega)
  obtain ⟨a5, e5, k5⟩ := h5 _ _ _ ((hg 5 f5 rfl).trans hz5)
  obtain ⟨z6, hz6⟩ := hx 6 (by omega)
  obtain ⟨a6, e6, k6⟩ := h6 _ _ _ ((hg 6 f6 rfl).trans hz6)
  refine ⟨(a0, a1, a2, a3, a4, a5, a6), ?_, ⟨k0, k1, k2, k3, k4, k5, k6⟩⟩
  have q : cs.drop f0.offset = cs := by rw [o0]; rfl
  rw [← q]
  rw [cut_cells cs f0.offset (P.cellsOf f0.type) f1.offset o1.symm, e0]
  rw [cut_cells cs f1.offset (P.cellsOf f1.type) f2.offset o2.symm, e1]
  rw [cut_cells cs f2.offset (P.cellsOf f2.type) f3.offset o3.symm, e2]
  rw [cut_cells cs f3.offset (P.cellsOf f3.type) f4.offset o4.symm, e3]
  rw [cut_cells cs f4.offset (P.cellsOf f4.type) f5.offset o5.symm, e4]
  rw [cut_cells cs f5.offset (P.cellsOf f5.type) f6.offset o6.symm, e5]
  rw [cut_cells cs f6.offset (P.cellsOf f6.type) (P.cellsOf t) oe.symm, e6]
  rw [end_cells cs _ hlen, List.append_nil]
  all_goals simp only [List.append_assoc]


/-- A parameter whose value lies in one cell. -/
theorem arg_sl {α : Type} {f : α → List Value} {good : α → Prop} {e : TypeId} (ht : P.underlying t = some (.slice e)) (hE : RdAs enc P W e f good) (k : Nat) (hc : P.cellsOf e = k) (hk : ∀ a, (f a).length = k)
    (hval : Value.okWide P W r b0 t v) (h : DataW.Trod enc P W 0 (fun _ => true) true t v d p) : ∃ s : SlOf α, v = s.val ∧ s.Ok f good W := by
  obtain ⟨a, n, c, rfl⟩ := okWide_slice ht hval
  obtain ⟨fuel, hf⟩ := h
  obtain ⟨s, hs, hg⟩ := rd_slice ht hE k hc hk fuel _ _ hf
  injection hs with hs
  exact ⟨s, hs, hg⟩
/-- A parameter that is a struct by value. -/
theorem arg_st {α : Type} {f : α → List Value} {good : α → Prop} {fs : Array Field} (ht : P.underlying t = some (.struct fs)) (hR : RdAs enc P W t f good)
    (hval : Value.okWide P W r b0 t v) (h : DataW.Trod enc P W 0 (fun _ => true) true t v d p) : ∃ a : α, v = .agg (f a).toArray ∧ good a := by
  obtain ⟨cs, rfl, _⟩ := okWide_struct ht hval
  obtain ⟨fuel, hf⟩ := h
  obtain ⟨a, ha, hg⟩ := hR fuel _ _ hf
  refine ⟨a, ?_, hg⟩
  rw [← ha]
  rfl
end
/-- A slice of octets, out of a slice of whatever. -/
theorem oct_of_sl {w : World} {s : SlOf UInt8} (h : s.Ok (fun x => [B8 x]) (fun _ => True) w) : Oct w s.A s.n s.l := by
  refine ⟨h.len, ?_⟩
  have := h.row
  rwa [show s.l.flatMap (fun x => [B8 x]) = s.l.map B8 from by induction s.l with | nil => rfl | cons a l ih => simp [List.flatMap_cons, ih]] at this
end Go.Proofs.YtonjadmldgloaaaGreatDoor
