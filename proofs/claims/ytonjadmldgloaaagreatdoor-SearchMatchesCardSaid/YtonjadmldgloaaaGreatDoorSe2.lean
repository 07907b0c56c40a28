/-
  Keys and messages in memory. A part of the proof: see the head of the text that ends in 'Law'.
-/
import Derived.Test.YtonjadmldgloaaaGreatDoorSe1
import Derived.Test.YtonjadmldgloaaaGreatDoorRd
namespace Go.Proofs.YtonjadmldgloaaaGreatDoor
open Go.RowKit
set_option linter.unusedVariables false

def spanC (p : Int × Int) : List Value := [.int .i64 p.1, .int .i64 p.2]
def keyC (k : KeyT) : List Value := [.int .i64 k.kind, .string (str k.s), .string (str k.t), .int .i64 k.n, .slice k.SA k.sn k.sc, .slice k.LA k.ln k.lc]
def hitC (h : HitV) : List Value := [.int .i64 h.uid, .int .i64 h.sec, .int .i64 h.zone, .int .i64 h.size, .int .u64 (h.blob : Int), .slice h.FA h.fn h.fc, .int .i64 h.place, .int .i64 h.many, .int .i64 h.great, .slice h.BA h.bn h.bc]
def strV (s : List UInt8) : Value := .string (str s)
structure KeyOk (w : World) (m : Nat) (k : KeyT) : Prop where
  kind : in64 k.kind
  n : in64 k.n
  s : k.s.length ≤ m
  t : k.t.length ≤ m
  sl : k.sp.length = k.sn
  sm : k.sn ≤ m
  sc : k.sn ≤ k.sc
  sr : Row w k.SA (k.sp.flatMap spanC)
  s64 : ∀ p ∈ k.sp, in64 p.1 ∧ in64 p.2
  ll : k.l.length = k.ln
  lm : k.ln ≤ m
  lc : k.ln ≤ k.lc
  lr : Row w k.LA (k.l.flatMap keyC)
/-- A key in memory, and those within it; nothing is longer than m. -/
inductive KeyIn (w : World) (m : Nat) : KeyT → Prop
  | mk (k : KeyT) (ok : KeyOk w m k) (ch : ∀ x ∈ k.l, KeyIn w m x) : KeyIn w m k
theorem KeyIn.ok {w : World} {m : Nat} {k : KeyT} (h : KeyIn w m k) : KeyOk w m k := by
  cases h with
  | mk _ ok ch => exact ok
theorem KeyIn.ch {w : World} {m : Nat} {k : KeyT} (h : KeyIn w m k) : ∀ x ∈ k.l, KeyIn w m x := by
  cases h with
  | mk _ ok ch => exact ch
theorem KeyOk.below {w w' : World} {m : Nat} {k : KeyT} (h : KeyOk w m k) (b : Below w.heap.size w w') : KeyOk w' m k :=
  ⟨h.kind, h.n, h.s, h.t, h.sl, h.sm, h.sc, h.sr.below b, h.s64, h.ll, h.lm, h.lc, h.lr.below b⟩
theorem KeyIn.on {w w' : World} {m : Nat} {k : KeyT} (h : KeyIn w m k) (b : Below w.heap.size w w') : KeyIn w' m k := by
  induction h with
  | mk k ok ch ih => exact .mk k (ok.below b) ih
structure HitIn (w : World) (h : HitV) : Prop where
  i64 : in64 h.uid ∧ in64 h.sec ∧ in64 h.zone ∧ in64 h.size ∧ in64 h.place ∧ in64 h.many ∧ in64 h.great
  blob : h.blob ≤ 18446744073709551615
  fl : h.fl.length = h.fn
  fm : h.fn ≤ 24
  fc : h.fn ≤ h.fc
  fr : Row w h.FA (h.fl.map strV)
  bl : Oct w h.BA h.bn h.b
  bm : h.bn ≤ 600
  bc : h.bn ≤ h.bc
theorem HitIn.below {w w' : World} {h : HitV} (g : HitIn w h) (b : Below w.heap.size w w') : HitIn w' h :=
  ⟨g.i64, g.blob, g.fl, g.fm, g.fc, g.fr.below b, g.bl.below b, g.bm, g.bc⟩
theorem HitIn.len {w : World} {h : HitV} (g : HitIn w h) : h.b.length ≤ 600 := by rw [g.bl.len]; exact g.bm
/-- What the library's tables and variables hold. -/
structure Tabs (w : World) : Prop where
  u : Lib.Utf8Tabs 1 2 w
  m : ∃ n : Int, w.cell? ⟨0, 0, none⟩ = some (.int .i64 n)
theorem Tabs.below {w w' : World} (h : Tabs w) (b : Below w.heap.size w w') : Tabs w' :=
  ⟨⟨fun c hc => cells_keep b (h.u.1 c hc), fun i hi => ⟨cells_keep b (h.u.2 i hi).1, cells_keep b (h.u.2 i hi).2⟩⟩, by obtain ⟨n, hn⟩ := h.m; exact ⟨n, cells_keep b hn⟩⟩
theorem key_len (l : List KeyT) : (l.flatMap keyC).length = l.length * 6 := flatMap_len keyC 6 (fun _ => rfl) l
/-- A row of keys read at k. -/
theorem key_at {w : World} {A : Option Addr} {l : List KeyT} (h : Row w A (l.flatMap keyC)) {k : Nat} (hk : k < l.length) : ∃ b off, A = some ⟨b, off, none⟩ ∧ ∀ (j : Nat) (hj : j < l.length),
    w.cell? ⟨b, off + j * 6, none⟩ = some (.int .i64 (l[j]'hj).kind) ∧ w.cell? ⟨b, off + j * 6 + 1, none⟩ = some (.string (str (l[j]'hj).s)) ∧ w.cell? ⟨b, off + j * 6 + 2, none⟩ = some (.string (str (l[j]'hj).t)) ∧ w.cell? ⟨b, off + j * 6 + 3, none⟩ = some (.int .i64 (l[j]'hj).n) ∧
    w.cell? ⟨b, off + j * 6 + 4, none⟩ = some (.slice (l[j]'hj).SA (l[j]'hj).sn (l[j]'hj).sc) ∧ w.cell? ⟨b, off + j * 6 + 5, none⟩ = some (.slice (l[j]'hj).LA (l[j]'hj).ln (l[j]'hj).lc) := by
  obtain ⟨b, off, hA, hc⟩ := h (by intro e; have := congrArg List.length e; rw [key_len, List.length_nil] at this; omega)
  refine ⟨b, off, hA, fun j hj => ?_⟩
  have g := fun i hi => flatMap_get keyC 6 (fun _ => rfl) l j i hj hi
  exact ⟨hc (j * 6 + 0) _ ((g 0 (by omega)).trans rfl), hc (j * 6 + 1) _ ((g 1 (by omega)).trans rfl), hc (j * 6 + 2) _ ((g 2 (by omega)).trans rfl), hc (j * 6 + 3) _ ((g 3 (by omega)).trans rfl), hc (j * 6 + 4) _ ((g 4 (by omega)).trans rfl), hc (j * 6 + 5) _ ((g 5 (by omega)).trans rfl)⟩
/-- A row of spans read at k. -/
theorem span_at {w : World} {A : Option Addr} {l : List (Int × Int)} (h : Row w A (l.flatMap spanC)) {k : Nat} (hk : k < l.length) : ∃ b off, A = some ⟨b, off, none⟩ ∧ ∀ (j : Nat) (hj : j < l.length),
    w.cell? ⟨b, off + j * 2, none⟩ = some (.int .i64 (l[j]'hj).1) ∧ w.cell? ⟨b, off + j * 2 + 1, none⟩ = some (.int .i64 (l[j]'hj).2) := by
  obtain ⟨b, off, hA, hc⟩ := h (by intro e; have := congrArg List.length e; rw [flatMap_len spanC 2 (fun _ => rfl), List.length_nil] at this; omega)
  refine ⟨b, off, hA, fun j hj => ?_⟩
  have g := fun i hi => flatMap_get spanC 2 (fun _ => rfl) l j i hj hi
  exact ⟨hc (j * 2 + 0) _ ((g 0 (by omega)).trans rfl), hc (j * 2 + 1) _ ((g 1 (by omega)).trans rfl)⟩
/-- A row of texts read at k. -/
theorem str_at {w : World} {A : Option Addr} {l : List (List UInt8)} (h : Row w A (l.map strV)) {k : Nat} (hk : k < l.length) : ∃ b off, A = some ⟨b, off, none⟩ ∧ ∀ (j : Nat) (hj : j < l.length), w.cell? ⟨b, off + j, none⟩ = some (.string (str (l[j]'hj))) := by
  obtain ⟨b, off, hA, hc⟩ := h (by intro e; have := congrArg List.length e; rw [List.length_map, List.length_nil] at this; omega)
  exact ⟨b, off, hA, fun j hj => hc j _ (by rw [List.getElem?_map, List.getElem?_eq_getElem hj]; rfl)⟩
end Go.Proofs.YtonjadmldgloaaaGreatDoor
