/-
  Transactions: may one be. A part of the proof: see the head of the text that ends in 'Law'.
-/
import Derived.Test.YtpppmijohfjigaaDkE
import Derived.Test.YtpppmijohfjigaaCrcRef
import Derived.Test.YtpppmijohfjigaaOctRefNum
import Derived.Maps.OwnSet
namespace Go.Proofs.Ytpppmijohfjigaa
open Go.RowKit
set_option linter.unusedVariables false
set_option maxRecDepth 100000
attribute [local go_sem] Oper.semAt_some

theorem lt_t {a b : Nat} (h : a < b) : decide ((a : Int) < (b : Int)) = true := by simp; omega
theorem lt_nt {a b : Nat} (h : a < b) : decide (a < b) = true := by simpa using h
theorem lt_f {a b : Nat} (h : ¬ a < b) : decide ((a : Int) < (b : Int)) = false := by simp; omega
theorem lt_nf {a b : Nat} (h : ¬ a < b) : decide (a < b) = false := by simpa using h
theorem ne_f {a b : Nat} (h : a ≠ b) : ((a : Int) == (b : Int)) = false := by simp; omega
theorem ne_n {a b : Nat} (h : a ≠ b) : (a == b) = false := by simpa using h
/-- One of a transaction's: where it belongs, and the slice that holds its octets. -/
structure PuV where
  at_ : Int
  A : Option Addr
  n : Nat
  c : Nat
  l : List UInt8
def PuV.p (v : PuV) : Iss := (v.at_, v.l)
def puC (v : PuV) : List Value := [.int .i64 v.at_, .slice v.A v.n v.c]
def W64 (x : Int) : Prop := -9223372036854775808 ≤ x ∧ x ≤ 9223372036854775807
structure PutsIn (W : World) (A : Option Addr) (n : Nat) (vs : List PuV) : Prop where
  len : vs.length = n
  row : Row W A (vs.flatMap puC)
  oct : ∀ v ∈ vs, Oct W v.A v.n v.l
  i64 : ∀ v ∈ vs, W64 v.at_
  cap : ∀ v ∈ vs, v.n ≤ v.c
theorem PutsIn.below {W W' : World} {A : Option Addr} {n : Nat} {vs : List PuV} (h : PutsIn W A n vs) (hb : Below W.heap.size W W') : PutsIn W' A n vs :=
  ⟨h.len, h.row.below hb, fun v hv => (h.oct v hv).below hb, h.i64, h.cap⟩
theorem puC_len (l : List PuV) : (l.flatMap puC).length = l.length * 2 := by
  induction l with
  | nil => rfl
  | cons x r ih => simp only [List.flatMap_cons, List.length_append, List.length_cons, ih, puC, List.length_nil]; omega
theorem pu_at {w : World} {A : Option Addr} {l : List PuV} (h : Row w A (l.flatMap puC)) {k : Nat} (hk : k < l.length) : ∃ b off, A = some ⟨b, off, none⟩ ∧ ∀ (j : Nat) (hj : j < l.length),
    w.cell? ⟨b, off + j * 2, none⟩ = some (.int .i64 (l[j]'hj).at_) ∧ w.cell? ⟨b, off + j * 2 + 1, none⟩ = some (.slice (l[j]'hj).A (l[j]'hj).n (l[j]'hj).c) := by
  obtain ⟨b, off, hA, hc⟩ := h (by intro e; have := congrArg List.length e; rw [puC_len, List.length_nil] at this; omega)
  refine ⟨b, off, hA, fun j hj => ?_⟩
  have g := fun i hi => flatMap_get puC 2 (fun _ => rfl) l j i hj hi
  exact ⟨hc (j * 2 + 0) _ ((g 0 (by omega)).trans rfl), hc (j * 2 + 1) _ ((g 1 (by omega)).trans rfl)⟩
/-- May it be, behind those ahead of it? -/
def oneJ (size : Int) (pre : List Iss) (p : Iss) : Bool := !decide (p.1 < 41) && !decide (size ≤ p.1) && !(pre.any fun q => q.1 == p.1) && decide (p.2.length = 128)
def okK (l : List Iss) (size : Int) (k : Nat) : Bool := (List.range k).all fun i => oneJ size (l.take i) (l.getD i (0, []))
def mayJ (l : List Iss) (size : Int) : Bool := okK l size l.length && (decide (1 ≤ l.length) && decide (l.length ≤ 40))
theorem okK_succ (l : List Iss) (size : Int) (k : Nat) (h : k < l.length) : okK l size (k + 1) = (okK l size k && oneJ size (l.take k) l[k]) := by
  unfold okK
  rw [List.range_succ, List.all_append, List.all_cons, List.all_nil, Bool.and_true, List.getD_eq_getElem?_getD, List.getElem?_eq_getElem h]
  rfl
theorem okK_mono (l : List Iss) (size : Int) (k : Nat) (h : k ≤ l.length) (hf : okK l size k = false) : okK l size l.length = false := by
  obtain ⟨d, hd⟩ : ∃ d, l.length = k + d := ⟨l.length - k, by omega⟩
  rw [hd]
  have key : ∀ d, okK l size (k + d) = false := by
    intro d
    induction d with
    | zero => exact hf
    | succ d ih =>
      unfold okK at ih ⊢
      rw [show k + (d + 1) = (k + d) + 1 by omega, List.range_succ, List.all_append, ih]
      rfl
  exact key d
def seenB (x : Int) (pre : List Iss) : Bool := pre.any fun q => q.1 == x
/-- The set of places that were seen. -/
def SeenM (W : World) (b j : Nat) (pre : List Iss) : Prop := ∃ D : DataW Unit, W.ownsMap Try.prog 3 (plainElem Try.prog 4) b j D ∧ ∀ x, W64 x → D.atKey (.int .i64 x) (.lit (.bool false)) = .lit (.bool (seenB x pre))
theorem i64_wf {x : Int} (h : W64 x) : (Lit.int .i64 x).wf = true := by
  obtain ⟨h1, h2⟩ := h
  simp [Lit.wf, IntKind.min, IntKind.max, IntKind.signed, IntKind.bits]
  omega
theorem key_i64 {x : Int} (h : W64 x) : keyOf Try.prog 3 (.int .i64 x) = some (.int .i64 x) := Go.Maps.keyOf_int_mk Try.underlying3 (i64_wf h)
theorem plain_bool_inv {v : Value} {b : Bool} {ps : List MemPlace} (h : plainElem (H := Unit) Try.prog 4 v = some (.lit (.bool b), ps)) : v = .bool b := by
  unfold plainElem at h
  rw [Try.underlying4] at h
  cases v <;> simp at h
  rw [h.1]
theorem SeenM.look {W : World} {b j : Nat} {pre : List Iss} (h : SeenM W b j pre) {x : Int} (hx : W64 x) : (Instr.lookup 116 (.map (some b)) (.int .i64 x) false).run Try.prog W = .ok (.bool (seenB x pre)) W := by
  obtain ⟨D, h1, h2⟩ := h
  obtain ⟨v, ps, hrun, hv⟩ := h1.lookup (Go.Maps.int_keyed Try.underlying3) Try.underlying116 (by kernel_rfl : (zeroValue 4).run Try.prog W = .ok (.bool false) W) (plainElem_bool Try.underlying4 false) (key_i64 hx)
  rw [h2 x hx] at hv
  rw [hrun, plain_bool_inv hv]
theorem SeenM.made (W : World) : SeenM (W.alloc (.map #[] 0)) W.heap.size 0 [] := ⟨.map [], World.ownsMap_made _ _ _ _, fun x _ => rfl⟩
theorem SeenM.below {W W' : World} {b j : Nat} {pre : List Iss} (h : SeenM W b j pre) (hb : Below W.heap.size W W') : SeenM W' b j pre := by
  obtain ⟨D, h1, h2⟩ := h
  exact ⟨D, h1.kept (row := none) ⟨hb.os, hb.tape, hb.output, hb.size, fun k hk _ => hb.block k hk⟩ (by simp), h2⟩
theorem SeenM.put {W : World} {b j : Nat} {pre : List Iss} (h : SeenM W b j pre) (hj : j < maxLen) {p : Iss} (hx : W64 p.1) : ∃ w', (Instr.mapUpdate 116 (.map (some b)) (.int .i64 p.1) (.bool true)).run Try.prog W = .ok () w' ∧ SeenM w' b (j + 1) (pre ++ [p]) ∧ W.grownBy w' (some b) := by
  obtain ⟨D, h1, h2⟩ := h
  obtain ⟨w', hrun, hown, hg⟩ := h1.update (Go.Maps.int_keyed Try.underlying3) Try.underlying116 hj (key_i64 hx) (plainElem_bool Try.underlying4 true)
  refine ⟨w', hrun, ⟨_, hown, fun x hxx => ?_⟩, hg⟩
  unfold seenB
  rw [List.any_append]
  by_cases e : x = p.1
  · subst e
    rw [Go.Maps.atKey_put_same h1.isMap (by simp [WideAt.IsKeyLit])]
    simp
  · rw [Go.Maps.atKey_put_other (by intro h; injection h with _ h; exact e h), h2 x hxx]
    have : (p.1 == x) = false := by simp; omega
    unfold seenB
    simp [this]
end Go.Proofs.Ytpppmijohfjigaa
