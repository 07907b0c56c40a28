/-
  Fields, one line at a time, in plain Lean. A part of the proof: see the head of the text that ends in 'Law'.
-/
import Derived.Test.YthlofpofcpconaaDoorHePlain3
namespace Go.Proofs.YthlofpofcpconaaDoor
open Go.RowKit
set_option linter.unusedVariables false

theorem setTo_snoc : ∀ (ini : List Fd) (f : Fd) (t : Nat), setTo (ini ++ [f]) t = ini ++ [{ f with te := t }]
  | [], f, t => rfl
  | [x], f, t => rfl
  | x :: y :: r, f, t => by
    have := setTo_snoc (y :: r) f t
    show x :: setTo ((y :: r) ++ [f]) t = _
    rw [this]
    rfl
/-- A field's cells. -/
def fdC (f : Fd) : List Value := [SV f.nm, .int .i64 (f.fr : Int), .int .i64 (f.te : Int), .int .i64 (f.at_ : Int)]
theorem fdC_len (l : List Fd) : (l.flatMap fdC).length = l.length * 4 := by
  induction l with
  | nil => rfl
  | cons x r ih => simp only [List.flatMap_cons, List.length_append, List.length_cons, ih, fdC, List.length_nil]; omega
theorem fdC_set (ini : List Fd) (f : Fd) (t : Nat) : ((ini ++ [f]).flatMap fdC).set (ini.length * 4 + 2) (.int .i64 (t : Int)) = (ini ++ [{ f with te := t }]).flatMap fdC := by
  rw [List.flatMap_append, List.flatMap_append, List.set_append_right _ _ (by rw [fdC_len]; omega), fdC_len, Nat.add_sub_cancel_left]
  rfl
theorem fdC_get (l : List Fd) (k : Nat) (h : k < l.length) (j : Nat) (hj : j < 4) : (l.flatMap fdC)[k * 4 + j]? = (fdC l[k])[j]? := by
  induction l generalizing k with
  | nil => cases h
  | cons x r ih =>
    rw [List.flatMap_cons]
    cases k with
    | zero =>
      rw [Nat.zero_mul, Nat.zero_add, List.getElem?_append_left (by show j < 4; exact hj)]
      rfl
    | succ k =>
      rw [List.getElem?_append_right (by show 4 ≤ _; omega)]
      have e : (k + 1) * 4 + j - (fdC x).length = k * 4 + j := by show (k + 1) * 4 + j - 4 = _; omega
      rw [e, ih k (by simpa using h)]
      rfl
/-- k lines are looked at, a octets lie ahead. -/
structure FlI (l : List UInt8) (k a : Nat) (out : List Fd) (o : Bool) : Prop where
  eq : fieldsL l = fdG a ((cutL l).drop k) out o
  sp : SpI l k a
  last : o = true → ∃ ini f, out = ini ++ [f] ∧ f.te = a
  ml : out.length ≤ k
theorem FlI.start (l : List UInt8) : FlI l 0 0 [] false := ⟨rfl, SpI.start l, fun h => by (cases h), Nat.le_refl _⟩
theorem FlI.fin {l : List UInt8} {k a : Nat} {out : List Fd} {o : Bool} (h : FlI l k a out o) (hk : (cutL l).length ≤ k) : fieldsL l = out := by
  rw [h.eq, List.drop_of_length_le hk, fdG]
theorem FlI.stop {l : List UInt8} {k a : Nat} {out : List Fd} {o : Bool} (h : FlI l k a out o) (hk : k < (cutL l).length) (x : List UInt8) (hx : (cutL l)[k] = x) (he : emptyB x = true) : fieldsL l = out := by
  rw [h.eq, List.drop_eq_getElem_cons hk, hx, fdG, if_pos he]
theorem FlI.more {l : List UInt8} {k a : Nat} {ini : List Fd} {f : Fd} (h : FlI l k a (ini ++ [f]) true) (hk : k < (cutL l).length) (x : List UInt8) (hx : (cutL l)[k] = x) (he : emptyB x = false) (hb : bl (x.headD 0) = true) :
    FlI l (k + 1) (a + x.length) (ini ++ [{ f with te := a + x.length }]) true := by
  refine ⟨?_, h.sp.step hk x hx, fun _ => ⟨_, _, rfl, rfl⟩, by have := h.ml; simp at this ⊢; omega⟩
  rw [h.eq, List.drop_eq_getElem_cons hk, hx, fdG, if_neg (by rw [he]; decide), if_pos hb, if_pos rfl, setTo_snoc]
theorem FlI.skip {l : List UInt8} {k a : Nat} {out : List Fd} (h : FlI l k a out false) (hk : k < (cutL l).length) (x : List UInt8) (hx : (cutL l)[k] = x) (he : emptyB x = false) (hb : bl (x.headD 0) = true) :
    FlI l (k + 1) (a + x.length) out false := by
  refine ⟨?_, h.sp.step hk x hx, fun h => by (cases h), by have := h.ml; omega⟩
  rw [h.eq, List.drop_eq_getElem_cons hk, hx, fdG, if_neg (by rw [he]; decide), if_pos hb, if_neg (by decide)]
theorem FlI.none {l : List UInt8} {k a : Nat} {out : List Fd} {o : Bool} (h : FlI l k a out o) (hk : k < (cutL l).length) (x : List UInt8) (hx : (cutL l)[k] = x) (he : emptyB x = false) (hb : bl (x.headD 0) = false) (hn : nameL x = none) :
    FlI l (k + 1) (a + x.length) out false := by
  refine ⟨?_, h.sp.step hk x hx, fun h => by (cases h), by have := h.ml; omega⟩
  rw [h.eq, List.drop_eq_getElem_cons hk, hx, fdG, if_neg (by rw [he]; decide), if_neg (by rw [hb]; decide), hn]
theorem FlI.some {l : List UInt8} {k a : Nat} {out : List Fd} {o : Bool} (h : FlI l k a out o) (hk : k < (cutL l).length) (x : List UInt8) (hx : (cutL l)[k] = x) (he : emptyB x = false) (hb : bl (x.headD 0) = false) (m : List UInt8) (j : Nat) (hn : nameL x = some (m, j)) :
    FlI l (k + 1) (a + x.length) (out ++ [⟨m, a, a + x.length, a + j⟩]) true := by
  refine ⟨?_, h.sp.step hk x hx, fun _ => ⟨_, _, rfl, rfl⟩, by have := h.ml; simp; omega⟩
  rw [h.eq, List.drop_eq_getElem_cons hk, hx, fdG, if_neg (by rw [he]; decide), if_neg (by rw [hb]; decide), hn]
theorem nameL_bounds {x m : List UInt8} {j : Nat} (h : nameL x = some (m, j)) : 0 < m.length ∧ m.length < j ∧ j ≤ x.length ∧ m = x.take m.length ∧ (x[j - 1]?.map (·.toNat)) = some 58 := by
  unfold nameL at h
  split at h
  · cases h
  · rename_i h0
    split at h
    · rename_i h1
      injection h with h
      injection h with h2 h3
      have hk : nmK x < x.length := by
        rcases Nat.lt_or_ge (nmK x) x.length with h | h
        · exact h
        · rw [List.getElem?_eq_none h] at h1
          cases h1
      have hnk : nmN x ≤ nmK x := by unfold nmK; omega
      have hml : m.length = nmN x := by rw [← h2, List.length_take]; omega
      refine ⟨by omega, by omega, by omega, ?_, by rw [← h3, Nat.add_sub_cancel]; exact h1⟩
      rw [hml, h2]
    · cases h
end Go.Proofs.YthlofpofcpconaaDoor
