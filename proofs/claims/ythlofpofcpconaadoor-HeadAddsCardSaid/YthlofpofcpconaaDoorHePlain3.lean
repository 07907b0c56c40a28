/-
  Lines: more of them, in plain Lean. A part of the proof: see the head of the text that ends in 'Law'.
-/
import Derived.Test.YthlofpofcpconaaDoorHePlain2
namespace Go.Proofs.YthlofpofcpconaaDoor
open Go.RowKit
set_option linter.unusedVariables false

theorem cutL_flat (l : List UInt8) : (cutL l).flatten = l := by unfold cutL; rw [cutF_flat]; rfl
theorem cutF_ne : ∀ (l cur : List UInt8), ∀ x ∈ cutF cur l, x ≠ []
  | [], cur, x, hx => by
    unfold cutF at hx
    split at hx
    · cases hx
    · rename_i h
      rw [List.mem_singleton] at hx
      rw [hx]
      exact h
  | c :: l, cur, x, hx => by
    unfold cutF at hx
    split at hx
    · rcases List.mem_cons.1 hx with h | h
      · rw [h]; simp
      · exact cutF_ne l [] x h
    · exact cutF_ne l (cur ++ [c]) x hx
theorem cutL_ne (l : List UInt8) : ∀ x ∈ cutL l, x ≠ [] := cutF_ne l []
theorem flat_len : ∀ (ls : List (List UInt8)), (∀ x ∈ ls, x ≠ []) → ls.length ≤ ls.flatten.length
  | [], _ => Nat.le_refl _
  | x :: r, h => by
    have h1 := flat_len r (fun y hy => h y (List.mem_cons_of_mem _ hy))
    have h2 : 0 < x.length := List.length_pos_iff.2 (h x (List.mem_cons_self ..))
    simp only [List.length_cons, List.flatten_cons, List.length_append]
    omega
theorem cutL_len (l : List UInt8) : (cutL l).length ≤ l.length := by
  have := flat_len (cutL l) (cutL_ne l)
  rwa [cutL_flat] at this
theorem cutL_piece (l x : List UInt8) (h : x ∈ cutL l) : x.length ≤ l.length := by
  have h1 : x.length ≤ (cutL l).flatten.length := (List.sublist_flatten_of_mem h).length_le
  rwa [cutL_flat] at h1
/-- k octets are looked at, a line stands from fr on. -/
structure CutI (l : List UInt8) (k fr : Nat) (acc : List (List UInt8)) : Prop where
  le : fr ≤ k
  ml : acc.length ≤ fr
  eq : acc ++ cutF ((l.drop fr).take (k - fr)) (l.drop k) = cutL l
theorem CutI.start (l : List UInt8) : CutI l 0 0 [] := ⟨Nat.le_refl _, Nat.le_refl _, rfl⟩
theorem cur_snoc (l : List UInt8) (k fr : Nat) (h : fr ≤ k) (hk : k < l.length) (c : UInt8) (hc : l[k] = c) : (l.drop fr).take (k - fr) ++ [c] = (l.drop fr).take (k + 1 - fr) := by
  rw [show k + 1 - fr = (k - fr) + 1 by omega, List.take_succ_eq_append_getElem (by rw [List.length_drop]; omega)]
  congr 2
  rw [List.getElem_drop, ← hc]
  congr 1
  omega
theorem CutI.yes {l : List UInt8} {k fr : Nat} {acc : List (List UInt8)} (h : CutI l k fr acc) (hk : k < l.length) (c : UInt8) (hc : l[k] = c) (hz : c.toNat = 10) : CutI l (k + 1) (k + 1) (acc ++ [(l.drop fr).take (k + 1 - fr)]) := by
  refine ⟨Nat.le_refl _, by have := h.ml; have := h.le; simp; omega, ?_⟩
  rw [← h.eq, List.drop_eq_getElem_cons hk, hc, Nat.sub_self, List.take_zero, cutF, if_pos hz, cur_snoc l k fr h.le hk c hc]
  simp
theorem CutI.no {l : List UInt8} {k fr : Nat} {acc : List (List UInt8)} (h : CutI l k fr acc) (hk : k < l.length) (c : UInt8) (hc : l[k] = c) (hz : c.toNat ≠ 10) : CutI l (k + 1) fr acc := by
  refine ⟨by have := h.le; omega, h.ml, ?_⟩
  rw [← h.eq, List.drop_eq_getElem_cons hk, hc, cutF, if_neg hz, cur_snoc l k fr h.le hk c hc]
theorem CutI.fin {l : List UInt8} {fr : Nat} {acc : List (List UInt8)} (h : CutI l l.length fr acc) : (fr < l.length → acc ++ [l.drop fr] = cutL l) ∧ (¬ fr < l.length → acc = cutL l) := by
  have e := h.eq
  rw [List.drop_length, cutF, List.take_of_length_le (by rw [List.length_drop]; exact Nat.le_refl _)] at e
  constructor
  · intro hf
    rw [if_neg (by intro h2; have := congrArg List.length h2; simp at this; omega)] at e
    exact e
  · intro hf
    rw [if_pos (List.drop_of_length_le (by omega)), List.append_nil] at e
    exact e
/-- a octets lie ahead of the k-th line. -/
structure SpI (l : List UInt8) (k a : Nat) : Prop where
  sum : a + ((cutL l).drop k).flatten.length = l.length
theorem SpI.start (l : List UInt8) : SpI l 0 0 := ⟨by rw [List.drop_zero, cutL_flat, Nat.zero_add]⟩
theorem SpI.le {l : List UInt8} {k a : Nat} (h : SpI l k a) : a ≤ l.length := by have := h.sum; omega
theorem SpI.step {l : List UInt8} {k a : Nat} (h : SpI l k a) (hk : k < (cutL l).length) (x : List UInt8) (hx : (cutL l)[k] = x) : SpI l (k + 1) (a + x.length) := ⟨by
  have := h.sum
  rw [List.drop_eq_getElem_cons hk, hx, List.flatten_cons, List.length_append] at this
  omega⟩
end Go.Proofs.YthlofpofcpconaaDoor
