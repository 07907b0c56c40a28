/-
  What waits is done: the plain part, and what a store of a sector leaves. A part of the proof: see the head of the text that ends in 'Law'.
-/
import Derived.Test.YtkadehdbnkinlaaDk9
namespace Go.Proofs.Ytkadehdbnkinlaa
open Go.RowKit
set_option linter.unusedVariables false
attribute [local go_sem] Oper.semAt_some

def setL (xs : List Value) (o : Nat) : List Value → List Value
  | [] => xs
  | v :: vs => setL (xs.set o v) (o + 1) vs
theorem setL_get : ∀ (vs xs : List Value) (o j : Nat), (setL xs o vs)[j]? = if o ≤ j ∧ j < o + vs.length ∧ j < xs.length then vs[j - o]? else xs[j]?
  | [], xs, o, j => by
    unfold setL
    rw [if_neg (by simp only [List.length_nil]; omega)]
  | v :: vs, xs, o, j => by
    unfold setL
    rw [setL_get vs (xs.set o v) (o + 1) j, List.length_set]
    by_cases h : o = j
    · subst h
      rw [if_neg (by omega)]
      by_cases h2 : o < xs.length
      · rw [if_pos ⟨Nat.le_refl _, by simp only [List.length_cons]; omega, h2⟩, Nat.sub_self, List.getElem?_cons_zero, List.getElem?_set_self h2]
      · rw [if_neg (by omega), List.getElem?_eq_none (by rw [List.length_set]; omega), List.getElem?_eq_none (by omega)]
    · rw [List.getElem?_set_ne h]
      by_cases h3 : o + 1 ≤ j ∧ j < o + 1 + vs.length ∧ j < xs.length
      · rw [if_pos h3, if_pos ⟨by omega, by simp only [List.length_cons]; omega, h3.2.2⟩, show j - o = (j - (o + 1)) + 1 by omega, List.getElem?_cons_succ]
      · rw [if_neg h3, if_neg (by simp only [List.length_cons]; omega)]
theorem setL_append (xs ys : List Value) (o : Nat) (vs : List Value) (h : o + vs.length ≤ xs.length) : setL (xs ++ ys) o vs = setL xs o vs ++ ys := by
  have hl : ∀ (vs xs : List Value) (o : Nat), (setL xs o vs).length = xs.length := by
    intro vs
    induction vs with
    | nil => intro xs o; rfl
    | cons v vs ih => intro xs o; unfold setL; rw [ih, List.length_set]
  refine List.ext_getElem? fun j => ?_
  rw [setL_get]
  by_cases h1 : j < xs.length
  · have e1 : (setL xs o vs ++ ys)[j]? = (setL xs o vs)[j]? := List.getElem?_append_left (by rw [hl]; exact h1)
    have e2 : (xs ++ ys)[j]? = xs[j]? := List.getElem?_append_left h1
    rw [e1, e2, setL_get]
    by_cases h2 : o ≤ j ∧ j < o + vs.length
    · rw [if_pos ⟨h2.1, h2.2, by rw [List.length_append]; omega⟩, if_pos ⟨h2.1, h2.2, h1⟩]
    · rw [if_neg (fun h => h2 ⟨h.1, h.2.1⟩), if_neg (fun h => h2 ⟨h.1, h.2.1⟩)]
  · have e1 : (setL xs o vs ++ ys)[j]? = ys[j - (setL xs o vs).length]? := List.getElem?_append_right (by rw [hl]; omega)
    have e2 : (xs ++ ys)[j]? = ys[j - xs.length]? := List.getElem?_append_right (by omega)
    rw [if_neg (by omega), e1, e2, hl]
theorem OwnE.setCells {g : Nat} {T : TypeId} : ∀ (vs : List Value) (xs : List Value) (o : Nat) (w : World), OwnE w g T xs → OwnE (w.setCells g o vs) g T (setL xs o vs)
  | [], xs, o, w, h => h
  | v :: vs, xs, o, w, h => OwnE.setCells vs (xs.set o v) (o + 1) _ (h.set o v)
theorem setCells_only (T : Nat → Prop) (g : Nat) (hg : T g) : ∀ (vs : List Value) (o : Nat) (w : World), Only T w (w.setCells g o vs)
  | [], o, w => Only.refl T w
  | v :: vs, o, w => (Only.of_set w ⟨g, o, none⟩ v hg).trans (setCells_only T g hg vs (o + 1) _) (fun _ h => .inl h)
theorem secC_len (l : List (List UInt8)) (h : ∀ s ∈ l, s.length = 128) : (secC l).length = l.length * 128 := by
  induction l with
  | nil => rfl
  | cons s l ih =>
    have := ih (fun x hx => h x (List.mem_cons_of_mem _ hx))
    unfold secC at this ⊢
    rw [List.flatMap_cons, List.length_append, List.length_map, h s List.mem_cons_self, this, List.length_cons]
    omega
theorem secC_set (l : List (List UInt8)) (h : ∀ s ∈ l, s.length = 128) (k : Nat) (hk : k < l.length) (s : List UInt8) (hs : s.length = 128) : setL (secC l) (k * 128) (s.map B8) = secC (l.set k s) := by
  have h' : ∀ x ∈ l.set k s, x.length = 128 := fun x hx => by
    rcases List.mem_or_eq_of_mem_set hx with h1 | h1
    · exact h x h1
    · rw [h1]; exact hs
  refine List.ext_getElem? fun j => ?_
  rw [setL_get, secC_len l h, List.length_map, hs]
  by_cases hj : j < l.length * 128
  · have e : j = (j / 128) * 128 + j % 128 := by omega
    have hq : j / 128 < l.length := by omega
    have hm : j % 128 < 128 := by omega
    have r1 := secC_get l h (j / 128) hq (j % 128) hm
    have r2 := secC_get (l.set k s) h' (j / 128) (by rw [List.length_set]; exact hq) (j % 128) hm
    rw [← e] at r1 r2
    rw [r2]
    by_cases hkq : k = j / 128
    · rw [if_pos (by omega)]
      simp only [hkq, List.getElem_set_self]
      congr 1
      omega
    · rw [if_neg (by omega), r1, List.getElem_set_ne hkq]
  · rw [if_neg (by omega), List.getElem?_eq_none (by rw [secC_len l h]; omega), List.getElem?_eq_none (by rw [secC_len _ h', List.length_set]; omega)]
/-- A sector is written. -/
theorem DkAt.sec_set {W : World} {b0 d hb : Nat} {V : Value} {D : Dsk} (h : DkAt W b0 d hb V D) (k : Nat) (hk : k < D.has.length) (s : List UInt8) (hs : s.length = 128) : DkAt (W.setCells hb (k * 128) (s.map B8)) b0 d hb V { D with has := D.has.set k s } := by
  have ho := setCells_only (fun g => g = hb) hb rfl (s.map B8) (k * 128) W
  have hc : OwnE (W.setCells hb (k * 128) (s.map B8)) d 61 [.slice (some ⟨hb, 0, none⟩) D.has.length D.cp, V, .int .i64 D.bud, .bool D.off] := (ho.block d h.cells.lt h.dh).trans h.cells
  refine ⟨h.d0, h.h0, ?_, ?_, ?_, ?_, ?_, ?_, h.bd⟩
  · show OwnE _ d _ [.slice (some ⟨hb, 0, none⟩) (D.has.set k s).length D.cp, V, .int .i64 D.bud, .bool D.off]
    rw [List.length_set]
    exact hc
  · have := h.sect.setCells (s.map B8) _ (k * 128) W
    rw [setL_append _ _ _ _ (by rw [secC_len D.has h.len, List.length_map, hs]; omega), secC_set D.has h.len k hk s hs] at this
    exact this
  · refine ⟨h.wait.1, ?_⟩
    rcases h.wait.2 with hq | ⟨g, cap, cur, e, h1, h2, h3⟩
    · exact .inl hq
    · exact .inr ⟨g, cap, cur, e, h1, (ho.block g (lt_of_heap h2) (fun e' => h.hv (by rw [e, e']; rfl))).trans h2, h3⟩
  · intro x hx
    rcases List.mem_or_eq_of_mem_set hx with h1 | h1
    · exact h.len x h1
    · rw [h1]; exact hs
  · intro p hp
    show p.2.length = 128 ∧ 0 ≤ p.1 ∧ p.1 < (D.has.set k s).length
    rw [List.length_set]
    exact h.wlen p hp
  · show (D.has.set k s).length ≤ 2048
    rw [List.length_set]
    exact h.nb
/-- What the sectors have when the first k that wait are done, of which some holds. -/
def doneK (hold : Nat → Bool) (ws : List (Int × List UInt8)) (h : List (List UInt8)) : Nat → List (List UInt8)
  | 0 => h
  | k + 1 => if hold k = true then (doneK hold ws h k).set (ws.getD k (0, [])).1.toNat (ws.getD k (0, [])).2 else doneK hold ws h k
theorem doneK_len (hold : Nat → Bool) (ws : List (Int × List UInt8)) (h : List (List UInt8)) : ∀ k, (doneK hold ws h k).length = h.length
  | 0 => rfl
  | k + 1 => by
    unfold doneK
    split
    · rw [List.length_set]; exact doneK_len hold ws h k
    · exact doneK_len hold ws h k
end Go.Proofs.Ytkadehdbnkinlaa
