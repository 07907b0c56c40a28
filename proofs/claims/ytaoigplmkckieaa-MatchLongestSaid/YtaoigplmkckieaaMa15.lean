/-
  What tokens come to: plain. A part of the proof: see the head of the text that ends in 'Law'.
-/
import Derived.Test.YtaoigplmkckieaaMa14
namespace Go.Proofs.Ytaoigplmkckieaa
open Go.RowKit
set_option linter.unusedVariables false

/-- j octets copied from d ahead, one after the other. -/
def cp (out : List UInt8) (d : Nat) : Nat → List UInt8
  | 0 => out
  | j + 1 => cp out d j ++ [(cp out d j).getD ((cp out d j).length - d) 0]
theorem cp_len (out : List UInt8) (d : Nat) : ∀ j, (cp out d j).length = out.length + j
  | 0 => rfl
  | j + 1 => by rw [cp, List.length_append, cp_len out d j]; rfl
/-- What one token adds. -/
def addT (out : List UInt8) (t : Tok) : List UInt8 := if t.len = 0 then out ++ [t.lit] else cp out t.dist.toNat t.len.toNat
/-- The octets, the error's number, and where. -/
def expF (most : Int) : List Tok → Nat → List UInt8 → List UInt8 × Nat × Nat
  | [], _, out => (out, 0, 0)
  | t :: r, i, out => if mayT t = false then ([], 1, i) else if (out.length : Int) < t.dist then ([], 12, i) else if most < out.length + max 1 t.len then ([], 13, i) else expF most r (i + 1) (addT out t)
def expAll (most : Int) (l : List Tok) : List UInt8 × Nat × Nat := if most < 0 then ([], 1, 0) else expF most l 0 []
theorem mayT_len {t : Tok} (h : mayT t = true) : (t.len = 0 ∧ t.dist = 0) ∨ (3 ≤ t.len ∧ t.len ≤ 258 ∧ 1 ≤ t.dist ∧ t.dist ≤ 32768) := by
  unfold mayT at h
  have := of_decide_eq_true h
  omega
theorem addT_len {t : Tok} (h : mayT t = true) (out : List UInt8) : (addT out t).length ≤ out.length + 258 ∧ ((addT out t).length : Int) = out.length + max 1 t.len := by
  have := mayT_len h
  unfold addT
  split
  · rename_i h0
    rw [List.length_append, h0]
    simp
    omega
  · rw [cp_len]
    omega
theorem expF_may {t : Tok} {l : List Tok} {k : Nat} {most : Int} {out : List UInt8} (ht : l[k]? = some t) (h : mayT t = false) : expF most (l.drop k) k out = ([], 1, k) := by
  obtain ⟨hk, rfl⟩ := List.getElem?_eq_some_iff.1 ht
  rw [List.drop_eq_getElem_cons hk, expF, if_pos h]
theorem expF_dist {t : Tok} {l : List Tok} {k : Nat} {most : Int} {out : List UInt8} (ht : l[k]? = some t) (h : mayT t = true) (hd : (out.length : Int) < t.dist) : expF most (l.drop k) k out = ([], 12, k) := by
  obtain ⟨hk, rfl⟩ := List.getElem?_eq_some_iff.1 ht
  rw [List.drop_eq_getElem_cons hk, expF, if_neg (by rw [h]; decide), if_pos hd]
theorem expF_most {t : Tok} {l : List Tok} {k : Nat} {most : Int} {out : List UInt8} (ht : l[k]? = some t) (h : mayT t = true) (hd : ¬ (out.length : Int) < t.dist) (hm : most < out.length + max 1 t.len) : expF most (l.drop k) k out = ([], 13, k) := by
  obtain ⟨hk, rfl⟩ := List.getElem?_eq_some_iff.1 ht
  rw [List.drop_eq_getElem_cons hk, expF, if_neg (by rw [h]; decide), if_neg hd, if_pos hm]
theorem expF_on {t : Tok} {l : List Tok} {k : Nat} {most : Int} {out : List UInt8} (ht : l[k]? = some t) (h : mayT t = true) (hd : ¬ (out.length : Int) < t.dist) (hm : ¬ most < out.length + max 1 t.len) : expF most (l.drop k) k out = expF most (l.drop (k + 1)) (k + 1) (addT out t) := by
  obtain ⟨hk, rfl⟩ := List.getElem?_eq_some_iff.1 ht
  rw [List.drop_eq_getElem_cons hk, expF, if_neg (by rw [h]; decide), if_neg hd, if_neg hm]
theorem expF_end {l : List Tok} {k : Nat} {most : Int} {out : List UInt8} (hk : l.length ≤ k) : expF most (l.drop k) k out = (out, 0, 0) := by
  rw [List.drop_eq_nil_of_le hk, expF]
theorem slice8 : SliceT Try.prog 22 5 (.int .u8 0) 1 1 := ⟨Try.underlying22, by kernel_rfl, rfl, by decide⟩
/-- A row of octets that the call makes. -/
structure OcI (w wr : World) (A' : Option Addr) (c' : Nat) (out : List UInt8) : Prop where
  own : wr.ownsRow w.heap.size 5 1 (.slice A' out.length c') out.length (out.map B8)
  bel : Below w.heap.size w wr
theorem OcI.oct {w wr : World} {A' : Option Addr} {c' : Nat} {out : List UInt8} (h : OcI w wr A' c' out) : Oct wr A' out.length out := Oct.of_own h.own
theorem OcI.far {w wr w2 : World} {A' : Option Addr} {c' : Nat} {out : List UInt8} (h : OcI w wr A' c' out) (hb : Below wr.heap.size wr w2) : OcI w w2 A' c' out := ⟨own_below h.own hb, h.bel.trans (hb.mono h.bel.size)⟩
theorem OcI.app {w wr w3 : World} {A' A2 : Option Addr} {c' c2 : Nat} {out : List UInt8} {x : UInt8} (h : OcI w wr A' c' out) (ho : w3.ownsRow w.heap.size 5 1 (.slice A2 (out.length + 1) c2) (out.length + 1) (out.map B8 ++ [B8 x]))
    (hg : wr.grownBy w3 (Value.slice A' out.length c').ownBlock) : OcI w w3 A2 c2 (out ++ [x]) := by
  refine ⟨?_, h.bel.grown hg (by have := h.bel.size; omega) (fun r e => own_base h.own r e)⟩
  rw [List.length_append, List.map_append]
  exact ho
/-- Which of the old blocks stay: those that the row does not lie in. -/
theorem OcI.keep {w wr w3 : World} {A' : Option Addr} {c' : Nat} {out : List UInt8} {g : Nat} {T : TypeId} {xs : List Value} (h : OcI w wr A' c' out) (hT : 5 ≠ T) (hg : wr.grownBy w3 (Value.slice A' out.length c').ownBlock) (hc : OwnC wr g T xs) : OwnC w3 g T xs :=
  hc.grown hg (own_ne h.own hc hT)
end Go.Proofs.Ytaoigplmkckieaa
