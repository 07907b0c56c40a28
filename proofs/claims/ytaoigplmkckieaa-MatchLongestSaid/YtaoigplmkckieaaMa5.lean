/-
  The finder keeps the places ahead of one. A part of the proof: see the head of the text that ends in 'Law'.
-/
import Derived.Test.YtaoigplmkckieaaMa4
namespace Go.Proofs.Ytaoigplmkckieaa
open Go.RowKit
set_option linter.unusedVariables false

/-- The places ahead of u at which a, b, c stand. -/
def placesL (l : List UInt8) (u : Nat) (a b c : UInt8) : List Nat := (List.range u).filter (fun p => decide (l[p]? = some a ∧ l[p + 1]? = some b ∧ l[p + 2]? = some c))
theorem placesL_zero (l : List UInt8) : placesL l 0 = fun _ _ _ => [] := rfl
theorem placesL_in (l : List UInt8) (u : Nat) (h : u + 3 ≤ l.length) : placesL l (u + 1) = putG (placesL l u) l[u] l[u + 1] l[u + 2] u := by
  funext x y z
  unfold putG placesL
  rw [List.range_succ, List.filter_append]
  by_cases hk : x = l[u] ∧ y = l[u + 1] ∧ z = l[u + 2]
  · obtain ⟨rfl, rfl, rfl⟩ := hk
    rw [if_pos ⟨rfl, rfl, rfl⟩]
    congr 1
    simp [List.getElem?_eq_getElem (show u < l.length by omega), List.getElem?_eq_getElem (show u + 1 < l.length by omega), List.getElem?_eq_getElem (show u + 2 < l.length by omega)]
  · rw [if_neg hk]
    have : List.filter (fun p => decide (l[p]? = some x ∧ l[p + 1]? = some y ∧ l[p + 2]? = some z)) [u] = [] := by
      rw [List.filter_cons, if_neg]
      · rfl
      · simp [List.getElem?_eq_getElem (show u < l.length by omega), List.getElem?_eq_getElem (show u + 1 < l.length by omega), List.getElem?_eq_getElem (show u + 2 < l.length by omega)]
        intro h1 h2 h3
        exact hk ⟨h1.symm, h2.symm, h3.symm⟩
    rw [this, List.append_nil]
theorem placesL_out (l : List UInt8) (u : Nat) (h : l.length < u + 3) : placesL l (u + 1) = placesL l u := by
  funext x y z
  unfold placesL
  rw [List.range_succ, List.filter_append]
  have : List.filter (fun p => decide (l[p]? = some x ∧ l[p + 1]? = some y ∧ l[p + 2]? = some z)) [u] = [] := by
    rw [List.filter_cons, if_neg]
    · rfl
    · simp only [decide_eq_true_eq]
      rintro ⟨_, _, h3⟩
      rw [List.getElem?_eq_none (by omega)] at h3
      cases h3
  rw [this, List.append_nil]

/-- The finder's blocks. -/
def Mine (fb mb : Nat) (R : Nat → Prop) : Nat → Prop := fun g => g = fb ∨ g = mb ∨ R g
/-- A finder: its octets, the map, and how far it has kept. -/
structure Fnd (w0 w : World) (fb mb : Nat) (A : Option Addr) (n c : Nat) (R : Nat → Prop) (u j : Nat) (l : List UInt8) : Prop where
  bel : Below w0.heap.size w0 w
  hf : w0.heap.size ≤ fb
  hm : w0.heap.size ≤ mb
  ne : fb ≠ mb
  hr : ∀ g, R g → w0.heap.size ≤ g ∧ g ≠ fb ∧ g ≠ mb
  hl : ∀ g, R g → g < w.heap.size
  cells : OwnC w fb 47 [.slice A n c, .map (some mb), .int .i64 (u : Int)]
  grp : Grp w mb R j (placesL l j)
theorem Fnd.only {w0 w w' : World} {fb mb n c u j : Nat} {A : Option Addr} {R T : Nat → Prop} {l : List UInt8} (h : Fnd w0 w fb mb A n c R u j l) (ho : Only T w w') (ht : ∀ g, T g → w0.heap.size ≤ g ∧ ¬ Mine fb mb R g) : Fnd w0 w' fb mb A n c R u j l :=
  ⟨h.bel.trans (ho.below h.bel.size (fun g hg => (ht g hg).1)), h.hf, h.hm, h.ne, h.hr, fun g hg => Nat.lt_of_lt_of_le (h.hl g hg) ho.size, h.cells.only ho (fun hg => (ht fb hg).2 (Or.inl rfl)),
    h.grp.stay (ho.block mb h.grp.lt (fun hg => (ht mb hg).2 (Or.inr (Or.inl rfl)))) (fun g hg => ho.block g (h.hl g hg) (fun h1 => (ht g h1).2 (Or.inr (Or.inr hg))))⟩
theorem Fnd.set {w0 w : World} {fb mb n c u j : Nat} {A : Option Addr} {R : Nat → Prop} {l : List UInt8} (h : Fnd w0 w fb mb A n c R u j l) (v : Nat) : Fnd w0 (w.setCell ⟨fb, 2, none⟩ (.int .i64 (v : Int))) fb mb A n c R v j l :=
  have ho : Only (fun g => g = fb) w (w.setCell ⟨fb, 2, none⟩ (.int .i64 (v : Int))) := Only.of_set _ _ _ rfl
  ⟨h.bel.trans (ho.below h.bel.size (fun g hg => hg ▸ h.hf)), h.hf, h.hm, h.ne, h.hr, fun g hg => Nat.lt_of_lt_of_le (h.hl g hg) ho.size, h.cells.set 2 _,
    h.grp.stay (ho.block mb h.grp.lt (fun hg => h.ne hg.symm)) (fun g hg => ho.block g (h.hl g hg) (fun h1 => (h.hr g hg).2.1 h1))⟩
theorem wp_mapEntry {P : Program} {o : Oper} {a : Act} {K : Act → World → Prop} {Q : Exit → Act → World → Prop} {w w1 : World} {r : Value} (t : TypeId) (m x : Operand) (hop : o.op = Op.mapEntry t m x)
    (hrun : (Instr.mapEntry t (a.eval m) (a.eval x)).run P w = .ok r w1) (hK : K (a.put o.dst r) w1) : Oper.wp P o a w K Q := by
  unfold Oper.wp
  simp [execOp, hop, hrun, Result.andThen]
  exact hK
theorem wp_lookup {P : Program} {o : Oper} {a : Act} {K : Act → World → Prop} {Q : Exit → Act → World → Prop} {w w1 : World} {r : Value} (t : TypeId) (m x : Operand) (ok : Bool) (hop : o.op = Op.lookup t m x ok)
    (hrun : (Instr.lookup t (a.eval m) (a.eval x) ok).run P w = .ok r w1) (hK : K (a.put o.dst r) w1) : Oper.wp P o a w K Q := by
  unfold Oper.wp
  simp [execOp, hop, hrun, Result.andThen]
  exact hK
theorem wp_entryStore {P : Program} {o : Oper} {a : Act} {K : Act → World → Prop} {Q : Exit → Act → World → Prop} {w w1 : World} (t : TypeId) (m s x : Operand) (hop : o.op = Op.entryStore t m s x)
    (hrun : (Instr.entryStore t (a.eval m) (a.eval s) (a.eval x)).run P w = .ok () w1) (hK : K (a.put o.dst undef) w1) : Oper.wp P o a w K Q := by
  unfold Oper.wp
  simp [execOp, hop, hrun, Result.andThen]
  exact hK
theorem run_arrayAt3 (A : Option Addr) (c : Nat) (w : World) : (Instr.arrayAt T3 (.slice A 3 c)).run Try.prog w = .ok (.pointer A) w := by
  simp [Instr.arrayAt, run_underlying Try.underlying58]
end Go.Proofs.Ytaoigplmkckieaa
