/-
  Feed: octets come. A part of the proof: see the head of the text that ends in 'Law'.
-/
import Derived.Test.YtlddhgnecfgnkaaLi22
namespace Go.Proofs.Ytlddhgnecfgnkaa
open Go.RowKit
set_option linter.unusedVariables false
attribute [local go_sem] Oper.semAt_some

theorem step_len (R : Rdr) (c : UInt8) : (stepR R c).2.length ≤ 1 := by
  have he : ∀ ps k, (endL ps k).length ≤ 1 := fun ps k => by unfold endL; split <;> simp
  unfold stepR
  split
  · simp
  · split
    · unfold lineR
      split
      · exact he _ _
      · split
        · exact he _ _
        · split
          · exact he _ _
          · simp
    · split <;> simp
theorem feed_len : ∀ (l : List UInt8) (R : Rdr), (feedR R l).2.length ≤ l.length
  | [], R => by simp [feedR]
  | c :: l, R => by
    have h1 := step_len R c
    have h2 := feed_len l (stepR R c).1
    simp [feedR]
    omega
/-- A row of another type stays. -/
theorem RdAt.row {X X' : World} {b0 b1 r n size : Nat} {VP VH VP' VH' : Value} {R : Rdr} {e : TypeId} {v : Value} {xs : List Value} (h : RdAt X b0 r VP VH R) (hM : Mv X X' r VP VH VP' VH') (ho : X.ownsRow b1 e size v n xs) (h1 : e ≠ 48) (h2 : e ≠ 40) (h3 : e ≠ 5) : X'.ownsRow b1 e size v n xs :=
  own_only ho hM.o (fun g hg hr => by
    rcases hr with rfl | hr | hr
    · exact h.cells.row_ne ho (fun e => h1 e.symm) hg
    · exact own_types ho h.ps h2 g hg hr
    · exact own_types ho h.hv h3 g hg hr)
/-- A reader behind the first octets, and what was told of them. -/
structure FdI (w0 W X : World) (r : Nat) (VP VH : Value) (R : Rdr) (l : List UInt8) (j : Nat) (V : Value) (VP' VH' : Value) (vs : List Value) : Prop where
  rd : RdAt X w0.heap.size r VP' VH' (feedR R (l.take j)).1
  mv : Mv W X r VP VH VP' VH'
  out : X.ownsRow W.heap.size 45 3 V (feedR R (l.take j)).2.length vs
  ins : InsC X W.heap.size vs (feedR R (l.take j)).2
theorem FdI.move {w0 W X X' : World} {r : Nat} {VP VH VP' VH' VP2 VH2 V : Value} {R : Rdr} {l : List UInt8} {j : Nat} {vs : List Value} (h : FdI w0 W X r VP VH R l j V VP' VH' vs) (hj : j < l.length) (h1 : RdAt X' w0.heap.size r VP2 VH2 (stepR (feedR R (l.take j)).1 (l[j]'hj)).1) (h2 : Mv X X' r VP' VH' VP2 VH2) (h3 : (stepR (feedR R (l.take j)).1 (l[j]'hj)).2 = []) : FdI w0 W X' r VP VH R l (j + 1) V VP2 VH2 vs := by
  have e : feedR R (l.take (j + 1)) = ((stepR (feedR R (l.take j)).1 (l[j]'hj)).1, (feedR R (l.take j)).2) := by rw [List.take_succ_eq_append_getElem hj, feedR_snoc, h3, List.append_nil]
  refine ⟨by rw [e]; exact h1, h.mv.trans h2, by rw [e]; exact h.rd.row h2 h.out (by decide) (by decide) (by decide), by rw [e]; exact h.ins.keep (fun v n ys k => h.rd.row h2 k (by decide) (by decide) (by decide))⟩
theorem FdI.oct {w0 W X : World} {r : Nat} {VP VH VP' VH' V : Value} {R : Rdr} {l : List UInt8} {j n : Nat} {vs : List Value} {A : Option Addr} (h : FdI w0 W X r VP VH R l j V VP' VH' vs) (hl : Oct W A n l) (hA : ∀ a, A = some a → l ≠ [] → ¬ RM r VP VH a.block) : Oct X A n l :=
  ⟨hl.1, fun hx => row_only hl.2 h.mv.o (fun a ha => hA a ha (by intro e; apply hx; rw [e]; rfl)) hx⟩
end Go.Proofs.Ytlddhgnecfgnkaa
