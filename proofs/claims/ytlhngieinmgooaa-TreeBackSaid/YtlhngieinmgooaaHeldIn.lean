/-
  A drawn region within a round of a range over a function is walked as one that is not: what is shown of it outside a round serves within it, where it defers nothing. A part of the proof: see the head of the text that ends in 'Law'.
-/
import Derived.Test.YtlhngieinmgooaaCarry
import Derived.RangeFuncNested
import Derived.RangeFuncCalls
import Derived.OrdersIn
import Derived.Deep.RegionHeld3
namespace Go.Proofs.Ytlhngieinmgooaa
open Go.RowKit
set_option linter.unusedVariables false

/-- It ends as it should. -/
def QN (Q : Exit → Act → World → Prop) : Exit → Act → World → Prop
  | .normal, a, w => Q .normal a w
  | _, _, _ => False
theorem QN.no (Q : Exit → Act → World → Prop) : ¬ LetsOut (QN Q) := fun ⟨_, _, h⟩ => h
theorem QN.normal {Q : Exit → Act → World → Prop} {a : Act} {w : World} (h : Q .normal a w) : QN Q .normal a w := h
theorem oper_in {l n : Nat} {P : Program} {o : Oper} {a : Act} {w : World} {K : Act → World → Prop} {Q : Exit → Act → World → Prop} (hd : ∀ c, o.op ≠ .defer c) (h : o.wp P a w K (QN Q)) : o.wpIn (Fence.wide.inRound l) n P a w K Q := by
  unfold Oper.wpIn
  refine ⟨fun f _ => trivial, ?_⟩
  rw [Oper.semAt_eq _ _ _ hd]
  unfold Oper.wp at h
  generalize (execOp a.eval o).run P w = r at *
  cases r with
  | ok x w' =>
    cases x <;> simp only [Oper.upon, Oper.uponIn] at h ⊢
    case value v => exact h
    case skip => exact h
    case defer d => exact h
    case enter f args =>
      refine ⟨fun hh => by simp [Fence.wide] at hh, ?_⟩
      refine CallsIn.inRound l (callsIn_wide.2 (h.mono fun e w'' he => ?_))
      cases e with
      | returned v => exact he
      | panicked c => exact (he : False).elim
      | outgrown => exact absurd he (QN.no Q)
    case row row args =>
      refine ⟨fun hh => by simp [Fence.wide] at hh, fun c cs _ => ?_⟩
      obtain ⟨v, w'', h1, h2⟩ := h c cs
      exact ⟨v, w'', h1, stepsIn_wide.2 h2⟩
  | halt x w' =>
    cases x <;> simp only [Oper.upon, Oper.uponIn] at h ⊢
    case panic v => exact (h : False).elim
theorem any_in {l n : Nat} {P : Program} {md : Region.Mode} {ops : Array Oper} {Q : Exit → Act → World → Prop} (hd : ∀ (i : Nat) (o : Oper), ops[i]? = some o → ∀ c, o.op ≠ .defer c) :
    ∀ (fuel : Nat) (listed : Array Bool) (a : Act) (w : World), wpAny P md ops (QN Q) fuel listed a w → wpAnyIn (Fence.wide.inRound l) n P md ops Q fuel listed a w
  | 0, listed, a, w, h => ⟨h.1, h.2⟩
  | fuel + 1, listed, a, w, h => ⟨h.1, fun i hi => by
    have h1 := h.2 i hi
    unfold wpOp at h1
    unfold wpOpIn
    cases ho : ops[i]? with
    | none =>
      simp only [ho] at h1 ⊢
      exact any_in hd fuel _ _ _ h1
    | some o =>
      simp only [ho] at h1 ⊢
      split at h1
      · rename_i hw
        rw [if_pos hw]
        rcases h1 with h1 | ⟨_, h1⟩
        · exact oper_in (hd i o ho) (Oper.wp_mono (fun a w h => any_in hd fuel _ a w h) h1)
        · exact absurd h1 (QN.no Q)
      · rename_i hw
        rw [if_neg hw]
        exact ⟨fun f _ => trivial, any_in hd fuel _ _ _ h1⟩⟩
/-- No operation defers. -/
def noDefer (ops : Array Oper) : Bool := ops.all fun o => match o.op with
  | .defer _ => false
  | _ => true
theorem noDefer_get {ops : Array Oper} (h : noDefer ops = true) (i : Nat) (o : Oper) (ho : ops[i]? = some o) : ∀ c, o.op ≠ .defer c := by
  intro c e
  unfold noDefer at h
  rw [Array.all_eq_true] at h
  obtain ⟨hi, hv⟩ := Array.getElem?_eq_some_iff.1 ho
  have := h i hi
  rw [hv, e] at this
  cases this
theorem wpIn_region_held {l n id : Nat} {P : Program} {ops : Array Oper} {Q : Exit → Act → World → Prop} {S : World → Prop} {a : Act} {w : World} (hm : P.follows .mixedOrders = true) (hd : noDefer ops = true) (hS : S w.drew)
    (h : S w.drew → wpAnyH P .any ops (QN Q) S ops.size (Array.replicate ops.size false) a w.drew) : (Code.region id ops true).wpIn (Fence.wide.inRound l) n P Q a w :=
  wpIn_region_any hm (any_in (noDefer_get hd) _ _ _ _ (wpAny_of_held _ _ _ _ (h hS)))
end Go.Proofs.Ytlhngieinmgooaa
