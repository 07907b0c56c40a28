/-
  The law 'LineQuotes' is lifted from its walk to the given statement: for every input the call returns true, and each argument reads afterwards as it read before. No condition.
-/
import Derived.HandedShaped
import Derived.Test.YtlddhgnecfgnkaaRows
import Derived.Test.YtlddhgnecfgnkaaRow
import Derived.Test.YtlddhgnecfgnkaaLiQ
namespace Go.Proofs.Ytlddhgnecfgnkaa
open Go.ChangeShapes Go.WideShapes Go.ChangeAt Go.RowKit
set_option linter.unusedVariables false

theorem ownLineQuotes : ownKnob Try.prog.godebug = none := by kernel_rfl
theorem laidOutLineQuotes : laidOutB Try.prog = true := by kernel_rfl

set_option maxRecDepth 100000 in
theorem liftedLineQuotes (os : Os) (started : os.Started) (H : Type) (enc : TypeId × Value → H) :
    ReturnsInHanded {} Try.checked os 5 .any (Rows.lineQuotesSpec.pre6 enc Try.prog Try.f5 Rows.lineQuotesRow.domain false) (Rows.lineQuotesSpec.post enc Try.prog Try.f5 false true false false) := by
  refine returnsInHanded_of_change_shaped (C := Try.checked) ownLineQuotes started (by kernel_rfl) Try.func5
    (ChangeSpec.witness6 (enc := enc) (C := Try.checked) false ⟨#[], #[.slice none 0 0], []⟩ 8 (by kernel_rfl) (by kernel_rfl) (by kernel_rfl) (by kernel_rfl)) ?_
  intro W base args ds gs before hval0 hW hcnd _ hsh _
  have hval : ∀ (j : Nat) t v, Try.f5.params[j]? = some t → args[j]? = some v → Value.okWide Try.prog W .any base t v := hval0
  have hW' := hW
  obtain ⟨p, q, hA0, hV, rfl, hfz, hnd⟩ := hW
  have hA : DataW.TrodAll enc Try.prog W 0 (fun _ => true) true Try.f5.params.toList args.toList ds p := hA0
  rw [Try.params5] at hA hval
  obtain ⟨v0, vs0, d0, ds0, p0, q0, hargs, rfl, rfl, h0, r0⟩ := trodAll_cons hA
  obtain ⟨rfl, rfl, rfl⟩ := trodAll_nil r0
  obtain rfl : args = #[v0] := by cases args; simp_all
  obtain ⟨rfl, rfl⟩ := trodVars_none hV
  have lt0 := arg_lt h0
  have y0 := hval 0 28 v0 rfl rfl
  obtain ⟨A0, n0, c0, l0, rfl, hn0, hc0, ho0⟩ := arg_oct Try.underlying28 Try.underlying5 (by kernel_rfl) y0 h0
  clear hA0 hval0
  refine (walkLineQuotes A0 n0 c0 l0 W ho0 hn0 hc0 (gm_shaped W hsh)).mono fun e W' ⟨he, bel⟩ => ?_
  subst he
  exact ⟨_, rfl, _, _, _, [], _, [], hW', trodAll_mk1 (shut_bool Try.underlying4 _), (trodAll_cons_mk (Below.trod laidOutLineQuotes (by kernel_rfl) (of_decide_eq_true (by kernel_rfl)) h0 bel lt0) trodAll_mk0), rfl, bel.frame _, fun h => by cases h⟩

theorem overLineQuotes : Rows.lineQuotesRow.holds Try.pinned (OpenSpec.ofChange Rows.lineQuotesSpec) :=
  OpenClaim.holds_of_wide 5 Try.f5 rfl rfl rfl rfl rfl rfl rfl ⟨rfl, rfl, rfl, rfl, rfl⟩ rfl rfl rfl rfl rfl (by kernel_rfl) Try.func5 (by kernel_rfl)
    (of_decide_eq_true (by kernel_rfl)) (by unfold Func.isWrapper; rw [if_neg (of_decide_eq_false (by kernel_rfl))]; exact ⟨rfl, rfl⟩)
    (fun os started H enc _ => liftedLineQuotes os started H enc)

theorem holdsLineQuotes : Rows.LineQuotesSaid := overLineQuotes
#print axioms holdsLineQuotes
end Go.Proofs.Ytlddhgnecfgnkaa
