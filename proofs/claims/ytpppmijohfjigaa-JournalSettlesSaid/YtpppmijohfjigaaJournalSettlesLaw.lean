/-
  The law 'JournalSettles' is lifted from its walk to the given statement: for every input the call returns true, and each argument reads afterwards as it read before. No condition.
-/
import Derived.Test.YtpppmijohfjigaaRows
import Derived.Test.YtpppmijohfjigaaJnArg
import Derived.Test.YtpppmijohfjigaaJn31
namespace Go.Proofs.Ytpppmijohfjigaa
open Go.ChangeShapes Go.WideShapes Go.ChangeAt Go.RowKit
set_option linter.unusedVariables false

theorem ownJournalSettles : ownKnob Try.prog.godebug = none := by kernel_rfl
theorem laidOutJournalSettles : laidOutB Try.prog = true := by kernel_rfl

set_option maxRecDepth 100000 in
theorem liftedJournalSettles (os : Os) (started : os.Started) (H : Type) (enc : TypeId × Value → H) :
    ReturnsInHanded {} Try.checked os 5 .any (Rows.journalSettlesSpec.pre6 enc Try.prog Try.f5 Rows.journalSettlesRow.domain false) (Rows.journalSettlesSpec.post enc Try.prog Try.f5 false true false false) := by
  refine returnsInHanded_of_change (C := Try.checked) ownJournalSettles started (by kernel_rfl) Try.func5
    (ChangeSpec.witness6 (enc := enc) (C := Try.checked) false ⟨#[], #[.slice none 0 0], []⟩ 8 (by kernel_rfl) (by kernel_rfl) (by kernel_rfl) (by kernel_rfl)) ?_
  intro W base args ds gs before hval0 hW hcnd _
  have hval : ∀ (j : Nat) t v, Try.f5.params[j]? = some t → args[j]? = some v → Value.okWide Try.prog W .any base t v := hval0
  have hW' := hW
  obtain ⟨p, q, hA0, hV, rfl, hfz, hnd⟩ := hW
  have hA : DataW.TrodAll enc Try.prog W 0 (fun _ => true) true Try.f5.params.toList args.toList ds p := hA0
  rw [Try.params5] at hA hval
  obtain ⟨v0, vs0, d0, ds0, p0, q0, hargs, rfl, rfl, h0, r0⟩ := trodAll_cons hA
  obtain ⟨rfl, rfl, rfl⟩ := trodAll_nil r0
  obtain rfl : args = #[v0] := by cases args; simp_all
  obtain ⟨rfl, rfl⟩ := trodVars_none hV
  have lt0 := arg_lt h0
  have y0 := hval 0 49 v0 rfl rfl
  obtain ⟨s0, rfl, hs0⟩ := arg_acts y0 h0
  clear hA0 hval0
  refine (walkJournalSettles s0 W hs0).mono fun e W' ⟨he, bel⟩ => ?_
  subst he
  exact ⟨_, rfl, _, _, _, [], _, [], hW', trodAll_mk1 (shut_bool Try.underlying4 _), (trodAll_cons_mk (Below.trod laidOutJournalSettles (by kernel_rfl) (of_decide_eq_true (by kernel_rfl)) h0 bel lt0) trodAll_mk0), rfl, bel.frame _, fun h => by cases h⟩

theorem overJournalSettles : Rows.journalSettlesRow.holds Try.pinned (OpenSpec.ofChange Rows.journalSettlesSpec) :=
  OpenClaim.holds_of_wide 5 Try.f5 rfl rfl rfl rfl rfl rfl rfl ⟨rfl, rfl, rfl, rfl, rfl⟩ rfl rfl rfl rfl rfl (by kernel_rfl) Try.func5 (by kernel_rfl)
    (of_decide_eq_true (by kernel_rfl)) (by unfold Func.isWrapper; rw [if_neg (of_decide_eq_false (by kernel_rfl))]; exact ⟨rfl, rfl⟩)
    (fun os started H enc _ => liftedJournalSettles os started H enc)

theorem holdsJournalSettles : Rows.JournalSettlesSaid := overJournalSettles
#print axioms holdsJournalSettles
end Go.Proofs.Ytpppmijohfjigaa
