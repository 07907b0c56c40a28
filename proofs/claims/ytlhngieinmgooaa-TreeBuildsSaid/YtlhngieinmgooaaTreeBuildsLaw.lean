/-
  The law 'TreeBuilds' is lifted from its walk to the given statement: for every input the call returns true, and each argument reads afterwards as it read before. No condition.
-/
import Derived.Test.YtlhngieinmgooaaRows
import Derived.Test.YtlhngieinmgooaaTrArg
import Derived.Test.YtlhngieinmgooaaTr31
namespace Go.Proofs.Ytlhngieinmgooaa
open Go.ChangeShapes Go.WideShapes Go.ChangeAt Go.RowKit
set_option linter.unusedVariables false

theorem ownTreeBuilds : ownKnob Try.prog.godebug = none := by kernel_rfl
theorem laidOutTreeBuilds : laidOutB Try.prog = true := by kernel_rfl

set_option maxRecDepth 100000 in
theorem liftedTreeBuilds (os : Os) (started : os.Started) (H : Type) (enc : TypeId × Value → H) :
    ReturnsInHanded {} Try.checked os 3 .any (Rows.treeBuildsSpec.pre6 enc Try.prog Try.f3 Rows.treeBuildsRow.domain false) (Rows.treeBuildsSpec.post enc Try.prog Try.f3 false true false false) := by
  refine returnsInHanded_of_change (C := Try.checked) ownTreeBuilds started (by kernel_rfl) Try.func3
    (ChangeSpec.witness6 (enc := enc) (C := Try.checked) false ⟨#[], #[.slice none 0 0, .int .i64 0], []⟩ 8 (by kernel_rfl) (by kernel_rfl) (by kernel_rfl) (by kernel_rfl)) ?_
  intro W base args ds gs before hval0 hW hcnd _
  have hval : ∀ (j : Nat) t v, Try.f3.params[j]? = some t → args[j]? = some v → Value.okWide Try.prog W .any base t v := hval0
  have hW' := hW
  obtain ⟨p, q, hA0, hV, rfl, hfz, hnd⟩ := hW
  have hA : DataW.TrodAll enc Try.prog W 0 (fun _ => true) true Try.f3.params.toList args.toList ds p := hA0
  rw [Try.params3] at hA hval
  obtain ⟨v0, vs0, d0, ds0, p0, q0, hargs, rfl, rfl, h0, r0⟩ := trodAll_cons hA
  obtain ⟨v1, vs1, d1, ds1, p1, q1, rfl, rfl, rfl, h1, r1⟩ := trodAll_cons r0
  obtain ⟨rfl, rfl, rfl⟩ := trodAll_nil r1
  obtain rfl : args = #[v0, v1] := by cases args; simp_all
  obtain ⟨rfl, rfl⟩ := trodVars_none hV
  have lt0 := arg_lt h0
  have y0 := hval 0 22 v0 rfl rfl
  obtain ⟨A0, n0, c0, l0, rfl, hn0, hc0, hl0, hr0, hk0⟩ := arg_pas Try.underlying22 Try.underlying48 (by kernel_rfl) rfl rfl (by kernel_rfl) (by kernel_rfl) Try.underlying44 Try.underlying44 y0 h0
  have lt1 := arg_lt h1
  have y1 := hval 1 3 v1 rfl rfl
  obtain ⟨x1, rfl, hx1⟩ := arg_int Try.underlying3 y1 h1
  clear hA0 hval0
  refine (walkTreeBuilds A0 n0 c0 l0 x1 W hn0 hc0 hl0 hr0 hk0 hx1).mono fun e W' ⟨he, bel⟩ => ?_
  subst he
  exact ⟨_, rfl, _, _, _, [], _, [], hW', trodAll_mk1 (shut_bool Try.underlying4 _), (trodAll_cons_mk (Below.trod laidOutTreeBuilds (by kernel_rfl) (of_decide_eq_true (by kernel_rfl)) h0 bel lt0) (trodAll_cons_mk (Below.trod laidOutTreeBuilds (by kernel_rfl) (of_decide_eq_true (by kernel_rfl)) h1 bel lt1) trodAll_mk0)), rfl, bel.frame _, fun h => by cases h⟩

theorem overTreeBuilds : Rows.treeBuildsRow.holds Try.pinned (OpenSpec.ofChange Rows.treeBuildsSpec) :=
  OpenClaim.holds_of_wide 3 Try.f3 rfl rfl rfl rfl rfl rfl rfl ⟨rfl, rfl, rfl, rfl, rfl⟩ rfl rfl rfl rfl rfl (by kernel_rfl) Try.func3 (by kernel_rfl)
    (of_decide_eq_true (by kernel_rfl)) (by unfold Func.isWrapper; rw [if_neg (of_decide_eq_false (by kernel_rfl))]; exact ⟨rfl, rfl⟩)
    (fun os started H enc _ => liftedTreeBuilds os started H enc)

theorem holdsTreeBuilds : Rows.TreeBuildsSaid := overTreeBuilds
#print axioms holdsTreeBuilds
end Go.Proofs.Ytlhngieinmgooaa
