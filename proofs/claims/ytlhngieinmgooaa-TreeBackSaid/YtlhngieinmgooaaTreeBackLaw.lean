/-
  The law 'TreeBack' is lifted from its walk to the given statement: for every input the call returns true, and each argument reads afterwards as it read before. No condition.
-/
import Derived.Test.YtlhngieinmgooaaRows
import Derived.Test.YtlhngieinmgooaaTrArg
import Derived.Test.YtlhngieinmgooaaTr32
namespace Go.Proofs.Ytlhngieinmgooaa
open Go.ChangeShapes Go.WideShapes Go.ChangeAt Go.RowKit
set_option linter.unusedVariables false

theorem ownTreeBack : ownKnob Try.prog.godebug = none := by kernel_rfl
theorem laidOutTreeBack : laidOutB Try.prog = true := by kernel_rfl

set_option maxRecDepth 100000 in
theorem liftedTreeBack (os : Os) (started : os.Started) (H : Type) (enc : TypeId × Value → H) :
    ReturnsInHanded {} Try.checked os 5 .any (Rows.treeBackSpec.pre6 enc Try.prog Try.f5 Rows.treeBackRow.domain false) (Rows.treeBackSpec.post enc Try.prog Try.f5 false true false false) := by
  refine returnsInHanded_of_change (C := Try.checked) ownTreeBack started (by kernel_rfl) Try.func5
    (ChangeSpec.witness6 (enc := enc) (C := Try.checked) false ⟨#[], #[.slice none 0 0, .int .u64 0], []⟩ 8 (by kernel_rfl) (by kernel_rfl) (by kernel_rfl) (by kernel_rfl)) ?_
  intro W base args ds gs before hval0 hW hcnd _
  have hval : ∀ (j : Nat) t v, Try.f5.params[j]? = some t → args[j]? = some v → Value.okWide Try.prog W .any base t v := hval0
  have hW' := hW
  obtain ⟨p, q, hA0, hV, rfl, hfz, hnd⟩ := hW
  have hA : DataW.TrodAll enc Try.prog W 0 (fun _ => true) true Try.f5.params.toList args.toList ds p := hA0
  rw [Try.params5] at hA hval
  obtain ⟨v0, vs0, d0, ds0, p0, q0, hargs, rfl, rfl, h0, r0⟩ := trodAll_cons hA
  obtain ⟨v1, vs1, d1, ds1, p1, q1, rfl, rfl, rfl, h1, r1⟩ := trodAll_cons r0
  obtain ⟨rfl, rfl, rfl⟩ := trodAll_nil r1
  obtain rfl : args = #[v0, v1] := by cases args; simp_all
  obtain ⟨rfl, rfl⟩ := trodVars_none hV
  have lt0 := arg_lt h0
  have y0 := hval 0 22 v0 rfl rfl
  obtain ⟨A0, n0, c0, l0, rfl, hn0, hc0, hl0, hr0, hk0⟩ := arg_pas Try.underlying22 Try.underlying48 (by kernel_rfl) rfl rfl (by kernel_rfl) (by kernel_rfl) Try.underlying44 Try.underlying44 y0 h0
  have lt1 := arg_lt h1
  have y1 := hval 1 44 v1 rfl rfl
  obtain ⟨k1, rfl, hk1⟩ := arg_uint (k := .u64) rfl Try.underlying44 y1 h1
  clear hA0 hval0
  refine (walkTreeBack A0 n0 c0 l0 k1 W hn0 hc0 hl0 hr0 hk0 hk1).mono fun e W' ⟨he, bel⟩ => ?_
  subst he
  exact ⟨_, rfl, _, _, _, [], _, [], hW', trodAll_mk1 (shut_bool Try.underlying4 _), (trodAll_cons_mk (Below.trod laidOutTreeBack (by kernel_rfl) (of_decide_eq_true (by kernel_rfl)) h0 bel lt0) (trodAll_cons_mk (Below.trod laidOutTreeBack (by kernel_rfl) (of_decide_eq_true (by kernel_rfl)) h1 bel lt1) trodAll_mk0)), rfl, bel.frame _, fun h => by cases h⟩

theorem overTreeBack : Rows.treeBackRow.holds Try.pinned (OpenSpec.ofChange Rows.treeBackSpec) :=
  OpenClaim.holds_of_wide 5 Try.f5 rfl rfl rfl rfl rfl rfl rfl ⟨rfl, rfl, rfl, rfl, rfl⟩ rfl rfl rfl rfl rfl (by kernel_rfl) Try.func5 (by kernel_rfl)
    (of_decide_eq_true (by kernel_rfl)) (by unfold Func.isWrapper; rw [if_neg (of_decide_eq_false (by kernel_rfl))]; exact ⟨rfl, rfl⟩)
    (fun os started H enc _ => liftedTreeBack os started H enc)

theorem holdsTreeBack : Rows.TreeBackSaid := overTreeBack
#print axioms holdsTreeBack
end Go.Proofs.Ytlhngieinmgooaa
