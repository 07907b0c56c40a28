/-
  The law 'LineBounds' is lifted from its walk to the given statement: for every input the call returns true, and each argument reads afterwards as it read before. No condition.
-/
import Derived.HandedShaped
import Derived.Test.YtlddhgnecfgnkaaRows
import Derived.Test.YtlddhgnecfgnkaaRow
import Derived.Test.YtlddhgnecfgnkaaLiB
namespace Go.Proofs.Ytlddhgnecfgnkaa
open Go.ChangeShapes Go.WideShapes Go.ChangeAt Go.RowKit
set_option linter.unusedVariables false

theorem ownLineBounds : ownKnob Try.prog.godebug = none := by kernel_rfl
theorem laidOutLineBounds : laidOutB Try.prog = true := by kernel_rfl

set_option maxRecDepth 100000 in
theorem liftedLineBounds (os : Os) (started : os.Started) (H : Type) (enc : TypeId × Value → H) :
    ReturnsInHanded {} Try.checked os 6 .any (Rows.lineBoundsSpec.pre6 enc Try.prog Try.f6 Rows.lineBoundsRow.domain false) (Rows.lineBoundsSpec.post enc Try.prog Try.f6 false true false false) := by
  refine returnsInHanded_of_change_shaped (C := Try.checked) ownLineBounds started (by kernel_rfl) Try.func6
    (ChangeSpec.witness6 (enc := enc) (C := Try.checked) false ⟨#[], #[.int .u8 0, .int .u8 0, .slice none 0 0], []⟩ 8 (by kernel_rfl) (by kernel_rfl) (by kernel_rfl) (by kernel_rfl)) ?_
  intro W base args ds gs before hval0 hW hcnd _ hsh _
  have hval : ∀ (j : Nat) t v, Try.f6.params[j]? = some t → args[j]? = some v → Value.okWide Try.prog W .any base t v := hval0
  have hW' := hW
  obtain ⟨p, q, hA0, hV, rfl, hfz, hnd⟩ := hW
  have hA : DataW.TrodAll enc Try.prog W 0 (fun _ => true) true Try.f6.params.toList args.toList ds p := hA0
  rw [Try.params6] at hA hval
  obtain ⟨v0, vs0, d0, ds0, p0, q0, hargs, rfl, rfl, h0, r0⟩ := trodAll_cons hA
  obtain ⟨v1, vs1, d1, ds1, p1, q1, rfl, rfl, rfl, h1, r1⟩ := trodAll_cons r0
  obtain ⟨v2, vs2, d2, ds2, p2, q2, rfl, rfl, rfl, h2, r2⟩ := trodAll_cons r1
  obtain ⟨rfl, rfl, rfl⟩ := trodAll_nil r2
  obtain rfl : args = #[v0, v1, v2] := by cases args; simp_all
  obtain ⟨rfl, rfl⟩ := trodVars_none hV
  have lt0 := arg_lt h0
  have y0 := hval 0 5 v0 rfl rfl
  obtain ⟨k0, rfl, hk0⟩ := arg_uint (k := .u8) rfl Try.underlying5 y0 h0
  have lt1 := arg_lt h1
  have y1 := hval 1 5 v1 rfl rfl
  obtain ⟨k1, rfl, hk1⟩ := arg_uint (k := .u8) rfl Try.underlying5 y1 h1
  have lt2 := arg_lt h2
  have y2 := hval 2 28 v2 rfl rfl
  obtain ⟨A2, n2, c2, l2, rfl, hn2, hc2, ho2⟩ := arg_oct Try.underlying28 Try.underlying5 (by kernel_rfl) y2 h2
  clear hA0 hval0
  refine (walkLineBounds k0 k1 A2 n2 c2 l2 W hk0 hk1 ho2 hn2 hc2 (gm_shaped W hsh)).mono fun e W' ⟨he, bel⟩ => ?_
  subst he
  exact ⟨_, rfl, _, _, _, [], _, [], hW', trodAll_mk1 (shut_bool Try.underlying4 _), (trodAll_cons_mk (Below.trod laidOutLineBounds (by kernel_rfl) (of_decide_eq_true (by kernel_rfl)) h0 bel lt0) (trodAll_cons_mk (Below.trod laidOutLineBounds (by kernel_rfl) (of_decide_eq_true (by kernel_rfl)) h1 bel lt1) (trodAll_cons_mk (Below.trod laidOutLineBounds (by kernel_rfl) (of_decide_eq_true (by kernel_rfl)) h2 bel lt2) trodAll_mk0))), rfl, bel.frame _, fun h => by cases h⟩

theorem overLineBounds : Rows.lineBoundsRow.holds Try.pinned (OpenSpec.ofChange Rows.lineBoundsSpec) :=
  OpenClaim.holds_of_wide 6 Try.f6 rfl rfl rfl rfl rfl rfl rfl ⟨rfl, rfl, rfl, rfl, rfl⟩ rfl rfl rfl rfl rfl (by kernel_rfl) Try.func6 (by kernel_rfl)
    (of_decide_eq_true (by kernel_rfl)) (by unfold Func.isWrapper; rw [if_neg (of_decide_eq_false (by kernel_rfl))]; exact ⟨rfl, rfl⟩)
    (fun os started H enc _ => liftedLineBounds os started H enc)

theorem holdsLineBounds : Rows.LineBoundsSaid := overLineBounds
#print axioms holdsLineBounds
end Go.Proofs.Ytlddhgnecfgnkaa
