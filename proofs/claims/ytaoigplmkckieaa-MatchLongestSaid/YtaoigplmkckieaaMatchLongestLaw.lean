/-
  The law 'MatchLongest' is lifted from its walk to the given statement: for every input the call returns true, and each argument reads afterwards as it read before. No condition.
-/
import Derived.Test.YtaoigplmkckieaaRows
import Derived.Test.YtaoigplmkckieaaRow
import Derived.Test.YtaoigplmkckieaaMa21
namespace Go.Proofs.Ytaoigplmkckieaa
open Go.ChangeShapes Go.WideShapes Go.ChangeAt Go.RowKit
set_option linter.unusedVariables false

theorem ownMatchLongest : ownKnob Try.prog.godebug = none := by kernel_rfl
theorem laidOutMatchLongest : laidOutB Try.prog = true := by kernel_rfl

set_option maxRecDepth 100000 in
theorem liftedMatchLongest (os : Os) (started : os.Started) (H : Type) (enc : TypeId × Value → H) :
    ReturnsInHanded {} Try.checked os 7 .any (Rows.matchLongestSpec.pre6 enc Try.prog Try.f7 Rows.matchLongestRow.domain false) (Rows.matchLongestSpec.post enc Try.prog Try.f7 false true false false) := by
  refine returnsInHanded_of_change (C := Try.checked) ownMatchLongest started (by kernel_rfl) Try.func7
    (ChangeSpec.witness6 (enc := enc) (C := Try.checked) false ⟨#[], #[.slice none 0 0, .int .i64 0, .int .i64 0], []⟩ 8 (by kernel_rfl) (by kernel_rfl) (by kernel_rfl) (by kernel_rfl)) ?_
  intro W base args ds gs before hval0 hW hcnd _
  have hval : ∀ (j : Nat) t v, Try.f7.params[j]? = some t → args[j]? = some v → Value.okWide Try.prog W .any base t v := hval0
  have hW' := hW
  obtain ⟨p, q, hA0, hV, rfl, hfz, hnd⟩ := hW
  have hA : DataW.TrodAll enc Try.prog W 0 (fun _ => true) true Try.f7.params.toList args.toList ds p := hA0
  rw [Try.params7] at hA hval
  obtain ⟨v0, vs0, d0, ds0, p0, q0, hargs, rfl, rfl, h0, r0⟩ := trodAll_cons hA
  obtain ⟨v1, vs1, d1, ds1, p1, q1, rfl, rfl, rfl, h1, r1⟩ := trodAll_cons r0
  obtain ⟨v2, vs2, d2, ds2, p2, q2, rfl, rfl, rfl, h2, r2⟩ := trodAll_cons r1
  obtain ⟨rfl, rfl, rfl⟩ := trodAll_nil r2
  obtain rfl : args = #[v0, v1, v2] := by cases args; simp_all
  obtain ⟨rfl, rfl⟩ := trodVars_none hV
  have lt0 := arg_lt h0
  have y0 := hval 0 22 v0 rfl rfl
  obtain ⟨A0, n0, c0, l0, rfl, hn0, hc0, ho0⟩ := arg_oct Try.underlying22 Try.underlying5 (by kernel_rfl) y0 h0
  have lt1 := arg_lt h1
  have y1 := hval 1 3 v1 rfl rfl
  obtain ⟨x1, rfl, hx1⟩ := arg_int Try.underlying3 y1 h1
  have lt2 := arg_lt h2
  have y2 := hval 2 3 v2 rfl rfl
  obtain ⟨x2, rfl, hx2⟩ := arg_int Try.underlying3 y2 h2
  clear hA0 hval0
  refine (walkMatchLongest A0 n0 c0 l0 x1 x2 W ho0 hn0 hc0 hx1 hx2).mono fun e W' ⟨he, bel⟩ => ?_
  subst he
  exact ⟨_, rfl, _, _, _, [], _, [], hW', trodAll_mk1 (shut_bool Try.underlying4 _), (trodAll_cons_mk (Below.trod laidOutMatchLongest (by kernel_rfl) (of_decide_eq_true (by kernel_rfl)) h0 bel lt0) (trodAll_cons_mk (Below.trod laidOutMatchLongest (by kernel_rfl) (of_decide_eq_true (by kernel_rfl)) h1 bel lt1) (trodAll_cons_mk (Below.trod laidOutMatchLongest (by kernel_rfl) (of_decide_eq_true (by kernel_rfl)) h2 bel lt2) trodAll_mk0))), rfl, bel.frame _, fun h => by cases h⟩

theorem overMatchLongest : Rows.matchLongestRow.holds Try.pinned (OpenSpec.ofChange Rows.matchLongestSpec) :=
  OpenClaim.holds_of_wide 7 Try.f7 rfl rfl rfl rfl rfl rfl rfl ⟨rfl, rfl, rfl, rfl, rfl⟩ rfl rfl rfl rfl rfl (by kernel_rfl) Try.func7 (by kernel_rfl)
    (of_decide_eq_true (by kernel_rfl)) (by unfold Func.isWrapper; rw [if_neg (of_decide_eq_false (by kernel_rfl))]; exact ⟨rfl, rfl⟩)
    (fun os started H enc _ => liftedMatchLongest os started H enc)

theorem holdsMatchLongest : Rows.MatchLongestSaid := overMatchLongest
#print axioms holdsMatchLongest
end Go.Proofs.Ytaoigplmkckieaa
