/-
  The law 'LineChunks' is lifted from its walk to the given statement: for every input the call returns true, and each argument reads afterwards as it read before. No condition.
-/
import Derived.HandedShaped
import Derived.Test.YtlddhgnecfgnkaaRows
import Derived.Test.YtlddhgnecfgnkaaRow
import Derived.Test.YtlddhgnecfgnkaaLiC3
import Derived.Test.YtlddhgnecfgnkaaLiArg
namespace Go.Proofs.Ytlddhgnecfgnkaa
open Go.ChangeShapes Go.WideShapes Go.ChangeAt Go.RowKit
set_option linter.unusedVariables false

theorem ownLineChunks : ownKnob Try.prog.godebug = none := by kernel_rfl
theorem laidOutLineChunks : laidOutB Try.prog = true := by kernel_rfl

set_option maxRecDepth 100000 in
theorem liftedLineChunks (os : Os) (started : os.Started) (H : Type) (enc : TypeId × Value → H) :
    ReturnsInHanded {} Try.checked os 4 .any (Rows.lineChunksSpec.pre6 enc Try.prog Try.f4 Rows.lineChunksRow.domain false) (Rows.lineChunksSpec.post enc Try.prog Try.f4 false true false false) := by
  refine returnsInHanded_of_change_shaped (C := Try.checked) ownLineChunks started (by kernel_rfl) Try.func4
    (ChangeSpec.witness6 (enc := enc) (C := Try.checked) false ⟨#[], #[.slice none 0 0], []⟩ 8 (by kernel_rfl) (by kernel_rfl) (by kernel_rfl) (by kernel_rfl)) ?_
  intro W base args ds gs before hval0 hW hcnd hwts hsh _
  have hval : ∀ (j : Nat) t v, Try.f4.params[j]? = some t → args[j]? = some v → Value.okWide Try.prog W .any base t v := hval0
  have hW' := hW
  obtain ⟨p, q, hA0, hV, rfl, hfz, hnd⟩ := hW
  have hA : DataW.TrodAll enc Try.prog W 0 (fun _ => true) true Try.f4.params.toList args.toList ds p := hA0
  rw [Try.params4] at hA hval
  obtain ⟨v0, vs0, d0, ds0, p0, q0, hargs, rfl, rfl, h0, r0⟩ := trodAll_cons hA
  obtain ⟨rfl, rfl, rfl⟩ := trodAll_nil r0
  obtain rfl : args = #[v0] := by cases args; simp_all
  obtain ⟨rfl, rfl⟩ := trodVars_none hV
  have lt0 := arg_lt h0
  have y0 := hval 0 23 v0 rfl rfl
  have hw0 : ∀ k ∈ d0.weights Try.prog 23, k ≤ reachBytes := fun k hk => of_decide_eq_true (List.all_eq_true.1 hwts _ (DataW.weights_mem_each (j := 0) (t := 23) (by rw [Try.params4]; rfl) rfl k hk))
  obtain ⟨A0, n0, c0, L0, rfl, hn0, hc0, hL0, hr0, hk0⟩ := arg_octs_sized Try.underlying23 (by kernel_rfl) Try.underlying28 Try.underlying5 (by kernel_rfl) (by kernel_rfl) y0 h0 hw0
  clear hA0 hval0
  refine (walkLineChunks A0 n0 c0 L0 W hn0 hc0 hL0 hr0 hk0 (gm_shaped W hsh)).mono fun e W' ⟨he, bel⟩ => ?_
  subst he
  exact ⟨_, rfl, _, _, _, [], _, [], hW', trodAll_mk1 (shut_bool Try.underlying4 _), (trodAll_cons_mk (Below.trod laidOutLineChunks (by kernel_rfl) (of_decide_eq_true (by kernel_rfl)) h0 bel lt0) trodAll_mk0), rfl, bel.frame _, fun h => by cases h⟩

theorem overLineChunks : Rows.lineChunksRow.holds Try.pinned (OpenSpec.ofChange Rows.lineChunksSpec) :=
  OpenClaim.holds_of_wide 4 Try.f4 rfl rfl rfl rfl rfl rfl rfl ⟨rfl, rfl, rfl, rfl, rfl⟩ rfl rfl rfl rfl rfl (by kernel_rfl) Try.func4 (by kernel_rfl)
    (of_decide_eq_true (by kernel_rfl)) (by unfold Func.isWrapper; rw [if_neg (of_decide_eq_false (by kernel_rfl))]; exact ⟨rfl, rfl⟩)
    (fun os started H enc _ => liftedLineChunks os started H enc)

theorem holdsLineChunks : Rows.LineChunksSaid := overLineChunks
#print axioms holdsLineChunks
end Go.Proofs.Ytlddhgnecfgnkaa
