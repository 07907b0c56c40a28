/-
  The law 'SearchMatches' is lifted from its walk to the given card: for every input the call returns true, and each argument reads afterwards as it read before. No condition.
-/
import Derived.Test.YtonjadmldgloaaaGreatDoorRows
import Derived.Test.YtonjadmldgloaaaGreatDoorCards
import Derived.Test.YtonjadmldgloaaaGreatDoorTie
import Derived.Test.YtonjadmldgloaaaGreatDoorDoor
import Derived.Test.YtonjadmldgloaaaGreatDoorSeArg
import Derived.Test.YtonjadmldgloaaaGreatDoorSe20
import Derived.SevenTiedAt
namespace Go.Proofs.YtonjadmldgloaaaGreatDoor
open Go.ChangeShapes Go.WideShapes Go.ChangeAt Go.RowKit
set_option linter.unusedVariables false

set_option maxRecDepth 100000 in
theorem liftedSearchMatches (os : Os) (started : os.Started) (H : Type) (enc : TypeId × Value → H) :
    ReturnsInHanded {} Tryz.checked os 4 .any (fun w args => (Rows.searchMatchesSpec.pre enc Tryz.prog Tryz.f4 [] false w args ∧ laidMetH Tryz.prog laidD w) ∧ sizedMet enc Tryz.prog Tryz.f4 (OpenSpec.ofChange Rows.searchMatchesSpec) false w args)
      (Rows.searchMatchesSpec.post enc Tryz.prog Tryz.f4 false true false false) := by
  refine handed_laid (C := Tryz.checked) (X := fun w => laidMetH Tryz.prog laidD w) (fun _ _ hh h => h.of_heap hh) ownD started (by kernel_rfl) Tryz.func4
    (ChangeSpec.witness_shaped (enc := enc) (C := Tryz.checked) (os := os) (X := fun w _ => laidMetH Tryz.prog laidD w) false (World.laidAll Tryz.prog os laidD) #[.agg #[.int .i64 0, .string ⟨#[]⟩, .string ⟨#[]⟩, .int .i64 0, .slice none 0 0, .slice none 0 0], .agg #[.int .i64 0, .int .i64 0, .int .i64 0, .int .i64 0, .int .u64 0, .slice none 0 0, .int .i64 0, .int .i64 0, .int .i64 0, .slice none 0 0]] 8 (World.laidAll_os _ _ _)
      (shapedD os) (by kernel_rfl) (by kernel_rfl) (by kernel_rfl) (metD os _)) ?_
  intro W args ds gs before hval0 hW hL hsh
  have hval : ∀ (j : Nat) t v, Tryz.f4.params[j]? = some t → args[j]? = some v → ∃ base, Value.okWide Tryz.prog W .any base t v := hval0
  have hW' := hW
  obtain ⟨p, q, hA0, hV, rfl, _, _⟩ := hW
  have hA : DataW.TrodAll enc Tryz.prog W 0 (fun _ => true) true Tryz.f4.params.toList args.toList ds p := hA0
  rw [Tryz.params4] at hA hval
  obtain ⟨v0, vs0, d0, ds0, p0, q0, hargs, rfl, rfl, h0, r0⟩ := trodAll_cons hA
  obtain ⟨v1, vs1, d1, ds1, p1, q1, rfl, rfl, rfl, h1, r1⟩ := trodAll_cons r0
  obtain ⟨rfl, rfl, rfl⟩ := trodAll_nil r1
  obtain rfl : args = #[v0, v1] := by cases args; simp_all
  obtain ⟨rfl, rfl⟩ := trodVars_none hV
  have lt0 := arg_lt h0
  obtain ⟨_, y0⟩ := hval 0 37 v0 rfl rfl
  obtain ⟨kk0, rfl, hb0⟩ := arg_key y0 h0
  have lt1 := arg_lt h1
  obtain ⟨_, y1⟩ := hval 1 30 v1 rfl rfl
  obtain ⟨hh1, rfl, hb1⟩ := arg_hit y1 h1
  clear hA0 hval0
  simp only [List.append_nil] at hW'
  refine (walkSearchMatches kk0 hh1 W hb0 hb1 (tabs_of hL hsh)).mono fun e W' ⟨he, bel⟩ => ?_
  subst he
  exact ⟨_, rfl, _, _, _, [], _, [], hW', trodAll_mk1 (shut_bool Tryz.underlying4 _), (trodAll_cons_mk (Below.trod laidOutD (by kernel_rfl) (of_decide_eq_true (by kernel_rfl)) h0 bel lt0) (trodAll_cons_mk (Below.trod laidOutD (by kernel_rfl) (of_decide_eq_true (by kernel_rfl)) h1 bel lt1) trodAll_mk0)), rfl, bel.frame _, fun h => by cases h⟩

theorem overSearchMatches : Rows.SearchMatchesSaid :=
  OpenClaim.holds_of_wide 4 Tryz.f4 rfl rfl rfl rfl rfl rfl rfl ⟨rfl, rfl, rfl, rfl, rfl⟩ rfl rfl rfl rfl rfl (by kernel_rfl) Tryz.func4 (by kernel_rfl)
    (of_decide_eq_true (by kernel_rfl)) (by unfold Func.isWrapper; first | (rw [if_pos (by decide +kernel)]; kernel_rfl) | (rw [if_neg (by decide +kernel)]; exact ⟨rfl, rfl⟩))
    (fun os started H enc _ => liftedSearchMatches os started H enc)

theorem holdsSearchMatches : Rows.SearchMatchesCardSaid :=
  Claim7.holds_tied_plain_at .later [] [.data, .pinned] true _ false overSearchMatches (fun _ h => by cases h) (by kernel_rfl) (fun _ h => by cases h) searchMatches_row_tie rfl ⟨rfl, rfl⟩ (by kernel_rfl) rfl
    (fun f fn hf hfn => by
      obtain rfl : f = 4 := Option.some.inj ((show Tryz.prog.funcNamed "hamper/hamperlaw28.SearchMatches" = some 4 by kernel_rfl).symm.trans hf) |>.symm
      obtain rfl : fn = Tryz.f4 := (Option.some.inj (Tryz.func4.symm.trans hfn)).symm
      exact ⟨by kernel_rfl, fun j t ht => by
        rw [Tryz.params4] at ht
        have hm : t ∈ [37, 30] := by simpa using Array.mem_of_getElem? ht
        have hall : ([37, 30].all fun u => !Tryz.prog.wantsStandIn u) = true := by kernel_rfl
        exact (show Tryz.prog.wantsStandIn t = false by simpa using List.all_eq_true.1 hall t hm)⟩)
    (by kernel_rfl)
#print axioms holdsSearchMatches
end Go.Proofs.YtonjadmldgloaaaGreatDoor
