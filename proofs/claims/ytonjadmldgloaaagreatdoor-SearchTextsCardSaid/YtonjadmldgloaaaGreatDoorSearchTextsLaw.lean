/-
  The law 'SearchTexts' is lifted from its walk to the given card: for every input the call returns true, and each argument reads afterwards as it read before. No condition.
-/
import Derived.Test.YtonjadmldgloaaaGreatDoorRows
import Derived.Test.YtonjadmldgloaaaGreatDoorCards
import Derived.Test.YtonjadmldgloaaaGreatDoorTie
import Derived.Test.YtonjadmldgloaaaGreatDoorDoor
import Derived.Test.YtonjadmldgloaaaGreatDoorSe19
import Derived.SevenTiedAt
namespace Go.Proofs.YtonjadmldgloaaaGreatDoor
open Go.ChangeShapes Go.WideShapes Go.ChangeAt Go.RowKit
set_option linter.unusedVariables false

set_option maxRecDepth 100000 in
theorem liftedSearchTexts (os : Os) (started : os.Started) (H : Type) (enc : TypeId × Value → H) :
    ReturnsInHanded {} Tryz.checked os 6 .any (fun w args => (Rows.searchTextsSpec.pre enc Tryz.prog Tryz.f6 [] false w args ∧ laidMetH Tryz.prog laidD w) ∧ sizedMet enc Tryz.prog Tryz.f6 (OpenSpec.ofChange Rows.searchTextsSpec) false w args)
      (Rows.searchTextsSpec.post enc Tryz.prog Tryz.f6 false true false false) := by
  refine handed_laid (C := Tryz.checked) (X := fun w => laidMetH Tryz.prog laidD w) (fun _ _ hh h => h.of_heap hh) ownD started (by kernel_rfl) Tryz.func6
    (ChangeSpec.witness_shaped (enc := enc) (C := Tryz.checked) (os := os) (X := fun w _ => laidMetH Tryz.prog laidD w) false (World.laidAll Tryz.prog os laidD) #[.string ⟨#[]⟩, .string ⟨#[]⟩, .string ⟨#[]⟩] 8 (World.laidAll_os _ _ _)
      (shapedD os) (by kernel_rfl) (by kernel_rfl) (by kernel_rfl) (metD os _)) ?_
  intro W args ds gs before hval0 hW hL hsh
  have hval : ∀ (j : Nat) t v, Tryz.f6.params[j]? = some t → args[j]? = some v → ∃ base, Value.okWide Tryz.prog W .any base t v := hval0
  have hW' := hW
  obtain ⟨p, q, hA0, hV, rfl, _, _⟩ := hW
  have hA : DataW.TrodAll enc Tryz.prog W 0 (fun _ => true) true Tryz.f6.params.toList args.toList ds p := hA0
  rw [Tryz.params6] at hA hval
  obtain ⟨v0, vs0, d0, ds0, p0, q0, hargs, rfl, rfl, h0, r0⟩ := trodAll_cons hA
  obtain ⟨v1, vs1, d1, ds1, p1, q1, rfl, rfl, rfl, h1, r1⟩ := trodAll_cons r0
  obtain ⟨v2, vs2, d2, ds2, p2, q2, rfl, rfl, rfl, h2, r2⟩ := trodAll_cons r1
  obtain ⟨rfl, rfl, rfl⟩ := trodAll_nil r2
  obtain rfl : args = #[v0, v1, v2] := by cases args; simp_all
  obtain ⟨rfl, rfl⟩ := trodVars_none hV
  have lt0 := arg_lt h0
  obtain ⟨_, y0⟩ := hval 0 9 v0 rfl rfl
  obtain ⟨s0, rfl, hs0⟩ := arg_str Tryz.underlying9 y0 h0
  have lt1 := arg_lt h1
  obtain ⟨_, y1⟩ := hval 1 9 v1 rfl rfl
  obtain ⟨s1, rfl, hs1⟩ := arg_str Tryz.underlying9 y1 h1
  have lt2 := arg_lt h2
  obtain ⟨_, y2⟩ := hval 2 9 v2 rfl rfl
  obtain ⟨s2, rfl, hs2⟩ := arg_str Tryz.underlying9 y2 h2
  clear hA0 hval0
  simp only [List.append_nil] at hW'
  refine (walkSearchTexts s0 s1 s2 W hs0 hs1 hs2 (tabs_of hL hsh)).mono fun e W' ⟨he, bel⟩ => ?_
  subst he
  exact ⟨_, rfl, _, _, _, [], _, [], hW', trodAll_mk1 (shut_bool Tryz.underlying4 _), (trodAll_cons_mk (Below.trod laidOutD (by kernel_rfl) (of_decide_eq_true (by kernel_rfl)) h0 bel lt0) (trodAll_cons_mk (Below.trod laidOutD (by kernel_rfl) (of_decide_eq_true (by kernel_rfl)) h1 bel lt1) (trodAll_cons_mk (Below.trod laidOutD (by kernel_rfl) (of_decide_eq_true (by kernel_rfl)) h2 bel lt2) trodAll_mk0))), rfl, bel.frame _, fun h => by cases h⟩

theorem overSearchTexts : Rows.SearchTextsSaid :=
  OpenClaim.holds_of_wide 6 Tryz.f6 rfl rfl rfl rfl rfl rfl rfl ⟨rfl, rfl, rfl, rfl, rfl⟩ rfl rfl rfl rfl rfl (by kernel_rfl) Tryz.func6 (by kernel_rfl)
    (of_decide_eq_true (by kernel_rfl)) (by unfold Func.isWrapper; first | (rw [if_pos (by decide +kernel)]; kernel_rfl) | (rw [if_neg (by decide +kernel)]; exact ⟨rfl, rfl⟩))
    (fun os started H enc _ => liftedSearchTexts os started H enc)

theorem holdsSearchTexts : Rows.SearchTextsCardSaid :=
  Claim7.holds_tied_plain_at .later [] [.data, .pinned] true _ false overSearchTexts (fun _ h => by cases h) (by kernel_rfl) (fun _ h => by cases h) searchTexts_row_tie rfl ⟨rfl, rfl⟩ (by kernel_rfl) rfl
    (fun f fn hf hfn => by
      obtain rfl : f = 6 := Option.some.inj ((show Tryz.prog.funcNamed "hamper/hamperlaw28.SearchTexts" = some 6 by kernel_rfl).symm.trans hf) |>.symm
      obtain rfl : fn = Tryz.f6 := (Option.some.inj (Tryz.func6.symm.trans hfn)).symm
      exact ⟨by kernel_rfl, fun j t ht => by
        rw [Tryz.params6] at ht
        have hm : t ∈ [9, 9, 9] := by simpa using Array.mem_of_getElem? ht
        have hall : ([9, 9, 9].all fun u => !Tryz.prog.wantsStandIn u) = true := by kernel_rfl
        exact (show Tryz.prog.wantsStandIn t = false by simpa using List.all_eq_true.1 hall t hm)⟩)
    (by kernel_rfl)
#print axioms holdsSearchTexts
end Go.Proofs.YtonjadmldgloaaaGreatDoor
