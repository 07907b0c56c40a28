/-
  The law 'SearchNumbers' is lifted from its walk to the given card: for every input the call returns true, and each argument reads afterwards as it read before. No condition.
-/
import Derived.Test.YtonjadmldgloaaaGreatDoorRows
import Derived.Test.YtonjadmldgloaaaGreatDoorCards
import Derived.Test.YtonjadmldgloaaaGreatDoorTie
import Derived.Test.YtonjadmldgloaaaGreatDoorDoor
import Derived.Test.YtonjadmldgloaaaGreatDoorSe14
import Derived.SevenTiedAt
namespace Go.Proofs.YtonjadmldgloaaaGreatDoor
open Go.ChangeShapes Go.WideShapes Go.ChangeAt Go.RowKit
set_option linter.unusedVariables false

set_option maxRecDepth 100000 in
theorem liftedSearchNumbers (os : Os) (started : os.Started) (H : Type) (enc : TypeId × Value → H) :
    ReturnsInHanded {} Tryz.checked os 5 .any (fun w args => (Rows.searchNumbersSpec.pre enc Tryz.prog Tryz.f5 [] false w args ∧ laidMetH Tryz.prog laidD w) ∧ sizedMet enc Tryz.prog Tryz.f5 (OpenSpec.ofChange Rows.searchNumbersSpec) false w args)
      (Rows.searchNumbersSpec.post enc Tryz.prog Tryz.f5 false true false false) := by
  refine handed_laid (C := Tryz.checked) (X := fun w => laidMetH Tryz.prog laidD w) (fun _ _ hh h => h.of_heap hh) ownD started (by kernel_rfl) Tryz.func5
    (ChangeSpec.witness_shaped (enc := enc) (C := Tryz.checked) (os := os) (X := fun w _ => laidMetH Tryz.prog laidD w) false (World.laidAll Tryz.prog os laidD) #[] 8 (World.laidAll_os _ _ _)
      (shapedD os) (by kernel_rfl) (by kernel_rfl) (by kernel_rfl) (metD os _)) ?_
  intro W args ds gs before hval0 hW hL hsh
  have hval : ∀ (j : Nat) t v, Tryz.f5.params[j]? = some t → args[j]? = some v → ∃ base, Value.okWide Tryz.prog W .any base t v := hval0
  have hW' := hW
  obtain ⟨p, q, hA0, hV, rfl, _, _⟩ := hW
  have hA : DataW.TrodAll enc Tryz.prog W 0 (fun _ => true) true Tryz.f5.params.toList args.toList ds p := hA0
  rw [Tryz.params5] at hA hval
  obtain ⟨hz, rfl, rfl⟩ := trodAll_nil hA
  obtain rfl : args = #[] := by cases args; simp_all
  obtain ⟨rfl, rfl⟩ := trodVars_none hV
  clear hA0 hval0
  simp only [List.append_nil] at hW'
  refine (walkSearchNumbers  W  (tabs_of hL hsh)).mono fun e W' ⟨he, bel⟩ => ?_
  subst he
  exact ⟨_, rfl, _, _, _, [], _, [], hW', trodAll_mk1 (shut_bool Tryz.underlying4 _), trodAll_mk0, rfl, bel.frame _, fun h => by cases h⟩

theorem overSearchNumbers : Rows.SearchNumbersSaid :=
  OpenClaim.holds_of_wide 5 Tryz.f5 rfl rfl rfl rfl rfl rfl rfl ⟨rfl, rfl, rfl, rfl, rfl⟩ rfl rfl rfl rfl rfl (by kernel_rfl) Tryz.func5 (by kernel_rfl)
    (of_decide_eq_true (by kernel_rfl)) (by unfold Func.isWrapper; first | (rw [if_pos (by decide +kernel)]; kernel_rfl) | (rw [if_neg (by decide +kernel)]; exact ⟨rfl, rfl⟩))
    (fun os started H enc _ => liftedSearchNumbers os started H enc)

theorem holdsSearchNumbers : Rows.SearchNumbersCardSaid :=
  Claim7.holds_tied_plain_at .later [] [.data, .pinned] true _ false overSearchNumbers (fun _ h => by cases h) (by kernel_rfl) (fun _ h => by cases h) searchNumbers_row_tie rfl ⟨rfl, rfl⟩ (by kernel_rfl) rfl
    (fun f fn hf hfn => by
      obtain rfl : f = 5 := Option.some.inj ((show Tryz.prog.funcNamed "hamper/hamperlaw28.SearchNumbers" = some 5 by kernel_rfl).symm.trans hf) |>.symm
      obtain rfl : fn = Tryz.f5 := (Option.some.inj (Tryz.func5.symm.trans hfn)).symm
      exact ⟨by kernel_rfl, fun j t ht => by
        rw [Tryz.params5] at ht
        have hm : t ∈ [] := by simpa using Array.mem_of_getElem? ht
        have hall : ([].all fun u => !Tryz.prog.wantsStandIn u) = true := by kernel_rfl
        exact (show Tryz.prog.wantsStandIn t = false by simpa using List.all_eq_true.1 hall t hm)⟩)
    (by kernel_rfl)
#print axioms holdsSearchNumbers
end Go.Proofs.YtonjadmldgloaaaGreatDoor
