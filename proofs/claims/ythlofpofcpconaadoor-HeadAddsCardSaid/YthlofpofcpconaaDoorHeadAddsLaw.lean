/-
  The law 'HeadAdds' is lifted from its walk to the given card: for every input the call returns true, and each argument reads afterwards as it read before. No condition.
-/
import Derived.Test.YthlofpofcpconaaDoorRows
import Derived.Test.YthlofpofcpconaaDoorCards
import Derived.Test.YthlofpofcpconaaDoorTie
import Derived.Test.YthlofpofcpconaaDoorDoor
import Derived.Test.YthlofpofcpconaaDoorHe30
import Derived.SevenTiedAt
namespace Go.Proofs.YthlofpofcpconaaDoor
open Go.ChangeShapes Go.WideShapes Go.ChangeAt Go.RowKit
set_option linter.unusedVariables false

set_option maxRecDepth 100000 in
theorem liftedHeadAdds (os : Os) (started : os.Started) (H : Type) (enc : TypeId × Value → H) :
    ReturnsInHanded {} Tryd.checked os 6 .any (fun w args => (Rows.headAddsSpec.pre enc Tryd.prog Tryd.f6 [] false w args ∧ laidMetH Tryd.prog laidD w) ∧ sizedMet enc Tryd.prog Tryd.f6 (OpenSpec.ofChange Rows.headAddsSpec) false w args)
      (Rows.headAddsSpec.post enc Tryd.prog Tryd.f6 false true false false) := by
  refine handed_laid (C := Tryd.checked) (X := fun w => laidMetH Tryd.prog laidD w) (fun _ _ hh h => h.of_heap hh) ownD started (by kernel_rfl) Tryd.func6
    (ChangeSpec.witness_shaped (enc := enc) (C := Tryd.checked) (os := os) (X := fun w _ => laidMetH Tryd.prog laidD w) false (World.laidAll Tryd.prog os laidD) #[.slice none 0 0, .string ⟨#[]⟩] 8 (World.laidAll_os _ _ _)
      (shapedD os) (by kernel_rfl) (by kernel_rfl) (by kernel_rfl) (metD os _)) ?_
  intro W args ds gs before hval0 hW hL hsh
  have hval : ∀ (j : Nat) t v, Tryd.f6.params[j]? = some t → args[j]? = some v → ∃ base, Value.okWide Tryd.prog W .any base t v := hval0
  have hW' := hW
  obtain ⟨p, q, hA0, hV, rfl, _, _⟩ := hW
  have hA : DataW.TrodAll enc Tryd.prog W 0 (fun _ => true) true Tryd.f6.params.toList args.toList ds p := hA0
  rw [Tryd.params6] at hA hval
  obtain ⟨v0, vs0, d0, ds0, p0, q0, hargs, rfl, rfl, h0, r0⟩ := trodAll_cons hA
  obtain ⟨v1, vs1, d1, ds1, p1, q1, rfl, rfl, rfl, h1, r1⟩ := trodAll_cons r0
  obtain ⟨rfl, rfl, rfl⟩ := trodAll_nil r1
  obtain rfl : args = #[v0, v1] := by cases args; simp_all
  obtain ⟨rfl, rfl⟩ := trodVars_none hV
  have lt0 := arg_lt h0
  obtain ⟨_, y0⟩ := hval 0 22 v0 rfl rfl
  obtain ⟨A0, n0, c0, l0, rfl, hn0, hc0, ho0⟩ := arg_oct Tryd.underlying22 Tryd.underlying5 (by kernel_rfl) y0 h0
  have lt1 := arg_lt h1
  obtain ⟨_, y1⟩ := hval 1 9 v1 rfl rfl
  obtain ⟨s1, rfl, hs1⟩ := arg_str Tryd.underlying9 y1 h1
  clear hA0 hval0
  simp only [List.append_nil] at hW'
  refine (walkHeadAdds A0 n0 c0 l0 s1 W ho0 hn0 hc0 hs1).mono fun e W' ⟨he, bel⟩ => ?_
  subst he
  exact ⟨_, rfl, _, _, _, [], _, [], hW', trodAll_mk1 (shut_bool Tryd.underlying4 _), (trodAll_cons_mk (Below.trod laidOutD (by kernel_rfl) (of_decide_eq_true (by kernel_rfl)) h0 bel lt0) (trodAll_cons_mk (Below.trod laidOutD (by kernel_rfl) (of_decide_eq_true (by kernel_rfl)) h1 bel lt1) trodAll_mk0)), rfl, bel.frame _, fun h => by cases h⟩

theorem overHeadAdds : Rows.HeadAddsSaid :=
  OpenClaim.holds_of_wide 6 Tryd.f6 rfl rfl rfl rfl rfl rfl rfl ⟨rfl, rfl, rfl, rfl, rfl⟩ rfl rfl rfl rfl rfl (by kernel_rfl) Tryd.func6 (by kernel_rfl)
    (of_decide_eq_true (by kernel_rfl)) (by unfold Func.isWrapper; first | (rw [if_pos (by decide +kernel)]; kernel_rfl) | (rw [if_neg (by decide +kernel)]; exact ⟨rfl, rfl⟩))
    (fun os started H enc _ => liftedHeadAdds os started H enc)

theorem holdsHeadAdds : Rows.HeadAddsCardSaid :=
  Claim7.holds_tied_plain_at .later [] [.data, .pinned] true _ false overHeadAdds (fun _ h => by cases h) (by kernel_rfl) (fun _ h => by cases h) headAdds_row_tie rfl ⟨rfl, rfl⟩ (by kernel_rfl) rfl
    (fun f fn hf hfn => by
      obtain rfl : f = 6 := Option.some.inj ((show Tryd.prog.funcNamed "hamper/hamperlaw17.HeadAdds" = some 6 by kernel_rfl).symm.trans hf) |>.symm
      obtain rfl : fn = Tryd.f6 := (Option.some.inj (Tryd.func6.symm.trans hfn)).symm
      exact ⟨by kernel_rfl, fun j t ht => by
        rw [Tryd.params6] at ht
        have hm : t ∈ [22, 9] := by simpa using Array.mem_of_getElem? ht
        have hall : ([22, 9].all fun u => !Tryd.prog.wantsStandIn u) = true := by kernel_rfl
        exact (show Tryd.prog.wantsStandIn t = false by simpa using List.all_eq_true.1 hall t hm)⟩)
    (by kernel_rfl)
#print axioms holdsHeadAdds
end Go.Proofs.YthlofpofcpconaaDoor
