/-
  The law 'JournalAll' is lifted from its walk to the given statement: for every input the call returns true, and each argument reads afterwards as it read before. No condition.
-/
import Derived.Test.YtpppmijohfjigaaRows
import Derived.Test.YtpppmijohfjigaaJnArg
import Derived.Test.YtpppmijohfjigaaJn29
namespace Go.Proofs.Ytpppmijohfjigaa
open Go.ChangeShapes Go.WideShapes Go.ChangeAt Go.RowKit
set_option linter.unusedVariables false

theorem ownJournalAll : ownKnob Try.prog.godebug = none := by kernel_rfl
theorem laidOutJournalAll : laidOutB Try.prog = true := by kernel_rfl

set_option maxRecDepth 100000 in
theorem liftedJournalAll (os : Os) (started : os.Started) (H : Type) (enc : TypeId × Value → H) :
    ReturnsInHanded {} Try.checked os 4 .any (Rows.journalAllSpec.pre6 enc Try.prog Try.f4 Rows.journalAllRow.domain false) (Rows.journalAllSpec.post enc Try.prog Try.f4 false true false false) := by
  refine returnsInHanded_of_change (C := Try.checked) ownJournalAll started (by kernel_rfl) Try.func4
    (ChangeSpec.witness6 (enc := enc) (C := Try.checked) false ⟨#[], #[.slice none 0 0, .slice none 0 0, .slice none 0 0], []⟩ 8 (by kernel_rfl) (by kernel_rfl) (by kernel_rfl) (by kernel_rfl)) ?_
  intro W base args ds gs before hval0 hW hcnd _
  have hval : ∀ (j : Nat) t v, Try.f4.params[j]? = some t → args[j]? = some v → Value.okWide Try.prog W .any base t v := hval0
  have hW' := hW
  obtain ⟨p, q, hA0, hV, rfl, hfz, hnd⟩ := hW
  have hA : DataW.TrodAll enc Try.prog W 0 (fun _ => true) true Try.f4.params.toList args.toList ds p := hA0
  rw [Try.params4] at hA hval
  obtain ⟨v0, vs0, d0, ds0, p0, q0, hargs, rfl, rfl, h0, r0⟩ := trodAll_cons hA
  obtain ⟨v1, vs1, d1, ds1, p1, q1, rfl, rfl, rfl, h1, r1⟩ := trodAll_cons r0
  obtain ⟨v2, vs2, d2, ds2, p2, q2, rfl, rfl, rfl, h2, r2⟩ := trodAll_cons r1
  obtain ⟨rfl, rfl, rfl⟩ := trodAll_nil r2
  obtain rfl : args = #[v0, v1, v2] := by cases args; simp_all
  obtain ⟨rfl, rfl⟩ := trodVars_none hV
  have lt0 := arg_lt h0
  have y0 := hval 0 22 v0 rfl rfl
  obtain ⟨s0, rfl, hs0⟩ := arg_puts y0 h0
  have lt1 := arg_lt h1
  have y1 := hval 1 22 v1 rfl rfl
  obtain ⟨s1, rfl, hs1⟩ := arg_puts y1 h1
  have lt2 := arg_lt h2
  have y2 := hval 2 32 v2 rfl rfl
  obtain ⟨s2, rfl, hs2⟩ := arg_fails y2 h2
  clear hA0 hval0
  refine (walkJournalAll s0 s1 s2 W hs0 hs1 hs2).mono fun e W' ⟨he, bel⟩ => ?_
  subst he
  exact ⟨_, rfl, _, _, _, [], _, [], hW', trodAll_mk1 (shut_bool Try.underlying4 _), (trodAll_cons_mk (Below.trod laidOutJournalAll (by kernel_rfl) (of_decide_eq_true (by kernel_rfl)) h0 bel lt0) (trodAll_cons_mk (Below.trod laidOutJournalAll (by kernel_rfl) (of_decide_eq_true (by kernel_rfl)) h1 bel lt1) (trodAll_cons_mk (Below.trod laidOutJournalAll (by kernel_rfl) (of_decide_eq_true (by kernel_rfl)) h2 bel lt2) trodAll_mk0))), rfl, bel.frame _, fun h => by cases h⟩

theorem overJournalAll : Rows.journalAllRow.holds Try.pinned (OpenSpec.ofChange Rows.journalAllSpec) :=
  OpenClaim.holds_of_wide 4 Try.f4 rfl rfl rfl rfl rfl rfl rfl ⟨rfl, rfl, rfl, rfl, rfl⟩ rfl rfl rfl rfl rfl (by kernel_rfl) Try.func4 (by kernel_rfl)
    (of_decide_eq_true (by kernel_rfl)) (by unfold Func.isWrapper; rw [if_neg (of_decide_eq_false (by kernel_rfl))]; exact ⟨rfl, rfl⟩)
    (fun os started H enc _ => liftedJournalAll os started H enc)

theorem holdsJournalAll : Rows.JournalAllSaid := overJournalAll
#print axioms holdsJournalAll
end Go.Proofs.Ytpppmijohfjigaa
