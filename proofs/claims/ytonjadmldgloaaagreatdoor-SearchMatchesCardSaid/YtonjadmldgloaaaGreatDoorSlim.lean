/-
  The frame's slots that are read no more become letters. A part of the proof: see the head of the text that ends in 'Law'.
-/
import Derived.Test.YtonjadmldgloaaaGreatDoorCarry
namespace Go.Proofs.YtonjadmldgloaaaGreatDoor
open Go.RowKit
set_option linter.unusedVariables false

/-- The slots that the mask names by a number are letters, the others as they were. -/
def slimL : List (Option Nat) → List Value → (Nat → Value) → List Value
  | none :: m, v :: vs, xs => v :: slimL m vs xs
  | some i :: m, _ :: vs, xs => xs i :: slimL m vs xs
  | _, vs, _ => vs
theorem slim_of (z : Value) : ∀ (m : List (Option Nat)) (vs : List Value) (k : Nat), (∀ (j i : Nat), m[j]? = some (some i) → i = k + j) → slimL m vs (fun i => vs.getD (i - k) z) = vs := by
  intro m
  induction m with
  | nil => intro vs k _; cases vs <;> rfl
  | cons o m ih =>
    intro vs k h
    cases vs with
    | nil => cases o <;> rfl
    | cons v vs =>
      have hm := ih vs (k + 1) (fun j i hj => by have := h (j + 1) i (by simpa using hj); omega)
      have hf : ∀ (m : List (Option Nat)) (xs ys : Nat → Value) (us : List Value), (∀ i, some i ∈ m → xs i = ys i) → slimL m us xs = slimL m us ys := by
        intro m xs ys
        induction m with
        | nil => intro us _; cases us <;> rfl
        | cons o m ih2 =>
          intro us h2
          cases us with
          | nil => cases o <;> rfl
          | cons u us =>
            have h3 := ih2 us (fun i hi => h2 i (List.mem_cons_of_mem _ hi))
            cases o with
            | none => simp only [slimL, h3]
            | some i => simp only [slimL, h3, h2 i (List.mem_cons_self ..)]
      have he : slimL m vs (fun i => (v :: vs).getD (i - k) z) = vs := by
        rw [hf m _ (fun i => vs.getD (i - (k + 1)) z) vs ?_]
        · exact hm
        · intro i hi
          obtain ⟨j, hj⟩ := List.getElem?_of_mem hi
          have hij := h (j + 1) i (by simpa using hj)
          show (v :: vs).getD (i - k) z = vs.getD (i - (k + 1)) z
          rw [show i - k = (i - (k + 1)) + 1 by omega]
          simp
      cases o with
      | none => simp only [slimL, he]
      | some i =>
        have hi : i = k := by simpa using h 0 i rfl
        simp only [slimL, he, hi, Nat.sub_self]
        simp
/-- The mask's numbers are its places. -/
def slimOk : List (Option Nat) → Nat → Bool
  | [], _ => true
  | none :: m, k => slimOk m (k + 1)
  | some i :: m, k => i == k && slimOk m (k + 1)
theorem slimOk.get : ∀ (m : List (Option Nat)) (k : Nat), slimOk m k = true → ∀ (j i : Nat), m[j]? = some (some i) → i = k + j := by
  intro m
  induction m with
  | nil => intro k _ j i h; simp at h
  | cons o m ih =>
    intro k h j i hj
    cases j with
    | zero =>
      cases o with
      | none => simp at hj
      | some x =>
        simp only [List.getElem?_cons_zero, Option.some.injEq] at hj
        subst hj
        simp only [slimOk, Bool.and_eq_true, beq_iff_eq] at h
        omega
    | succ j =>
      have h1 : slimOk m (k + 1) = true := by
        cases o with
        | none => exact h
        | some x => simp only [slimOk, Bool.and_eq_true] at h; exact h.2
      have := ih (k + 1) h1 j i (by simpa using hj)
      omega
theorem slim_use {P : Program} {c : Code} {Q : Exit → Act → World → Prop} {vs : List Value} {d : List Deferred} {w : World} (m : List (Option Nat)) (hm : slimOk m 0 = true)
    (h : ∀ (xs : Nat → Value) (ys : List Value), ys = slimL m vs xs → Code.wp P c Q ⟨ys.toArray, d⟩ w) : Code.wp P c Q ⟨vs.toArray, d⟩ w := by
  have := h (fun i => vs.getD (i - 0) undef) _ rfl
  rwa [slim_of undef m vs 0 (slimOk.get m 0 hm)] at this
end Go.Proofs.YtonjadmldgloaaaGreatDoor
