/-
  Lines, fields and texts of a header, in plain Lean. A part of the proof: see the head of the text that ends in 'Law'.
-/
import Derived.Test.YtonjadmldgloaaaGreatDoorMem
import Derived.Lib.SlTrimSet
namespace Go.Proofs.YtonjadmldgloaaaGreatDoor.D17
open Go.RowKit
set_option linter.unusedVariables false

/-- Octets' lines: what stands of the one, and the rest. -/
def cutF : List UInt8 → List UInt8 → List (List UInt8)
  | cur, [] => if cur = [] then [] else [cur]
  | cur, c :: l => if c.toNat = 10 then (cur ++ [c]) :: cutF [] l else cutF (cur ++ [c]) l
def cutL (l : List UInt8) : List (List UInt8) := cutF [] l
def emptyB (l : List UInt8) : Bool := decide (l = [10]) || decide (l = [13, 10])
def bl (c : UInt8) : Bool := c.toNat == 32 || c.toNat == 9
/-- Where the first line feed stands. -/
def ix : List UInt8 → Option Nat
  | [] => none
  | c :: l => if c.toNat = 10 then some 0 else (ix l).map (· + 1)
theorem ix_lt : ∀ (l : List UInt8) (i : Nat), ix l = some i → i < l.length
  | [], i, h => by cases h
  | c :: l, i, h => by
    unfold ix at h
    split at h
    · injection h with h; subst h; simp
    · obtain ⟨j, hj, rfl⟩ := Option.map_eq_some_iff.1 h
      have := ix_lt l j hj
      simp
      omega
theorem cutF_ix : ∀ (l cur : List UInt8), cutF cur l = match ix l with
    | none => if cur ++ l = [] then [] else [cur ++ l]
    | some i => (cur ++ l.take (i + 1)) :: cutF [] (l.drop (i + 1))
  | [], cur => by unfold cutF ix; simp
  | c :: l, cur => by
    have e1 : cutF cur (c :: l) = if c.toNat = 10 then (cur ++ [c]) :: cutF [] l else cutF (cur ++ [c]) l := rfl
    have e2 : ix (c :: l) = if c.toNat = 10 then some 0 else (ix l).map (· + 1) := rfl
    rw [e1, e2]
    by_cases h : c.toNat = 10
    · rw [if_pos h, if_pos h]
      rfl
    · rw [if_neg h, if_neg h, cutF_ix l (cur ++ [c])]
      cases ix l with
      | none => simp
      | some i => simp
/-- Where lines begin and end. -/
def posF : Nat → List (List UInt8) → List (Nat × Nat)
  | _, [] => []
  | a, x :: r => (a, a + x.length) :: posF (a + x.length) r
def nextTo (l : List UInt8) (fr : Nat) : Nat := match ix (l.drop fr) with
  | none => l.length
  | some i => fr + i + 1
def posAt (l : List UInt8) (fr : Nat) : List (Nat × Nat) := posF fr (cutL (l.drop fr))
theorem posAt_end (l : List UInt8) (fr : Nat) (h : l.length ≤ fr) : posAt l fr = [] := by
  unfold posAt
  rw [List.drop_of_length_le h]
  rfl
theorem nextTo_bounds (l : List UInt8) (fr : Nat) (h : fr < l.length) : fr < nextTo l fr ∧ nextTo l fr ≤ l.length := by
  unfold nextTo
  cases hi : ix (l.drop fr) with
  | none => exact ⟨h, Nat.le_refl _⟩
  | some i =>
    have := ix_lt _ _ hi
    rw [List.length_drop] at this
    dsimp only
    omega
theorem posAt_next (l : List UInt8) (fr : Nat) (h : fr < l.length) : posAt l fr = (fr, nextTo l fr) :: posAt l (nextTo l fr) := by
  unfold posAt cutL
  rw [cutF_ix]
  unfold nextTo
  cases hi : ix (l.drop fr) with
  | none =>
    dsimp only
    have hne : ([] : List UInt8) ++ l.drop fr ≠ [] := by
      intro e
      have := congrArg List.length e
      simp at this
      omega
    rw [if_neg hne, posF, List.drop_of_length_le (Nat.le_refl l.length)]
    have e : fr + (([] : List UInt8) ++ l.drop fr).length = l.length := by simp; omega
    rw [e]
    rfl
  | some i =>
    have h1 := ix_lt _ _ hi
    rw [List.length_drop] at h1
    dsimp only
    rw [posF]
    have e : fr + (([] : List UInt8) ++ (l.drop fr).take (i + 1)).length = fr + i + 1 := by
      rw [List.nil_append, List.length_take, List.length_drop]
      omega
    rw [e, List.drop_drop, show fr + (i + 1) = fr + i + 1 by omega]
def posL (l : List UInt8) : List (Nat × Nat) := posAt l 0
/-- A line's octets. -/
def lineL (l : List UInt8) (p : Nat × Nat) : List UInt8 := (l.drop p.1).take (p.2 - p.1)
theorem posF_lines : ∀ (ls : List (List UInt8)) (a : Nat) (pre : List UInt8), pre.length = a → (posF a ls).map (lineL (pre ++ ls.flatten)) = ls
  | [], _, _, _ => rfl
  | x :: r, a, pre, h => by
    rw [posF, List.map_cons]
    have ih := posF_lines r (a + x.length) (pre ++ x) (by rw [List.length_append, h])
    rw [List.append_assoc] at ih
    rw [List.flatten_cons, ih]
    congr 1
    unfold lineL
    dsimp only
    rw [← h, List.drop_left, Nat.add_sub_cancel_left, List.take_left]
theorem cutF_flat : ∀ (l cur : List UInt8), (cutF cur l).flatten = cur ++ l
  | [], cur => by
    unfold cutF
    split
    · rename_i h; simp [h]
    · simp
  | c :: l, cur => by
    unfold cutF
    split
    · rw [List.flatten_cons, cutF_flat l [], List.append_assoc]; rfl
    · rw [cutF_flat l (cur ++ [c]), List.append_assoc]; rfl
theorem lines_of (l : List UInt8) : (posL l).map (lineL l) = cutL l := by
  have h1 : cutF [] (l.drop 0) = cutL l := rfl
  have h := posF_lines (cutL l) 0 [] rfl
  have h2 : ([] : List UInt8) ++ (cutL l).flatten = l := by unfold cutL; rw [cutF_flat]; rfl
  rw [h2] at h
  exact h
end Go.Proofs.YtonjadmldgloaaaGreatDoor.D17
