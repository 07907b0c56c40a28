/-
  Names, as octets. No program is in sight. A part of the proof: see the head of the text that ends in 'Law'.
-/
import Derived.Test.YthgopanipmnphaaNa1
namespace Go.Proofs.Ythgopanipmnphaa
set_option linter.unusedVariables false

/-- May a name have such an octet? -/
def okN (n : Nat) : Bool := decide (33 ≤ n ∧ n ≤ 126 ∧ n ≠ 40 ∧ n ≠ 41 ∧ n ≠ 123 ∧ n ≠ 125 ∧ n ≠ 37 ∧ n ≠ 42 ∧ n ≠ 34 ∧ n ≠ 92)
theorem int_beq_nat (n m : Nat) : ((n : Int) == (m : Int)) = (n == m) := by
  rw [Bool.eq_iff_iff, beq_iff_eq, beq_iff_eq]
  omega
theorem okN_b (n : Nat) : okN n = !(decide ((n : Int) < 33) || decide ((126 : Int) < n) || ((n : Int) == 40) || ((n : Int) == 41) || ((n : Int) == 123) || ((n : Int) == 125) || ((n : Int) == 37) || ((n : Int) == 42) || ((n : Int) == 34) || ((n : Int) == 92)) := by
  unfold okN
  rw [Bool.eq_iff_iff]
  simp
  omega
/-- Is there a stroke at the place i where none may be? -/
def badAt (l : List UInt8) (i : Nat) : Bool := decide ((l.getD i 0).toNat = 47 ∧ (i = 0 ∨ i + 1 = l.length ∨ (l.getD (i - 1) 0).toNat = 47))
theorem badAt_b (l : List UInt8) (i : Nat) : badAt l i = ((((l.getD i 0).toNat : Int) == 47) && (((i : Int) == 0) || ((i : Int) == (l.length : Int) - 1) || (((l.getD (i - 1) 0).toNat : Int) == 47))) := by
  unfold badAt
  rw [Bool.eq_iff_iff]
  simp
  omega
def GoodTo (l : List UInt8) (k : Nat) : Prop := ∀ i, i < k → okN (l.getD i 0).toNat = true ∧ badAt l i = false
instance (l : List UInt8) (k : Nat) : Decidable (GoodTo l k) := inferInstanceAs (Decidable (∀ i, i < k → _))
/-- Is it a name? -/
def isL (l : List UInt8) : Bool := decide (1 ≤ l.length ∧ l.length ≤ 60 ∧ GoodTo l l.length)
theorem GoodTo.zero (l : List UInt8) : GoodTo l 0 := fun i h => absurd h (Nat.not_lt_zero i)
theorem GoodTo.succ {l : List UInt8} {k : Nat} (h : GoodTo l k) (h1 : okN (l.getD k 0).toNat = true) (h2 : badAt l k = false) : GoodTo l (k + 1) := fun i hi => by
  rcases Nat.lt_or_ge i k with h3 | h3
  · exact h i h3
  · obtain rfl : i = k := by omega
    exact ⟨h1, h2⟩
theorem isL_bad {l : List UInt8} {k : Nat} (hk : k < l.length) (h : okN (l.getD k 0).toNat = false ∨ badAt l k = true) : isL l = false := by
  unfold isL
  apply decide_eq_false
  rintro ⟨_, _, hg⟩
  obtain ⟨h1, h2⟩ := hg k hk
  rcases h with h | h
  · rw [h] at h1; cases h1
  · rw [h] at h2; cases h2
end Go.Proofs.Ythgopanipmnphaa
