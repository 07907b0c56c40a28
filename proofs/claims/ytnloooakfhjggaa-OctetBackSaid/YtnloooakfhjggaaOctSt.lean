/-
  What reading on comes to, in plain words: a state (how far, the first error, its place), and what a number, octets and a text come to. A part of the proof: see the head of the text that ends in 'Law'.
-/
import Derived.Test.YtnloooakfhjggaaOctRd
namespace Go.Proofs.Ytnloooakfhjggaa
open Go.RowKit
set_option linter.unusedVariables false

/-- The number of a width at a place, and the error's number. -/
def numC (l : List UInt8) (at_ wd : Int) : Nat × Nat :=
  if wd < 1 ∨ 8 < wd then (0, 1) else if at_ < 0 ∨ (l.length : Int) < at_ then (0, 4) else if (l.length : Int) < at_ + wd then (0, 2) else (valL (cutL l at_.toNat wd.toNat), 0)

theorem num_all (A : Option Addr) (n c : Nat) (at_ wd : Int) (l : List UInt8) (w : World) (ho : Oct w A n l) (hn : n ≤ 4611686018427387904) :
    Calls Try.prog 14 #[.slice A n c, .int .i64 at_, .int .i64 wd] w fun e w' => e = .returned (.tuple #[.int .u64 (numC l at_ wd).1, .int .i64 (numC l at_ wd).2]) ∧ w = w' := by
  have hl := ho.len
  unfold numC
  by_cases h1 : wd < 1 ∨ 8 < wd
  · rw [if_pos h1]
    exact num_width A n c at_ wd w h1
  · rw [if_neg h1]
    by_cases h2 : at_ < 0 ∨ (l.length : Int) < at_
    · rw [if_pos h2]
      exact num_range A n c at_ wd w (by omega) (by omega) (by omega)
    · rw [if_neg h2]
      obtain ⟨a, rfl⟩ : ∃ a : Nat, at_ = a := ⟨at_.toNat, by omega⟩
      obtain ⟨k, rfl⟩ : ∃ k : Nat, wd = k := ⟨wd.toNat, by omega⟩
      by_cases h3 : (l.length : Int) < (a : Int) + k
      · rw [if_pos h3]
        exact num_short A n c a k w (by omega) (by omega) (by omega) (by omega) hn
      · rw [if_neg h3, Int.toNat_natCast, Int.toNat_natCast]
        exact num_any A n c a k l w ho (by omega) (by omega) (by omega) hn

theorem refNum_all (at_ wd : Int) (l : List UInt8) (w : World) (hn : l.length ≤ 4611686018427387904) :
    Calls Try.prog 15 #[.string (str l), .int .i64 at_, .int .i64 wd] w fun e w' => e = .returned (.tuple #[.int .u64 (numC l at_ wd).1, .int .i64 (numC l at_ wd).2]) ∧ w = w' := by
  unfold numC
  by_cases h1 : wd < 1 ∨ 8 < wd
  · rw [if_pos h1]
    exact refNum_width l at_ wd w h1
  · rw [if_neg h1]
    by_cases h2 : at_ < 0 ∨ (l.length : Int) < at_
    · rw [if_pos h2]
      exact refNum_range l at_ wd w (by omega) (by omega) h2
    · rw [if_neg h2]
      obtain ⟨a, rfl⟩ : ∃ a : Nat, at_ = a := ⟨at_.toNat, by omega⟩
      obtain ⟨k, rfl⟩ : ∃ k : Nat, wd = k := ⟨wd.toNat, by omega⟩
      by_cases h3 : (l.length : Int) < (a : Int) + k
      · rw [if_pos h3]
        exact refNum_short l a k w (by omega) (by omega) (by omega) (by omega) hn
      · rw [if_neg h3, Int.toNat_natCast, Int.toNat_natCast]
        exact refNum_any l a k w (by omega) (by omega) (by omega) hn

/-- How far, the first error's number, its place. -/
structure St where
  at_ : Nat
  e : Nat
  wh : Nat

def numS (l : List UInt8) (s : St) (wd : Int) : Nat × St :=
  if s.e = 0 then (if (numC l s.at_ wd).2 = 0 then ((numC l s.at_ wd).1, ⟨s.at_ + wd.toNat, 0, s.wh⟩) else (0, ⟨s.at_, (numC l s.at_ wd).2, s.at_⟩)) else (0, s)
def rawS (l : List UInt8) (s : St) (n : Int) : List UInt8 × St :=
  if s.e = 0 then (if n < 0 then ([], ⟨s.at_, 1, s.at_⟩) else if (l.length : Int) - s.at_ < n then ([], ⟨s.at_, 2, s.at_⟩) else (cutL l s.at_ n.toNat, ⟨s.at_ + n.toNat, 0, s.wh⟩)) else ([], s)
def textS (l : List UInt8) (s : St) : List UInt8 × St :=
  let r := numS l s 2
  if r.2.e = 0 then (if (l.length : Int) - r.2.at_ < r.1 then ([], ⟨s.at_, 2, s.at_⟩) else rawS l r.2 r.1) else ([], r.2)
def endS (l : List UInt8) (s : St) : Nat × Nat := if s.e = 0 ∧ s.at_ < l.length then (7, s.at_) else (s.e, s.wh)
theorem numC_ok {l : List UInt8} {a wd : Int} (h : (numC l a wd).2 = 0) : 1 ≤ wd ∧ wd ≤ 8 ∧ 0 ≤ a ∧ a + wd ≤ l.length := by
  unfold numC at h
  split at h
  · cases h
  · split at h
    · cases h
    · split at h
      · cases h
      · omega
theorem numC_lt (l : List UInt8) (a wd : Int) : (numC l a wd).1 < 18446744073709551616 ∧ (wd = 2 → (numC l a wd).1 < 65536) := by
  unfold numC
  split
  · exact ⟨by simp, fun _ => by simp⟩
  · split
    · exact ⟨by simp, fun _ => by simp⟩
    · split
      · exact ⟨by simp, fun _ => by simp⟩
      · rename_i h1 h2 h3
        have hl := valL_lt (cutL l a.toNat wd.toNat)
        rw [cutL_length l _ _ (by omega)] at hl
        constructor
        · have : 256 ^ wd.toNat ≤ 256 ^ 8 := Nat.pow_le_pow_right (by omega) (by omega)
          show valL _ < _
          omega
        · rintro rfl
          exact hl
theorem numC_err (l : List UInt8) (a wd : Int) : (numC l a wd).2 ≤ 4 := by
  unfold numC
  split
  · simp
  · split
    · simp
    · split <;> simp
theorem numS_at {l : List UInt8} {s : St} (wd : Int) (h : s.at_ ≤ l.length) : (numS l s wd).2.at_ ≤ l.length := by
  unfold numS
  split
  · split
    · rename_i h1
      have := numC_ok h1
      show s.at_ + wd.toNat ≤ _
      omega
    · exact h
  · exact h
theorem rawS_at {l : List UInt8} {s : St} (n : Int) (h : s.at_ ≤ l.length) : (rawS l s n).2.at_ ≤ l.length := by
  unfold rawS
  split
  · split
    · exact h
    · split
      · exact h
      · show s.at_ + n.toNat ≤ _
        omega
  · exact h
theorem textS_at {l : List UInt8} {s : St} (h : s.at_ ≤ l.length) : (textS l s).2.at_ ≤ l.length := by
  unfold textS
  simp only
  split
  · split
    · exact h
    · exact rawS_at _ (numS_at 2 h)
  · exact numS_at 2 h
theorem rawS_len (l : List UInt8) (s : St) (n : Int) : (rawS l s n).1.length ≤ l.length := by
  unfold rawS
  split
  · split
    · simp
    · split
      · simp
      · rename_i h1 h2
        rcases Nat.lt_or_ge l.length s.at_ with h | h
        · simp only [cutL, List.length_take, List.length_drop]
          omega
        · simp only [cutL, List.length_take, List.length_drop]
          omega
  · simp
end Go.Proofs.Ytnloooakfhjggaa
