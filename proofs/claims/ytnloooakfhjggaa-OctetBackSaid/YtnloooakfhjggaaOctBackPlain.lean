/-
  What is put is read as it was: the plain law of OctetBack. A part of the proof: see the head of the text that ends in 'Law'.
-/
import Derived.Test.YtnloooakfhjggaaOctTk3
namespace Go.Proofs.Ytnloooakfhjggaa
open Go.RowKit
set_option linter.unusedVariables false

theorem valL_putL (v : Nat) : ∀ k, valL (putL v k) = v % 256 ^ k
  | 0 => by simp [putL_zero, valL, Nat.mod_one]
  | k + 1 => by
    rw [putL_succ, valL_snoc, valL_putL v k, putL_length, Nat.pow_succ, Nat.mod_mul, UInt8.toNat_ofNat', Nat.mod_eq_of_lt (show v / 256 ^ k % 256 < 2 ^ 8 by omega), Nat.mul_comm (256 ^ k)]
theorem valL_put (v k : Nat) (h : v / 256 ^ k = 0) : valL (putL v k) = v := by
  rw [valL_putL]
  apply Nat.mod_eq_of_lt
  rcases Nat.lt_or_ge v (256 ^ k) with h1 | h1
  · exact h1
  · have := Nat.div_pos h1 (Nat.pow_pos (by omega))
    omega
theorem cutL_mid (a b c : List UInt8) : cutL (a ++ (b ++ c)) a.length b.length = b := by simp [cutL]
theorem back_raw (a b c : List UInt8) : rawS (a ++ (b ++ c)) ⟨a.length, 0, 0⟩ b.length = (b, ⟨a.length + b.length, 0, 0⟩) := by
  unfold rawS
  rw [if_pos rfl, if_neg (by omega), if_neg (by simp only [List.length_append]; omega), Int.toNat_natCast, cutL_mid]
theorem back_num (a b c : List UInt8) (h1 : 1 ≤ b.length) (h8 : b.length ≤ 8) : numS (a ++ (b ++ c)) ⟨a.length, 0, 0⟩ b.length = (valL b, ⟨a.length + b.length, 0, 0⟩) := by
  have h : numC (a ++ (b ++ c)) a.length b.length = (valL b, 0) := by
    unfold numC
    rw [if_neg (by omega), if_neg (by simp only [List.length_append]; omega), if_neg (by simp only [List.length_append]; omega), Int.toNat_natCast, Int.toNat_natCast, cutL_mid]
  unfold numS
  simp only [h]
  rw [if_pos trivial, if_pos trivial, Int.toNat_natCast]
theorem back_text (a s c : List UInt8) (h : s.length ≤ 65535) : textS (a ++ ((putL s.length 2 ++ s) ++ c)) ⟨a.length, 0, 0⟩ = (s, ⟨a.length + (2 + s.length), 0, 0⟩) := by
  have e1 : numS (a ++ ((putL s.length 2 ++ s) ++ c)) ⟨a.length, 0, 0⟩ 2 = (s.length, ⟨a.length + 2, 0, 0⟩) := by
    have h1 := back_num a (putL s.length 2) (s ++ c) (by rw [putL_length]; omega) (by rw [putL_length]; omega)
    rw [valL_put _ _ (two_fits _ h), putL_length, ← List.append_assoc (putL s.length 2)] at h1
    exact h1
  have e2 : rawS (a ++ ((putL s.length 2 ++ s) ++ c)) ⟨a.length + 2, 0, 0⟩ s.length = (s, ⟨a.length + 2 + s.length, 0, 0⟩) := by
    have h1 := back_raw (a ++ putL s.length 2) s c
    rw [List.length_append, putL_length, List.append_assoc a, ← List.append_assoc (putL s.length 2)] at h1
    exact h1
  unfold textS
  simp only [e1, e2]
  rw [if_pos trivial, if_neg (by simp only [List.length_append, putL_length]; omega)]
  simp only [Nat.add_assoc]
theorem back_end (l : List UInt8) : endS l ⟨l.length, 0, 0⟩ = (0, 0) := by
  unfold endS
  rw [if_neg (by simp)]
/-- The four readings, one behind the other. -/
theorem back_all (a s c : List UInt8) (v k : Nat) (h1 : 1 ≤ k) (h8 : k ≤ 8) (h0 : v / 256 ^ k = 0) (hs : s.length ≤ 65535) :
    rawS (((a ++ putL v k) ++ (putL s.length 2 ++ s)) ++ c) ⟨0, 0, 0⟩ a.length = (a, ⟨a.length, 0, 0⟩) ∧
    numS (((a ++ putL v k) ++ (putL s.length 2 ++ s)) ++ c) ⟨a.length, 0, 0⟩ k = (v, ⟨a.length + k, 0, 0⟩) ∧
    textS (((a ++ putL v k) ++ (putL s.length 2 ++ s)) ++ c) ⟨a.length + k, 0, 0⟩ = (s, ⟨a.length + k + (2 + s.length), 0, 0⟩) ∧
    rawS (((a ++ putL v k) ++ (putL s.length 2 ++ s)) ++ c) ⟨a.length + k + (2 + s.length), 0, 0⟩ c.length = (c, ⟨a.length + k + (2 + s.length) + c.length, 0, 0⟩) ∧
    endS (((a ++ putL v k) ++ (putL s.length 2 ++ s)) ++ c) ⟨a.length + k + (2 + s.length) + c.length, 0, 0⟩ = (0, 0) := by
  have g0 := back_raw [] a (putL v k ++ ((putL s.length 2 ++ s) ++ c))
  have g1 := back_num a (putL v k) ((putL s.length 2 ++ s) ++ c) (by rw [putL_length]; exact h1) (by rw [putL_length]; exact h8)
  have g2 := back_text (a ++ putL v k) s c hs
  have g3 := back_raw ((a ++ putL v k) ++ (putL s.length 2 ++ s)) c []
  have g4 := back_end (((a ++ putL v k) ++ (putL s.length 2 ++ s)) ++ c)
  rw [valL_put v k h0, putL_length] at g1
  simp only [List.append_nil, List.nil_append, List.length_append, putL_length, List.append_assoc, List.length_nil, Nat.zero_add] at g0 g1 g2 g3 g4 ⊢
  have e : a.length + (k + (2 + s.length)) = a.length + k + (2 + s.length) := by omega
  have e' : a.length + (k + (2 + (s.length + c.length))) = a.length + k + (2 + s.length) + c.length := by omega
  rw [e] at g3
  rw [e'] at g4
  exact ⟨g0, g1, g2, g3, g4⟩
end Go.Proofs.Ytnloooakfhjggaa
