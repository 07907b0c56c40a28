/-
  The plain law of numbers as octets, the least first. No program is in sight. A part of the proof: see the head of the text that ends in 'Law'.
-/
import Derived.Test.YtpppmijohfjigaaLib2
namespace Go.Proofs.Ytpppmijohfjigaa
open Go.RowKit
set_option linter.unusedVariables false
set_option maxRecDepth 100000

/-- The first k octets of a number. -/
def putL (v k : Nat) : List UInt8 := (List.range k).map fun i => UInt8.ofNat (v / 256 ^ i % 256)
theorem putL_length (v k : Nat) : (putL v k).length = k := by simp [putL]
theorem putL_zero (v : Nat) : putL v 0 = [] := rfl
theorem putL_succ (v k : Nat) : putL v (k + 1) = putL v k ++ [UInt8.ofNat (v / 256 ^ k % 256)] := by
  unfold putL
  rw [List.range_succ, List.map_append]
  rfl
theorem div_pow_succ (v k : Nat) : v / 256 ^ (k + 1) = v / 256 ^ k / 256 := by rw [Nat.pow_succ, Nat.div_div_eq_div_mul]
theorem div_pow_lt (v k : Nat) (h : v < 18446744073709551616) : v / 256 ^ k < 18446744073709551616 := Nat.lt_of_le_of_lt (Nat.div_le_self _ _) h

/-- Octets as one number, the first the least. -/
def valL : List UInt8 → Nat
  | [] => 0
  | x :: l => x.toNat + 256 * valL l
theorem valL_lt : ∀ l : List UInt8, valL l < 256 ^ l.length
  | [] => by simp [valL]
  | x :: l => by
    have h := valL_lt l
    have hx : x.toNat < 256 := x.toNat_lt
    rw [valL, List.length_cons, Nat.pow_succ]
    omega
theorem valL_snoc : ∀ (l : List UInt8) (x : UInt8), valL (l ++ [x]) = valL l + x.toNat * 256 ^ l.length
  | [], x => by simp [valL]
  | y :: l, x => by
    rw [List.cons_append, valL, valL_snoc l x, valL, List.length_cons, Nat.pow_succ, Nat.mul_add, Nat.add_assoc]
    congr 2
    rw [← Nat.mul_assoc, Nat.mul_comm 256, Nat.mul_assoc, Nat.mul_comm 256]
theorem pow256 (j : Nat) : 256 ^ j = 2 ^ (8 * j) := by rw [show (256 : Nat) = 2 ^ 8 from rfl, ← Nat.pow_mul]
/-- An octet ored in above what is there is added. -/
theorem or_add (a x j : Nat) (h : a < 256 ^ j) : a ||| x * 256 ^ j = a + x * 256 ^ j := by
  rw [pow256] at h ⊢
  rw [Nat.mul_comm x, Nat.or_comm, ← Nat.two_pow_add_eq_or_of_lt h, Nat.add_comm]
/-- The octets of width k at a place. -/
def cutL (l : List UInt8) (at_ k : Nat) : List UInt8 := (l.drop at_).take k
theorem cutL_length (l : List UInt8) (at_ k : Nat) (h : at_ + k ≤ l.length) : (cutL l at_ k).length = k := by
  unfold cutL
  rw [List.length_take, List.length_drop]
  omega
theorem cutL_succ (l : List UInt8) (at_ j : Nat) (h : at_ + j < l.length) : cutL l at_ (j + 1) = cutL l at_ j ++ [l[at_ + j]] := by
  unfold cutL
  rw [List.take_succ_eq_append_getElem (by rw [List.length_drop]; omega), List.getElem_drop]
theorem cut_drop (l : List UInt8) (at_ k i : Nat) (h : at_ + k ≤ l.length) (hi : i < k) : valL ((cutL l at_ k).drop i) = valL ((cutL l at_ k).drop (i + 1)) * 256 + (l[at_ + i]'(by omega)).toNat := by
  have hl := cutL_length l at_ k h
  rw [List.drop_eq_getElem_cons (by rw [hl]; exact hi), valL]
  have e : (cutL l at_ k)[i]'(by rw [hl]; exact hi) = l[at_ + i]'(by omega) := by
    unfold cutL
    rw [List.getElem_take, List.getElem_drop]
  rw [e, Nat.add_comm, Nat.mul_comm]
end Go.Proofs.Ytpppmijohfjigaa
