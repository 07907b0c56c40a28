/-
  The plain law behind CrcFinds: octets that end in their sum, with up to 32 bits beside one another turned over, no longer do. No program is in sight. A part of the proof: see the head of the text that ends in 'Law'.
-/
import Derived.Test.YtccibhgdpfmjlaaCrcPlain
namespace Go.Proofs.Ytccibhgdpfmjlaa
open Go.RowKit
set_option linter.unusedVariables false

theorem mul_xor (k a b : Nat) : 2 ^ k * (a ^^^ b) = (2 ^ k * a) ^^^ (2 ^ k * b) := by
  apply Nat.eq_of_testBit_eq
  intro i
  rw [Nat.testBit_xor, Nat.testBit_two_pow_mul, Nat.testBit_two_pow_mul, Nat.testBit_two_pow_mul, Nat.testBit_xor]
  by_cases h : i ≥ k <;> simp [h]
theorem low_xor (k y z : Nat) (h : y < 2 ^ k) : y + 2 ^ k * z = y ^^^ (2 ^ k * z) := by
  have e := split8 k (y + 2 ^ k * z)
  rw [Nat.add_mul_mod_self_left, Nat.mod_eq_of_lt h, Nat.add_mul_div_left _ _ (Nat.two_pow_pos k), Nat.div_eq_of_lt h, Nat.zero_add] at e
  exact e
theorem valL_set : ∀ (l : List UInt8) (p : Nat) (x : UInt8) (hp : p < l.length), valL (l.set p (l[p] ^^^ x)) = valL l ^^^ (2 ^ (8 * p) * x.toNat)
  | y :: l, 0, x, _ => by
    have hy : y.toNat < 256 := y.toNat_lt
    have hx : x.toNat < 256 := x.toNat_lt
    simp only [List.set_cons_zero, List.getElem_cons_zero, valL, Nat.mul_zero, Nat.pow_zero, Nat.one_mul]
    have h1 := low_xor 8 (y ^^^ x).toNat (valL l) (y ^^^ x).toNat_lt
    have h2 := low_xor 8 y.toNat (valL l) hy
    rw [show (2 : Nat) ^ 8 = 256 from rfl] at h1 h2
    rw [h1, h2, UInt8.toNat_xor, Nat.xor_assoc, Nat.xor_assoc]
    congr 1
    exact Nat.xor_comm _ _
  | y :: l, p + 1, x, hp => by
    have hy : y.toNat < 256 := y.toNat_lt
    simp only [List.set_cons_succ, List.getElem_cons_succ, valL]
    rw [valL_set l p x (by simpa using hp)]
    have h1 := low_xor 8 y.toNat (valL l ^^^ (2 ^ (8 * p) * x.toNat)) hy
    have h2 := low_xor 8 y.toNat (valL l) hy
    rw [show (2 : Nat) ^ 8 = 256 from rfl] at h1 h2
    rw [h1, h2, Nat.xor_assoc]
    congr 1
    have h3 := mul_xor 8 (valL l) (2 ^ (8 * p) * x.toNat)
    rw [show (2 : Nat) ^ 8 = 256 from rfl] at h3
    rw [h3]
    congr 1
    rw [← Nat.mul_assoc, show (256 : Nat) = 2 ^ 8 from rfl, ← Nat.pow_add, show 8 + 8 * p = 8 * (p + 1) by omega]
theorem mod_step (n j : Nat) : n % 2 ^ (8 * (j + 1)) = (n % 2 ^ (8 * j)) ^^^ (2 ^ (8 * j) * (n / 2 ^ (8 * j) % 256)) := by
  have e := split8 (8 * j) (n % 2 ^ (8 * (j + 1)))
  have hd : 2 ^ (8 * j) ∣ 2 ^ (8 * (j + 1)) := Nat.pow_dvd_pow 2 (by omega)
  rw [Nat.mod_mod_of_dvd _ hd] at e
  have h2 : n % 2 ^ (8 * (j + 1)) / 2 ^ (8 * j) = n / 2 ^ (8 * j) % 256 := by
    rw [show 8 * (j + 1) = 8 * j + 8 by omega, Nat.pow_add, Nat.mod_mul_right_div_self]
  rw [h2] at e
  exact e
theorem valL_le4 (s : Nat) (h : s < 4294967296) : valL (le4 s) = s := by
  simp only [le4, valL, UInt8.toNat_ofNat']
  omega
theorem comp32 (g : Nat) (h : g < 4294967296) : g ^^^ (4294967295 - g) = 4294967295 := by
  rw [← not32 g h, Nat.xor_comm 4294967295, ← Nat.xor_assoc, Nat.xor_self, Nat.zero_xor]
/-- What all octets that end in their sum come to. -/
theorem residue (b : List UInt8) : goL 4294967295 (b ++ le4 (sumL b)) = stpN 32 4294967295 := by
  have hg := goL_lt b (show 4294967295 < 4294967296 by omega)
  rw [goL_append, goL_val, valL_le4 _ (sumL_lt _), le4_length]
  unfold sumL
  rw [comp32 _ hg]
/-- Turned bits, from place k on, no more than stand behind it: the octets are no longer such. -/
theorem found (s t : List UInt8) (n k turn : Nat) (hs : goL 4294967295 s = stpN 32 4294967295) (hn : t.length = n + 4) (hl : t.length = s.length) (hk : k ≤ 8 * t.length) (hv : valL t = valL s ^^^ (2 ^ k * turn)) (h32 : turn < 4294967296) (h0 : turn ≠ 0) :
    le4 (sumL (t.take n)) ≠ t.drop n := by
  intro h
  have e : t.take n ++ le4 (sumL (t.take n)) = t := by rw [h, List.take_append_drop]
  have ht := residue (t.take n)
  rw [e] at ht
  rw [goL_val, hv, ← Nat.xor_assoc, stpN_xor, hl, ← goL_val, hs] at ht
  have h2 : stpN 32 4294967295 ^^^ (stpN 32 4294967295 ^^^ stpN (8 * s.length) (2 ^ k * turn)) = 0 := by rw [ht, Nat.xor_self]
  rw [← Nat.xor_assoc, Nat.xor_self, Nat.zero_xor, show 8 * s.length = (8 * s.length - k) + k by omega, stpN_add, stpN_shift] at h2
  exact h0 (stpN_zero_inv h32 h2)
/-- Octets behind j rounds of turning. -/
def turned (wide q : Nat) (s : List UInt8) : Nat → List UInt8
  | 0 => s
  | j + 1 => (turned wide q s j).set (q + j) ((turned wide q s j).getD (q + j) 0 ^^^ UInt8.ofNat (wide / 2 ^ (8 * j) % 256))
theorem turned_length (wide q : Nat) (s : List UInt8) (j : Nat) : (turned wide q s j).length = s.length := by
  induction j with
  | zero => rfl
  | succ j ih => rw [turned, List.length_set, ih]
theorem turned_val (wide q : Nat) (s : List UInt8) (j : Nat) (hj : q + j ≤ s.length) : valL (turned wide q s j) = valL s ^^^ (2 ^ (8 * q) * (wide % 2 ^ (8 * j))) := by
  induction j with
  | zero => simp [turned, Nat.mod_one]
  | succ j ih =>
    have hp : q + j < (turned wide q s j).length := by rw [turned_length]; omega
    have e : (turned wide q s j).getD (q + j) 0 = (turned wide q s j)[q + j] := by simp [List.getD, hp]
    rw [turned, e, valL_set _ _ _ hp, ih (by omega), mod_step, mul_xor, Nat.xor_assoc]
    congr 2
    rw [UInt8.toNat_ofNat', Nat.mod_eq_of_lt (Nat.mod_lt _ (by omega)), ← Nat.mul_assoc, ← Nat.pow_add, Nat.mul_add]

theorem turned_found (s : List UInt8) (n k turn j : Nat) (hs : goL 4294967295 s = stpN 32 4294967295) (hn : s.length = n + 4) (hk : k ≤ 8 * n) (h32 : turn < 4294967296) (h0 : turn ≠ 0) (hj : k / 8 + j ≤ s.length) (hj5 : j = 5 ∨ j = 4 ∧ k / 8 = n) :
    le4 (sumL ((turned (turn * 2 ^ (k % 8)) (k / 8) s j).take n)) ≠ (turned (turn * 2 ^ (k % 8)) (k / 8) s j).drop n := by
  have hl := turned_length (turn * 2 ^ (k % 8)) (k / 8) s j
  have hv := turned_val (turn * 2 ^ (k % 8)) (k / 8) s j hj
  have hw : turn * 2 ^ (k % 8) < 2 ^ (8 * j) := by
    rcases hj5 with rfl | ⟨rfl, hq⟩
    · have h1 : (2 : Nat) ^ (k % 8) ≤ 2 ^ 7 := Nat.pow_le_pow_right (by omega) (by omega)
      calc turn * 2 ^ (k % 8) ≤ turn * 2 ^ 7 := Nat.mul_le_mul_left _ h1
        _ < 2 ^ (8 * 5) := by omega
    · have : k % 8 = 0 := by omega
      rw [this]
      omega
  have e2 : 2 ^ (8 * (k / 8)) * (turn * 2 ^ (k % 8)) = 2 ^ k * turn := by
    rw [Nat.mul_comm turn, ← Nat.mul_assoc, ← Nat.pow_add, show 8 * (k / 8) + k % 8 = k by omega]
  rw [Nat.mod_eq_of_lt hw, e2] at hv
  exact found s _ n k turn hs (hl.trans hn) hl (by rw [hl, hn]; omega) hv h32 h0
end Go.Proofs.Ytccibhgdpfmjlaa
