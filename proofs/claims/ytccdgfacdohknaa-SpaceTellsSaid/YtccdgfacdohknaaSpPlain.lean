/-
  Pages in plain words: flags, and the octets that hold them; what turning pages over comes to. No program is in sight.
-/
import Derived.Test.YtccdgfacdohknaaLib
namespace Go.Proofs.Ytccdgfacdohknaa
set_option linter.unusedVariables false

/-- Is page p's bit set in octets? -/
def bitL (bits : List UInt8) (p : Nat) : Bool := (bits.getD (p / 8) 0).toNat.testBit (p % 8)
def oct8 (b0 b1 b2 b3 b4 b5 b6 b7 : Bool) : Nat := b0.toNat + 2 * b1.toNat + 4 * b2.toNat + 8 * b3.toNat + 16 * b4.toNat + 32 * b5.toNat + 64 * b6.toNat + 128 * b7.toNat
theorem oct8_lt (b0 b1 b2 b3 b4 b5 b6 b7 : Bool) : oct8 b0 b1 b2 b3 b4 b5 b6 b7 < 256 := by revert b0 b1 b2 b3 b4 b5 b6 b7; decide
theorem oct8_bit (b0 b1 b2 b3 b4 b5 b6 b7 : Bool) : (oct8 b0 b1 b2 b3 b4 b5 b6 b7).testBit 0 = b0 ∧ (oct8 b0 b1 b2 b3 b4 b5 b6 b7).testBit 1 = b1 ∧ (oct8 b0 b1 b2 b3 b4 b5 b6 b7).testBit 2 = b2 ∧ (oct8 b0 b1 b2 b3 b4 b5 b6 b7).testBit 3 = b3 ∧ (oct8 b0 b1 b2 b3 b4 b5 b6 b7).testBit 4 = b4 ∧ (oct8 b0 b1 b2 b3 b4 b5 b6 b7).testBit 5 = b5 ∧ (oct8 b0 b1 b2 b3 b4 b5 b6 b7).testBit 6 = b6 ∧ (oct8 b0 b1 b2 b3 b4 b5 b6 b7).testBit 7 = b7 := by
  revert b0 b1 b2 b3 b4 b5 b6 b7; decide
/-- Octet j of flags. -/
def octAt (l : List Bool) (j : Nat) : Nat := oct8 (l.getD (8 * j) false) (l.getD (8 * j + 1) false) (l.getD (8 * j + 2) false) (l.getD (8 * j + 3) false) (l.getD (8 * j + 4) false) (l.getD (8 * j + 5) false) (l.getD (8 * j + 6) false) (l.getD (8 * j + 7) false)
theorem octAt_lt (l : List Bool) (j : Nat) : octAt l j < 256 := oct8_lt ..
theorem octAt_bit (l : List Bool) (j k : Nat) (hk : k < 8) : (octAt l j).testBit k = l.getD (8 * j + k) false := by
  obtain ⟨h0, h1, h2, h3, h4, h5, h6, h7⟩ := oct8_bit (l.getD (8 * j) false) (l.getD (8 * j + 1) false) (l.getD (8 * j + 2) false) (l.getD (8 * j + 3) false) (l.getD (8 * j + 4) false) (l.getD (8 * j + 5) false) (l.getD (8 * j + 6) false) (l.getD (8 * j + 7) false)
  match k, hk with
  | 0, _ => exact h0
  | 1, _ => exact h1
  | 2, _ => exact h2
  | 3, _ => exact h3
  | 4, _ => exact h4
  | 5, _ => exact h5
  | 6, _ => exact h6
  | 7, _ => exact h7
/-- Flags as octets. -/
def packL (l : List Bool) : List UInt8 := (List.range ((l.length + 7) / 8)).map fun j => UInt8.ofNat (octAt l j)
theorem packL_length (l : List Bool) : (packL l).length = (l.length + 7) / 8 := by simp [packL]
theorem packL_get (l : List Bool) (j : Nat) (h : j < (l.length + 7) / 8) : (packL l)[j]'(by rw [packL_length]; exact h) = UInt8.ofNat (octAt l j) := by simp [packL]
theorem toNat_ofNat_lt {x : Nat} (h : x < 256) : (UInt8.ofNat x).toNat = x := by rw [UInt8.toNat_ofNat']; exact Nat.mod_eq_of_lt h
theorem bitL_pack (l : List Bool) (p : Nat) : bitL (packL l) p = l.getD p false := by
  unfold bitL
  by_cases h : p / 8 < (l.length + 7) / 8
  · rw [List.getD_eq_getElem?_getD, List.getElem?_eq_getElem (by rw [packL_length]; exact h), packL_get l _ h, Option.getD_some, toNat_ofNat_lt (octAt_lt l _), octAt_bit l _ _ (by omega)]
    congr 1
    omega
  · rw [List.getD_eq_getElem?_getD, List.getElem?_eq_none (by rw [packL_length]; omega), List.getD_eq_getElem?_getD, List.getElem?_eq_none (by omega)]
    simp
theorem oct_ext {x y : UInt8} (h : ∀ k, k < 8 → x.toNat.testBit k = y.toNat.testBit k) : x = y := by
  apply UInt8.toNat_inj.1
  apply Nat.eq_of_testBit_eq
  intro k
  by_cases hk : k < 8
  · exact h k hk
  · have e (z : UInt8) : z.toNat.testBit k = false := Nat.testBit_lt_two_pow (Nat.lt_of_lt_of_le z.toNat_lt (Nat.pow_le_pow_right (by omega) (by omega)))
    rw [e, e]
theorem bits_ext {a b : List UInt8} (hl : a.length = b.length) (h : ∀ p, p < 8 * a.length → bitL a p = bitL b p) : a = b := by
  apply List.ext_getElem hl
  intro j h1 h2
  apply oct_ext
  intro k hk
  have := h (8 * j + k) (by omega)
  unfold bitL at this
  rw [show (8 * j + k) / 8 = j by omega, show (8 * j + k) % 8 = k by omega, List.getD_eq_getElem?_getD, List.getElem?_eq_getElem h1, List.getD_eq_getElem?_getD, List.getElem?_eq_getElem h2] at this
  exact this
/-- A space of octets that may be, and its flags. -/
structure Ok5 (N : Int) (bits : List UInt8) (l : List Bool) : Prop where
  n : N = l.length
  m : l.length ≤ 2048
  b : bits = packL l
def flagsL (m : Nat) (bits : List UInt8) : List Bool := (List.range m).map (bitL bits)
theorem ok5_iff (N : Int) (bits : List UInt8) : (∃ l, Ok5 N bits l) ↔ 0 ≤ N ∧ N ≤ 2048 ∧ bits.length = (N.toNat + 7) / 8 ∧ (N.toNat % 8 = 0 ∨ (bits.getD (bits.length - 1) 0).toNat / 2 ^ (N.toNat % 8) = 0) := by
  constructor
  · rintro ⟨l, rfl, hm, rfl⟩
    refine ⟨by omega, by omega, by rw [packL_length]; omega, ?_⟩
    by_cases h : l.length % 8 = 0
    · left; omega
    · right
      rw [packL_length, Int.toNat_natCast, List.getD_eq_getElem?_getD, List.getElem?_eq_getElem (by rw [packL_length]; omega), packL_get l _ (by omega), Option.getD_some, toNat_ofNat_lt (octAt_lt l _)]
      apply Nat.eq_of_testBit_eq
      intro k
      rw [Nat.testBit_div_two_pow, Nat.zero_testBit]
      by_cases hk : l.length % 8 + k < 8
      · rw [octAt_bit l _ _ (by omega), List.getD_eq_getElem?_getD, List.getElem?_eq_none (by omega)]
        rfl
      · exact Nat.testBit_lt_two_pow (Nat.lt_of_lt_of_le (octAt_lt l _) (by rw [show 256 = 2 ^ 8 from rfl]; exact Nat.pow_le_pow_right (by omega) (by omega)))
  · rintro ⟨h0, h1, h2, h3⟩
    obtain ⟨m, rfl⟩ : ∃ m : Nat, N = m := ⟨N.toNat, by omega⟩
    rw [Int.toNat_natCast] at h2 h3
    refine ⟨flagsL m bits, by simp [flagsL], by simp [flagsL]; omega, ?_⟩
    apply bits_ext (by rw [packL_length]; simp [flagsL]; omega)
    intro p hp
    rw [bitL_pack]
    unfold flagsL
    by_cases hpm : p < m
    · rw [List.getD_eq_getElem?_getD, List.getElem?_eq_getElem (by simpa using hpm)]
      simp
    · rw [List.getD_eq_getElem?_getD, List.getElem?_eq_none (by simp; omega)]
      have h3 : (bits.getD (bits.length - 1) 0).toNat / 2 ^ (m % 8) = 0 := by
        rcases h3 with h3 | h3
        · omega
        · exact h3
      have hq : p / 8 = bits.length - 1 := by omega
      have hr : m % 8 ≤ p % 8 := by omega
      unfold bitL
      rw [hq]
      apply Nat.testBit_lt_two_pow
      have : (bits.getD (bits.length - 1) 0).toNat < 2 ^ (m % 8) := by
        rcases Nat.lt_or_ge (bits.getD (bits.length - 1) 0).toNat (2 ^ (m % 8)) with h | h
        · exact h
        · have := Nat.div_pos h (Nat.pow_pos (by omega))
          omega
      exact Nat.lt_of_lt_of_le this (Nat.pow_le_pow_right (by omega) hr)
/-- The flags of a space that may be are the only ones. -/
theorem Ok5.uniq {N : Int} {bits : List UInt8} {l l' : List Bool} (h : Ok5 N bits l) (h' : Ok5 N bits l') : l = l' := by
  have hl : l.length = l'.length := by have := h.n; have := h'.n; omega
  apply List.ext_getElem hl
  intro i h1 h2
  have e := bitL_pack l i
  rw [← h.b, h'.b, bitL_pack, List.getD_eq_getElem?_getD, List.getElem?_eq_getElem h2, List.getD_eq_getElem?_getD, List.getElem?_eq_getElem h1] at e
  exact e.symm
/-- One page turned over. -/
theorem pack_flip (l : List Bool) (p : Nat) (hp : p < l.length) (x : UInt8) (hx : x.toNat = octAt l (p / 8) ^^^ 2 ^ (p % 8)) : (packL l).set (p / 8) x = packL (l.set p (!l[p])) := by
  apply bits_ext (by simp [packL_length])
  intro q hq
  simp only [List.length_set, packL_length] at hq
  rw [bitL_pack]
  unfold bitL
  have hp8 : p / 8 < (packL l).length := by rw [packL_length]; omega
  by_cases hpq : p = q
  · subst hpq
    rw [List.getD_eq_getElem?_getD, List.getElem?_set_self hp8, Option.getD_some, hx, Nat.testBit_xor, octAt_bit l _ _ (by omega), Nat.testBit_two_pow_self, show 8 * (p / 8) + p % 8 = p by omega, List.getD_eq_getElem?_getD, List.getElem?_eq_getElem hp, List.getD_eq_getElem?_getD, List.getElem?_set_self hp]
    simp
  · rw [List.getD_eq_getElem?_getD (l := l.set p _), List.getElem?_set_ne hpq, ← List.getD_eq_getElem?_getD, ← bitL_pack l q]
    unfold bitL
    by_cases h8 : p / 8 = q / 8
    · rw [List.getD_eq_getElem?_getD, h8, List.getElem?_set_self (by rw [← h8]; exact hp8), Option.getD_some, hx, Nat.testBit_xor, Nat.testBit_two_pow_of_ne (by omega), Bool.xor_false, h8, List.getD_eq_getElem?_getD, List.getElem?_eq_getElem (by rw [← h8]; exact hp8), packL_get l _ (by rw [← packL_length, ← h8]; exact hp8), Option.getD_some, toNat_ofNat_lt (octAt_lt l _)]
    · rw [List.getD_eq_getElem?_getD, List.getElem?_set_ne h8, ← List.getD_eq_getElem?_getD]
end Go.Proofs.Ytccdgfacdohknaa
