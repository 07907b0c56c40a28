/-
  The plain law of CRC-32: a word behind eight steps, behind octets; that the table's way is the bit's way. No program is in sight.
-/
import Derived.Test.YtpppmijohfjigaaLib
namespace Go.Proofs.Ytpppmijohfjigaa
open Go.RowKit
set_option linter.unusedVariables false

def stp (n : Nat) : Nat := if n % 2 = 1 then (n / 2) ^^^ 3988292384 else n / 2
def stpN : Nat → Nat → Nat
  | 0, n => n
  | k + 1, n => stp (stpN k n)
theorem stp_lt {n : Nat} (h : n < 4294967296) : stp n < 4294967296 := by
  unfold stp
  split
  · exact Nat.xor_lt_two_pow (n := 32) (by omega) (by omega)
  · omega
theorem stpN_lt {n : Nat} (k : Nat) (h : n < 4294967296) : stpN k n < 4294967296 := by
  induction k with
  | zero => exact h
  | succ k ih => exact stp_lt ih
theorem and1 (m : Nat) (h : m < 4294967296) : bits .and .u32 (m : Int) 1 = ((m % 2 : Nat) : Int) := by
  rw [show (1 : Int) = ((1 : Nat) : Int) from rfl, u32_and_nat m 1 h (by omega), Nat.and_one_is_mod]
theorem xorP (m : Nat) (h : m < 4294967296) : bits .xor .u32 ((m : Int) / 2) 3988292384 = ((m / 2 ^^^ 3988292384 : Nat) : Int) := by
  rw [show (3988292384 : Int) = ((3988292384 : Nat) : Int) from rfl, show ((m : Int) / 2) = ((m / 2 : Nat) : Int) by omega, u32_xor_nat _ _ (by omega) (by omega)]

/-- A word behind one octet, behind octets. -/
def oct1 (a : Nat) (x : UInt8) : Nat := stpN 8 (a ^^^ x.toNat)
def goL (a : Nat) (l : List UInt8) : Nat := l.foldl oct1 a
theorem xor8_lt {a : Nat} (x : UInt8) (h : a < 4294967296) : a ^^^ x.toNat < 4294967296 := Nat.xor_lt_two_pow (n := 32) (by omega) (by have := x.toNat_lt; omega)
theorem oct1_lt {a : Nat} (x : UInt8) (h : a < 4294967296) : oct1 a x < 4294967296 := stpN_lt 8 (xor8_lt x h)
theorem goL_lt {a : Nat} (l : List UInt8) (h : a < 4294967296) : goL a l < 4294967296 := by
  induction l generalizing a with
  | nil => exact h
  | cons x l ih => exact ih (oct1_lt x h)
theorem goL_take_succ (a : Nat) (l : List UInt8) (k : Nat) (hk : k < l.length) : goL a (l.take (k + 1)) = oct1 (goL a (l.take k)) l[k] := by
  unfold goL
  rw [List.take_succ_eq_append_getElem hk, List.foldl_append]
  rfl
theorem goL_append (a : Nat) (l m : List UInt8) : goL a (l ++ m) = goL (goL a l) m := by simp [goL]
theorem xor8P (a : Nat) (x : UInt8) (h : a < 4294967296) : bits .xor .u32 (a : Int) (x.toNat : Int) = ((a ^^^ x.toNat : Nat) : Int) :=
  u32_xor_nat _ _ h (by have := x.toNat_lt; omega)

theorem not32 (a : Nat) (h : a < 4294967296) : 4294967295 ^^^ a = 4294967295 - a := by
  apply Nat.eq_of_testBit_eq
  intro i
  rw [show (4294967295 : Nat) - a = 2 ^ 32 - (a + 1) by omega, Nat.testBit_two_pow_sub_succ (by omega), Nat.testBit_xor, show (4294967295 : Nat) = 2 ^ 32 - 1 from rfl, Nat.testBit_two_pow_sub_one]
  by_cases hi : i < 32
  · simp [hi]
  · have : a.testBit i = false := Nat.testBit_lt_two_pow (Nat.lt_of_lt_of_le h (Nat.pow_le_pow_right (n := 2) (by omega) (by omega : 32 ≤ i)))
    simp [hi, this]

/-- The sum of octets. -/
def sumL (l : List UInt8) : Nat := 4294967295 - goL 4294967295 l
theorem sumL_lt (l : List UInt8) : sumL l < 4294967296 := by unfold sumL; omega
/-- A table of 256 words, all noughts; that table behind k rounds. -/
def Z256 : Array Value := Array.replicate 256 (.int .u32 0)
def Tab : Nat → Array Value
  | 0 => Z256
  | k + 1 => (Tab k).setIfInBounds k (.int .u32 (stpN 8 k))
theorem Z256_size : Z256.size = 256 := Array.size_replicate
theorem Tab_size (k : Nat) : (Tab k).size = 256 := by
  induction k with
  | zero => exact Z256_size
  | succ k ih => unfold Tab; rw [Array.size_setIfInBounds]; exact ih
theorem Tab_at (k j : Nat) (hj : j < 256) : (Tab k)[j]? = some (.int .u32 (if j < k then stpN 8 j else 0 : Nat)) := by
  induction k with
  | zero => simp [Tab, Z256, hj]
  | succ k ih =>
    unfold Tab
    rw [Array.getElem?_setIfInBounds]
    by_cases h : k = j
    · subst h
      simp [Tab_size, hj]
    · rw [if_neg h, ih]
      have : (j < k + 1) = (j < k) := by simp; omega
      simp only [this]
theorem Tab_one (k : Nat) : (Tab k).all (·.oneCell') = true := by
  rw [Array.all_eq_true_iff_forall_mem]
  intro v hv
  obtain ⟨j, hj⟩ := Array.mem_iff_getElem?.1 hv
  have hlt : j < 256 := by
    have := (Array.getElem?_eq_some_iff.1 hj).1
    rw [Tab_size] at this
    exact this
  rw [Tab_at k j hlt] at hj
  injection hj with hj
  subst hj
  rfl

/-- The table, whole. -/
def TAB : Array Value := Tab 256
theorem TAB_size : TAB.size = 256 := Tab_size 256
theorem TAB_at (j : Nat) (hj : j < 256) : TAB[j]? = some (.int .u32 (stpN 8 j : Nat)) := by
  unfold TAB
  rw [Tab_at 256 j hj, if_pos hj]
theorem TAB_one : TAB.all (·.oneCell') = true := Tab_one 256
theorem xor4 (a b c d : Nat) : (a ^^^ b) ^^^ (c ^^^ d) = (a ^^^ c) ^^^ (b ^^^ d) := by
  rw [Nat.xor_assoc, ← Nat.xor_assoc b, Nat.xor_comm b c, Nat.xor_assoc, ← Nat.xor_assoc a c]
theorem stp_eq (n : Nat) : stp n = (n / 2) ^^^ (if n % 2 = 1 then 3988292384 else 0) := by
  unfold stp
  split
  · rfl
  · exact (Nat.xor_zero _).symm
theorem stp_xor (a b : Nat) : stp (a ^^^ b) = stp a ^^^ stp b := by
  rw [stp_eq, stp_eq a, stp_eq b, Nat.xor_div_two, xor4]
  congr 1
  have h := @Nat.xor_mod_two_eq_one a b
  by_cases ha : a % 2 = 1 <;> by_cases hb : b % 2 = 1
  · rw [if_neg (by rw [h]; simp [ha, hb]), if_pos ha, if_pos hb, Nat.xor_self]
  · rw [if_pos (by rw [h]; simp [ha, hb]), if_pos ha, if_neg hb, Nat.xor_zero]
  · rw [if_pos (by rw [h]; simp [ha, hb]), if_neg ha, if_pos hb, Nat.zero_xor]
  · rw [if_neg (by rw [h]; simp [ha, hb]), if_neg ha, if_neg hb, Nat.xor_self]
theorem stpN_xor (k a b : Nat) : stpN k (a ^^^ b) = stpN k a ^^^ stpN k b := by
  induction k with
  | zero => rfl
  | succ k ih => rw [stpN, stpN, stpN, ih, stp_xor]
theorem stpN_zero (k : Nat) : stpN k 0 = 0 := by
  induction k with
  | zero => rfl
  | succ k ih => rw [stpN, ih]; rfl
theorem stpN_add (j k n : Nat) : stpN (j + k) n = stpN j (stpN k n) := by
  induction j with
  | zero => rw [Nat.zero_add]; rfl
  | succ j ih => rw [show j + 1 + k = (j + k) + 1 by omega, stpN, stpN, ih]
theorem stp_double (n : Nat) : stp (2 * n) = n := by
  unfold stp
  rw [if_neg (by omega)]
  omega
theorem stpN_shift (k n : Nat) : stpN k (2 ^ k * n) = n := by
  induction k generalizing n with
  | zero => simp [stpN]
  | succ k ih =>
    rw [stpN, show 2 ^ (k + 1) * n = 2 ^ k * (2 * n) by rw [Nat.pow_succ, Nat.mul_assoc], ih, stp_double]
theorem split8 (k a : Nat) : a = (a % 2 ^ k) ^^^ (2 ^ k * (a / 2 ^ k)) := by
  apply Nat.eq_of_testBit_eq
  intro i
  rw [Nat.testBit_xor, Nat.testBit_mod_two_pow, Nat.testBit_two_pow_mul, Nat.testBit_div_two_pow]
  by_cases h : i < k
  · have h2 : ¬ (i ≥ k) := by omega
    simp [h, h2]
  · have h2 : i ≥ k := by omega
    simp [h, h2]
/-- The table's way: the low eight bits by the table, the rest shifted. -/
theorem stp8_table (a : Nat) : stpN 8 a = stpN 8 (a % 256) ^^^ (a / 256) := by
  have h := stpN_xor 8 (a % 2 ^ 8) (2 ^ 8 * (a / 2 ^ 8))
  rw [← split8 8 a, stpN_shift] at h
  exact h
theorem oct1_table (a : Nat) (x : UInt8) : oct1 a x = stpN 8 (a % 256 ^^^ x.toNat) ^^^ (a / 256) := by
  unfold oct1
  rw [stp8_table]
  have hx : x.toNat < 256 := x.toNat_lt
  have h1 : (a ^^^ x.toNat) % 256 = a % 256 ^^^ x.toNat := by
    have := @Nat.xor_mod_two_pow a x.toNat 8
    rw [show (2 : Nat) ^ 8 = 256 from rfl, Nat.mod_eq_of_lt hx] at this
    exact this
  have h2 : (a ^^^ x.toNat) / 256 = a / 256 := by
    have := @Nat.xor_div_two_pow a x.toNat 8
    rw [show (2 : Nat) ^ 8 = 256 from rfl, Nat.div_eq_of_lt hx, Nat.xor_zero] at this
    exact this
  rw [h1, h2]
/-- A step takes no two words to one. -/
theorem stp_zero {n : Nat} (hn : n < 4294967296) (h : stp n = 0) : n = 0 := by
  unfold stp at h
  split at h
  · have h2 : (n / 2 ^^^ 3988292384) ^^^ 3988292384 = n / 2 := by rw [Nat.xor_assoc, Nat.xor_self, Nat.xor_zero]
    rw [h, Nat.zero_xor] at h2
    omega
  · omega
theorem stpN_zero_inv {k n : Nat} (hn : n < 4294967296) (h : stpN k n = 0) : n = 0 := by
  induction k with
  | zero => exact h
  | succ k ih => exact ih (stp_zero (stpN_lt k hn) h)
theorem goL_xor (a b : Nat) : ∀ (l m : List UInt8), l.length = m.length → goL (a ^^^ b) (List.zipWith (· ^^^ ·) l m) = goL a l ^^^ goL b m
  | [], [], _ => rfl
  | x :: l, y :: m, h => by
    have ih := goL_xor (oct1 a x) (oct1 b y) l m (by simpa using h)
    have e : oct1 (a ^^^ b) (x ^^^ y) = oct1 a x ^^^ oct1 b y := by
      unfold oct1
      rw [UInt8.toNat_xor, xor4, stpN_xor]
    show goL (oct1 (a ^^^ b) (x ^^^ y)) (List.zipWith (· ^^^ ·) l m) = _
    rw [e, ih]
    rfl
/-- Octets as one number, the first the least. -/
def valC : List UInt8 → Nat
  | [] => 0
  | x :: l => x.toNat + 256 * valC l
/-- Octets one behind the other, as one number taken at once. -/
theorem goL_val (a : Nat) : ∀ l : List UInt8, goL a l = stpN (8 * l.length) (a ^^^ valC l)
  | [] => by simp [goL, valC, stpN]
  | x :: l => by
    show goL (oct1 a x) l = _
    rw [goL_val _ l]
    have e : a ^^^ valC (x :: l) = (a ^^^ x.toNat) ^^^ (2 ^ 8 * valC l) := by
      rw [valC, Nat.xor_assoc]
      congr 1
      have h := split8 8 (x.toNat + 256 * valC l)
      have hx : x.toNat < 256 := x.toNat_lt
      rw [show (2 : Nat) ^ 8 = 256 from rfl] at h ⊢
      rw [show (x.toNat + 256 * valC l) % 256 = x.toNat by omega, show (x.toNat + 256 * valC l) / 256 = valC l by omega] at h
      exact h
    rw [e, List.length_cons, show 8 * (l.length + 1) = 8 * l.length + 8 by omega, stpN_add, stpN_xor 8, stpN_shift]
    rfl
/-- A sum's four octets. -/
def le4 (s : Nat) : List UInt8 := [UInt8.ofNat (s % 256), UInt8.ofNat (s / 256 % 256), UInt8.ofNat (s / 65536 % 256), UInt8.ofNat (s / 16777216)]
def four (s : Nat) : Array Value := ((le4 s).map B8).toArray
theorem le4_length (s : Nat) : (le4 s).length = 4 := rfl
theorem four_eq (s : Nat) (hs : s < 4294967296) : four s = #[.int .u8 ((s : Int) % 256), .int .u8 ((s : Int) / 256 % 256), .int .u8 ((s : Int) / 65536 % 256), .int .u8 ((s : Int) / 16777216 % 256)] := by
  have e (k : Nat) (hk : k < 256) : B8 (UInt8.ofNat k) = .int .u8 (k : Int) := by unfold B8; rw [UInt8.toNat_ofNat']; rw [Nat.mod_eq_of_lt (by omega)]
  unfold four le4
  simp only [List.map_cons, List.map_nil]
  rw [e _ (by omega), e _ (by omega), e _ (by omega), e _ (by omega)]
  have : (s : Int) / 16777216 % 256 = (s : Int) / 16777216 := by omega
  simp [this]
end Go.Proofs.Ytpppmijohfjigaa
