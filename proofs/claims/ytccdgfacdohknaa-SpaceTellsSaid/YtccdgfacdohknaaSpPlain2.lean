/-
  Flags laid down one by one as octets. No program is in sight.
-/
import Derived.Test.YtccdgfacdohknaaSpPlain
namespace Go.Proofs.Ytccdgfacdohknaa
set_option linter.unusedVariables false

/-- The octets of the first i flags, with room for the next one. -/
def roomL (l : List Bool) (i : Nat) : List UInt8 := if i % 8 = 0 then packL (l.take i) ++ [0] else packL (l.take i)
theorem roomL_length (l : List Bool) (i : Nat) (h : i < l.length) : (roomL l i).length = i / 8 + 1 := by
  unfold roomL
  split
  · rw [List.length_append, packL_length, List.length_take, List.length_singleton]
    omega
  · rw [packL_length, List.length_take]
    omega
theorem octAt_take_lt (l : List Bool) (i : Nat) : octAt (l.take i) (i / 8) < 2 ^ (i % 8) := by
  apply Nat.lt_pow_two_of_testBit
  intro j hj
  by_cases h8 : j < 8
  · rw [octAt_bit _ _ _ h8, List.getD_eq_getElem?_getD, List.getElem?_eq_none (by rw [List.length_take]; omega)]
    rfl
  · exact Nat.testBit_lt_two_pow (Nat.lt_of_lt_of_le (octAt_lt _ _) (by rw [show 256 = 2 ^ 8 from rfl]; exact Nat.pow_le_pow_right (by omega) (by omega)))
theorem roomL_get (l : List Bool) (i : Nat) (h : i < l.length) : (roomL l i)[i / 8]? = some (UInt8.ofNat (octAt (l.take i) (i / 8))) := by
  unfold roomL
  split
  · rename_i h0
    have hz : octAt (l.take i) (i / 8) = 0 := by have := octAt_take_lt l i; rw [h0] at this; omega
    rw [hz, List.getElem?_append_right (by rw [packL_length, List.length_take]; omega), packL_length, List.length_take]
    rw [show i / 8 - (min i l.length + 7) / 8 = 0 by omega]
    rfl
  · rw [List.getElem?_eq_getElem (by rw [packL_length, List.length_take]; omega), packL_get _ _ (by rw [List.length_take]; omega)]
theorem bitL_room (l : List Bool) (i p : Nat) (h : i < l.length) (hp : p < 8 * (i / 8 + 1)) : bitL (roomL l i) p = (l.take i).getD p false := by
  unfold roomL
  split
  · rename_i h0
    by_cases hp8 : p / 8 < i / 8
    · rw [← bitL_pack]
      unfold bitL
      rw [List.getD_eq_getElem?_getD, List.getElem?_append_left (by rw [packL_length, List.length_take]; omega), ← List.getD_eq_getElem?_getD]
    · unfold bitL
      rw [List.getD_eq_getElem?_getD, List.getElem?_append_right (by rw [packL_length, List.length_take]; omega), packL_length, List.length_take, show p / 8 - (min i l.length + 7) / 8 = 0 by omega]
      have hz : (l.take i).getD p false = false := by
        rw [List.getD_eq_getElem?_getD, List.getElem?_eq_none (by rw [List.length_take]; omega)]
        rfl
      rw [hz]
      simp
  · rw [bitL_pack]
theorem take_getD (l : List Bool) (i p : Nat) (h : i < l.length) : (l.take (i + 1)).getD p false = if p = i then l[i] else (l.take i).getD p false := by
  rw [List.getD_eq_getElem?_getD, List.getD_eq_getElem?_getD, List.getElem?_take, List.getElem?_take]
  by_cases hpi : p = i
  · subst hpi
    rw [if_pos (by omega), if_pos rfl, List.getElem?_eq_getElem h]
    rfl
  · rw [if_neg hpi]
    by_cases hlt : p < i
    · rw [if_pos (by omega), if_pos hlt]
    · rw [if_neg (by omega), if_neg hlt]
theorem pack_no (l : List Bool) (i : Nat) (h : i < l.length) (hb : l[i] = false) : packL (l.take (i + 1)) = roomL l i := by
  apply bits_ext (by rw [packL_length, roomL_length l i h, List.length_take]; omega)
  intro p hp
  rw [packL_length, List.length_take] at hp
  rw [bitL_pack, bitL_room l i p h (by omega), take_getD l i p h, hb]
  split
  · rename_i e
    subst e
    rw [List.getD_eq_getElem?_getD, List.getElem?_eq_none (by rw [List.length_take]; omega)]
    rfl
  · rfl
theorem pack_yes (l : List Bool) (i : Nat) (h : i < l.length) (hb : l[i] = true) : packL (l.take (i + 1)) = (roomL l i).set (i / 8) (UInt8.ofNat (octAt (l.take i) (i / 8) + 2 ^ (i % 8))) := by
  have hlt := octAt_take_lt l i
  have h256 : octAt (l.take i) (i / 8) + 2 ^ (i % 8) < 256 := by
    have : 2 ^ (i % 8) * 2 ≤ 2 ^ 8 := by rw [← Nat.pow_succ]; exact Nat.pow_le_pow_right (by omega) (by omega)
    omega
  apply bits_ext (by rw [packL_length, List.length_set, roomL_length l i h, List.length_take]; omega)
  intro p hp
  rw [packL_length, List.length_take] at hp
  rw [bitL_pack, take_getD l i p h, hb]
  by_cases hp8 : i / 8 = p / 8
  · have e2 := Nat.two_pow_add_eq_or_of_lt hlt 1
    rw [Nat.mul_one] at e2
    unfold bitL
    rw [← hp8, List.getD_eq_getElem?_getD (l := List.set _ _ _), List.getElem?_set_self (by rw [roomL_length l i h]; omega), Option.getD_some, toNat_ofNat_lt h256, Nat.add_comm, e2, Nat.testBit_or, octAt_bit _ _ _ (by omega), hp8, show 8 * (p / 8) + p % 8 = p by omega]
    by_cases hpi : p = i
    · subst hpi
      simp
    · rw [if_neg hpi, Nat.testBit_two_pow_of_ne (by omega), Bool.false_or]
  · have e : bitL ((roomL l i).set (i / 8) (UInt8.ofNat (octAt (l.take i) (i / 8) + 2 ^ (i % 8)))) p = bitL (roomL l i) p := by
      unfold bitL
      rw [List.getD_eq_getElem?_getD, List.getElem?_set_ne hp8, ← List.getD_eq_getElem?_getD]
    rw [e, bitL_room l i p h (by omega), if_neg (by intro e; subst e; exact hp8 rfl)]
end Go.Proofs.Ytccdgfacdohknaa
