/-
  The walks of is, bit, Used. A part of the proof: see the head of the text that ends in 'Law'.
-/
import Derived.Test.YtccdgfacdohknaaSp1
namespace Go.Proofs.Ytccdgfacdohknaa
open Go.RowKit
set_option linter.unusedVariables false

theorem is_any (N p : Int) (A : Option Addr) (n c : Nat) (w : World) :
    Calls Try.prog 25 #[.agg #[.int .i64 N, .slice A n c], .int .i64 p] w fun e w' => e = .returned (.bool (decide (0 ≤ p) && decide (p < N))) ∧ Below w.heap.size w w' := by
  by_cases h : 0 ≤ p
  · have hd : decide (0 ≤ p) = true := by simpa using h
    go_enter Try.func25, Try.ntmps25
    go_wp2
    go_ret
    exact ⟨by simp [hd], (Below.refl _ _).alloc (Nat.le_refl _) _⟩
  · have hd : decide (0 ≤ p) = false := by simpa using h
    go_enter Try.func25, Try.ntmps25
    go_wp2
    go_ret
    exact ⟨by simp [hd], (Below.refl _ _).alloc (Nat.le_refl _) _⟩

theorem bit_one (x k : Nat) (hx : x < 256) : (bits .and .u8 ((x : Int) / 2 ^ k) 1 == 1) = x.testBit k := by
  have e : ((x : Int) / 2 ^ k) = ((x / 2 ^ k : Nat) : Int) := by simp
  have hy : x / 2 ^ k < 256 := Nat.lt_of_le_of_lt (Nat.div_le_self _ _) hx
  have h := u8_and_nat (x / 2 ^ k) 1 hy (by omega)
  rw [e, show (1 : Int) = ((1 : Nat) : Int) from rfl, h, Nat.and_one_is_mod, Nat.testBit_eq_decide_div_mod_eq, Bool.eq_iff_iff, beq_iff_eq, decide_eq_true_eq]
  omega

set_option maxHeartbeats 1000000 in
theorem bit_any (N : Int) (p : Nat) (A : Option Addr) (n c : Nat) (bits : List UInt8) (w : World) (ho : Oct w A n bits) (hp : p / 8 < n) (hp2 : p ≤ 100000) :
    Calls Try.prog 26 #[.agg #[.int .i64 N, .slice A n c], .int .i64 p] w fun e w' => e = .returned (.bool (bitL bits p)) ∧ Below w.heap.size w w' := by
  obtain ⟨b, off, rfl, hc⟩ := ho.at_ (by omega)
  have hlen := ho.len
  obtain ⟨x, hx1, hx2⟩ : ∃ x : UInt8, bits[p / 8]? = some x ∧ w.cell? ⟨b, off + p / 8, none⟩ = some (.int .u8 ((x.toNat : Nat) : Int)) :=
    ⟨bits[p / 8]'(by omega), List.getElem?_eq_getElem (by omega), hc (p / 8) (by omega)⟩
  have e : bitL bits p = x.toNat.testBit (p % 8) := by
    unfold bitL
    rw [List.getD_eq_getElem?_getD, hx1, Option.getD_some]
  rw [e, ← bit_one x.toNat (p % 8) x.toNat_lt]
  have hx := x.toNat_lt
  clear hx1
  generalize x.toNat = x at hx2 hx e ⊢
  have htm : Int.tmod (p : Int) 8 = (p : Int) % 8 := Int.tmod_eq_emod_of_nonneg (by omega)
  have hx3 := cells_keep ((Below.refl _ w).alloc (Nat.le_refl _) (Obj.cells #[.int .i64 N, .slice (some ⟨b, off, none⟩) n c] 24)) hx2
  have hm0 : (0 : Int) ≤ (p : Int) % 8 := by omega
  have hm1 : (p : Int) % 8 < 8 := by omega
  have hi0 : (0 : Int) ≤ (p : Int) / 8 := by omega
  have hi1 : (p : Int) / 8 < n := by omega
  clear ho hlen e hc
  go_enter Try.func26, Try.ntmps26
  go_wp2
  go_ret
  exact ⟨rfl, (Below.refl _ _).alloc (Nat.le_refl _) _⟩
end Go.Proofs.Ytccdgfacdohknaa
