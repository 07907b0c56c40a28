/-
  The walks of May, is, bit, Used. A part of the proof: see the head of the text that ends in 'Law'.
-/
import Derived.Test.YtccdgfacdohknaaSpPlain
import Derived.Test.YtccdgfacdohknaaLib2
import Derived.Test.YtccdgfacdohknaaChecked
namespace Go.Proofs.Ytccdgfacdohknaa
open Go.RowKit
set_option linter.unusedVariables false

theorem octets_any (m : Nat) (w : World) (hm : m ≤ 4000) :
    Calls Try.prog 28 #[.int .i64 m] w fun e w' => e = .returned (.int .i64 ((m + 7) / 8 : Nat)) ∧ w' = w := by
  go_enter Try.func28, Try.ntmps28
  go_wp2
  go_ret
  exact ⟨ret_int (by omega), rfl⟩

def mayB (N : Int) (bits : List UInt8) : Bool := decide (0 ≤ N ∧ N ≤ 2048 ∧ bits.length = (N.toNat + 7) / 8 ∧ (N.toNat % 8 = 0 ∨ (bits.getD (bits.length - 1) 0).toNat / 2 ^ (N.toNat % 8) = 0))
theorem mayB_no {N : Int} {bits : List UInt8} (h : ¬ (0 ≤ N ∧ N ≤ 2048 ∧ bits.length = (N.toNat + 7) / 8 ∧ (N.toNat % 8 = 0 ∨ (bits.getD (bits.length - 1) 0).toNat / 2 ^ (N.toNat % 8) = 0))) : mayB N bits = false := by
  unfold mayB
  exact decide_eq_false h

set_option maxHeartbeats 1000000 in
theorem may_any (N : Int) (A : Option Addr) (n c : Nat) (bits : List UInt8) (w : World) (ho : Oct w A n bits) (hN : -9223372036854775808 ≤ N ∧ N ≤ 9223372036854775807) (hn : n ≤ 4611686018427387904) :
    Calls Try.prog 21 #[.agg #[.int .i64 N, .slice A n c]] w fun e w' => e = .returned (.bool (mayB N bits)) ∧ Below w.heap.size w w' := by
  by_cases h0 : N < 0
  · rw [mayB_no (by omega)]
    clear ho
    go_enter Try.func21, Try.ntmps21
    go_wp2
    go_quiet (fail)
    go_wp2
    go_ret
    exact ⟨rfl, bq ((Below.refl _ _).alloc (Nat.le_refl _) _) _⟩
  · by_cases h1 : 2048 < N
    · rw [mayB_no (by omega)]
      have h0' : 0 ≤ N := by omega
      clear ho
      go_enter Try.func21, Try.ntmps21
      go_wp2
      go_quiet (fail)
      go_wp2
      go_ret
      exact ⟨rfl, bq ((Below.refl _ _).alloc (Nat.le_refl _) _) _⟩
    · obtain ⟨m, rfl⟩ : ∃ m : Nat, N = m := ⟨N.toNat, by omega⟩
      have hlen := ho.len
      by_cases h2 : n = (m + 7) / 8
      · have H2 := hid h2
        have hd0 : decide ((m : Int) < 0) = false := by simp
        have hd1 : decide ((2048 : Int) < m) = false := by simp; omega
        have hd2 : ((n : Int) != ((m : Int) + 7) / 8) = false := by simp; omega
        by_cases h3 : m % 8 = 0
        · have e : mayB m bits = true := by
            unfold mayB
            rw [decide_eq_true_eq, Int.toNat_natCast]
            exact ⟨by omega, by omega, by omega, .inl h3⟩
          rw [e]
          have hd3 : ((m : Int) % 8 == 0) = true := by simp; omega
          have hd4 : (Int.tmod (m : Int) 8 == 0) = true := by rw [Int.tmod_eq_emod_of_nonneg (by omega)]; exact hd3
          clear ho hlen e h3 h2
          go_enter Try.func21, Try.ntmps21
          go_wp2
          go_quiet ((go_at_call 28; exact Calls.quiet_of_same (octets_any m _ (by omega))))
          go_wp2
          go_quiet (fail)
          go_wp2
          go_ret
          exact ⟨rfl, bq (bq ((Below.refl _ _).alloc (Nat.le_refl _) _) _) _⟩
        · have hn0 : 0 < n := by omega
          obtain ⟨b, off, rfl, hc⟩ := ho.at_ hn0
          obtain ⟨x, hx1, hx2⟩ : ∃ x : UInt8, bits[n - 1]? = some x ∧ w.cell? ⟨b, off + (n - 1), none⟩ = some (.int .u8 ((x.toNat : Nat) : Int)) :=
            ⟨bits[n - 1]'(by omega), List.getElem?_eq_getElem (by omega), hc (n - 1) (by omega)⟩
          have e : mayB m bits = ((x.toNat : Int) / 2 ^ (m % 8) == 0) := by
            unfold mayB
            rw [Bool.eq_iff_iff, decide_eq_true_eq, Int.toNat_natCast, beq_iff_eq, List.getD_eq_getElem?_getD, hlen, hx1, Option.getD_some]
            constructor
            · rintro ⟨_, _, _, h⟩
              have := h.resolve_left h3
              exact_mod_cast this
            · intro h
              exact ⟨by omega, by omega, by omega, .inr (by exact_mod_cast h)⟩
          rw [e]
          have hx := x.toNat_lt
          clear hx1
          generalize x.toNat = x at hx2 hx e ⊢
          have hd3 : ((m : Int) % 8 == 0) = false := by simp; omega
          have htm : Int.tmod (m : Int) 8 = (m : Int) % 8 := Int.tmod_eq_emod_of_nonneg (by omega)
          have hx3 := cells_keep ((Below.refl _ w).alloc (Nat.le_refl _) (Obj.cells #[.int .i64 m, .slice (some ⟨b, off, none⟩) n c] 24)) hx2
          have hi0 : (0 : Int) ≤ (n : Int) - 1 := by omega
          have hi2 : (1 : Int) ≤ (n : Int) := by omega
          have hi3 : (n : Int) - 1 < n := by omega
          have hm0 : (0 : Int) ≤ (m : Int) % 8 := by omega
          have hm1 : (m : Int) % 8 < 8 := by omega
          have hi1 : ((n : Int) - 1).toNat = n - 1 := by omega
          have hi4 : IntKind.i64.wrap ((n : Int) - 1) = (n : Int) - 1 := by rw [IntKind.wrap_i64]; omega
          clear ho hlen e h3 hc h2
          go_enter Try.func21, Try.ntmps21
          go_wp2
          go_quiet ((go_at_call 28; exact Calls.quiet_of_same (octets_any m _ (by omega))))
          go_wp2
          go_quiet (fail)
          go_wp2
          go_ret
          exact ⟨rfl, bq (bq ((Below.refl _ _).alloc (Nat.le_refl _) _) _) _⟩
      · rw [mayB_no (by rw [hlen, Int.toNat_natCast]; omega)]
        have hd0 : decide ((m : Int) < 0) = false := by simp
        have hd1 : decide ((2048 : Int) < m) = false := by simp; omega
        have hd2 : ((n : Int) == ((m + 7) / 8 : Nat)) = false := by simp; omega
        have hd3 : ((n : Int) != ((m + 7) / 8 : Nat)) = true := by simp; omega
        clear ho hlen
        go_enter Try.func21, Try.ntmps21
        go_wp2
        go_quiet ((go_at_call 28; exact Calls.quiet_of_same (octets_any m _ (by omega))))
        go_wp2
        go_ret
        exact ⟨rfl, bq ((Below.refl _ _).alloc (Nat.le_refl _) _) _⟩
end Go.Proofs.Ytccdgfacdohknaa
