/-
  The walk of Count. A part of the proof: see the head of the text that ends in 'Law'.
-/
import Derived.Test.YtccdgfacdohknaaSp3
namespace Go.Proofs.Ytccdgfacdohknaa
open Go.RowKit
set_option linter.unusedVariables false

/-- The ones of octets. -/
def popL (l : List UInt8) : Nat := (l.map fun x => onesN x.toNat).sum
theorem popL_take (l : List UInt8) (k : Nat) (h : k < l.length) : popL (l.take (k + 1)) = popL (l.take k) + onesN l[k].toNat := by
  unfold popL
  rw [List.take_succ_eq_append_getElem h, List.map_append, List.sum_append]
  simp
theorem popL_le (l : List UInt8) : popL l ≤ 64 * l.length := by
  induction l with
  | nil => simp [popL]
  | cons a l ih =>
    have h : popL (a :: l) = onesN a.toNat + popL l := by simp [popL]
    have := onesN_le a.toNat
    rw [h, List.length_cons]
    omega

set_option maxHeartbeats 1000000 in
theorem count_any (N : Int) (A : Option Addr) (n c : Nat) (bits : List UInt8) (w : World) (ho : Oct w A n bits) (hN : -9223372036854775808 ≤ N ∧ N ≤ 9223372036854775807) (hn : n ≤ 4096) :
    Calls Try.prog 19 #[.agg #[.int .i64 N, .slice A n c]] w fun e w' => e = .returned (.int .i64 (if mayB N bits then popL bits else 0 : Nat)) ∧ Below w.heap.size w w' := by
  have o1 := hid (ho.alloc (Obj.cells #[.int .i64 N, .slice A n c] 24))
  have HN := hid hN
  have HB := hid ((Below.refl _ w).alloc (Nat.le_refl _) (Obj.cells #[.int .i64 N, .slice A n c] 24))
  have hlen := hid ho.len
  have K0 := hid (Bx.new_ w N A n c 24)
  clear ho hN
  by_cases h1 : mayB N bits = true
  · rw [if_pos h1]
    have H1 := hid h1
    clear h1
    go_enter Try.func19, Try.ntmps19
    go_wp2_with (first
      | (go_at_call 21; refine (may_any N A n c bits _ o1.out HN.out (by omega)).mono ?_; rw [H1.out]; rintro e w1 ⟨rfl, hb1⟩; have K1 := K0.out.keep hb1; have B1 := hid (next HB.out hb1); have O1 := hid (o1.out.below hb1); clear hb1))
    go_loop [3, 5, 12] (fun s x i => ∃ k : Nat, k ≤ n ∧ i = .int .i64 k ∧ s = .int .i64 (popL (bits.take k) : Nat)) (fun s x i => n - (intOf i).toNat)
    case atStart => exact ⟨0, by omega, rfl, rfl⟩
    case round =>
      obtain ⟨k, hk, rfl, rfl⟩ := hrel
      by_cases hlt : k < n
      · have hkl : k < bits.length := by rw [hlen.out]; exact hlt
        have hs := hid (popL_take bits k hkl)
        have hle := popL_le (bits.take k)
        have hle2 := onesN_le bits[k].toNat
        rw [List.length_take] at hle
        obtain ⟨b, off, rfl, hc⟩ := O1.out.at_ (by omega)
        have hck := hc k hkl
        have hx := bits[k].toNat_lt
        clear hc
        generalize bits[k].toNat = x at hs hle2 hck hx
        generalize hP : popL (bits.take k) = P at hs hle
        clear hP
        go_wp2_with (go_at_call 27; refine (ones_any x _ (by omega)).mono ?_; rintro e w2 ⟨rfl, rfl⟩)
        go_round
        case rel => exact ⟨k + 1, by omega, by go_num, by rw [hs.out]; go_num⟩
        case measure => simp [intOf]; omega
      · go_wp2
        go_ret
        exact ⟨ret_int (by rw [List.take_of_length_le (by rw [hlen.out]; omega)]), B1.out⟩
  · rw [if_neg h1]
    simp only [Bool.not_eq_true] at h1
    have H1 := hid h1
    clear h1
    go_enter Try.func19, Try.ntmps19
    go_wp2_with (first
      | (go_at_call 21; refine (may_any N A n c bits _ o1.out HN.out (by omega)).mono ?_; rw [H1.out]; rintro e w1 ⟨rfl, hb1⟩; have B1 := hid (next HB.out hb1); clear hb1))
    go_ret
    exact ⟨rfl, B1.out⟩
end Go.Proofs.Ytccdgfacdohknaa
