/-
  The walk of the law CrcFinds: it returns true at whatever octets, place and turned bits. A part of the proof: see the head of the text that ends in 'Law'.
-/
import Derived.Test.YtccibhgdpfmjlaaCrcAwake
import Derived.Test.YtccibhgdpfmjlaaCrcBurst
namespace Go.Proofs.Ytccibhgdpfmjlaa
open Go.RowKit
set_option linter.unusedVariables false

theorem sealed_ok (l : List UInt8) : le4 (sumL ((l ++ le4 (sumL l)).take l.length)) = (l ++ le4 (sumL l)).drop l.length := by simp

set_option maxHeartbeats 1000000 in
theorem findsZero (A0 : Option Addr) (n0 c0 : Nat) (l0 : List UInt8) (at_ : Nat) (w : World) (ho0 : Oct w A0 n0 l0) (hn0 : n0 ≤ c0) :
    Calls Try.prog 6 #[.slice A0 n0 c0, .int .u64 at_, .int .u32 0] w fun e w' => e = .returned (.bool true) ∧ Below w.heap.size w w' := by
  have m0 := min_len ho0
  have hs0 : min n0 500 ≤ 500 := Nat.min_le_right _ _
  have hq := sealed_ok (l0.take 500)
  rw [m0.len] at hq
  have htk : (l0.take 500 ++ le4 (sumL (l0.take 500))).take (min n0 500) = l0.take 500 := by rw [List.take_left' m0.len]
  have HT := hid htk
  have HQ := hid hq
  clear hq htk
  go_enter Try.func6, Try.ntmps6
  go_wp2_with (first
    | (go_at_call 7; with_reducible refine (few_any A0 n0 c0 l0 _ ho0 hn0).mono ?_; rintro e w' ⟨rfl, rfl⟩)
    | (go_at_call 14; with_reducible refine (seal_any A0 (min n0 500) c0 (l0.take 500) _ m0 (by omega)).mono ?_; rintro e w5 ⟨A5, c5, rfl, hc5, ho5, hx⟩)
    | (go_at_call 16; with_reducible refine (open_good A5 (min n0 500) c5 _ _ ho5 hc5 (by omega) HQ.out).mono ?_; rintro e w6 ⟨A6, c6, rfl, hc6, ho6, hx6⟩; rw [HT.out] at ho6; have hy6 := next hx hx6; have oo := ho0.below hy6; have mm := m0.below hy6))
  have hb6 : Below w.heap.size w w6.drew := hy6.drew
  have t6 := strP c6 ho6.drew
  have t7 := strP c0 mm.drew
  have hfw := fun w' : World => few_any A0 n0 c0 l0 w'
  have HF := hid hfw
  clear hfw
  go_region_with (first
    | (go_at_call 7; with_reducible refine (HF.out _ oo.drew hn0).mono ?_; rintro e w' ⟨rfl, rfl⟩)
    | (go_at_call 13; refine (awake_any _).mono ?_; rintro e w9 ⟨rfl, hx9⟩; have hy9 := next (by assumption) hx9; clear hx9))
  all_goals
    go_wp2
    go_ret
    exact ⟨rfl, hy9⟩
end Go.Proofs.Ytccibhgdpfmjlaa
