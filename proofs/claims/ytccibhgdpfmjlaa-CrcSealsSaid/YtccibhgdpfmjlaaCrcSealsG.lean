/-
  The walk of the law CrcSeals: it returns true at whatever octets. A part of the proof: see the head of the text that ends in 'Law'.
-/
import Derived.Test.YtccibhgdpfmjlaaCrcSeals
namespace Go.Proofs.Ytccibhgdpfmjlaa
open Go.RowKit
set_option linter.unusedVariables false

set_option maxHeartbeats 1000000 in
theorem sealsGood (A0 : Option Addr) (n0 c0 : Nat) (l0 : List UInt8) (A1 : Option Addr) (n1 c1 m : Nat) (l1 L : List UInt8) (w : World) (ho0 : Oct w A0 n0 l0) (hn0 : n0 ≤ c0) (ho1 : Oct w A1 n1 l1) (hn1 : n1 ≤ c1)
    (hm : min n1 500 = m + 4) (m1 : Oct w A1 (m + 4) L) (hq : le4 (sumL (L.take m)) = L.drop m) :
    Calls Try.prog 5 #[.slice A0 n0 c0, .slice A1 n1 c1] w fun e w' => e = .returned (.bool true) ∧ Below w.heap.size w w' := by
  have m0 := min_len ho0
  have hs0 : min n0 500 ≤ 500 := Nat.min_le_right _ _
  have hm500 : m + 4 ≤ 500 := by rw [← hm]; exact Nat.min_le_right _ _
  have hmc : m + 4 ≤ c1 := by rw [← hm]; exact Nat.le_trans (Nat.min_le_left _ _) hn1
  have HM := hid hm
  have mt := m1.take m (by omega)
  obtain ⟨X, hX⟩ : ∃ X, L.take m ++ le4 (sumL (L.take m)) = X := ⟨_, rfl⟩
  have hne : (X == L) = true := by
    rw [beq_iff_eq, ← hX, hq, List.take_append_drop]
  have HX := hid hX
  have hi1 : (m : Int) ≤ (c1 : Int) := by omega
  have hcap : ¬ c1 = m := by omega
  have b0 := strP c0 m0
  clear hm hX
  go_enter Try.func5, Try.ntmps5
  go_upto_region 3 with (first
    | (go_at_call 7; with_reducible refine (few_any A0 n0 c0 l0 _ ho0 hn0).mono ?_; rintro e w' ⟨rfl, rfl⟩)
    | (go_at_call 7; with_reducible refine (few_any A1 n1 c1 l1 _ ho1 hn1).mono ?_; rintro e w' ⟨rfl, rfl⟩; rw [HM.out]))
  have hb0 : Below w.heap.size w w.drew := (Below.refl _ _).drew
  go_cut [26] (fun s26 wx => s26 = .bool false ∧ Below w.heap.size w wx)
  case first =>
    go_region_with (first
      | (go_at_call 14; with_reducible refine (seal_any A0 (min n0 500) c0 (l0.take 500) _ (m0.below (by assumption)) (by omega)).mono ?_; rintro e w5 ⟨A5, c5, rfl, hc5, ho5, hx⟩; have hy := next (by assumption) hx; have s5 := strP c5 ho5; have b5 := strP c0 (m0.below hy); clear hx)
      | (go_at_call 15; with_reducible refine (refSeal_any A0 (min n0 500) c0 (l0.take 500) _ (m0.below (by assumption)) (by omega)).mono ?_; rintro e w6 ⟨rfl, hx⟩; have hy6 := next (by assumption) hx; have s6 := strP c5 (ho5.below hx); have b6 := strP c0 (m0.below hy6); clear hx))
    all_goals (go_wp2_with fail; go_meet; exact ⟨rfl, hy6⟩)
  case rest =>
    obtain ⟨rfl, hy6⟩ := hcut
    clear ho0 ho1 m0 b0 hb0
    go_upto_region 9 with (go_at_call 16; with_reducible refine (open_good A1 m c1 L _ (m1.below (by assumption)) hmc (by omega) hq).mono ?_; rintro e w7 ⟨A7, c7, rfl, hc7, ho7, hx⟩; have hy7 := next (by assumption) hx; clear hx)
    have hb7 : Below w.heap.size w w7.drew := hy7.drew
    have t7 := strP c1 (m1.below hb7)
    go_cut [54] (fun s54 wx => s54 = .bool false ∧ Below w.heap.size w wx ∧ Oct wx A7 m (L.take m))
    case first =>
     go_region_with (go_at_call 15; with_reducible refine (refSeal_any A1 m c1 (L.take m) _ (mt.below (by assumption)) (by omega)).mono ?_; rintro e w8 ⟨rfl, hx⟩; have hy8 := next (by assumption) hx; have t8 := strP c1 (m1.below hy8); have o9 := mt.below hy8; have o10 := ho7.drew.below hx; clear hx; rw [HX.out])
     all_goals (go_wp2_with fail; go_meet; exact ⟨rfl, hy8, o10⟩)
    case rest =>
      obtain ⟨rfl, hy8, o10⟩ := hcut
      clear hb7 t7 hy7 hy6 hc7 ho7
      go_wp2
      have o9 := mt.below hy8
      have t9 := strP c1 o9.drew
      have t10 := strP c7 o10.drew
      have hy9 : Below w.heap.size w wc.drew := hy8.drew
      clear o9 o10 mt m1
      go_region_with (go_at_call 13; refine (awake_any _).mono ?_; rintro e w9 ⟨rfl, hx⟩; have hy10 := next (by assumption) hx; clear hx)
      all_goals
        go_wp2
        go_ret
        exact ⟨rfl, hy10⟩

theorem walkCrcSeals (A0 : Option Addr) (n0 c0 : Nat) (l0 : List UInt8) (A1 : Option Addr) (n1 c1 : Nat) (l1 : List UInt8) (w : World) (ho0 : Oct w A0 n0 l0) (hn0 : n0 ≤ c0) (_ : c0 ≤ maxLen) (ho1 : Oct w A1 n1 l1) (hn1 : n1 ≤ c1) (_ : c1 ≤ maxLen) :
    Calls Try.prog 5 #[.slice A0 n0 c0, .slice A1 n1 c1] w fun e w' => e = .returned (.bool true) ∧ Below w.heap.size w w' := by
  by_cases h4 : n1 < 4
  · exact sealsShort A0 n0 c0 l0 A1 n1 c1 l1 w ho0 hn0 ho1 hn1 h4
  · obtain ⟨m, hm⟩ : ∃ m, min n1 500 = m + 4 := ⟨min n1 500 - 4, by omega⟩
    have m1 := min_len ho1
    rw [hm] at m1
    by_cases hq : le4 (sumL ((l1.take 500).take m)) = (l1.take 500).drop m
    · exact sealsGood A0 n0 c0 l0 A1 n1 c1 m l1 (l1.take 500) w ho0 hn0 ho1 hn1 hm m1 hq
    · exact sealsBad A0 n0 c0 l0 A1 n1 c1 m l1 (l1.take 500) w ho0 hn0 ho1 hn1 hm m1 hq
end Go.Proofs.Ytccibhgdpfmjlaa
