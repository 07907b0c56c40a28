/-
  The walk of the law OctetNums: it returns true at whatever octets, place and width. A part of the proof: see the head of the text that ends in 'Law'.
-/
import Derived.Test.YtnloooakfhjggaaOctAwake
namespace Go.Proofs.Ytnloooakfhjggaa
open Go.RowKit
set_option linter.unusedVariables false

set_option maxHeartbeats 1000000 in
theorem numsLong (A0 : Option Addr) (n0 c0 : Nat) (l0 : List UInt8) (x1 x2 : Int) (w : World) (ho0 : Oct w A0 n0 l0) (hn0 : n0 ≤ c0) (h : 300 < n0) :
    Calls Try.prog 5 #[.slice A0 n0 c0, .int .i64 x1, .int .i64 x2] w fun e w' => e = .returned (.bool true) ∧ Below w.heap.size w w' := by
  have hd : decide ((300 : Int) < n0) = true := by simp; omega
  have m0 := ho0.take 300 (by omega)
  have hc0 : ¬ c0 = 0 := by omega
  have hc1 : (300 : Int) ≤ c0 := by omega
  have hst := strP c0 m0
  have hlen := m0.len
  clear ho0 h
  generalize l0.take 300 = L at *
  go_enter Try.func5, Try.ntmps5
  go_wp2_with (first
    | (go_at_call 14; refine (num_all A0 300 c0 x1 x2 L _ m0 (by omega)).mono ?_; rintro e w1 ⟨rfl, rfl⟩)
    | (go_at_call 15; refine (refNum_all x1 x2 L _ (by omega)).mono ?_; rintro e w2 ⟨rfl, rfl⟩)
    | (go_at_call 11; refine (awake_any _).mono ?_; rintro e w3 ⟨rfl, hb⟩))
  go_ret
  exact ⟨rfl, hb⟩

set_option maxHeartbeats 1000000 in
theorem numsShort (A0 : Option Addr) (n0 c0 : Nat) (l0 : List UInt8) (x1 x2 : Int) (w : World) (ho0 : Oct w A0 n0 l0) (hn0 : n0 ≤ c0) (h : n0 ≤ 300) :
    Calls Try.prog 5 #[.slice A0 n0 c0, .int .i64 x1, .int .i64 x2] w fun e w' => e = .returned (.bool true) ∧ Below w.heap.size w w' := by
  have hd : decide ((300 : Int) < n0) = false := by simp; omega
  have m0 := ho0
  have hN := h
  have hst := strP c0 m0
  have hlen := m0.len
  clear ho0 h
  generalize l0 = L at *
  go_enter Try.func5, Try.ntmps5
  go_wp2_with (first
    | (go_at_call 14; refine (num_all A0 n0 c0 x1 x2 L _ m0 (by omega)).mono ?_; rintro e w1 ⟨rfl, rfl⟩)
    | (go_at_call 15; refine (refNum_all x1 x2 L _ (by omega)).mono ?_; rintro e w2 ⟨rfl, rfl⟩)
    | (go_at_call 11; refine (awake_any _).mono ?_; rintro e w3 ⟨rfl, hb⟩))
  go_ret
  exact ⟨rfl, hb⟩

theorem walkOctetNums (A0 : Option Addr) (n0 c0 : Nat) (l0 : List UInt8) (x1 x2 : Int) (w : World) (ho0 : Oct w A0 n0 l0) (hn0 : n0 ≤ c0) (_ : c0 ≤ maxLen) (_ : IntKind.i64.min ≤ x1 ∧ x1 ≤ IntKind.i64.max) (_ : IntKind.i64.min ≤ x2 ∧ x2 ≤ IntKind.i64.max) :
    Calls Try.prog 5 #[.slice A0 n0 c0, .int .i64 x1, .int .i64 x2] w fun e w' => e = .returned (.bool true) ∧ Below w.heap.size w w' := by
  by_cases h : 300 < n0
  · exact numsLong A0 n0 c0 l0 x1 x2 w ho0 hn0 h
  · exact numsShort A0 n0 c0 l0 x1 x2 w ho0 hn0 (by omega)
end Go.Proofs.Ytnloooakfhjggaa
