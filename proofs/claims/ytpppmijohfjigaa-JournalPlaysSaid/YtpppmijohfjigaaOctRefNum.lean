/-
  The walk of the reference of octet.Num. A part of the proof: see the head of the text that ends in 'Law'.
-/
import Derived.Test.YtpppmijohfjigaaOctNum
namespace Go.Proofs.Ytpppmijohfjigaa
open Go.RowKit
set_option linter.unusedVariables false
set_option maxRecDepth 100000

theorem wrapAdd (V x : Nat) (hV : V < 72057594037927936) (hx : x < 2 ^ 8) : IntKind.u64.wrap ((V : Int) * 256 + IntKind.u64.wrap (x : Int)) = ((V * 256 + x : Nat) : Int) := by
  rw [IntKind.wrap_u64, IntKind.wrap_u64]
  omega

set_option maxHeartbeats 400000 in
theorem refNum_width (l : List UInt8) (at_ wd : Int) (w : World) (h : wd < 1 ∨ 8 < wd) :
    Calls Try.prog 77 #[.string (str l), .int .i64 at_, .int .i64 wd] w fun e w' => e = .returned (.tuple #[.int .u64 0, .int .i64 1]) ∧ w = w' := by
  by_cases h1 : wd < 1
  · go_enter Try.func77, Try.ntmps77
    go_wp2
    go_ret2
    exact ⟨rfl, rfl⟩
  · have h2 : 8 < wd := by omega
    go_enter Try.func77, Try.ntmps77
    go_wp2
    go_ret2
    exact ⟨rfl, rfl⟩

set_option maxHeartbeats 400000 in
theorem refNum_range (l : List UInt8) (at_ wd : Int) (w : World) (h1 : 1 ≤ wd) (h8 : wd ≤ 8) (h : at_ < 0 ∨ (l.length : Int) < at_) :
    Calls Try.prog 77 #[.string (str l), .int .i64 at_, .int .i64 wd] w fun e w' => e = .returned (.tuple #[.int .u64 0, .int .i64 4]) ∧ w = w' := by
  have hsz := str_size l
  by_cases h2 : at_ < 0
  · go_enter Try.func77, Try.ntmps77
    go_wp2
    go_ret2
    exact ⟨rfl, rfl⟩
  · have h3 : (l.length : Int) < at_ := by omega
    go_enter Try.func77, Try.ntmps77
    go_wp2
    go_ret2
    exact ⟨rfl, rfl⟩

set_option maxHeartbeats 400000 in
theorem refNum_short (l : List UInt8) (at_ k : Nat) (w : World) (h1 : 1 ≤ k) (h8 : k ≤ 8) (ha : at_ ≤ l.length) (h : l.length < at_ + k) (hn : l.length ≤ 4611686018427387904) :
    Calls Try.prog 77 #[.string (str l), .int .i64 at_, .int .i64 k] w fun e w' => e = .returned (.tuple #[.int .u64 0, .int .i64 2]) ∧ w = w' := by
  have hsz := str_size l
  have hd : decide (l.length < at_) = false := by simp; omega
  have hd2 : decide (((l.length : Int) - k) < at_) = true := by simp; omega
  go_enter Try.func77, Try.ntmps77
  go_wp2
  go_ret2
  exact ⟨rfl, rfl⟩

theorem str_getO (l : List UInt8) (i : Nat) (h : i < l.length) : (str l)[i]'(by rw [str_size]; exact h) = l[i] := by
  show (str l).data[i] = l[i]
  simp [str]

set_option maxHeartbeats 1000000 in
theorem refNum_any (l : List UInt8) (at_ k : Nat) (w : World) (h1 : 1 ≤ k) (h8 : k ≤ 8) (h : at_ + k ≤ l.length) (hn : l.length ≤ 4611686018427387904) :
    Calls Try.prog 77 #[.string (str l), .int .i64 at_, .int .i64 k] w fun e w' => e = .returned (.tuple #[.int .u64 (valL (cutL l at_ k) : Nat), .int .i64 0]) ∧ w = w' := by
  have hsz := str_size l
  have hd : decide (l.length < at_) = false := by simp; omega
  have hd2 : decide (((l.length : Int) - k) < at_) = false := by simp; omega
  go_enter Try.func77, Try.ntmps77
  go_wp2
  go_loop [8, 9] (fun v i => ∃ j : Nat, j ≤ k ∧ i = .int .i64 ((j : Int) - 1) ∧ v = .int .u64 (valL ((cutL l at_ k).drop j) : Nat)) (fun v i => (intOf i + 1).toNat)
  case atStart => exact ⟨k, by omega, rfl, by rw [List.drop_of_length_le (by rw [cutL_length l at_ k h]; omega)]; rfl⟩
  case round =>
    obtain ⟨j, hj, rfl, rfl⟩ := hrel
    by_cases hlt : 0 < j
    · obtain ⟨i, rfl⟩ : ∃ i, j = i + 1 := ⟨j - 1, by omega⟩
      have hil : at_ + i < l.length := by omega
      have hst := hid (cut_drop l at_ k i h (by omega))
      have hg := hid (str_getO l (at_ + i) hil)
      have hx := l[at_ + i].toNat_lt
      have hvl := valL_lt ((cutL l at_ k).drop (i + 1))
      rw [List.length_drop, cutL_length l at_ k h] at hvl
      have hp : (256 : Nat) ^ (k - (i + 1)) ≤ 256 ^ 7 := Nat.pow_le_pow_right (by omega) (by omega)
      have hV64 : valL ((cutL l at_ k).drop (i + 1)) < 72057594037927936 := by omega
      clear hvl hp
      go_wp2
      go_round
      case rel => exact ⟨i, by omega, rfl, by rw [hg.out, wrapAdd _ _ hV64 hx, ← hst.out]⟩
      case measure => simp [intOf]
    · have e : j = 0 := by omega
      subst e
      go_wp2
      go_ret2
      exact ⟨rfl, rfl⟩
end Go.Proofs.Ytpppmijohfjigaa
