/-
  The walk of octet.Num. A part of the proof: see the head of the text that ends in 'Law'.
-/
import Derived.Test.YtpppmijohfjigaaOctPad
namespace Go.Proofs.Ytpppmijohfjigaa
open Go.RowKit
set_option linter.unusedVariables false
set_option maxRecDepth 100000

theorem orShl (V x j : Nat) (hx : x < 256) (hV : V < 256 ^ j) (hj : j < 8) : bits .or .u64 (V : Int) (IntKind.u64.wrap ((x : Int) * 2 ^ (8 * j))) = ((V + x * 256 ^ j : Nat) : Int) := by
  have hp : (256 : Nat) ^ j ≤ 256 ^ 7 := Nat.pow_le_pow_right (by omega) (by omega)
  have hx2 : x * 256 ^ j ≤ 255 * 256 ^ 7 := Nat.mul_le_mul (by omega) hp
  have e : ((x : Int) * 2 ^ (8 * j)) = ((x * 256 ^ j : Nat) : Int) := by rw [pow256]; simp
  have e2 : IntKind.u64.wrap ((x : Int) * 2 ^ (8 * j)) = ((x * 256 ^ j : Nat) : Int) := by
    rw [IntKind.wrap_u64, e]
    omega
  rw [e2, u64_or_nat _ _ (by omega) (by omega), or_add V x j hV]

set_option maxHeartbeats 400000 in
theorem num_width (A : Option Addr) (n c : Nat) (at_ wd : Int) (w : World) (h : wd < 1 ∨ 8 < wd) :
    Calls Try.prog 76 #[.slice A n c, .int .i64 at_, .int .i64 wd] w fun e w' => e = .returned (.tuple #[.int .u64 0, .int .i64 1]) ∧ w = w' := by
  by_cases h1 : wd < 1
  · go_enter Try.func76, Try.ntmps76
    go_wp2
    go_ret2
    exact ⟨rfl, rfl⟩
  · have h2 : 8 < wd := by omega
    go_enter Try.func76, Try.ntmps76
    go_wp2
    go_ret2
    exact ⟨rfl, rfl⟩

set_option maxHeartbeats 400000 in
theorem num_range (A : Option Addr) (n c : Nat) (at_ wd : Int) (w : World) (h1 : 1 ≤ wd) (h8 : wd ≤ 8) (h : at_ < 0 ∨ (n : Int) < at_) :
    Calls Try.prog 76 #[.slice A n c, .int .i64 at_, .int .i64 wd] w fun e w' => e = .returned (.tuple #[.int .u64 0, .int .i64 4]) ∧ w = w' := by
  by_cases h2 : at_ < 0
  · go_enter Try.func76, Try.ntmps76
    go_wp2
    go_ret2
    exact ⟨rfl, rfl⟩
  · have h3 : (n : Int) < at_ := by omega
    go_enter Try.func76, Try.ntmps76
    go_wp2
    go_ret2
    exact ⟨rfl, rfl⟩

set_option maxHeartbeats 400000 in
theorem num_short (A : Option Addr) (n c at_ k : Nat) (w : World) (h1 : 1 ≤ k) (h8 : k ≤ 8) (ha : at_ ≤ n) (h : n < at_ + k) (hn : n ≤ 4611686018427387904) :
    Calls Try.prog 76 #[.slice A n c, .int .i64 at_, .int .i64 k] w fun e w' => e = .returned (.tuple #[.int .u64 0, .int .i64 2]) ∧ w = w' := by
  have hd : decide (n < at_) = false := by simp; omega
  have hd2 : decide (((n : Int) - at_) < k) = true := by simp; omega
  go_enter Try.func76, Try.ntmps76
  go_wp2
  go_ret2
  exact ⟨rfl, rfl⟩

set_option maxHeartbeats 1000000 in
theorem num_any (A : Option Addr) (n c at_ k : Nat) (l : List UInt8) (w : World) (ho : Oct w A n l) (h1 : 1 ≤ k) (h8 : k ≤ 8) (h : at_ + k ≤ n) (hn : n ≤ 4611686018427387904) :
    Calls Try.prog 76 #[.slice A n c, .int .i64 at_, .int .i64 k] w fun e w' => e = .returned (.tuple #[.int .u64 (valL (cutL l at_ k) : Nat), .int .i64 0]) ∧ w = w' := by
  obtain ⟨b, off, rfl, hcell⟩ := ho.at_ (by omega)
  have HL := hid ho.len
  have HC := hid hcell
  have hd : decide (n < at_) = false := by simp; omega
  have hd2 : decide (((n : Int) - at_) < k) = false := by simp; omega
  clear hcell ho
  go_enter Try.func76, Try.ntmps76
  go_wp2
  go_loop [8, 9, 34] (fun v x i => ∃ j : Nat, j ≤ k ∧ i = .int .i64 j ∧ v = .int .u64 (valL (cutL l at_ j) : Nat)) (fun v x i => k - (intOf i).toNat)
  case atStart => exact ⟨0, by omega, rfl, by simp [cutL, valL]⟩
  case round =>
    obtain ⟨j, hj, rfl, rfl⟩ := hrel
    by_cases hlt : j < k
    · have hjl : at_ + j < l.length := by rw [HL.out]; omega
      have hck := HC.out (at_ + j) hjl
      have hst := cutL_succ l at_ j hjl
      have hlen := cutL_length l at_ j (by omega)
      have hvl := valL_lt (cutL l at_ j)
      rw [hlen] at hvl
      have hsn := valL_snoc (cutL l at_ j) l[at_ + j]
      rw [← hst, hlen] at hsn
      have hx := l[at_ + j].toNat_lt
      have HS := hid hsn
      clear hst hlen hsn
      generalize hX : l[at_ + j].toNat = x at *
      generalize hV : valL (cutL l at_ j) = V at *
      clear hX hV
      go_wp2
      go_round
      case rel => exact ⟨j + 1, by omega, by go_num, by rw [HS.out, orShl V x j (by omega) hvl (by omega)]⟩
      case measure => simp [intOf]; omega
    · go_wp2
      go_ret2
      have e : j = k := by omega
      subst e
      exact ⟨rfl, rfl⟩
end Go.Proofs.Ytpppmijohfjigaa
