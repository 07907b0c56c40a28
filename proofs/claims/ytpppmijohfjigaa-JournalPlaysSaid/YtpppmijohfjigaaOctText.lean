/-
  The walks of octet.PutText, octet.Pad and the reference of a text. A part of the proof: see the head of the text that ends in 'Law'.
-/
import Derived.Test.YtpppmijohfjigaaOctRef
import Derived.Lib.AppendStr
import Derived.Laws.CopyOwn
namespace Go.Proofs.Ytpppmijohfjigaa
open Go.RowKit
set_option linter.unusedVariables false
set_option maxRecDepth 100000

theorem strCells_str (l : List UInt8) : Lib.strCells (str l) = l.map B8 := by
  unfold Lib.strCells
  rw [str_toList]
  rfl
theorem own_shape {w : World} {base : Nat} {e : TypeId} {size n : Nat} {v : Value} {xs : List Value} (h : w.ownsRow base e size v n xs) : ∃ A c, v = .slice A n c := by
  rcases h.2 with ⟨rfl, rfl⟩ | ⟨g, cap, cur, rfl, _⟩
  · exact ⟨none, 0, rfl⟩
  · exact ⟨_, _, rfl⟩
theorem two_fits (n : Nat) (h : n ≤ 65535) : n / 256 ^ 2 = 0 := Nat.div_eq_of_lt (by omega)

theorem put_fits (v k : Nat) (w : World) (hv : v < 18446744073709551616) (h1 : 1 ≤ k) (h8 : k ≤ 8) (h0 : v / 256 ^ k = 0) :
    Calls Try.prog 69 #[.int .u64 v, .int .i64 k] w fun e w' => ∃ A c, e = .returned (.tuple #[.slice A k c, .int .i64 0]) ∧ w'.ownsRow w.heap.size 5 1 (.slice A k c) k ((putL v k).map B8) ∧ Below w.heap.size w w' :=
  (put_any v k w hv h1 h8).mono fun e w' hp => by
    rw [if_pos h0] at hp
    exact hp
theorem put_over (v k : Nat) (w : World) (hv : v < 18446744073709551616) (h1 : 1 ≤ k) (h8 : k ≤ 8) (h0 : ¬ v / 256 ^ k = 0) :
    Calls Try.prog 69 #[.int .u64 v, .int .i64 k] w fun e w' => e = .returned (.tuple #[.slice none 0 0, .int .i64 8]) ∧ Below w.heap.size w w' :=
  (put_any v k w hv h1 h8).mono fun e w' hp => by
    rw [if_neg h0] at hp
    exact hp
theorem refPut_fits (v k : Nat) (w : World) (hv : v < 18446744073709551616) (h1 : 1 ≤ k) (h8 : k ≤ 8) (h0 : v / 256 ^ k = 0) :
    Calls Try.prog 72 #[.int .u64 v, .int .i64 k] w fun e w' => e = .returned (.tuple #[.string (str (putL v k)), .int .i64 0]) ∧ Below w.heap.size w w' :=
  (refPut_any v k w hv h1 h8).mono fun e w' hp => by
    unfold RefPutPost at hp
    rw [if_pos h0] at hp
    exact hp
theorem refPut_over (v k : Nat) (w : World) (hv : v < 18446744073709551616) (h1 : 1 ≤ k) (h8 : k ≤ 8) (h0 : ¬ v / 256 ^ k = 0) :
    Calls Try.prog 72 #[.int .u64 v, .int .i64 k] w fun e w' => e = .returned (.tuple #[.string (str []), .int .i64 8]) ∧ Below w.heap.size w w' :=
  (refPut_any v k w hv h1 h8).mono fun e w' hp => by
    unfold RefPutPost at hp
    rw [if_neg h0] at hp
    exact hp

theorem valL_putL (v : Nat) : ∀ k, valL (putL v k) = v % 256 ^ k
  | 0 => by simp [putL_zero, valL, Nat.mod_one]
  | k + 1 => by
    rw [putL_succ, valL_snoc, valL_putL v k, putL_length, Nat.pow_succ, Nat.mod_mul, UInt8.toNat_ofNat', Nat.mod_eq_of_lt (show v / 256 ^ k % 256 < 2 ^ 8 by omega), Nat.mul_comm (256 ^ k)]
theorem valL_put (v k : Nat) (h : v / 256 ^ k = 0) : valL (putL v k) = v := by
  rw [valL_putL]
  apply Nat.mod_eq_of_lt
  rcases Nat.lt_or_ge v (256 ^ k) with h1 | h1
  · exact h1
  · have := Nat.div_pos h1 (Nat.pow_pos (by omega))
    omega
set_option maxHeartbeats 400000 in
theorem of_any (v k : Nat) (w : World) (hv : v < 18446744073709551616) (h1 : 1 ≤ k) (h8 : k ≤ 8) (h0 : v / 256 ^ k = 0) :
    Calls Try.prog 42 #[.int .u64 v, .int .i64 k] w fun e w' => e = .returned (.string (str (putL v k))) ∧ Below w.heap.size w w' := by
  have H := hid (refPut_fits v k w hv h1 h8 h0)
  clear hv h1 h8 h0
  go_enter Try.func42, Try.ntmps42
  go_wp2_with (go_at_call 72; refine H.out.mono ?_; rintro e w1 ⟨rfl, hb1⟩)
  go_ret
  exact ⟨rfl, hb1⟩
end Go.Proofs.Ytpppmijohfjigaa
