/-
  The walks of the reference of octet.Put. A part of the proof: see the head of the text that ends in 'Law'.
-/
import Derived.Test.YtpppmijohfjigaaOctPut
namespace Go.Proofs.Ytpppmijohfjigaa
open Go.RowKit
set_option linter.unusedVariables false
set_option maxRecDepth 100000

theorem strP {w : World} {A : Option Addr} {n : Nat} (c : Nat) {l : List UInt8} (h : Oct w A n l) : (convert 24 9 (.slice A n c)).run Try.prog w = .ok (.string (str l)) w :=
  run_string_oct c h Try.underlying24 Try.underlying5 Try.underlying9

set_option maxHeartbeats 400000 in
theorem refPut_bad (v : Nat) (wd : Int) (w : World) (h : wd < 1 ∨ 8 < wd) :
    Calls Try.prog 72 #[.int .u64 v, .int .i64 wd] w fun e w' => e = .returned (.tuple #[.string (str []), .int .i64 1]) ∧ w = w' := by
  by_cases h1 : wd < 1
  · go_enter Try.func72, Try.ntmps72
    go_wp2
    go_ret2
    exact ⟨rfl, rfl⟩
  · have h2 : 8 < wd := by omega
    go_enter Try.func72, Try.ntmps72
    go_wp2
    go_ret2
    exact ⟨rfl, rfl⟩

def RefPutPost (v k : Nat) (w : World) (e : Ending) (w' : World) : Prop :=
  (if v / 256 ^ k = 0 then e = .returned (.tuple #[.string (str (putL v k)), .int .i64 0]) else e = .returned (.tuple #[.string (str []), .int .i64 8])) ∧ Below w.heap.size w w'

set_option maxHeartbeats 1000000 in
theorem refPut_any (v k : Nat) (w : World) (hv : v < 18446744073709551616) (h1 : 1 ≤ k) (h8 : k ≤ 8) :
    Calls Try.prog 72 #[.int .u64 v, .int .i64 k] w (RefPutPost v k w) := by
  have hk64 : (k : Int) ≤ 8 := by omega
  go_enter Try.func72, Try.ntmps72
  go_wp2
  go_loopw [0, 6, 7] (fun x s i wr => ∃ j : Nat, j ≤ k ∧ i = .int .i64 j ∧ x = .int .u64 (v / 256 ^ j : Nat) ∧ s = .string (str (putL v j)) ∧ Below w.heap.size w wr) (fun x s i wr => k - (intOf i).toNat)
  case atStart => exact ⟨0, by omega, rfl, by simp, rfl, Below.refl _ _⟩
  case round =>
    obtain ⟨j, hj, rfl, rfl, rfl, hb⟩ := hrel
    have hdv := div_pow_lt v j hv
    by_cases hlt : j < k
    · have hst := hid (putL_succ v j)
      have hds := hid (div_pow_succ v j)
      have hz1 : (str (putL v j)).size ≤ 2147483648 := by rw [str_size, putL_length]; omega
      have hz2 : ∀ x : UInt8, (str [x]).size ≤ 2147483648 := fun x => by show 1 ≤ 2147483648; omega
      generalize hD : v / 256 ^ j = D at *
      have HD := hid hD
      clear hD
      have hz2' := hz2 (UInt8.ofNat (D % 256))
      clear hz2
      have hw1 : Below w.heap.size w (wr.alloc (.cells #[.int .u8 ((D : Int) % 256)] 5)) := hb.alloc hb.size _
      have hcv := strP 1 (oct_mod wr 5 D)
      go_wp2
      go_roundw
      case rel => exact ⟨j + 1, by omega, by go_num, by rw [hds.out]; go_num, by rw [hst.out, ← str_append], hw1⟩
      case measure => simp [intOf]; omega
    · have e : j = k := by omega
      subst e
      generalize hD : v / 256 ^ j = D at *
      by_cases hz : D = 0
      · have hzb : decide (0 < D) = false := by rw [hz]; rfl
        have Hz := hid (hD.trans hz)
        clear hz hD
        go_wp2
        go_ret2
        exact ⟨by rw [if_pos Hz.out]; rfl, hb⟩
      · have hzb : decide (0 < D) = true := by simp; omega
        have Hz := hid (show ¬ v / 256 ^ j = 0 by rw [hD]; exact hz)
        clear hz hD
        go_wp2
        go_ret2
        exact ⟨by rw [if_neg Hz.out]; rfl, hb⟩
end Go.Proofs.Ytpppmijohfjigaa
