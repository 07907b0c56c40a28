/-
  The walk of the law OctetPuts: it returns true at whatever number, width and text. A part of the proof: see the head of the text that ends in 'Law'.
-/
import Derived.Test.YtnloooakfhjggaaOctAwake
namespace Go.Proofs.Ytnloooakfhjggaa
open Go.RowKit
set_option linter.unusedVariables false

/-- A number's octets, and the error's number. -/
def putC (v : Nat) (wd : Int) : List UInt8 × Nat :=
  if wd < 1 ∨ 8 < wd then ([], 1) else if v / 256 ^ wd.toNat = 0 then (putL v wd.toNat, 0) else ([], 8)

theorem put_all (v : Nat) (wd : Int) (w : World) (hv : v < 18446744073709551616) :
    Calls Try.prog 8 #[.int .u64 v, .int .i64 wd] w fun e w' => ∃ A c, e = .returned (.tuple #[.slice A (putC v wd).1.length c, .int .i64 (putC v wd).2]) ∧ Oct w' A (putC v wd).1.length (putC v wd).1 ∧ Below w.heap.size w w' := by
  unfold putC
  by_cases h1 : wd < 1 ∨ 8 < wd
  · rw [if_pos h1]
    exact (put_bad v wd w h1).mono fun e w' ⟨he, hw⟩ => ⟨none, 0, he, Oct.nil _ _, by subst hw; exact Below.refl _ _⟩
  · rw [if_neg h1]
    obtain ⟨k, rfl⟩ : ∃ k : Nat, wd = k := ⟨wd.toNat, by omega⟩
    rw [Int.toNat_natCast]
    by_cases h2 : v / 256 ^ k = 0
    · rw [if_pos h2]
      simp only [putL_length]
      exact (put_fits v k w hv (by omega) (by omega) h2).mono fun e w' ⟨A, c, he, ho, hb⟩ => ⟨A, c, he, ⟨putL_length v k, Row.of_own ho⟩, hb⟩
    · rw [if_neg h2]
      exact (put_over v k w hv (by omega) (by omega) h2).mono fun e w' ⟨he, hb⟩ => ⟨none, 0, he, Oct.nil _ _, hb⟩

theorem refPut_all (v : Nat) (wd : Int) (w : World) (hv : v < 18446744073709551616) :
    Calls Try.prog 9 #[.int .u64 v, .int .i64 wd] w fun e w' => e = .returned (.tuple #[.string (str (putC v wd).1), .int .i64 (putC v wd).2]) ∧ Below w.heap.size w w' := by
  unfold putC
  by_cases h1 : wd < 1 ∨ 8 < wd
  · rw [if_pos h1]
    exact (refPut_bad v wd w h1).mono fun e w' ⟨he, hw⟩ => ⟨he, by subst hw; exact Below.refl _ _⟩
  · rw [if_neg h1]
    obtain ⟨k, rfl⟩ : ∃ k : Nat, wd = k := ⟨wd.toNat, by omega⟩
    rw [Int.toNat_natCast]
    by_cases h2 : v / 256 ^ k = 0
    · rw [if_pos h2]
      exact refPut_fits v k w hv (by omega) (by omega) h2
    · rw [if_neg h2]
      exact refPut_over v k w hv (by omega) (by omega) h2

theorem str_extract (l : List UInt8) (i j : Nat) : (str l).extract i j = str ((l.take j).drop i) := by
  apply ByteArray.ext
  simp [str, List.drop_take]

theorem keep2S {w w1 w2 : World} {A : Option Addr} {n : Nat} {l : List UInt8} (h : Below w.heap.size w w1 ∧ Oct w1 A n l) (hb : Below w1.heap.size w1 w2) : Below w.heap.size w w2 ∧ Oct w2 A n l := ⟨next h.1 hb, h.2.below hb⟩

set_option maxHeartbeats 2000000 in
theorem walkOctetPuts (v : Nat) (wd : Int) (l0 : List UInt8) (w : World) (hv : (v : Int) ≤ IntKind.u64.max) (_ : IntKind.i64.min ≤ wd ∧ wd ≤ IntKind.i64.max) (hl : l0.length ≤ maxLen) :
    Calls Try.prog 3 #[.int .u64 v, .int .i64 wd, .string (str l0)] w fun e w' => e = .returned (.bool true) ∧ Below w.heap.size w w' := by
  have hv' : v < 18446744073709551616 := by simp [IntKind.max, IntKind.signed, IntKind.bits] at hv; omega
  have hsz := str_size l0
  clear hv
  go_enter Try.func3, Try.ntmps3
  go_upto_if 15 with fail
  go_cut [2] (fun s2 wx => (∃ l : List UInt8, s2 = .string (str l) ∧ l.length ≤ 65600) ∧ w = wx)
  case first =>
    by_cases h : 65600 < l0.length
    · have hd : decide ((65600 : Int) < l0.length) = true := by simp; omega
      have hd1 : (65600 : Int) ≤ l0.length := by omega
      have hx := str_extract l0 0 65600
      go_wp2_with fail
      go_meet
      exact ⟨⟨_, rfl, by rw [List.length_take]; omega⟩, rfl⟩
    · have hd : decide ((65600 : Int) < l0.length) = false := by simp; omega
      go_wp2_with fail
      go_meet
      exact ⟨⟨l0, rfl, by omega⟩, rfl⟩
  case rest =>
    obtain ⟨⟨l, rfl, hl2⟩, rfl⟩ := hcut
    clear hsz hl
    have hsz := str_size l
    have Hput := hid (put_all v wd · hv')
    have Href := hid (refPut_all v wd · hv')
    clear hv'
    generalize putC v wd = p at *
    obtain ⟨q, er⟩ := p
    simp only at Hput Href
    by_cases h : 65535 < l.length
    · have hd : decide ((65535 : Int) < l.length) = true := by simp; omega
      go_wp2_with (first
        | (go_at_call 8; refine (Hput.out _).mono ?_; rintro e w1 ⟨A1, c1, rfl, o1, b1⟩)
        | (go_at_call 9; refine (Href.out _).mono ?_; rintro e w2 ⟨rfl, hx⟩; have b2 := next b1 hx; have hst := strP c1 (o1.below hx); clear hx o1 b1)
        | (go_at_call 10; refine (putText_long l _ h (by simp only [maxLen]; omega)).mono ?_; rintro e w3 ⟨rfl, rfl⟩)
        | (go_at_call 11; refine (awake_any _).mono ?_; rintro e w4 ⟨rfl, hx⟩))
      go_ret
      exact ⟨rfl, next b2 hx⟩
    · have hd : decide ((65535 : Int) < l.length) = false := by simp; omega
      go_wp2_with (first
        | (go_at_call 8; refine (Hput.out _).mono ?_; rintro e w1 ⟨A1, c1, rfl, o1, b1⟩)
        | (go_at_call 9; refine (Href.out _).mono ?_; rintro e w2 ⟨rfl, hx⟩; have b2 := next b1 hx; have o2 := o1.below hx; clear hx o1 b1)
        | (go_at_call 10; refine (putText_any l _ (by omega)).mono ?_; rintro e w3 ⟨A3, c3, rfl, ho3, hx⟩; have b3 := next b2 hx; have hst := strP c1 (o2.below hx); have t3 : Oct w3 A3 (2 + l.length) (putL l.length 2 ++ l) := ⟨by rw [List.length_append, putL_length], Row.of_own ho3⟩; clear hx o2 b2 ho3))
      have S3 : Below w.heap.size w w3.drew ∧ Oct w3.drew A3 (2 + l.length) (putL l.length 2 ++ l) := ⟨b3.drew, t3.drew⟩
      have hc3 : ∀ W, Oct W A3 (2 + l.length) (putL l.length 2 ++ l) → (convert 23 9 (.slice A3 (2 + l.length) c3)).run Try.prog W = .ok (.string (str (putL l.length 2 ++ l))) W := fun W h => strP c3 h
      clear b3 t3
      go_region_held3 (fun w' => Below w.heap.size w w' ∧ Oct w' A3 (2 + l.length) (putL l.length 2 ++ l)) (assumption) (first
        | (go_at_call 12; refine (text_any l _ (by omega)).mono ?_; rintro e w9 ⟨rfl, hx9⟩; have hS9 := keep2S (by assumption) hx9; clear hx9)
        | (go_at_call 11; refine (awake_any _).mono ?_; rintro e w9 ⟨rfl, hx9⟩; have hS9 := keep2S (by assumption) hx9; clear hx9))
      go_wp2
      go_ret
      exact ⟨rfl, And.left (by assumption)⟩
end Go.Proofs.Ytnloooakfhjggaa
