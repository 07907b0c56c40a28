/-
  The walk of turn. A part of the proof: see the head of the text that ends in 'Law'.
-/
import Derived.Test.YtccdgfacdohknaaSp5
namespace Go.Proofs.Ytccdgfacdohknaa
open Go.RowKit
set_option linter.unusedVariables false

/-- What a function that hands back a space and an error's number comes to. -/
def SpPost (w : World) (r : List Bool × Nat) (e : Ending) (w' : World) : Prop :=
  ∃ A' c', e = .returned (.tuple #[.agg #[.int .i64 r.1.length, .slice A' ((r.1.length + 7) / 8 : Nat) c'], .int .i64 r.2]) ∧ Oct w' A' ((r.1.length + 7) / 8) (packL r.1) ∧ Below w.heap.size w w'
theorem mayB_ok {N : Int} {bits : List UInt8} {l : List Bool} (h : Ok5 N bits l) : mayB N bits = true := by
  unfold mayB
  rw [decide_eq_true_eq]
  exact (ok5_iff N bits).1 ⟨l, h⟩
theorem mayB_bad {N : Int} {bits : List UInt8} (h : ¬ ∃ l, Ok5 N bits l) : mayB N bits = false := mayB_no (fun hh => h ((ok5_iff N bits).2 hh))
theorem SpPost.none_ {w w' : World} (e : Nat) (hb : Below w.heap.size w w') : SpPost w ([], e) (.returned (.tuple #[.agg #[.int .i64 0, .slice none 0 0], .int .i64 e])) w' := by
  unfold SpPost
  simp only [List.length_nil]
  exact ⟨none, 0, rfl, Oct.nil _ _, hb⟩
theorem xor_val (x k : Nat) (hx : x < 256) (hk : k < 8) : bits .xor .u8 (x : Int) (2 ^ k % 256) = ((x ^^^ 2 ^ k : Nat) : Int) := by
  have h2 : 2 ^ k < 256 := Nat.pow_lt_pow_right (by omega) (show k < 8 by omega)
  have e : ((2 : Int) ^ k % 256) = ((2 ^ k : Nat) : Int) := by
    have : ((2 : Int) ^ k) = ((2 ^ k : Nat) : Int) := by simp
    rw [this]
    generalize (2 : Nat) ^ k = y at h2 ⊢
    omega
  rw [e]
  exact u8_xor_nat x (2 ^ k) hx h2

set_option maxHeartbeats 2000000 in
theorem turn_bad (N : Int) (A : Option Addr) (n c : Nat) (bits : List UInt8) (w : World) (B : Option Addr) (nb cb : Nat) (used : Bool) (e : Nat) (ho : Oct w A n bits) (hN : -9223372036854775808 ≤ N ∧ N ≤ 9223372036854775807) (hn : n ≤ 4096) (hm : mayB N bits = false) :
    Calls Try.prog 24 #[.agg #[.int .i64 N, .slice A n c], .slice B nb cb, .bool used, .int .i64 e] w (SpPost w ([], 1)) := by
  have o1 := hid ((ho.alloc (Obj.cells #[.int .i64 N, .slice A n c] 24)).alloc (Obj.cells #[.int .i64 0, .slice none 0 0] 24))
  have HN := hid hN
  have H1 := hid hm
  clear ho hN hm
  go_enter Try.func24, Try.ntmps24
  go_wp2_with (go_at_call 21; refine (may_any N A n c bits _ o1.out HN.out (by omega)).mono ?_; rw [H1.out]; rintro e w1 ⟨rfl, hb1⟩; obtain ⟨hc1, hf1⟩ := bcell hb1)
  have q0 := OwnC.new_ (w.alloc (Obj.cells #[.int .i64 N, .slice A n c] 24)) #[.int .i64 0, .slice none 0 0] 24
  have q1 := ((q0.below hb1).set 0 (.int .i64 0)).set 1 (.slice none 0 0)
  rw [World.size_alloc] at q1
  have r0 := q1.cell (j := 0) (u := .int .i64 0) rfl
  have r1 := q1.cell (j := 1) (u := .slice none 0 0) rfl
  have B1 : Below w.heap.size w w1 := (((Below.refl _ w).alloc (Nat.le_refl _) _).alloc (by simp) _).trans (hb1.mono (by simp; omega))
  clear hc1 hf1 q0 q1 hb1
  refine bodyPost_ret (v := .tuple #[.agg #[.int .i64 0, .slice none 0 0], .int .i64 1]) (by simp [results, Try.results24, go_sem, r0, r1]) rfl (SpPost.none_ 1 ((B1.setCell (by simp) _).setCell (by simp) _))
end Go.Proofs.Ytccdgfacdohknaa
