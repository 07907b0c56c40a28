/-
  The walks of OnesCount8, Used, Count. A part of the proof: see the head of the text that ends in 'Law'.
-/
import Derived.Test.YtccdgfacdohknaaSp2
import Derived.Test.YtccdgfacdohknaaShelf
namespace Go.Proofs.Ytccdgfacdohknaa
open Go.RowKit
set_option linter.unusedVariables false

/-- The ones of an octet. -/
def onesN (x : Nat) : Nat := Lib.onesCount x
theorem onesN_le (x : Nat) : onesN x ≤ 64 := by
  have h : ∀ f x, Lib.popAux f x ≤ f := by
    intro f
    induction f with
    | zero => intro x; simp [Lib.popAux]
    | succ f ih => intro x; rw [Lib.popAux]; have := ih (x / 2); omega
  exact h 64 x
theorem onesN_eq (x : Nat) : onesN x = Lib.onesCount x := rfl
attribute [irreducible] onesN
theorem ones_any (x : Nat) (w : World) (hx : x < 256) :
    Calls Try.prog 27 #[.int .u8 x] w fun e w' => e = .returned (.int .i64 (onesN x)) ∧ w' = w := by
  have h := Try.bits_OnesCount8 (x : Int) w (by omega) (by omega)
  rwa [Int.toNat_natCast, ← onesN_eq] at h

/-- A boxed space: its two cells. -/
def Bx (w : World) (g : Nat) (N : Int) (A : Option Addr) (n c : Nat) : Prop := w.cell? ⟨g, 0, none⟩ = some (.int .i64 N) ∧ w.cell? ⟨g, 1, none⟩ = some (.slice A n c)
theorem Bx.new_ (w : World) (N : Int) (A : Option Addr) (n c : Nat) (t : TypeId) : Bx (w.alloc (Obj.cells #[.int .i64 N, .slice A n c] t)) w.heap.size N A n c := by
  have h := heap_alloc_new w (Obj.cells #[.int .i64 N, .slice A n c] t)
  exact ⟨cell_of_row _ _ 0 _ _ _ h, cell_of_row _ _ 1 _ _ _ h⟩
theorem Bx.keep {w w' : World} {g : Nat} {N : Int} {A : Option Addr} {n c : Nat} (h : Bx w g N A n c) (hb : Below w.heap.size w w') : w'.cell? ⟨g, 0, none⟩ = some (.int .i64 N) ∧ w'.cell? ⟨g, 1, none⟩ = some (.slice A n c) := ⟨cells_keep hb h.1, cells_keep hb h.2⟩

def usedB (N : Int) (bits : List UInt8) (p : Int) : Bool := mayB N bits && (decide (0 ≤ p) && decide (p < N)) && bitL bits p.toNat

set_option maxHeartbeats 1000000 in
theorem used_any (N p : Int) (A : Option Addr) (n c : Nat) (bits : List UInt8) (w : World) (ho : Oct w A n bits) (hN : -9223372036854775808 ≤ N ∧ N ≤ 9223372036854775807) (hn : n ≤ 4611686018427387904) :
    Calls Try.prog 18 #[.agg #[.int .i64 N, .slice A n c], .int .i64 p] w fun e w' => e = .returned (.bool (usedB N bits p)) ∧ Below w.heap.size w w' := by
  have o1 := hid (ho.alloc (Obj.cells #[.int .i64 N, .slice A n c] 24))
  have HN := hid hN
  have HB := hid ((Below.refl _ w).alloc (Nat.le_refl _) (Obj.cells #[.int .i64 N, .slice A n c] 24))
  have hlen := hid ho.len
  have K0 := hid (Bx.new_ w N A n c 24)
  clear ho hN
  unfold usedB
  by_cases h1 : mayB N bits = true
  · have hq := h1
    unfold mayB at hq
    rw [decide_eq_true_eq] at hq
    rw [h1]
    by_cases h2 : (decide (0 ≤ p) && decide (p < N)) = true
    · rw [h2]
      have h2' := h2
      simp only [Bool.and_eq_true, decide_eq_true_eq] at h2'
      obtain ⟨q, rfl⟩ : ∃ q : Nat, p = q := ⟨p.toNat, by omega⟩
      rw [Int.toNat_natCast]
      have hq8 : q / 8 < n := by have := hlen.out; omega
      have hq2 : q ≤ 100000 := by omega
      clear hq h2'
      have H1 := hid h1
      have H2 := hid h2
      clear h1 h2
      go_enter Try.func18, Try.ntmps18
      go_wp2_with (first
        | (go_at_call 21; refine (may_any N A n c bits _ o1.out HN.out hn).mono ?_; rw [H1.out]; rintro e w1 ⟨rfl, hb1⟩; have K1 := K0.out.keep hb1; have B1 := hid (next HB.out hb1); have O1 := hid (o1.out.below hb1); clear hb1)
        | (go_at_call 25; refine (is_any N q A n c _).mono ?_; rw [H2.out]; rintro e w2 ⟨rfl, hb2⟩; have K2 := Bx.keep K1 hb2; have B2 := hid (next B1.out hb2); have O2 := hid (O1.out.below hb2); clear hb2 K1 O1 B1)
        | (go_at_call 26; refine (bit_any N q A n c bits _ O2.out hq8 hq2).mono ?_; rintro e w3 ⟨rfl, hb3⟩; have B3 := hid (next B2.out hb3); clear hb3))
      go_ret
      exact ⟨by simp, B3.out⟩
    · simp only [Bool.not_eq_true] at h2
      rw [h2]
      have H1 := hid h1
      have H2 := hid h2
      clear h1 h2
      go_enter Try.func18, Try.ntmps18
      go_wp2_with (first
        | (go_at_call 21; refine (may_any N A n c bits _ o1.out HN.out hn).mono ?_; rw [H1.out]; rintro e w1 ⟨rfl, hb1⟩; have K1 := K0.out.keep hb1; have B1 := hid (next HB.out hb1); clear hb1)
        | (go_at_call 25; refine (is_any N p A n c _).mono ?_; rw [H2.out]; rintro e w2 ⟨rfl, hb2⟩; have B2 := hid (next B1.out hb2); clear hb2))
      go_ret
      exact ⟨by simp, B2.out⟩
  · simp only [Bool.not_eq_true] at h1
    rw [h1]
    have H1 := hid h1
    clear h1
    go_enter Try.func18, Try.ntmps18
    go_wp2_with (first
      | (go_at_call 21; refine (may_any N A n c bits _ o1.out HN.out hn).mono ?_; rw [H1.out]; rintro e w1 ⟨rfl, hb1⟩; have B1 := hid (next HB.out hb1); clear hb1))
    go_ret
    exact ⟨by simp, B1.out⟩

end Go.Proofs.Ytccdgfacdohknaa
