/-
  Which tokens may be. A part of the proof: see the head of the text that ends in 'Law'.
-/
import Derived.Test.YtaoigplmkckieaaCarry
import Derived.Test.YtaoigplmkckieaaProg
namespace Go.Proofs.Ytaoigplmkckieaa
open Go.RowKit
set_option linter.unusedVariables false

/-- A token. -/
structure Tok where
  lit : UInt8
  len : Int
  dist : Int
  deriving DecidableEq
def Tok.cells (t : Tok) : List Value := [B8 t.lit, .int .i64 t.len, .int .i64 t.dist]
def Tok.val (t : Tok) : Value := .agg #[.int .u8 t.lit.toNat, .int .i64 t.len, .int .i64 t.dist]
/-- May a token be? -/
def mayT (t : Tok) : Bool := decide ((t.len = 0 ∧ t.dist = 0) ∨ (t.lit.toNat = 0 ∧ 3 ≤ t.len ∧ t.len ≤ 258 ∧ 1 ≤ t.dist ∧ t.dist ≤ 32768))
theorem tok_box (w : World) (t : Tok) : (w.alloc (.cells #[.int .u8 t.lit.toNat, .int .i64 t.len, .int .i64 t.dist] 50)).cell? ⟨w.heap.size, 0, none⟩ = some (.int .u8 t.lit.toNat) ∧
    (w.alloc (.cells #[.int .u8 t.lit.toNat, .int .i64 t.len, .int .i64 t.dist] 50)).cell? ⟨w.heap.size, 1, none⟩ = some (.int .i64 t.len) ∧ (w.alloc (.cells #[.int .u8 t.lit.toNat, .int .i64 t.len, .int .i64 t.dist] 50)).cell? ⟨w.heap.size, 2, none⟩ = some (.int .i64 t.dist) := by
  have c := OwnC.new_ w #[.int .u8 t.lit.toNat, .int .i64 t.len, .int .i64 t.dist] 50
  exact ⟨c.cell rfl, c.cell rfl, c.cell rfl⟩
theorem mayT_b (t : Tok) : mayT t = (((t.len == 0) && (t.dist == 0)) || (((t.lit.toNat : Int) == 0) && decide (3 ≤ t.len) && decide (t.len ≤ 258) && decide (1 ≤ t.dist) && decide (t.dist ≤ 32768))) := by
  unfold mayT
  rw [Bool.eq_iff_iff]
  simp
  omega

set_option maxHeartbeats 1000000 in
theorem refMay_any (t : Tok) (w : World) :
    Calls Try.prog 20 #[t.val] w fun e w' => e = .returned (.bool (mayT t)) ∧ Below w.heap.size w w' := by
  obtain ⟨x0, x1, x2⟩ := tok_box w t
  have HB := hid ((Below.refl w.heap.size w).alloc (Nat.le_refl _) (Obj.cells #[.int .u8 t.lit.toNat, .int .i64 t.len, .int .i64 t.dist] 50))
  have hm := mayT_b t
  have htl := t.lit.toNat_lt
  unfold Tok.val
  obtain ⟨b1, h1⟩ : ∃ b, (t.len == 0) = b := ⟨_, rfl⟩
  obtain ⟨b2, h2⟩ : ∃ b, (t.dist == 0) = b := ⟨_, rfl⟩
  obtain ⟨b3, h3⟩ : ∃ b, ((t.lit.toNat : Int) == 0) = b := ⟨_, rfl⟩
  obtain ⟨b4, h4⟩ : ∃ b, decide (3 ≤ t.len) = b := ⟨_, rfl⟩
  obtain ⟨b5, h5⟩ : ∃ b, decide (t.len ≤ 258) = b := ⟨_, rfl⟩
  obtain ⟨b6, h6⟩ : ∃ b, decide (1 ≤ t.dist) = b := ⟨_, rfl⟩
  obtain ⟨b7, h7⟩ : ∃ b, decide (t.dist ≤ 32768) = b := ⟨_, rfl⟩
  rw [h1, h2, h3, h4, h5, h6, h7] at hm
  have HM := hid hm
  clear hm
  go_enter Try.func20, Try.ntmps20
  go_wp2
  all_goals go_ret
  all_goals (exact ⟨by rw [HM.out]; simp [*], HB.out⟩)
set_option maxHeartbeats 1000000 in
theorem may_any (t : Tok) (w : World) :
    Calls Try.prog 19 #[t.val] w fun e w' => e = .returned (.bool (mayT t)) ∧ Below w.heap.size w w' := by
  obtain ⟨x0, x1, x2⟩ := tok_box w t
  have HB := hid ((Below.refl w.heap.size w).alloc (Nat.le_refl _) (Obj.cells #[.int .u8 t.lit.toNat, .int .i64 t.len, .int .i64 t.dist] 50))
  have hm := mayT_b t
  have htl := t.lit.toNat_lt
  unfold Tok.val
  obtain ⟨b2, h2⟩ : ∃ b, (t.dist == 0) = b := ⟨_, rfl⟩
  obtain ⟨b3, h3⟩ : ∃ b, ((t.lit.toNat : Int) == 0) = b := ⟨_, rfl⟩
  obtain ⟨b4, h4⟩ : ∃ b, decide (3 ≤ t.len) = b := ⟨_, rfl⟩
  obtain ⟨b5, h5⟩ : ∃ b, decide (t.len ≤ 258) = b := ⟨_, rfl⟩
  obtain ⟨b6, h6⟩ : ∃ b, decide (1 ≤ t.dist) = b := ⟨_, rfl⟩
  obtain ⟨b7, h7⟩ : ∃ b, decide (t.dist ≤ 32768) = b := ⟨_, rfl⟩
  rw [h2, h3, h4, h5, h6, h7] at hm
  by_cases h0 : t.len = 0
  · have d0 : (t.len == 0) = true := by simpa using h0
    have b4f : b4 = false := by rw [← h4, h0]; rfl
    subst b4f
    rw [d0] at hm
    have HM := hid hm
    clear hm h0
    go_enter Try.func19, Try.ntmps19
    go_wp2
    go_ret
    exact ⟨by rw [HM.out]; simp, HB.out⟩
  · have d0 : (t.len == 0) = false := by simpa using h0
    rw [d0] at hm
    have HM := hid hm
    clear hm h0
    go_enter Try.func19, Try.ntmps19
    go_wp2
    all_goals go_ret
    all_goals (exact ⟨by rw [HM.out]; simp [*], HB.out⟩)
end Go.Proofs.Ytaoigplmkckieaa
