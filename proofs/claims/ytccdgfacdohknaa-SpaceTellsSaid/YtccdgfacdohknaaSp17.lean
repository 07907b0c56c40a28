/-
  Take, where nothing is taken. A part of the proof: see the head of the text that ends in 'Law'.
-/
import Derived.Test.YtccdgfacdohknaaSp16
namespace Go.Proofs.Ytccdgfacdohknaa
open Go.RowKit Go.Shelf
set_option linter.unusedVariables false

def TakePost (w : World) (r : List Bool × Nat) (q : List Nat) (e : Ending) (w' : World) : Prop :=
  ∃ A' c' A2 c2, e = .returned (.tuple #[.agg #[.int .i64 r.1.length, .slice A' ((r.1.length + 7) / 8 : Nat) c'], .slice A2 q.length c2, .int .i64 r.2]) ∧ Oct w' A' ((r.1.length + 7) / 8) (packL r.1) ∧ IRow w' A2 q.length (q.map Int.ofNat) ∧ Below w.heap.size w w'
theorem TakePost.none_ {w w' : World} (e : Nat) (hb : Below w.heap.size w w') : TakePost w ([], e) [] (.returned (.tuple #[.agg #[.int .i64 0, .slice none 0 0], .slice none 0 0, .int .i64 e])) w' := by
  unfold TakePost
  simp only [List.length_nil]
  exact ⟨none, 0, none, 0, rfl, Oct.nil _ _, IRow.nil _ _, hb⟩


set_option maxHeartbeats 2000000 in
theorem take_bad (N : Int) (A : Option Addr) (n c : Nat) (bits : List UInt8) (k : Int) (w : World) (ho : Oct w A n bits) (hN : -9223372036854775808 ≤ N ∧ N ≤ 9223372036854775807) (hn : n ≤ 4096) (hm : mayB N bits = false ∨ k < 0) :
    Calls Try.prog 8 #[.agg #[.int .i64 N, .slice A n c], .int .i64 k] w (TakePost w ([], 1) []) := by
  have o1 := hid (((ho.alloc (Obj.cells #[.int .i64 N, .slice A n c] 24)).alloc (Obj.cells #[.int .i64 k] 3)).alloc (Obj.cells #[.int .i64 0, .slice none 0 0] 24))
  have HN := hid hN
  have c1 := hid (OwnC.new_ ((w.alloc (Obj.cells #[.int .i64 N, .slice A n c] 24)).alloc (Obj.cells #[.int .i64 k] 3)) #[.int .i64 0, .slice none 0 0] 24)
  have k1 := hid (((OwnC.new_ (w.alloc (Obj.cells #[.int .i64 N, .slice A n c] 24)) #[.int .i64 k] 3).alloc (Obj.cells #[.int .i64 0, .slice none 0 0] 24)).cell (j := 0) rfl)
  have hb0 := hid ((((Below.refl _ w).alloc (Nat.le_refl _) (Obj.cells #[.int .i64 N, .slice A n c] 24)).alloc (by simp) (Obj.cells #[.int .i64 k] 3)).alloc (by simp; omega) (Obj.cells #[.int .i64 0, .slice none 0 0] 24))
  clear ho hN
  cases hmb : mayB N bits with
  | false =>
    have H1 := hid hmb
    clear hmb hm
    go_enter Try.func8, Try.ntmps8
    go_wp2_with (go_at_call 21; refine (may_any N A n c bits _ o1.out HN.out (by omega)).mono ?_; rw [H1.out]; rintro e w1 ⟨rfl, hb1⟩; have r3 := c1.out.below hb1; rw [World.size_alloc, World.size_alloc] at r3; have rc0 := r3.cell (j := 0) (u := .int .i64 0) rfl; have rc1 := r3.cell (j := 1) (u := .slice none 0 0) rfl; have rf0 := r3.frozen 0; have rf1 := r3.frozen 1; have R3 := hid r3; have B3 := hid (past hb0.out hb1); clear r3 hb1)
    have z1 := (R3.out.set 0 (.int .i64 0)).set 1 (.slice none 0 0)
    have z0 := z1.cell (j := 0) (u := .int .i64 0) rfl
    have z2 := z1.cell (j := 1) (u := .slice none 0 0) rfl
    refine bodyPost_ret (v := .tuple #[.agg #[.int .i64 0, .slice none 0 0], .slice none 0 0, .int .i64 1]) (by simp [results, Try.results8, go_sem, z0, z2]) rfl ?_
    exact TakePost.none_ 1 ((B3.out.setCell (by simp; omega) _).setCell (by simp; omega) _)
  | true =>
    have hk : k < 0 := by rcases hm with h | h
                          · rw [hmb] at h; cases h
                          · exact h
    have hd : decide (k < 0) = true := by simpa using hk
    have H1 := hid hmb
    clear hmb hm
    go_enter Try.func8, Try.ntmps8
    go_wp2_with (go_at_call 21; refine (may_any N A n c bits _ o1.out HN.out (by omega)).mono ?_; rw [H1.out]; rintro e w1 ⟨rfl, hb1⟩; have kk := cells_keep hb1 k1.out; rw [World.size_alloc] at kk; have r3 := c1.out.below hb1; rw [World.size_alloc, World.size_alloc] at r3; have rc0 := r3.cell (j := 0) (u := .int .i64 0) rfl; have rc1 := r3.cell (j := 1) (u := .slice none 0 0) rfl; have rf0 := r3.frozen 0; have rf1 := r3.frozen 1; have R3 := hid r3; have B3 := hid (past hb0.out hb1); clear r3 hb1)
    have z1 := (R3.out.set 0 (.int .i64 0)).set 1 (.slice none 0 0)
    have z0 := z1.cell (j := 0) (u := .int .i64 0) rfl
    have z2 := z1.cell (j := 1) (u := .slice none 0 0) rfl
    refine bodyPost_ret (v := .tuple #[.agg #[.int .i64 0, .slice none 0 0], .slice none 0 0, .int .i64 1]) (by simp [results, Try.results8, go_sem, z0, z2]) rfl ?_
    exact TakePost.none_ 1 ((B3.out.setCell (by simp; omega) _).setCell (by simp; omega) _)
end Go.Proofs.Ytccdgfacdohknaa
