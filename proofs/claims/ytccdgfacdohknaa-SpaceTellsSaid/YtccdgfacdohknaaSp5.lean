/-
  The walks of Clone and turn. A part of the proof: see the head of the text that ends in 'Law'.
-/
import Derived.Test.YtccdgfacdohknaaSp4
namespace Go.Proofs.Ytccdgfacdohknaa
open Go.RowKit
set_option linter.unusedVariables false

theorem bytesT : SliceT Try.prog 22 5 (.int .u8 0) 1 1 := ⟨Try.underlying22, by kernel_rfl, rfl, by omega⟩
theorem intsT : SliceT Try.prog 25 3 (.int .i64 0) 1 8 := ⟨Try.underlying25, by kernel_rfl, rfl, by omega⟩
theorem boolsT : SliceT Try.prog 32 4 (.bool false) 1 1 := ⟨Try.underlying32, by kernel_rfl, rfl, by omega⟩

set_option maxHeartbeats 1000000 in
theorem clone_any (A : Option Addr) (n c : Nat) (bits : List UInt8) (w : World) (ho : Oct w A n bits) (hn : n ≤ 4096) :
    Calls Try.prog 31 #[.slice A n c] w fun e w' => ∃ A' c', e = .returned (.slice A' n c') ∧ w'.ownsRow w.heap.size 5 1 (.slice A' n c') n (bits.map B8) ∧ Below w.heap.size w w' := by
  have hq := Lib.run_eql_slice_nil (P := Try.prog) w 22 5 A n c 0 0 Try.underlying22
  cases A with
  | none =>
    have h0 : n = 0 := by
      rcases Nat.eq_zero_or_pos n with h0 | h0
      · exact h0
      · obtain ⟨b, off, h, _⟩ := ho.at_ h0
        cases h
    subst h0
    have hb : bits = [] := List.eq_nil_of_length_eq_zero ho.len
    subst hb
    clear ho
    simp only [Option.isNone] at hq
    go_enter Try.func31, Try.ntmps31
    go_wp2
    go_ret
    exact ⟨none, 0, rfl, World.ownsRow_nil _ _ _ _, Below.refl _ _⟩
  | some ad =>
    have o1 := hid (ho.alloc (Obj.cells #[] 5))
    clear ho
    simp only [Option.isNone] at hq
    go_enter Try.func31, Try.ntmps31
    go_wp2_with (
      at_builtin
      refine wpList_append_row _ rfl (.tmp 5) (.tmp 6) bytesT rfl w.heap.size (.slice (some ⟨w.heap.size, 0, none⟩) 0 0) 0 [] rfl (World.ownsRow_lit w #[] 0 (Nat.le_refl _) (Nat.zero_le _) rfl) (some ad) n c (bits.map B8) rfl o1.out.cells_len o1.out.2 (one_B8 _) (by simp only [maxLen]; omega) (by omega) (by simp) ?_
      intro A1 c1 w1 hown1 hgr1 hat1
      have b1 : Below w.heap.size w w1 := ((Below.refl _ w).alloc (Nat.le_refl _) _).grown hgr1 (by simp) (fun k hk => by simp [Value.ownBlock] at hk; omega)
      simp only [Nat.zero_add, List.nil_append] at hown1
      clear hgr1 hat1)
    go_ret
    exact ⟨A1, c1, rfl, hown1, b1⟩

/-- What turning pages over comes to: the flags, and the error's number. -/
def turnF : List Bool → List Int → Bool → Nat → List Bool × Nat
  | l, [], used, e => (l, 0)
  | l, p :: r, used, e => if p < 0 ∨ (l.length : Int) ≤ p then ([], 4) else if l.getD p.toNat false != used then ([], e) else turnF (l.set p.toNat (!used)) r used e
theorem turnF_len : ∀ (l : List Bool) (r : List Int) (used : Bool) (e : Nat), (turnF l r used e).1.length ≤ l.length
  | l, [], used, e => Nat.le_refl _
  | l, p :: r, used, e => by
    rw [turnF]
    split
    · exact Nat.zero_le _
    · split
      · exact Nat.zero_le _
      · have := turnF_len (l.set p.toNat (!used)) r used e
        rwa [List.length_set] at this
end Go.Proofs.Ytccdgfacdohknaa
