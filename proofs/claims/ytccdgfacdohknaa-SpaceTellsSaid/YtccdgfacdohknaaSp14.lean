/-
  The iterator over the free pages: its contract. A part of the proof: see the head of the text that ends in 'Law'.
-/
import Derived.RangeFuncNested
import Derived.RangeFuncBound
import Derived.RangeFuncCalls
import Derived.RangeFuncLeaves
import Derived.RangeFuncBox
import Derived.Shelf.Abstract
import Derived.OwnWalkIn
import Derived.TacticsInMore
import Derived.LoopNIn
import Derived.LoopIn
import Derived.Test.YtccdgfacdohknaaSp13
namespace Go.Proofs.Ytccdgfacdohknaa
open Go.RowKit Go.Shelf
set_option linter.unusedVariables false
attribute [local go_sem] Oper.semAt_some

/-- What a round of a loop over the free pages keeps: what was there ahead, and the iterator's own box. -/
def KpF (n1 Bf : Nat) (W W' : World) : Prop := Below n1 W W' ∧ ∀ j, W'.cell? ⟨Bf, j, none⟩ = W.cell? ⟨Bf, j, none⟩
theorem grown_of_below {W W' : World} (h : Below W.heap.size W W') : W.grownBy W' none := ⟨h.os, h.tape, h.output, h.size, fun i hi _ => h.block i hi⟩

set_option maxRecDepth 100000 in
set_option maxHeartbeats 2000000 in
theorem free1_in (m : Nat) (hm : 1 ≤ m) (lp Bf : Nat) (l : List Bool) (A : Option Addr) (n c : Nat) (w : World) (ho : Oct w A n (packL l)) (hl : l.length ≤ 2048) (J Jx : List Nat → World → Prop) (B0 : Nat) (hJ : AbidesFrom B0 J)
    (hY : ∀ pre (x : Nat) W, J pre W → pre.length < (freeL l l.length).length → YieldAt Fence.wide (m - 1) Try.prog lp #[I8 x] W fun e W' =>
      (e = .returned (.bool true) ∧ J (pre ++ [x]) W' ∧ KpF w.heap.size Bf W W') ∨ (e = .returned (.bool false) ∧ Jx (pre ++ [x]) W'))
    (W : World) (hb : Below w.heap.size w W) (h0 : W.cell? ⟨Bf, 0, none⟩ = some (.int .i64 l.length)) (h1 : W.cell? ⟨Bf, 1, none⟩ = some (.slice A n c)) (hJ0 : J [] W) :
    CallsIn Fence.wide m Try.prog 30 #[.func (.yield lp) #[] #[], .pointer (some ⟨Bf, 0, none⟩)] W fun e W' => (∃ v, e = .returned v) ∧
      ((∃ ys, ys = freeL l l.length ∧ J ys W') ∨ (∃ pre, pre <+: freeL l l.length ∧ Jx pre W')) := by
  have HO := hid ho
  have HB := hid hb
  have HJ := hid hJ0
  have HA := hid hJ
  have HY := hid hY
  have hnl : Hid (n = (l.length + 7) / 8) := hid (by have := ho.len; rw [packL_length] at this; omega)
  clear ho hb hJ0 hJ hY
  refine callsIn_of_wp Try.func30 rfl trivial ?_ rfl
  simp only [Try.ntmps30, List.size_toArray, List.length_cons, List.length_nil, Nat.reduceAdd, Nat.reduceSub, Array.replicate_succ, Array.replicate_zero, List.push_toArray, List.append_toArray, List.nil_append, List.cons_append]
  gi_wp2
  gi_loopw [6] (fun p wr => ∃ k : Nat, k ≤ l.length ∧ p = .int .i64 k ∧ Hid (J (freeL l k) wr ∧ Below w.heap.size w wr ∧ wr.cell? ⟨Bf, 0, none⟩ = some (.int .i64 l.length) ∧ wr.cell? ⟨Bf, 1, none⟩ = some (.slice A n c))) (fun p wr => l.length - (intOf p).toNat)
  case atStart => exact ⟨0, by omega, rfl, hid ⟨HJ.out, HB.out, h0, h1⟩⟩
  case round =>
    obtain ⟨k, hk, rfl, hI⟩ := hrel
    clear h0 h1
    have k0 := hI.out.2.2.1
    have k1 := hI.out.2.2.2
    by_cases hlt : k < l.length
    · have hd : decide (k < l.length) = true := by simpa using hlt
      have hk8 : k / 8 < n := by have := hnl.out; omega
      cases hfl : l.getD k false with
      | true =>
        have hfl := hid hfl
        gi_wp2_with (refine ⟨trivial, ?_⟩; gi_at_call 26; refine (callsIn_wide.2 (bit_any l.length k A n c (packL l) _ (HO.out.below hI.out.2.1) hk8 (by omega))).mono ?_; rw [bitL_pack, hfl.out]; rintro e w3 ⟨rfl, hb3⟩)
        refine ⟨fun _ h => (by cases h), ?_⟩
        gi_wp2
        go_roundw
        case rel => exact ⟨k + 1, by omega, rfl, hid ⟨by rw [freeL_succ, if_pos hfl.out]; exact HA.out _ _ _ none hI.out.1 (grown_of_below hb3) (fun r e => by cases e), hI.out.2.1.trans (hb3.mono hI.out.2.1.size), cells_keep hb3 k0, cells_keep hb3 k1⟩⟩
        case measure => simp [intOf]; omega
      | false =>
        have hfl := hid hfl
        have hpr : freeL l (k + 1) <+: freeL l l.length := List.prefix_iff_eq_take.2 (freeL_pre l (k + 1) l.length (by omega)).symm
        rw [freeL_succ, hfl.out, if_neg (by simp)] at hpr
        have hln : (freeL l k).length < (freeL l l.length).length := by have := hpr.length_le; simp at this; omega
        have hpr := hid hpr
        gi_wp2_with (refine ⟨trivial, ?_⟩; gi_at_call 26; refine (callsIn_wide.2 (bit_any l.length k A n c (packL l) _ (HO.out.below hI.out.2.1) hk8 (by omega))).mono ?_; rw [bitL_pack, hfl.out]; rintro e w3 ⟨rfl, hb3⟩; obtain ⟨fn, tmps, assign, body, hy, hR⟩ := HY.out (freeL l k) k w3 (HA.out _ _ _ none hI.out.1 (grown_of_below hb3) (fun r e => by cases e)) hln; dsimp only [I8] at hy)
        refine hR.mono ?_
        rintro e W' (⟨rfl, hJ', hk'⟩ | ⟨rfl, hJx'⟩)
        · have hB3 : Below w.heap.size w w3 := hI.out.2.1.trans (hb3.mono hI.out.2.1.size)
          gi_wp2
          go_roundw
          case rel => exact ⟨k + 1, by omega, rfl, hid ⟨by rw [freeL_succ, hfl.out, if_neg (by simp)]; exact hJ', hB3.trans hk'.1, (hk'.2 0).trans (cells_keep hb3 k0), (hk'.2 1).trans (cells_keep hb3 k1)⟩⟩
          case measure => simp [intOf]; omega
        · gi_wp2
          refine bodyPost_ret (results_none rfl _ _ _) rfl ?_
          exact ⟨⟨_, rfl⟩, .inr ⟨_, hpr.out, hJx'⟩⟩
    · have hd : decide (k < l.length) = false := by simpa using hlt
      gi_wp2
      go_end0
      exact ⟨⟨_, rfl⟩, .inl ⟨_, rfl, by rw [show l.length = k by omega]; exact hI.out.1⟩⟩
end Go.Proofs.Ytccdgfacdohknaa
