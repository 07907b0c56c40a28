/-
  The walks of octet.Put and of its reference. A part of the proof: see the head of the text that ends in 'Law'.
-/
import Derived.Test.YtpppmijohfjigaaOctPlain
import Derived.Test.YtpppmijohfjigaaChecked
namespace Go.Proofs.Ytpppmijohfjigaa
open Go.RowKit
set_option linter.unusedVariables false
set_option maxRecDepth 100000

theorem bytesT : SliceT Try.prog 24 5 (.int .u8 0) 1 1 := ⟨Try.underlying24, by kernel_rfl, rfl, by omega⟩

set_option maxHeartbeats 400000 in
theorem put_bad (v : Nat) (wd : Int) (w : World) (h : wd < 1 ∨ 8 < wd) :
    Calls Try.prog 69 #[.int .u64 v, .int .i64 wd] w fun e w' => e = .returned (.tuple #[.slice none 0 0, .int .i64 1]) ∧ w = w' := by
  by_cases h1 : wd < 1
  · go_enter Try.func69, Try.ntmps69
    go_wp2
    go_ret2
    exact ⟨rfl, rfl⟩
  · have h2 : 8 < wd := by omega
    go_enter Try.func69, Try.ntmps69
    go_wp2
    go_ret2
    exact ⟨rfl, rfl⟩

set_option maxHeartbeats 1000000 in
theorem put_any (v k : Nat) (w : World) (hv : v < 18446744073709551616) (h1 : 1 ≤ k) (h8 : k ≤ 8) :
    Calls Try.prog 69 #[.int .u64 v, .int .i64 k] w fun e w' =>
      if v / 256 ^ k = 0 then ∃ A c, e = .returned (.tuple #[.slice A k c, .int .i64 0]) ∧ w'.ownsRow w.heap.size 5 1 (.slice A k c) k ((putL v k).map B8) ∧ Below w.heap.size w w'
      else e = .returned (.tuple #[.slice none 0 0, .int .i64 8]) ∧ Below w.heap.size w w' := by
  generalize hQ : (fun (e : Ending) (w' : World) => if v / 256 ^ k = 0 then ∃ A c, e = .returned (.tuple #[.slice A k c, .int .i64 0]) ∧ w'.ownsRow w.heap.size 5 1 (.slice A k c) k ((putL v k).map B8) ∧ Below w.heap.size w w'
      else e = .returned (.tuple #[.slice none 0 0, .int .i64 8]) ∧ Below w.heap.size w w') = Q
  have HQ := hid hQ
  clear hQ
  obtain ⟨i0, hi0, hz0, hz1, hz2⟩ := info_parts bytesT.info
  have Hz2 := hid hz2
  clear hz2
  go_enter Try.func69, Try.ntmps69
  go_wp2_with (refine wpList_make_own _ rfl (.const (.int .i64 0)) (.tmp 13) 24 rfl w.heap.size 5 i0 (.int .u8 0) 1 Try.underlying24 hi0 hz0 hz1 .i64 .i64 k k rfl rfl rfl (by rw [Hz2.out]; omega) (by unfold maxLen; omega) (Nat.le_refl _) ?_; intro w1 hown hg1; have hb1 := (Below.refl w.heap.size w).grown hg1 (Nat.le_refl _) (fun k hk => by cases hk); clear hg1)
  clear hi0 hz0 hz1
  have hk64 : (k : Int) ≤ 8 := by omega
  go_loopw [0, 6, 16] (fun x s i wr => ∃ j : Nat, j ≤ k ∧ i = .int .i64 j ∧ x = .int .u64 (v / 256 ^ j : Nat) ∧ (∃ A c, s = .slice A j c ∧ wr.ownsRow w.heap.size 5 1 (.slice A j c) j ((putL v j).map B8)) ∧ Below w.heap.size w wr) (fun x s i wr => k - (intOf i).toNat)
  case atStart => exact ⟨0, by omega, rfl, by simp, ⟨_, _, rfl, hown⟩, hb1⟩
  case round =>
    obtain ⟨j, hj, rfl, rfl, ⟨A, c, rfl, ho⟩, hb⟩ := hrel
    clear hown hb1
    have hdv := div_pow_lt v j hv
    by_cases hlt : j < k
    · have hst := hid (putL_succ v j)
      have hds := hid (div_pow_succ v j)
      generalize hD : v / 256 ^ j = D at *
      have HD := hid hD
      clear hD
      have hw1 : Below w.heap.size w (wr.alloc (.cells #[.int .u8 ((D : Int) % 256)] 5)) := hb.alloc hb.size _
      have hone := oct_mod wr 5 D
      go_wp2_with (
        (at_builtin
         refine wpList_append_row _ rfl (.tmp 18) (.tmp 21) bytesT rfl w.heap.size (.slice A j c) j ((putL v j).map B8) rfl (ho.alloc _) (some ⟨wr.heap.size, 0, none⟩) 1 1 ([UInt8.ofNat (D % 256)].map B8) rfl rfl hone.2 (one_B8 _) (by simp only [maxLen]; omega) (by omega) hw1.size ?_
         intro A2 c2 w6 hown6 hgr6 _
         have hb6 := hw1.grown hgr6 hw1.size (fun k hk => (ho.lt k hk).1)
         rw [← List.map_append, ← hst.out] at hown6
         clear hgr6))
      go_roundw
      case rel => exact ⟨j + 1, by omega, by go_num, by rw [hds.out]; go_num, ⟨A2, c2, rfl, hown6⟩, hb6⟩
      case measure => simp [intOf]; omega
    · have e : j = k := by omega
      subst e
      generalize hD : v / 256 ^ j = D at *
      by_cases hz : D = 0
      · have hzb : (((D : Nat) : Int) != 0) = false := by rw [hz]; rfl
        have Hz := hid hz
        clear hz hD
        go_wp2
        rw [← HQ.out]
        dsimp only
        rw [if_pos Hz.out]
        exact ⟨A, c, rfl, ho, hb⟩
      · have hzb : (((D : Nat) : Int) != 0) = true := by simp; omega
        have Hz := hid hz
        clear hz hD
        go_wp2
        rw [← HQ.out]
        dsimp only
        rw [if_neg Hz.out]
        exact ⟨rfl, hb⟩
end Go.Proofs.Ytpppmijohfjigaa
