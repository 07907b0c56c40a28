/-
  A part of the proof: see the head of the text that ends in 'Law'.
-/
import Derived.Test.YtpppmijohfjigaaCrcWalks
import Derived.Deep.WholeRow
namespace Go.Proofs.Ytpppmijohfjigaa
open Go.RowKit
set_option linter.unusedVariables false

theorem zero25 : (Try.prog.info? 117).map (fun i => (i.zero, i.size)) = some (some (.agg Z256), 256) := by kernel_rfl

set_option maxHeartbeats 400000 in
theorem table_any (w : World) :
    Calls Try.prog 67 #[] w fun e w' => e = .returned (.agg TAB) ∧ Below w.heap.size w w' := by
  have hz := (zero_of_info zero25).1
  have hi25 : (Try.prog.info? 117).map (·.size) = some 256 := (zero_of_info zero25).2
  have Hi := hid hi25
  clear hi25
  go_enter Try.func67, Try.ntmps67
  go_wp2
  clear hz
  go_loopw [2, 3] (fun x i wr => ∃ k : Nat, k ≤ 256 ∧ i = .int .i64 k ∧ wr = (w.alloc (.cells Z256 117)).alloc (.cells (Tab k) 117)) (fun x i wr => 256 - (intOf i).toNat)
  case atStart => exact ⟨0, by omega, rfl, rfl⟩
  case round =>
    obtain ⟨k, hk, rfl, rfl⟩ := hrel
    by_cases hlt : k < 256
    · have hs : Hid (Tab (k + 1) = (Tab k).setIfInBounds k (.int .u32 (stpN 8 k))) := rfl
      have hat := Tab_at k k hlt
      have hd : decide ((k : Int) < 256) = true := by simp; omega
      have hm4 : ((k : Nat) : Int) % 4294967296 = k := by omega
      have hsz := Tab_size k
      clear hk
      go_wp2_with (go_at_call 78; refine (step_any _ _ (by omega)).mono ?_; rintro e w' ⟨rfl, rfl⟩)
      go_roundw
      case rel => exact ⟨k + 1, by omega, by go_num, by rw [hs.out]⟩
      case measure => simp [intOf]; omega
    · have hd : decide ((k : Int) < 256) = false := by simp; omega
      have e : k = 256 := by omega
      have hsz := Tab_size k
      have hone := Tab_one k
      have hT : Hid (Tab k = TAB) := by rw [e]; rfl
      clear e hk hlt
      generalize Tab k = T at *
      have hi : (Try.prog.info? 117).map (·.size) = some T.size := by rw [hsz]; exact Hi.out
      have HI := hid hi
      have HS := hid hsz
      clear hi hsz
      go_wp2_with (first
        | refine wpList_load_row rfl 117 (.tmp 1) rfl (w.heap.size + 1) rfl 117 T (0, 0) _ (heap_alloc2_new _ _ _) Try.underlying117 rfl HI.out ?_
        | refine wpList_store_row rfl 117 (.tmp 0) (.tmp 12) rfl w.heap.size T rfl rfl 117 Z256 (heap_alloc2_old _ _ _) HI.out (Z256_size.trans HS.out.symm) hone ?_)
      refine bodyPost_ret (v := .agg T) (results_cell_row Try.results67 _ _ w.heap.size 117 T (0, 0) _ rfl (setRow_heap _ _ Z256 _ _ _ (heap_alloc2_old _ _ _)) Try.underlying117 rfl HI.out) rfl ⟨by rw [hT.out], ?_⟩
      exact below_setRow (((Below.refl _ _).alloc (Nat.le_refl _) _).alloc (by simp) _) (Nat.le_refl _) _
end Go.Proofs.Ytpppmijohfjigaa
