/-
  A part of the proof: see the head of the text that ends in 'Law'.
-/
import Derived.Test.YtpppmijohfjigaaCrcTab
namespace Go.Proofs.Ytpppmijohfjigaa
open Go.RowKit
set_option linter.unusedVariables false

theorem notP (a : Nat) (h : a < 4294967296) : bits .xor .u32 IntKind.u32.max (a : Int) = ((4294967295 - a : Nat) : Int) := by
  rw [show IntKind.u32.max = ((4294967295 : Nat) : Int) from rfl, u32_xor_nat _ _ (by omega) h, not32 a h]
theorem xor8Q (a : Nat) (x : UInt8) : bits .xor .u8 ((a : Int) % 256) (x.toNat : Int) = ((a % 256 ^^^ x.toNat : Nat) : Int) := by
  have := x.toNat_lt
  rw [show ((a : Int) % 256) = ((a % 256 : Nat) : Int) by omega, u8_xor_nat _ _ (by omega) (by omega)]
theorem xor32Q (s a : Nat) (hs : s < 4294967296) (ha : a < 4294967296) : bits .xor .u32 (s : Int) ((a : Int) / 256) = ((s ^^^ a / 256 : Nat) : Int) := by
  rw [show ((a : Int) / 256) = ((a / 256 : Nat) : Int) by omega, u32_xor_nat _ _ hs (by omega)]

set_option maxHeartbeats 400000 in
theorem more_any (s : Nat) (A : Option Addr) (n c : Nat) (l : List UInt8) (w : World) (hs : s < 4294967296) (ho : Oct w A n l) (hc : n ≤ 2147483648) :
    Calls Try.prog 35 #[.int .u32 s, .slice A n c] w fun e w' => e = .returned (.int .u32 ((4294967295 - goL (4294967295 - s) l : Nat))) ∧ Below w.heap.size w w' := by
  have hl := hid ho.len
  have hz := (zero_of_info zero25).1
  have hi25 : (Try.prog.info? 117).map (·.size) = some TAB.size := by rw [TAB_size]; exact (zero_of_info zero25).2
  have Hi := hid hi25
  have hnot := notP s hs
  have hsg : IntKind.u32.signed = false := rfl
  clear hi25
  go_enter Try.func35, Try.ntmps35
  go_wp2_with (first
    | (go_at_call 67; refine (table_any _).mono ?_; rintro e w1 ⟨rfl, hb1⟩)
    | refine wpList_store_row rfl 117 (.tmp 5) (.tmp 9) rfl _ TAB rfl rfl 117 Z256 (heap_alloc_new _ _) Hi.out (Z256_size.trans TAB_size.symm) TAB_one ?_)
  have hbW : Below w.heap.size w ((w1.alloc (Obj.cells Z256 117)).setRow w1.heap.size TAB) := below_setRow (hb1.alloc hb1.size _) hb1.size _
  have hrow := fun j => cell_setRow_same (w1.alloc (Obj.cells Z256 117)) w1.heap.size j Z256 TAB _ (0, 0) (heap_alloc_new _ _)
  generalize (w1.alloc (Obj.cells Z256 117)).setRow w1.heap.size TAB = W at *
  have Hrow := hid hrow
  have HW := ho.below hbW
  clear hrow ho hz hnot hb1
  go_loop [6, 8, 14] (fun x _ i => ∃ k : Nat, k ≤ n ∧ i = .int .i64 k ∧ x = .int .u32 (goL (4294967295 - s) (l.take k))) (fun x _ i => n - (intOf i).toNat)
  case atStart => exact ⟨0, by omega, rfl, rfl⟩
  case round =>
    obtain ⟨k, hk, rfl, rfl⟩ := hrel
    by_cases hlt : k < n
    · obtain ⟨b, off, rfl, hcell⟩ := HW.at_ (by omega)
      have hk' : k < l.length := by rw [hl.out]; exact hlt
      have hck := hcell k hk'
      clear hcell
      have hg := goL_lt (l.take k) (show 4294967295 - s < 4294967296 by omega)
      have hst := hid (goL_take_succ (4294967295 - s) l k hk')
      have hq := xor8Q (goL (4294967295 - s) (l.take k)) l[k]
      have hin : goL (4294967295 - s) (l.take k) % 256 ^^^ l[k].toNat < 256 := Nat.xor_lt_two_pow (n := 8) (by omega) (by have := l[k].toNat_lt; omega)
      have ht := (Hrow.out _).trans (TAB_at _ hin)
      have hq2 := xor32Q (stpN 8 (goL (4294967295 - s) (l.take k) % 256 ^^^ l[k].toNat)) (goL (4294967295 - s) (l.take k)) (stpN_lt 8 (by omega)) hg
      have htab := hid (oct1_table (goL (4294967295 - s) (l.take k)) l[k])
      clear hg
      go_wp2
      go_round
      case rel => exact ⟨k + 1, by omega, by go_num, by rw [hst.out, htab.out]⟩
      case measure => simp [intOf]; omega
    · have hg := goL_lt (l.take k) (show 4294967295 - s < 4294967296 by omega)
      have hnot := notP _ hg
      go_wp2
      go_ret
      exact ⟨ret_int (by rw [List.take_of_length_le (by rw [hl.out]; omega)]), hbW⟩
end Go.Proofs.Ytpppmijohfjigaa
