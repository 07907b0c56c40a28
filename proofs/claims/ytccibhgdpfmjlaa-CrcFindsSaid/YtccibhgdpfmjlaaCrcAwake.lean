/-
  A part of the proof: see the head of the text that ends in 'Law'.
-/
import Derived.Test.YtccibhgdpfmjlaaCrcOpen
import Derived.Lib.SlBytesConst
namespace Go.Proofs.Ytccibhgdpfmjlaa
open Go.RowKit
set_option linter.unusedVariables false

def nine : List UInt8 := [49, 50, 51, 52, 53, 54, 55, 56, 57]
theorem nine_sum : sumL nine = 3421780262 := by decide +kernel
theorem nil_sum : sumL [] = 0 := by decide +kernel
theorem tab_1 : stpN 8 1 = 1996959894 := by decide +kernel
theorem le4_0 : le4 0 = [0, 0, 0, 0] := by decide +kernel

/-- The table laid into a block of its own: the world behind, and what is known of it. -/
theorem laid_table {w w1 : World} (hb1 : Below w.heap.size w w1) : ∃ W, W = (w1.alloc (Obj.cells Z256 25)).setRow w1.heap.size TAB ∧ Below w.heap.size w W ∧ W.heap.size = w1.heap.size + 1 ∧
    (∀ j, j < 256 → W.cell? ⟨w1.heap.size, j, none⟩ = some (.int .u32 (stpN 8 j : Nat))) :=
  ⟨_, rfl, below_setRow (hb1.alloc hb1.size _) hb1.size _, by simp, fun j hj => (cell_setRow_same (w1.alloc (Obj.cells Z256 25)) w1.heap.size j Z256 TAB _ (0, 0) (heap_alloc_new _ _)).trans (TAB_at j hj)⟩

set_option maxHeartbeats 400000 in
theorem awake_any (w : World) :
    Calls Try.prog 13 #[] w fun e w' => e = .returned (.bool true) ∧ Below w.heap.size w w' := by
  have hz := (zero_of_info zero25).1
  have hi25 : (Try.prog.info? 25).map (·.size) = some TAB.size := by rw [TAB_size]; exact (zero_of_info zero25).2
  have Hi := hid hi25
  clear hi25
  go_enter Try.func13, Try.ntmps13
  go_wp2_with (first
    | (go_at_call 8; refine (table_any _).mono ?_; rintro e w1 ⟨rfl, hb1⟩)
    | (refine wpList_store_row rfl 25 (.tmp 1) (.tmp 2) rfl _ TAB rfl rfl 25 Z256 (heap_alloc_new _ _) Hi.out (Z256_size.trans TAB_size.symm) TAB_one ?_
       clear hz
       obtain ⟨W, hW, hbW, hsz, hrow⟩ := laid_table hb1
       rw [← hW]
       have hcv := Lib.run_convert_bytes_const (P := Try.prog) W 22 5 #[Value.int IntKind.u8 49, Value.int IntKind.u8 50, Value.int IntKind.u8 51, Value.int IntKind.u8 52, Value.int IntKind.u8 53, Value.int IntKind.u8 54, Value.int IntKind.u8 55, Value.int IntKind.u8 56, Value.int IntKind.u8 57] 9 9 Try.underlying22 Try.underlying5
       have r1 := hrow 1 (by omega)
       rw [tab_1] at r1
       have hb2 : Below W.heap.size W (W.alloc (.cells #[Value.int IntKind.u8 49, Value.int IntKind.u8 50, Value.int IntKind.u8 51, Value.int IntKind.u8 52, Value.int IntKind.u8 53, Value.int IntKind.u8 54, Value.int IntKind.u8 55, Value.int IntKind.u8 56, Value.int IntKind.u8 57] 5 (9, 10))) := (Below.refl _ _).alloc (Nat.le_refl _) _
       have ho := Oct.of_block nine (heap_alloc_new W (.cells #[Value.int IntKind.u8 49, Value.int IntKind.u8 50, Value.int IntKind.u8 51, Value.int IntKind.u8 52, Value.int IntKind.u8 53, Value.int IntKind.u8 54, Value.int IntKind.u8 55, Value.int IntKind.u8 56, Value.int IntKind.u8 57] 5 (9, 10))) rfl
       have r2 := cells_keep hb2 r1
       rw [show nine.length = 9 from rfl] at ho
       have HO := ho
       clear hW hrow hsz ho r1)
    | (go_at_call 9; ((with_reducible refine (sum_any _ _ _ nine _ HO (by decide)).mono ?_); rintro e w2 ⟨rfl, hb3⟩); clear HO; have r3 := cells_keep hb3 r2; rw [nine_sum])
    | (go_at_call 9; ((with_reducible refine (sum_any none 0 0 [] _ (Oct.nil _ _) (by omega)).mono ?_); rintro e w3 ⟨rfl, hb4⟩); have r4 := cells_keep hb4 r3; rw [nil_sum])
    | (go_at_call 14; refine (seal_any none 0 0 [] _ (Oct.nil _ _) (by omega)).mono ?_; rintro e w4 ⟨A4, c4, rfl, _, ho4, hb5⟩; rw [nil_sum, le4_0] at ho4; have hs4 := run_string_oct (P := Try.prog) c4 ho4 Try.underlying22 Try.underlying5 Try.underlying9))
  go_ret
  exact ⟨rfl, hbW.trans ((hb2.mono hbW.size).trans ((hb3.mono (Nat.le_trans hbW.size hb2.size)).trans ((hb4.mono (Nat.le_trans (Nat.le_trans hbW.size hb2.size) hb3.size)).trans (hb5.mono (Nat.le_trans (Nat.le_trans (Nat.le_trans hbW.size hb2.size) hb3.size) hb4.size)))))⟩

theorem strP {w : World} {A : Option Addr} {n : Nat} (c : Nat) {l : List UInt8} (h : Oct w A n l) : (convert 22 9 (.slice A n c)).run Try.prog w = .ok (.string (str l)) w :=
  run_string_oct c h Try.underlying22 Try.underlying5 Try.underlying9

end Go.Proofs.Ytccibhgdpfmjlaa
