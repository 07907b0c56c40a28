/-
  More words for memory that all texts of a seat share. No program is in sight.
-/
import Derived.Test.YtnloooakfhjggaaLib
namespace Go.Proofs.Ytnloooakfhjggaa
open Go.RowKit
set_option linter.unusedVariables false

theorem one_cell (k : Nat) (hk : k < 256) : #[Value.int .u8 (k : Int)] = ([UInt8.ofNat k].map B8).toArray := by
  simp [B8, UInt8.toNat_ofNat', Nat.mod_eq_of_lt hk]
theorem oct_one (w : World) (t : TypeId) (k : Nat) (hk : k < 256) : Oct (w.alloc (.cells #[Value.int .u8 (k : Int)] t)) (some ⟨w.heap.size, 0, none⟩) 1 [UInt8.ofNat k] :=
  Oct.of_block [UInt8.ofNat k] (heap_alloc_new _ _) (one_cell k hk)

theorem oct_mod (w : World) (t : TypeId) (k : Nat) : Oct (w.alloc (.cells #[Value.int .u8 ((k : Int) % 256)] t)) (some ⟨w.heap.size, 0, none⟩) 1 [UInt8.ofNat (k % 256)] := by
  rw [show ((k : Int) % 256) = ((k % 256 : Nat) : Int) by omega]
  exact oct_one w t (k % 256) (by omega)
theorem bq {B : Nat} {a w : World} (h : Below B a w) (n : Nat) : Below B a (w.drewN n) := ⟨h.os, h.tape, h.output, h.size, h.block⟩
theorem Oct.of_own {w : World} {base : Nat} {e : TypeId} {A : Option Addr} {n c : Nat} {l : List UInt8} (h : w.ownsRow base e 1 (.slice A n c) n (l.map B8)) : Oct w A n l := ⟨by simpa using h.1, Row.of_own h⟩
end Go.Proofs.Ytnloooakfhjggaa
