/-
  The library's words of a text. A part of the proof: see the head of the text that ends in 'Law'.
-/
import Derived.RangeFuncNested
import Derived.RangeFuncBound
import Derived.RangeFuncCalls
import Derived.RangeFuncLeaves
import Derived.RangeFuncBox
import Derived.Shelf.Abstract
import Derived.OwnWalkIn
import Derived.TacticsInMore
import Derived.LoopNIn
import Derived.LoopIn
import Derived.Test.YtkjlkkaoaiphcaaDoorDaPlain2
import Derived.Test.YtkjlkkaoaiphcaaDoorDa13
namespace Go.Proofs.YtkjlkkaoaiphcaaDoor
open Go.RowKit Go.Shelf
set_option linter.unusedVariables false
attribute [local go_sem] Oper.semAt_some

/-- What a round keeps: what was there ahead, and the iterator's own two boxes. -/
def KpW (n1 B0 : Nat) (W W' : World) : Prop := Below n1 W W' ∧ (∀ j, W'.cell? ⟨B0, j, none⟩ = W.cell? ⟨B0, j, none⟩) ∧ ∀ j, W'.cell? ⟨B0 + 1, j, none⟩ = W.cell? ⟨B0 + 1, j, none⟩
theorem kpw_t {n1 Bf : Nat} {A B C : World} (h : KpW n1 Bf A B) (k : KpW n1 Bf B C) : KpW n1 Bf A C := ⟨h.1.trans k.1, fun j => (k.2.1 j).trans (h.2.1 j), fun j => (k.2.2 j).trans (h.2.2 j)⟩
theorem kpw_b {n1 Bf : Nat} {w : World} (hn : n1 ≤ w.heap.size) (hB : Bf + 1 < w.heap.size) (W : World) (l : Nat) (o o' : Obj) (hl : w.heap.size ≤ l) (h : W.heap[l]? = some o) (_ : o.isCells = false) (_ : o.isWalk = false) : KpW n1 Bf W (W.putObj l o') :=
  ⟨belowK_b hn W l o o' hl h (by assumption) (by assumption), fun j => by
    have e := World.putObj_heap_other (w := W) (r := l) (k := Bf) (o := o') (by omega)
    simp only [World.cell?, e], fun j => by
    have e := World.putObj_heap_other (w := W) (r := l) (k := Bf + 1) (o := o') (by omega)
    simp only [World.cell?, e]⟩
theorem kpw_of {n1 Bf : Nat} {W W' : World} (h : Below n1 W W') (hb : W'.heap[Bf]? = W.heap[Bf]?) (hb2 : W'.heap[Bf + 1]? = W.heap[Bf + 1]?) : KpW n1 Bf W W' := ⟨h, fun j => by simp only [World.cell?, hb], fun j => by simp only [World.cell?, hb2]⟩
theorem grown_of_below {W W' : World} (h : Below W.heap.size W W') : W.grownBy W' none := ⟨h.os, h.tape, h.output, h.size, fun i hi _ => h.block i hi⟩
theorem blank1_any (r : Nat) (w : World) (hr : r < 2200000) : Calls Tryd.prog 44 #[.int .i32 (r : Int)] w fun e w' => e = .returned (.bool (decide (r = 32 ∨ r = 9))) ∧ w = w' := by
  by_cases h1 : r = 32
  · have d1 : ((r : Int) == 32) = true := by simp; omega
    have d1' : (r == 32) = true := by simpa using h1
    rw [decide_eq_true (Or.inl h1)]
    clear h1
    go_enter Tryd.func44, Tryd.ntmps44
    go_wp2
    go_ret
    exact ⟨rfl, rfl⟩
  · have d1 : ((r : Int) == 32) = false := by simp; omega
    have d1' : (r == 32) = false := by simpa using h1
    by_cases h2 : r = 9
    · have d2 : ((r : Int) == 9) = true := by simp; omega
      have d2' : (r == 9) = true := by simpa using h2
      rw [decide_eq_true (Or.inr h2)]
      clear h1 h2
      go_enter Tryd.func44, Tryd.ntmps44
      go_wp2
      go_ret
      exact ⟨rfl, rfl⟩
    · have d2 : ((r : Int) == 9) = false := by simp; omega
      have d2' : (r == 9) = false := by simpa using h2
      rw [decide_eq_false (by omega)]
      clear h1 h2
      go_enter Tryd.func44, Tryd.ntmps44
      go_wp2
      go_ret
      exact ⟨rfl, rfl⟩
theorem ffs_any (l : List UInt8) (w : World) :
    Calls Tryd.prog 43 #[.string (str l), .func (.func 44) #[] #[]] w fun e w' => e = .returned (.func (.func 56) #[] #[.pointer (some ⟨w.heap.size, 0, none⟩), .pointer (some ⟨w.heap.size + 1, 0, none⟩)]) ∧
      w' = (w.alloc (.cells #[.string (str l)] 9)).alloc (.cells #[.func (.func 44) #[] #[]] 82) := by
  go_enter Tryd.func43, Tryd.ntmps43
  go_wp2
  go_ret
  exact ⟨rfl, rfl⟩
theorem decode_e (l : List UInt8) (r sz : Nat) (h : Lib.decodeGo (str l) = (r, sz)) (w : World) (hT : Lib.Utf8Tabs 0 1 w) :
    Calls Tryd.prog 57 #[.string (str l)] w fun e w' => e = .returned (.tuple #[.int .i32 (r : Int), .int .i64 (sz : Int)]) ∧ Below w.heap.size w w' := by
  have := Tryd.utf8_DecodeRuneInString (str l) w hT
  rw [h] at this
  exact this
end Go.Proofs.YtkjlkkaoaiphcaaDoor
