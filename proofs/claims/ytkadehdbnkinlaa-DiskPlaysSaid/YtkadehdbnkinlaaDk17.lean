/-
  What is read of a sector: plain Lean, no program in sight. A part of the proof: see the head of the text that ends in 'Law'.
-/
import Derived.Test.YtkadehdbnkinlaaDk10
namespace Go.Proofs.Ytkadehdbnkinlaa
open Go.RowKit
set_option linter.unusedVariables false

/-- The last write that waits for a sector. -/
def lastD (ws : List (Int × List UInt8)) (i : Nat) : Option (List UInt8) := ws.foldl (fun a p => if p.1 = (i : Int) then some p.2 else a) none
theorem lastD_snoc (ws : List (Int × List UInt8)) (p : Int × List UInt8) (i : Nat) : lastD (ws ++ [p]) i = if p.1 = (i : Int) then some p.2 else lastD ws i := by
  unfold lastD
  rw [List.foldl_append]
  rfl
/-- What is read of a sector. -/
def readD (D : Dsk) (i : Nat) : List UInt8 := (lastD D.waits i).getD (D.has.getD i [])
/-- What waits, done, is what was read. -/
theorem done_last (ws : List (Int × List UInt8)) (h : List (List UInt8)) (i : Nat) (hi : i < h.length) (hw : ∀ p ∈ ws, 0 ≤ p.1) : ∀ k, k ≤ ws.length → (doneK (fun _ => true) ws h k).getD i [] = (lastD (ws.take k) i).getD (h.getD i [])
  | 0, _ => by simp [doneK, lastD]
  | k + 1, hk => by
    have ih := done_last ws h i hi hw k (by omega)
    have hk' : k < ws.length := hk
    have hg : ws.getD k (0, []) = ws[k] := by rw [List.getD_eq_getElem?_getD, List.getElem?_eq_getElem hk', Option.getD_some]
    have h0 := hw _ (List.getElem_mem hk')
    rw [List.take_succ_eq_append_getElem hk', lastD_snoc, doneK, if_pos rfl, hg]
    have hl : i < (doneK (fun _ => true) ws h k).length := by rw [doneK_len]; exact hi
    by_cases e : ws[k].1 = (i : Int)
    · rw [if_pos e, Option.getD_some, List.getD_eq_getElem?_getD, show ws[k].1.toNat = i by omega, List.getElem?_set_self hl, Option.getD_some]
    · rw [if_neg e, ← ih, List.getD_eq_getElem?_getD, List.getD_eq_getElem?_getD, List.getElem?_set_ne (by omega)]
theorem read_write (h : List (List UInt8)) (ws : List (Int × List UInt8)) (b : Int) (o : Bool) (ys : List Value) (cp : Nat) (j : Int) (s : List UInt8) (i : Nat) : readD ⟨h, ws ++ [(j, s)], b, o, ys, cp⟩ i = if j = (i : Int) then s else readD ⟨h, ws, b, o, ys, cp⟩ i := by
  unfold readD
  rw [lastD_snoc]
  split <;> rfl
theorem read_flush (h : List (List UInt8)) (ws : List (Int × List UInt8)) (b b' : Int) (o o' : Bool) (ys : List Value) (cp : Nat) (i : Nat) (hi : i < h.length) (hw : ∀ p ∈ ws, 0 ≤ p.1) : readD ⟨doneK (fun _ => true) ws h ws.length, [], b, o, ys, cp⟩ i = readD ⟨h, ws, b', o', ys, cp⟩ i := by
  unfold readD
  have := done_last ws h i hi hw ws.length (Nat.le_refl _)
  rw [List.take_length] at this
  exact this
end Go.Proofs.Ytkadehdbnkinlaa
