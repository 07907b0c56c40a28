/-
  A disk of noughts; a sector's octets. A part of the proof: see the head of the text that ends in 'Law'.
-/
import Derived.Test.YtkadehdbnkinlaaDk3
namespace Go.Proofs.Ytkadehdbnkinlaa
open Go.RowKit
set_option linter.unusedVariables false
attribute [local go_sem] Oper.semAt_some

def zSec : Value := .agg (Array.replicate 128 (.int .u8 0))
theorem secS : SliceT Try.prog 58 64 zSec 128 128 := ⟨Try.underlying58, by kernel_rfl, by simp [zSec, Value.cells], by omega⟩
theorem made_same (v : Value) (k m : Nat) (hk : 0 < k) : (madeCells (Array.replicate k v) m).toList = List.replicate m v := by
  refine List.ext_getElem? fun i => ?_
  unfold madeCells
  by_cases h : i < m
  · rw [Array.toList_map, List.getElem?_map, List.getElem?_replicate, if_pos h]
    simp [h]
    rw [Array.getElem!_eq_getD, Array.getD_eq_getD_getElem?, Array.getElem?_replicate, if_pos (Nat.mod_lt _ hk)]
    rfl
  · rw [List.getElem?_eq_none (by simp; omega), List.getElem?_eq_none (by simp; omega)]
theorem secC_zero (n : Nat) : secC (List.replicate n (List.replicate 128 0)) = List.replicate (n * 128) (Value.int .u8 0) := by
  unfold secC
  induction n with
  | zero => rfl
  | succ n ih =>
    rw [List.replicate_succ, List.flatMap_cons, ih, List.map_replicate, show B8 0 = Value.int .u8 0 from rfl, List.replicate_append_replicate]
    congr 1
    omega
theorem own_exact {w : World} {b0 size g n : Nat} {e : TypeId} {xs : List Value} (h : w.ownsRow b0 e size (.slice (some ⟨g, 0, none⟩) n n) n xs) : OwnE w g e xs := by
  rcases h.2 with ⟨e', _⟩ | ⟨k, cap, cur, e', _, hk, _, _, hs, ht⟩
  · cases e'
  · injection e' with e1 _ e3
    injection e1 with e1
    injection e1 with e1
    subst e1
    subst e3
    unfold OwnE
    rw [hk, ← ht, List.take_of_length_le (by rw [Array.length_toList]; omega)]
set_option maxHeartbeats 1000000 in
theorem new_any (n : Nat) (h1 : 1 ≤ n) (h2 : n ≤ 2048) (W : World) :
    Calls Try.prog 7 #[.int .i64 (n : Int)] W fun e w' => ∃ d hb, e = .returned (.tuple #[.pointer (some ⟨d, 0, none⟩), .int .i64 0]) ∧ DkAt w' W.heap.size d hb (.slice none 0 0) ⟨List.replicate n (List.replicate 128 0), [], -1, false, [], n⟩ ∧ Below W.heap.size W w' := by
  obtain ⟨i0, hi0, hz0, hz1, hz2⟩ := info_parts secS.info
  have Hz1 := hid hz1
  have Hz2 := hid hz2
  have Hi0 := hid hi0
  have Hz0 := hid hz0
  have d1 : decide ((n : Int) < 1) = false := by simp; omega
  have d1' : decide (n < 1) = false := by simp; omega
  have d2 : decide ((2048 : Int) < (n : Int)) = false := by simp; omega
  have d2' : decide (2048 < n) = false := by simp; omega
  have H1 := hid h1
  have H2 := hid h2
  clear hz1 hz2 hi0 hz0
  go_enter Try.func7, Try.ntmps7
  go_wp2_with (
    refine wpList_make_full _ rfl (.tmp 10) (.tmp 10) 58 rfl W.heap.size 64 i0 zSec 128 Try.underlying58 Hi0.out Hz0.out Hz1.out .i64 .i64 n n n rfl rfl rfl rfl (by rw [Hz2.out]; have := H2.out; omega) (by unfold maxLen; have := H2.out; omega) (Nat.le_refl _) ?_
    intro w1 ho1 hg1
    have hb1 := (Below.refl W.heap.size W).grown hg1 (Nat.le_refl _) (fun k hk => by cases hk)
    have HB1 := hid hb1
    have HOW := hid ho1
    clear hg1 ho1 hb1)
  go_ret2
  have hsec : OwnE w1 W.heap.size 64 (secC (List.replicate n (List.replicate 128 0))) := by
    rw [secC_zero]
    have := own_exact HOW.out
    rw [show zSec.cells = Array.replicate 128 (Value.int .u8 0) from rfl, made_same _ _ _ (by omega)] at this
    exact this
  refine ⟨_, _, rfl, ⟨HB1.out.size, Nat.le_refl _, ?_, (show OwnE _ _ _ (secC _ ++ []) by rw [List.append_nil]; exact hsec).below ((Below.refl _ _).alloc (Nat.le_refl _) _), World.ownsRow_nil _ _ _ _, fun s hs => ?_, (fun p hp => by cases hp), by rw [List.length_replicate]; exact H2.out, ⟨by show (-1 : Int) ≤ -1; omega, by show (-1 : Int) ≤ _; omega⟩⟩, HB1.out.alloc HB1.out.size _⟩
  · show OwnE _ _ _ [.slice _ (List.replicate n (List.replicate 128 (0 : UInt8))).length n, _, _, _]
    rw [List.length_replicate]
    exact heap_alloc_new w1 _
  · rw [List.eq_of_mem_replicate hs, List.length_replicate]
theorem new_no (n : Int) (h : n < 1 ∨ 2048 < n) (W : World) :
    Calls Try.prog 7 #[.int .i64 n] W fun e w' => e = .returned (.tuple #[.pointer none, .int .i64 1]) ∧ W = w' := by
  by_cases h1 : n < 1
  · have d1 : decide (n < 1) = true := by simpa using h1
    clear h h1
    go_enter Try.func7, Try.ntmps7
    go_wp2
    go_ret2
    exact ⟨rfl, rfl⟩
  · have d1 : decide (n < 1) = false := by simpa using h1
    have d2 : decide (2048 < n) = true := by simp; omega
    clear h h1
    go_enter Try.func7, Try.ntmps7
    go_wp2
    go_ret2
    exact ⟨rfl, rfl⟩
end Go.Proofs.Ytkadehdbnkinlaa
