/-
  What a sector itself has. A part of the proof: see the head of the text that ends in 'Law'.
-/
import Derived.Test.YtkadehdbnkinlaaDk6
namespace Go.Proofs.Ytkadehdbnkinlaa
open Go.RowKit
set_option linter.unusedVariables false
attribute [local go_sem] Oper.semAt_some

theorem secC_get : ∀ (l : List (List UInt8)), (∀ s ∈ l, s.length = 128) → ∀ (k : Nat) (hk : k < l.length) (j : Nat), j < 128 → (secC l)[k * 128 + j]? = ((l[k]'hk).map B8)[j]?
  | [], _, k, hk, _, _ => by simp at hk
  | s :: l, h, 0, _, j, hj => by
    unfold secC
    rw [List.flatMap_cons, Nat.zero_mul, Nat.zero_add, List.getElem?_append_left (by rw [List.length_map, h s List.mem_cons_self]; exact hj)]
    rfl
  | s :: l, h, k + 1, hk, j, hj => by
    have ih := secC_get l (fun x hx => h x (List.mem_cons_of_mem _ hx)) k (by simpa using hk) j hj
    unfold secC at ih ⊢
    rw [List.flatMap_cons, List.getElem?_append_right (by rw [List.length_map, h s List.mem_cons_self]; omega), List.length_map, h s List.mem_cons_self, show (k + 1) * 128 + j - 128 = k * 128 + j by omega, ih]
    rfl
theorem DkAt.range {W : World} {b0 d hb : Nat} {V : Value} {D : Dsk} (h : DkAt W b0 d hb V D) (k : Nat) (hk : k < D.has.length) : W.rangeAt hb (k * 128) ((D.has[k]'hk).map B8) := fun j v hv => by
  have hl := h.len _ (List.getElem_mem hk)
  have hj : j < 128 := by
    rcases Nat.lt_or_ge j 128 with h1 | h1
    · exact h1
    · rw [List.getElem?_eq_none (by rw [List.length_map, hl]; exact h1)] at hv; cases hv
  have hlt : k * 128 + j < (secC D.has).length := by
    rcases Nat.lt_or_ge (k * 128 + j) (secC D.has).length with h1 | h1
    · exact h1
    · have := secC_get D.has h.len k hk j hj
      rw [List.getElem?_eq_none h1, hv] at this
      cases this
  exact h.sect.cell (by rw [List.getElem?_append_left hlt, secC_get D.has h.len k hk j hj]; exact hv)
theorem sec_info : (Try.prog.info? 64).map (·.size) = some 128 := by kernel_rfl
set_option maxHeartbeats 1000000 in
theorem has_any {W : World} {b0 d hb : Nat} {V : Value} {D : Dsk} (h : DkAt W b0 d hb V D) (k : Nat) (hk : k < D.has.length) :
    Calls Try.prog 25 #[.pointer (some ⟨d, 0, none⟩), .int .i64 (k : Int)] W fun e w' => e = .returned (.tuple #[.slice (some ⟨W.heap.size, 0, none⟩) 128 128, .int .i64 0]) ∧ w' = W.alloc (.cells ((D.has[k]'hk).map B8).toArray 64) := by
  have hl := h.len _ (List.getElem_mem hk)
  have HR := hid (h.range k hk)
  have his := is_any h (k : Int)
  rw [decide_eq_true ⟨by omega, by omega⟩] at his
  have HIS := hid his
  have x0 := h.cells.cell (j := 0) rfl
  obtain ⟨s, hs⟩ : ∃ s, D.has[k]'hk = s := ⟨_, rfl⟩
  rw [hs] at hl HR ⊢
  obtain ⟨n, hn⟩ : ∃ n, D.has.length = n := ⟨_, rfl⟩
  rw [hn] at x0 hk
  have HSZ := hid (show (Try.prog.info? 64).map (·.size) = some (s.map B8).length by rw [sec_info, List.length_map, hl])
  have HOC := hid (fun w => octets_any s hl w)
  have i0 : (0 : Int) ≤ (k : Int) := by omega
  have i1 : (k : Int) < (n : Int) := by omega
  have i2 : (k : Int).toNat = k := by omega
  obtain ⟨A, hA⟩ : ∃ A, (s.map B8).toArray = A := ⟨_, rfl⟩
  rw [hA] at HOC ⊢
  have HA := hid hA
  clear h hs hn hl his hA
  go_enter Try.func25, Try.ntmps25
  go_wp2_with (first
    | (go_at_call 27; (with_reducible refine HIS.out.mono ?_); rintro e w1 ⟨rfl, hw⟩; subst hw)
    | (refine wpList_load_mid rfl 64 (.tmp 15) rfl hb (k * 128) rfl (s.map B8) _ HR.out Try.underlying64 rfl HSZ.out ?_; rw [HA.out])
    | (go_at_call 32; (with_reducible refine (HOC.out _).mono ?_); rintro e w1 ⟨rfl, hw⟩; subst hw))
  go_ret2
  exact ⟨rfl, rfl⟩
theorem has_no {W : World} {b0 d hb : Nat} {V : Value} {D : Dsk} (h : DkAt W b0 d hb V D) (i : Int) (hi : ¬ (0 ≤ i ∧ i < D.has.length)) :
    Calls Try.prog 25 #[.pointer (some ⟨d, 0, none⟩), .int .i64 i] W fun e w' => e = .returned (.tuple #[.slice none 0 0, .int .i64 4]) ∧ W = w' := by
  have his := is_any h i
  rw [decide_eq_false hi] at his
  have HIS := hid his
  clear h hi his
  go_enter Try.func25, Try.ntmps25
  go_wp2_with (go_at_call 27; (with_reducible refine HIS.out.mono ?_); rintro e w1 ⟨rfl, hw⟩; subst hw)
  go_ret2
  exact ⟨rfl, rfl⟩
end Go.Proofs.Ytkadehdbnkinlaa
