/-
  The law's few and some: walks. A part of the proof: see the head of the text that ends in 'Law'.
-/
import Derived.Test.YtlhngieinmgooaaTr12
namespace Go.Proofs.Ytlhngieinmgooaa
open Go.RowKit
set_option linter.unusedVariables false
set_option maxRecDepth 100000
attribute [local go_sem] Oper.semAt_some

theorem row_take {w : World} {A : Option Addr} {xs : List Value} (h : Row w A xs) (k : Nat) : Row w A (xs.take k) := fun hn => by
  obtain ⟨b, off, hA, hc⟩ := h (by intro e; subst e; simp at hn)
  refine ⟨b, off, hA, fun j v hv => hc j v ?_⟩
  rw [List.getElem?_take] at hv
  split at hv
  · exact hv
  · cases hv
theorem paC_take (l : List Pa) (k : Nat) : (l.take k).flatMap paC = (l.flatMap paC).take (k * 2) := by
  rcases Nat.le_total l.length k with h | h
  · rw [List.take_of_length_le h, List.take_of_length_le (by rw [paC_len]; omega)]
  · conv => rhs; rw [← List.take_append_drop k l, List.flatMap_append]
    have hl2 : ((l.take k).flatMap paC).length = k * 2 := by rw [paC_len, List.length_take, Nat.min_eq_left h]
    rw [← hl2, List.take_left]
theorem few_any (A : Option Addr) (n c : Nat) (l : List Pa) (w : World) (hr : Row w A (l.flatMap paC)) (hn : l.length = n) (hnc : n ≤ c) :
    Calls Try.prog 6 #[.slice A n c] w fun e w' => w = w' ∧ ∃ k c', e = .returned (.slice A k c') ∧ k ≤ c' ∧ (l.take 601).length = k ∧ Row w A ((l.take 601).flatMap paC) := by
  have HR : Hid (Row w A ((l.take 601).flatMap paC)) := hid (by rw [paC_take]; exact row_take hr _)
  by_cases h : 601 < n
  · have g1 : decide ((601 : Int) < (n : Int)) = true := by rw [decide_eq_true_iff]; omega
    have g1n : decide (601 < n) = true := by simpa using h
    have z1 : (601 : Int) ≤ (c : Int) := by omega
    have z2 : 601 ≤ c := by omega
    have HL : Hid ((l.take 601).length = 601) := hid (by rw [List.length_take, hn]; omega)
    obtain ⟨b, off, rfl, -⟩ := pa_at hr (k := 0) (by omega)
    clear hr hn
    go_enter Try.func6, Try.ntmps6
    go_wp2_with fail
    go_ret
    exact ⟨rfl, 601, c, rfl, z2, HL.out, HR.out⟩
  · have g1 : decide ((601 : Int) < (n : Int)) = false := by rw [decide_eq_false_iff_not]; omega
    have g1n : decide (601 < n) = false := by rw [decide_eq_false_iff_not]; exact h
    have HL : Hid ((l.take 601).length = n) := hid (by rw [List.length_take, hn]; omega)
    clear hr hn
    go_enter Try.func6, Try.ntmps6
    go_wp2_with fail
    go_ret
    exact ⟨rfl, n, c, rfl, hnc, HL.out, HR.out⟩
def someP (n : Nat) : List Pa := (List.range n).map fun i => ⟨i + 1, 3 * (i + 1)⟩
theorem someP_succ (j : Nat) : someP (j + 1) = someP j ++ [⟨j + 1, 3 * (j + 1)⟩] := by
  unfold someP
  rw [List.range_succ, List.map_append]
  rfl
set_option maxHeartbeats 2000000 in
theorem some_any (n : Nat) (w : World) (hn : n ≤ 1000) :
    Calls Try.prog 9 #[.int .i64 (n : Int)] w fun e w' => ∃ A c, e = .returned (.slice A n c) ∧ w'.ownsRow w.heap.size 48 2 (.slice A n c) n ((someP n).flatMap paC) ∧ Below w.heap.size w w' := by
  have I0 : Hid (w.ownsRow w.heap.size 48 2 (.slice none 0 0) 0 ((someP 0).flatMap paC) ∧ Below w.heap.size w w) := hid ⟨World.ownsRow_nil _ _ _ _, Below.refl _ _⟩
  go_enter Try.func9, Try.ntmps9
  go_wp2_with fail
  go_loopw [3, 4] (fun v3 v4 wr => ∃ (j q : Nat) (A : Option Addr) (c : Nat), j ≤ n ∧ q = j + 1 ∧ v3 = .slice A j c ∧ v4 = .int .i64 (q : Int) ∧ Hid (wr.ownsRow w.heap.size 48 2 (.slice A j c) j ((someP j).flatMap paC) ∧ Below w.heap.size w wr)) (fun v3 v4 wr => n + 1 - (intOf v4).toNat)
  case atStart => exact ⟨0, 1, none, 0, Nat.zero_le _, rfl, rfl, rfl, I0⟩
  case round =>
    clear I0
    obtain ⟨j, q, A, c, hj, hq, rfl, rfl, HI⟩ := hrel
    rename World => wr
    by_cases hlt : q ≤ n
    · have g1 : decide ((q : Int) ≤ (n : Int)) = true := by rw [decide_eq_true_iff]; omega
      have g1n : decide (q ≤ n) = true := by simpa using hlt
      have u0 : (0 : Int) ≤ (q : Int) := by omega
      have u1 : (q : Int) ≤ 1001 := by omega
      obtain ⟨t, ht⟩ : ∃ t, 3 * q = t := ⟨_, rfl⟩
      have hti : 3 * (q : Int) = (t : Int) := by omega
      have HS : Hid ((someP (j + 1)).flatMap paC = (someP j).flatMap paC ++ [.int .u64 (q : Int), .int .u64 (t : Int)]) := hid (by
        rw [someP_succ, List.flatMap_append, ← ht, hq]
        rfl)
      have v0 : (0 : Int) ≤ (t : Int) := by omega
      have v1 : (t : Int) ≤ 3003 := by omega
      have w1 : IntKind.i64.wrap (t : Int) = (t : Int) := by rw [IntKind.wrap_i64]; omega
      have w2 : IntKind.u64.wrap (t : Int) = (t : Int) := by rw [IntKind.wrap_u64]; omega
      have w3 : IntKind.u64.wrap (q : Int) = (q : Int) := by rw [IntKind.wrap_u64]; omega
      have HX := hid ((Below.refl _ wr).alloc (Nat.le_refl _) (.cells #[.int .u64 (q : Int), .int .u64 (t : Int)] 48))
      have HQ := hid hq
      clear ht hq
      go_wp2_with (
         refine wpList_append_row _ rfl (.tmp 10) (.tmp 17) paT rfl w.heap.size (.slice A j c) j ((someP j).flatMap paC) rfl (own_below HI.out.1 HX.out) (some ⟨wr.heap.size, 0, none⟩) 1 1 [.int .u64 (q : Int), .int .u64 (t : Int)] rfl rfl (Row.of_block (heap_alloc_new wr (Obj.cells #[.int .u64 (q : Int), .int .u64 (t : Int)] 48))) (by simp [Value.oneCell']) (by simp only [maxLen]; omega) (by omega) (Nat.le_trans HI.out.2.size HX.out.size) ?_
         intro A5 c5 w5 ho5 hg5 hh5
         have HO5 := hid ho5
         have HB5 := hid ((past HI.out.2 HX.out).grown hg5 (Nat.le_trans HI.out.2.size HX.out.size) (own_base (own_below HI.out.1 HX.out)))
         clear ho5 hg5 hh5)
      go_roundw
      case rel => exact ⟨j + 1, q + 1, A5, c5, by have := HQ.out; omega, by have := HQ.out; omega, rfl, by go_num, hid ⟨by rw [HS.out]; exact HO5.out, HB5.out⟩⟩
      case measure => simp [intOf]; omega
    · have g1 : decide ((q : Int) ≤ (n : Int)) = false := by rw [decide_eq_false_iff_not]; omega
      have g1n : decide (q ≤ n) = false := by rw [decide_eq_false_iff_not]; exact hlt
      have hjn : j = n := by omega
      subst hjn
      clear hq
      go_wp2_with fail
      go_ret
      exact ⟨A, c, rfl, HI.out.1, HI.out.2⟩
end Go.Proofs.Ytlhngieinmgooaa
