/-
  The chapter's examples; octets and tokens, no more than are looked at. A part of the proof: see the head of the text that ends in 'Law'.
-/
import Derived.Test.YtaoigplmkckieaaMa18
import Derived.Lib.SlBytesConst
namespace Go.Proofs.Ytaoigplmkckieaa
open Go.RowKit
set_option linter.unusedVariables false

/-- How many octets are looked at. -/
def fewN (n : Nat) : Nat := if 65537 < n then 65537 else if 700 < n ∧ n ≤ 65536 then 700 else n
theorem fewN_le (n : Nat) : fewN n ≤ n ∧ (fewN n ≤ 700 ∨ fewN n = 65537) := by
  unfold fewN
  split
  · omega
  · split <;> omega
theorem few_any (A : Option Addr) (n c : Nat) (l : List UInt8) (w : World) (ho : Oct w A n l) (hc : n ≤ c) (hcm : c ≤ maxLen) :
    Calls Try.prog 8 #[.slice A n c] w fun e w' => e = .returned (.slice A (fewN n) c) ∧ w = w' := by
  unfold maxLen at hcm
  by_cases h : 65537 < n
  · have hd : decide ((65537 : Int) < n) = true := by simp; omega
    have hc1 : (65537 : Int) ≤ c := by omega
    have hm : fewN n = 65537 := by unfold fewN; rw [if_pos h]
    have d2 : decide ((700 : Int) < 65537) = true := rfl
    have d3 : decide ((65537 : Int) ≤ 65536) = false := rfl
    rw [hm]
    clear hm ho
    go_enter Try.func8, Try.ntmps8
    go_wp2
    go_ret
    exact ⟨rfl, rfl⟩
  · have hd : decide ((65537 : Int) < n) = false := by simp; omega
    by_cases h2 : 700 < n
    · have d2 : decide ((700 : Int) < n) = true := by simp; omega
      by_cases h3 : n ≤ 65536
      · have d3 : decide ((n : Int) ≤ 65536) = true := by simp; omega
        have hc1 : (700 : Int) ≤ c := by omega
        have hm : fewN n = 700 := by unfold fewN; rw [if_neg h, if_pos ⟨h2, h3⟩]
        rw [hm]
        clear hm ho
        go_enter Try.func8, Try.ntmps8
        go_wp2
        go_ret
        exact ⟨rfl, rfl⟩
      · have d3 : decide ((n : Int) ≤ 65536) = false := by simp; omega
        have hm : fewN n = n := by unfold fewN; rw [if_neg h, if_neg (by omega)]
        rw [hm]
        clear hm ho
        go_enter Try.func8, Try.ntmps8
        go_wp2
        go_ret
        exact ⟨rfl, rfl⟩
    · have d2 : decide ((700 : Int) < n) = false := by simp; omega
      have hm : fewN n = n := by unfold fewN; rw [if_neg h, if_neg (by omega)]
      rw [hm]
      clear hm ho
      go_enter Try.func8, Try.ntmps8
      go_wp2
      go_ret
      exact ⟨rfl, rfl⟩
theorem tokens_any (A : Option Addr) (n c : Nat) (w : World) (hc : n ≤ c) (hcm : c ≤ maxLen) :
    Calls Try.prog 13 #[.slice A n c] w fun e w' => e = .returned (.slice A (min n 120) c) ∧ w = w' := by
  unfold maxLen at hcm
  by_cases h : 120 < n
  · have hd : decide ((120 : Int) < n) = true := by simp; omega
    have hm : min n 120 = 120 := by omega
    have hc1 : (120 : Int) ≤ c := by omega
    rw [hm]
    clear hm
    go_enter Try.func13, Try.ntmps13
    go_wp2
    go_ret
    exact ⟨rfl, rfl⟩
  · have hd : decide ((120 : Int) < n) = false := by simp; omega
    have hm : min n 120 = n := by omega
    rw [hm]
    clear hm
    go_enter Try.func13, Try.ntmps13
    go_wp2
    go_ret
    exact ⟨rfl, rfl⟩
def T4 : List Tok := [⟨97, 0, 0⟩, ⟨0, 3, 1⟩]
def T7 : List Tok := [⟨97, 0, 0⟩, ⟨98, 0, 0⟩, ⟨99, 0, 0⟩, ⟨0, 3, 3⟩, ⟨100, 0, 0⟩]
theorem tk4 : toks [97, 97, 97, 97] 0 = T4 := by
  rw [toks_in (by decide), show tokAt [97, 97, 97, 97] 0 = ⟨97, 0, 0⟩ by decide +kernel, show stepAt [97, 97, 97, 97] 0 = 1 by decide +kernel,
    toks_in (by decide), show tokAt [97, 97, 97, 97] (0 + 1) = ⟨0, 3, 1⟩ by decide +kernel, show stepAt [97, 97, 97, 97] (0 + 1) = 3 by decide +kernel, toks_out (by decide)]
  rfl
theorem tk7 : toks [97, 98, 99, 97, 98, 99, 100] 0 = T7 := by
  rw [toks_in (by decide), show tokAt [97, 98, 99, 97, 98, 99, 100] 0 = ⟨97, 0, 0⟩ by decide +kernel, show stepAt [97, 98, 99, 97, 98, 99, 100] 0 = 1 by decide +kernel,
    toks_in (by decide), show tokAt [97, 98, 99, 97, 98, 99, 100] (0 + 1) = ⟨98, 0, 0⟩ by decide +kernel, show stepAt [97, 98, 99, 97, 98, 99, 100] (0 + 1) = 1 by decide +kernel,
    toks_in (by decide), show tokAt [97, 98, 99, 97, 98, 99, 100] (0 + 1 + 1) = ⟨99, 0, 0⟩ by decide +kernel, show stepAt [97, 98, 99, 97, 98, 99, 100] (0 + 1 + 1) = 1 by decide +kernel,
    toks_in (by decide), show tokAt [97, 98, 99, 97, 98, 99, 100] (0 + 1 + 1 + 1) = ⟨0, 3, 3⟩ by decide +kernel, show stepAt [97, 98, 99, 97, 98, 99, 100] (0 + 1 + 1 + 1) = 3 by decide +kernel,
    toks_in (by decide), show tokAt [97, 98, 99, 97, 98, 99, 100] (0 + 1 + 1 + 1 + 3) = ⟨100, 0, 0⟩ by decide +kernel, show stepAt [97, 98, 99, 97, 98, 99, 100] (0 + 1 + 1 + 1 + 3) = 1 by decide +kernel, toks_out (by decide)]
  rfl
theorem trow_block {W : World} {g : Nat} {T : TypeId} {cs : Array Value} {fr : Nat × Nat} (ts : List Tok) (h : W.heap[g]? = some (.cells cs T fr)) (hc : cs.toList = ts.flatMap Tok.cells := by rfl) : TRow W (some ⟨g, 0, none⟩) ts.length ts :=
  ⟨rfl, by
    have := Row.of_block h
    rwa [hc] at this⟩
theorem find4 (w : World) (g : Nat) {T : TypeId} {fr : Nat × Nat} (h : w.heap[g]? = some (.cells #[.int .u8 97, .int .u8 97, .int .u8 97, .int .u8 97] T fr)) : Calls Try.prog 9 #[.slice (some ⟨g, 0, none⟩) 4 4] w fun e w' => ∃ A' c', e = .returned (.tuple #[.slice A' 2 c', .int .i64 0]) ∧ TRow w' A' 2 T4 ∧ Below w.heap.size w w' :=
  (mFind_any w 4 4 _ _ (Oct.of_block [97, 97, 97, 97] h rfl) (by omega) (by unfold maxLen; omega) (by omega)).mono fun e w' h => by
    rw [tk4] at h
    obtain ⟨A', c', he, ht, _, _, hb⟩ := h
    exact ⟨A', c', he, ht, hb⟩
theorem find7 (w : World) (g : Nat) {T : TypeId} {fr : Nat × Nat} (h : w.heap[g]? = some (.cells #[.int .u8 97, .int .u8 98, .int .u8 99, .int .u8 97, .int .u8 98, .int .u8 99, .int .u8 100] T fr)) : Calls Try.prog 9 #[.slice (some ⟨g, 0, none⟩) 7 7] w fun e w' => ∃ A' c', e = .returned (.tuple #[.slice A' 5 c', .int .i64 0]) ∧ TRow w' A' 5 T7 ∧ Below w.heap.size w w' :=
  (mFind_any w 7 7 _ _ (Oct.of_block [97, 98, 99, 97, 98, 99, 100] h rfl) (by omega) (by unfold maxLen; omega) (by omega)).mono fun e w' h => by
    rw [tk7] at h
    obtain ⟨A', c', he, ht, _, _, hb⟩ := h
    exact ⟨A', c', he, ht, hb⟩
theorem ex1 : expAll 9 [⟨0, 3, 1⟩] = ([], 12, 0) := by decide +kernel
theorem exp1 (w : World) (g : Nat) {T : TypeId} {fr : Nat × Nat} (h : w.heap[g]? = some (.cells #[.int .u8 0, .int .i64 3, .int .i64 1] T fr)) : Calls Try.prog 14 #[.slice (some ⟨g, 0, none⟩) 1 1, .int .i64 9] w fun e w' => ∃ A' c', e = .returned (.tuple #[.slice A' 0 c', .int .i64 12, .int .i64 0]) ∧ Below w.heap.size w w' :=
  (mExp_any w _ 1 1 _ (trow_block [⟨0, 3, 1⟩] h) (by omega) 9 (by omega)).mono fun e w' h => by
    rw [ex1] at h
    obtain ⟨A', c', he, _, hb⟩ := h
    exact ⟨A', c', he, hb⟩
theorem same4 (w : World) (A : Option Addr) (g c d : Nat) {T : TypeId} {fr : Nat × Nat} (ha : TRow w A 2 T4) (h : w.heap[g]? = some (.cells #[.int .u8 97, .int .i64 0, .int .i64 0, .int .u8 0, .int .i64 3, .int .i64 1] T fr)) : Calls Try.prog 11 #[.slice A 2 c, .slice (some ⟨g, 0, none⟩) 2 d] w fun e w' => e = .returned (.bool true) ∧ Below w.heap.size w w' :=
  sameT_any A _ 2 c 2 d T4 T4 w ha (trow_block T4 h) (by omega)
theorem same7 (w : World) (A : Option Addr) (g c d : Nat) {T : TypeId} {fr : Nat × Nat} (ha : TRow w A 5 T7) (h : w.heap[g]? = some (.cells #[.int .u8 97, .int .i64 0, .int .i64 0, .int .u8 98, .int .i64 0, .int .i64 0, .int .u8 99, .int .i64 0, .int .i64 0, .int .u8 0, .int .i64 3, .int .i64 3, .int .u8 100, .int .i64 0, .int .i64 0] T fr)) : Calls Try.prog 11 #[.slice A 5 c, .slice (some ⟨g, 0, none⟩) 5 d] w fun e w' => e = .returned (.bool true) ∧ Below w.heap.size w w' :=
  sameT_any A _ 5 c 5 d T7 T7 w ha (trow_block T7 h) (by omega)
set_option maxHeartbeats 1000000 in
theorem awake_any (w : World) :
    Calls Try.prog 10 #[] w fun e w' => e = .returned (.bool true) ∧ Below w.heap.size w w' := by
  have B := hid (Below.refl w.heap.size w)
  have kc := fun (w : World) (C : Array Value) (n c : Nat) => Lib.run_convert_bytes_const (P := Try.prog) w 22 5 C n c Try.underlying22 Try.underlying5
  go_enter Try.func10, Try.ntmps10
  go_wp2_with (first
    | (go_at_call 9; (with_reducible refine (find4 _ _ (heap_alloc_new w _)).mono ?_); rintro e w1 ⟨A1, c1, rfl, t1, x1⟩; have b1 := next ((Below.refl _ w).alloc (Nat.le_refl _) _) x1; ((first | replace B := B.far b1 | replace B := hid (B.out.below b1) | skip); (first | replace T1 := T1.far b1 | replace T1 := hid (T1.out.below b1) | skip); (first | replace T2 := T2.far b1 | replace T2 := hid (T2.out.below b1) | skip)); have T1 := hid t1; clear x1 b1 t1)
    | (go_at_call 9; (with_reducible refine (find7 _ _ (heap_alloc_new w1 _)).mono ?_); rintro e w2 ⟨A2, c2, rfl, t2, x2⟩; have b2 := next ((Below.refl _ w1).alloc (Nat.le_refl _) _) x2; ((first | replace B := B.far b2 | replace B := hid (B.out.below b2) | skip); (first | replace T1 := T1.far b2 | replace T1 := hid (T1.out.below b2) | skip); (first | replace T2 := T2.far b2 | replace T2 := hid (T2.out.below b2) | skip)); have T2 := hid t2; clear x2 b2 t2)
    | (go_at_call 14; (with_reducible refine (exp1 _ _ (heap_alloc_new w2 _)).mono ?_); rintro e w3 ⟨A3, c3, rfl, x3⟩; have b3 := next ((Below.refl _ w2).alloc (Nat.le_refl _) _) x3; ((first | replace B := B.far b3 | replace B := hid (B.out.below b3) | skip); (first | replace T1 := T1.far b3 | replace T1 := hid (T1.out.below b3) | skip); (first | replace T2 := T2.far b3 | replace T2 := hid (T2.out.below b3) | skip)); clear x3 b3)
    | (go_at_call 11; (with_reducible refine (same4 _ A1 _ c1 2 (T1.out.below ((Below.refl _ w3).alloc (Nat.le_refl _) _)) (heap_alloc_new w3 _)).mono ?_); rintro e w4 ⟨rfl, x4⟩; have b4 := next ((Below.refl _ w3).alloc (Nat.le_refl _) _) x4; ((first | replace B := B.far b4 | replace B := hid (B.out.below b4) | skip); (first | replace T1 := T1.far b4 | replace T1 := hid (T1.out.below b4) | skip); (first | replace T2 := T2.far b4 | replace T2 := hid (T2.out.below b4) | skip)); clear x4 b4)
    | (go_at_call 11; (with_reducible refine (same7 _ A2 _ c2 5 (T2.out.below ((Below.refl _ w4).alloc (Nat.le_refl _) _)) (heap_alloc_new w4 _)).mono ?_); rintro e w5 ⟨rfl, x5⟩; have b5 := next ((Below.refl _ w4).alloc (Nat.le_refl _) _) x5; ((first | replace B := B.far b5 | replace B := hid (B.out.below b5) | skip); (first | replace T1 := T1.far b5 | replace T1 := hid (T1.out.below b5) | skip); (first | replace T2 := T2.far b5 | replace T2 := hid (T2.out.below b5) | skip)); clear x5 b5))
  go_ret
  exact ⟨rfl, B.out⟩
end Go.Proofs.Ytaoigplmkckieaa
