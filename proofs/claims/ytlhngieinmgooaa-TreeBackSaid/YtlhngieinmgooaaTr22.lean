/-
  The same pairs: the document's walk. A part of the proof: see the head of the text that ends in 'Law'.
-/
import Derived.Test.YtlhngieinmgooaaTr8
namespace Go.Proofs.Ytlhngieinmgooaa
open Go.RowKit
set_option linter.unusedVariables false
set_option maxRecDepth 100000
attribute [local go_sem] Oper.semAt_some

theorem run_equal_pa (w : World) (x y : Pa) : (Op.equalIn 10000 48 (.agg #[.int .u64 (x.key : Int), .int .u64 (x.val : Int)]) (.agg #[.int .u64 (y.key : Int), .int .u64 (y.val : Int)])).run Try.prog w = .ok (decide (x = y)) w := by
  rw [run_equalIn_struct w 9999 48 _ _ (by kernel_rfl) (by kernel_rfl)]
  obtain ⟨a, b⟩ := x
  obtain ⟨d, e⟩ := y
  by_cases h1 : a = d
  · subst h1
    by_cases h2 : b = e
    · subst h2
      simp [Program.fieldsOf, Try.underlying48, Op.eqFields, go_sem]
    · have h2' : ¬ (b : Int) = (e : Int) := by omega
      simp [Program.fieldsOf, Try.underlying48, Op.eqFields, go_sem, h2]
      exact h2'
  · have h1' : ¬ (a : Int) = (d : Int) := by omega
    simp [Program.fieldsOf, Try.underlying48, Op.eqFields, go_sem, h1]
    exact fun h => absurd h h1'
set_option maxHeartbeats 4000000 in
theorem same_any (A B : Option Addr) (n c m d : Nat) (l k : List Pa) (w : World) (hl : Row w A (l.flatMap paC)) (hk : Row w B (k.flatMap paC)) (hn : l.length = n) (hm : k.length = m) (hs : n ≤ 1000) :
    Calls Try.prog 16 #[.slice A n c, .slice B m d] w fun e w' => e = .returned (.bool (decide (l = k))) ∧ Below w.heap.size w w' := by
  have HL := hid hl
  have HK := hid hk
  have HN := hid hn
  have HM := hid hm
  clear hl hk hn hm
  by_cases hnm : n = m
  · subst hnm
    have I0 : Hid (l.take 0 = k.take 0 ∧ Below w.heap.size w w) := hid ⟨rfl, Below.refl _ _⟩
    go_enter Try.func16, Try.ntmps16
    go_wp2_with fail
    go_loopw [5] (fun v5 wr => ∃ j : Nat, j ≤ n ∧ v5 = .int .i64 (j : Int) ∧ Hid (l.take j = k.take j ∧ Below w.heap.size w wr)) (fun v5 wr => n - (intOf v5).toNat)
    case atStart => exact ⟨0, Nat.zero_le _, rfl, I0⟩
    case round =>
      clear I0
      obtain ⟨j, hj, rfl, HI⟩ := hrel
      rename World => wr
      by_cases hlt : j < n
      · have g1 := lt_t hlt
        have g1' := lt_nt hlt
        have q0 : (0 : Int) ≤ (j : Int) := by omega
        have q1 : (j : Int) < (n : Int) := by omega
        have q2 : (j : Int).toNat = j := by omega
        have hj1 : j < l.length := by rw [HN.out]; exact hlt
        have hj2 : j < k.length := by rw [HM.out]; exact hlt
        obtain ⟨b1, o1, rfl, r1⟩ := pa_at HL.out hj1
        obtain ⟨b2, o2, rfl, r2⟩ := pa_at HK.out hj2
        obtain ⟨x, hx⟩ : ∃ x, l[j] = x := ⟨_, rfl⟩
        obtain ⟨y, hy⟩ : ∃ y, k[j] = y := ⟨_, rfl⟩
        have x0 := cells_keep HI.out.2 (r1 j hj1).1
        have x1 := cells_keep HI.out.2 (r1 j hj1).2
        have y0 := cells_keep HI.out.2 (r2 j hj2).1
        have y1 := cells_keep HI.out.2 (r2 j hj2).2
        rw [hx] at x0 x1
        rw [hy] at y0 y1
        have heq := fun W => run_equal_pa W x y
        obtain ⟨t, ht⟩ : ∃ t, decide (x = y) = t := ⟨_, rfl⟩
        rw [ht] at heq
        have HST : Hid (l.take (j + 1) = k.take (j + 1) ↔ t = true) := hid (by
          rw [List.take_succ_eq_append_getElem hj1, List.take_succ_eq_append_getElem hj2, HI.out.1, ← ht, decide_eq_true_iff, hx, hy]
          constructor
          · intro h
            have := List.append_cancel_left h
            injection this
          · intro h
            rw [h])
        clear r1 r2 hx hy ht
        cases t with
        | true =>
          have HNX : Hid (l.take (j + 1) = k.take (j + 1)) := hid (HST.out.2 rfl)
          clear HST
          go_upto_region 6 with fail
          go_quiet (fail)
          go_wp2_with fail
          go_roundw
          case rel => exact ⟨j + 1, by omega, by go_num, hid ⟨HNX.out, bq HI.out.2 _⟩⟩
          case measure => simp [intOf]; omega
        | false =>
          have HF : Hid (decide (l = k) = false) := hid (by
            rw [decide_eq_false_iff_not]
            intro h
            have := HST.out.1 (by rw [h])
            cases this)
          clear HST
          go_upto_region 6 with fail
          go_quiet (fail)
          go_wp2_with fail
          go_ret
          exact ⟨by rw [HF.out]; rfl, bq HI.out.2 _⟩
      · have g1 := lt_f hlt
        have g1' := lt_nf hlt
        have HF : Hid (decide (l = k) = true) := hid (by
          rw [decide_eq_true_iff]
          have h := HI.out.1
          rwa [List.take_of_length_le (by rw [HN.out]; omega), List.take_of_length_le (by rw [HM.out]; omega)] at h)
        go_wp2_with fail
        go_ret
        exact ⟨by rw [HF.out]; rfl, HI.out.2⟩
  · have g0 : ((n : Int) == (m : Int)) = false := ne_f hnm
    have g0n : (n == m) = false := ne_n hnm
    have HF : Hid (decide (l = k) = false) := hid (by
      rw [decide_eq_false_iff_not]
      rintro rfl
      exact hnm (by rw [← HN.out, ← HM.out]))
    go_enter Try.func16, Try.ntmps16
    go_wp2_with fail
    go_ret
    exact ⟨by rw [HF.out]; rfl, Below.refl _ _⟩
end Go.Proofs.Ytlhngieinmgooaa
