/-
  How many pages; numbers put one behind the other; a page. A part of the proof: see the head of the text that ends in 'Law'.
-/
import Derived.Test.YtlhngieinmgooaaTrPlain
import Derived.Test.YtlhngieinmgooaaMem
import Derived.Test.YtlhngieinmgooaaExact
import Derived.Test.YtlhngieinmgooaaProg
namespace Go.Proofs.Ytlhngieinmgooaa
open Go.RowKit
set_option linter.unusedVariables false
set_option maxRecDepth 100000
attribute [local go_sem] Oper.semAt_some

theorem lt_t {a b : Nat} (h : a < b) : decide ((a : Int) < (b : Int)) = true := by simp; omega
theorem lt_nt {a b : Nat} (h : a < b) : decide (a < b) = true := by simpa using h
theorem lt_f {a b : Nat} (h : ¬ a < b) : decide ((a : Int) < (b : Int)) = false := by simp; omega
theorem lt_nf {a b : Nat} (h : ¬ a < b) : decide (a < b) = false := by simpa using h
theorem ne_f {a b : Nat} (h : a ≠ b) : ((a : Int) == (b : Int)) = false := by simp; omega
theorem ne_n {a b : Nat} (h : a ≠ b) : (a == b) = false := by simpa using h
theorem pagesF_more : ∀ (f g lv : Nat), lv ≤ f → lv ≤ g → pagesF f lv = pagesF g lv
  | 0, 0, lv, _, _ => rfl
  | 0, g + 1, lv, h, _ => by rw [pagesF, pagesF, if_pos (by omega)]
  | f + 1, 0, lv, _, h => by rw [pagesF, pagesF, if_pos (by omega)]
  | f + 1, g + 1, lv, h1, h2 => by
    rw [pagesF, pagesF]
    by_cases h : lv ≤ 1
    · rw [if_pos h, if_pos h]
    · have : aboveN lv 12 ≤ lv - 1 := by unfold aboveN; split <;> omega
      rw [if_neg h, if_neg h, pagesF_more f g _ (by omega) (by omega)]
theorem above7_any (n : Nat) (w : World) (hn : n ≤ 1000000) :
    Calls Try.prog 26 #[.int .i64 (n : Int), .int .i64 7] w fun e w' => e = .returned (.int .i64 (aboveN n 7 : Int)) ∧ w = w' := by
  obtain ⟨d, hd⟩ : ∃ d, (n + 7 - 1) / 7 = d := ⟨_, rfl⟩
  have hdi : ((n : Int) + 7 - 1) / 7 = (d : Int) := by omega
  have hdl : d ≤ 1000000 := by omega
  have HA : Hid (aboveN n 7 = if 1 < d then d else 1) := hid (by unfold aboveN; rw [hd])
  clear hd
  by_cases h1 : 1 < d
  · have g1 : decide ((1 : Int) < (d : Int)) = true := lt_t (a := 1) h1
    have g1' := lt_nt h1
    have g2 : (1 : Int) < (d : Int) := by omega
    have HF := hid (HA.out.trans (if_pos h1))
    clear HA
    go_enter Try.func26, Try.ntmps26
    go_wp2
    go_ret
    exact ⟨by rw [HF.out]; rfl, rfl⟩
  · have g1 : decide ((1 : Int) < (d : Int)) = false := lt_f (a := 1) h1
    have g1' := lt_nf h1
    have g2 : ¬ (1 : Int) < (d : Int) := by omega
    have HF := hid (HA.out.trans (if_neg h1))
    clear HA
    go_enter Try.func26, Try.ntmps26
    go_wp2
    go_ret
    exact ⟨by rw [HF.out]; rfl, rfl⟩
theorem above12_any (n : Nat) (w : World) (hn : n ≤ 1000000) :
    Calls Try.prog 26 #[.int .i64 (n : Int), .int .i64 12] w fun e w' => e = .returned (.int .i64 (aboveN n 12 : Int)) ∧ w = w' := by
  obtain ⟨d, hd⟩ : ∃ d, (n + 12 - 1) / 12 = d := ⟨_, rfl⟩
  have hdi : ((n : Int) + 12 - 1) / 12 = (d : Int) := by omega
  have hdl : d ≤ 1000000 := by omega
  have HA : Hid (aboveN n 12 = if 1 < d then d else 1) := hid (by unfold aboveN; rw [hd])
  clear hd
  by_cases h1 : 1 < d
  · have g1 : decide ((1 : Int) < (d : Int)) = true := lt_t (a := 1) h1
    have g1' := lt_nt h1
    have g2 : (1 : Int) < (d : Int) := by omega
    have HF := hid (HA.out.trans (if_pos h1))
    clear HA
    go_enter Try.func26, Try.ntmps26
    go_wp2
    go_ret
    exact ⟨by rw [HF.out]; rfl, rfl⟩
  · have g1 : decide ((1 : Int) < (d : Int)) = false := lt_f (a := 1) h1
    have g1' := lt_nf h1
    have g2 : ¬ (1 : Int) < (d : Int) := by omega
    have HF := hid (HA.out.trans (if_neg h1))
    clear HA
    go_enter Try.func26, Try.ntmps26
    go_wp2
    go_ret
    exact ⟨by rw [HF.out]; rfl, rfl⟩
def pagesI (n : Int) : Nat := if n < 0 ∨ 600 < n then 0 else pagesF (aboveN n.toNat 7) (aboveN n.toNat 7)
theorem aboveN_pos (n m : Nat) : 1 ≤ aboveN n m := by unfold aboveN; split <;> omega
theorem above7_le (n : Nat) (h : n ≤ 600) : aboveN n 7 ≤ 86 := by unfold aboveN; split <;> omega
theorem above12_le (n : Nat) (h : 1 < n) : aboveN n 12 ≤ n - 1 := by unfold aboveN; split <;> omega
theorem pagesF_le : ∀ (f lv : Nat), pagesF f lv ≤ 2 * lv + 1
  | 0, lv => by rw [pagesF]; omega
  | f + 1, lv => by
    rw [pagesF]
    split
    · omega
    · have := pagesF_le f (aboveN lv 12)
      have h2 : 2 * aboveN lv 12 ≤ lv := by unfold aboveN; split <;> omega
      omega
set_option maxHeartbeats 2000000 in
theorem pages_any (n : Int) (w : World) (hn : -9223372036854775808 ≤ n ∧ n ≤ 9223372036854775807) :
    Calls Try.prog 10 #[.int .i64 n] w fun e w' => e = .returned (.int .i64 (pagesI n : Int)) ∧ w = w' := by
  obtain ⟨hn1, hn2⟩ := hn
  by_cases h1 : n < 0
  · have g1 : decide (n < 0) = true := by simpa using h1
    have HF : Hid (pagesI n = 0) := hid (by unfold pagesI; rw [if_pos (.inl h1)])
    go_enter Try.func10, Try.ntmps10
    go_wp2
    go_ret
    exact ⟨by rw [HF.out]; rfl, rfl⟩
  · have g1 : decide (n < 0) = false := by simpa using h1
    by_cases h2 : 600 < n
    · have g2 : decide (600 < n) = true := by simpa using h2
      have HF : Hid (pagesI n = 0) := hid (by unfold pagesI; rw [if_pos (.inr h2)])
      go_enter Try.func10, Try.ntmps10
      go_wp2
      go_ret
      exact ⟨by rw [HF.out]; rfl, rfl⟩
    · obtain ⟨k, rfl⟩ := Int.eq_ofNat_of_zero_le (by omega : 0 ≤ n)
      have g2 : decide ((600 : Int) < (k : Int)) = false := by simpa using h2
      have hk : k ≤ 600 := by omega
      have g2' : decide (600 < k) = false := by simp; omega
      have g1' : decide ((k : Int) < 0) = false := g1
      have hl0 := above7_le k hk
      have hl1 := aboveN_pos k 7
      have H7 := hid (fun X => above7_any k X (by omega))
      have hpi : pagesI (k : Int) = pagesF (aboveN k 7) (aboveN k 7) := by
        unfold pagesI
        rw [if_neg (by omega), Int.toNat_natCast]
      obtain ⟨lv, hlv⟩ : ∃ lv, aboveN k 7 = lv := ⟨_, rfl⟩
      rw [hlv] at hpi hl0 hl1 H7
      have HPI := hid hpi
      have I0 : Hid (0 + pagesF lv lv = pagesF lv lv) := hid (Nat.zero_add _)
      clear hpi hlv
      go_enter Try.func10, Try.ntmps10
      go_wp2_with (go_at_call 26; refine (H7.out _).mono ?_; rintro e w1 ⟨rfl, rfl⟩)
      go_loopw [3, 4] (fun v3 v4 wr => ∃ a l : Nat, 1 ≤ l ∧ l ≤ 86 ∧ a ≤ 1000 ∧ v3 = .int .i64 (a : Int) ∧ v4 = .int .i64 (l : Int) ∧ Hid (a + pagesF l l = pagesF lv lv) ∧ w = wr) (fun v3 v4 wr => (intOf v4).toNat)
      case atStart => exact ⟨0, lv, hl1, hl0, by omega, rfl, rfl, I0, rfl⟩
      case round =>
        clear I0
        obtain ⟨a, l, hl2, hl3, ha, rfl, rfl, HI, rfl⟩ := hrel
        have hal : a ≤ 173 := by
          have h5 := HI.out
          have h6 := pagesF_le lv lv
          omega
        by_cases hl : l = 1
        · subst hl
          have HF : Hid (a + 1 = pagesF lv lv) := hid HI.out
          clear HI
          go_wp2_with fail
          go_ret
          exact ⟨by rw [HPI.out, ← HF.out]; go_num, rfl⟩
        · have q1 : ((l : Int) == 1) = false := ne_f (b := 1) hl
          have q1' : (l == 1) = false := ne_n hl
          have H12 := hid (fun X => above12_any l X (by omega))
          have h5 := above12_le l (by omega)
          have h6 := aboveN_pos l 12
          have hst : a + l + pagesF (aboveN l 12) (aboveN l 12) = pagesF lv lv := by
            rw [← HI.out]
            have : pagesF l l = l + pagesF (aboveN l 12) (aboveN l 12) := by
              obtain ⟨f, rfl⟩ : ∃ f, l = f + 1 := ⟨l - 1, by omega⟩
              conv => lhs; rw [pagesF, if_neg (by omega)]
              rw [pagesF_more f (aboveN (f + 1) 12) _ (by omega) (Nat.le_refl _)]
            omega
          obtain ⟨l2, hl2'⟩ : ∃ l2, aboveN l 12 = l2 := ⟨_, rfl⟩
          rw [hl2'] at H12 h5 h6 hst
          have HST := hid hst
          clear HI hst hl2'
          go_wp2_with (go_at_call 26; refine (H12.out _).mono ?_; rintro e w1 ⟨rfl, rfl⟩)
          go_roundw
          case rel => exact ⟨a + l, l2, h6, by omega, by omega, by go_num, rfl, HST, trivial⟩
          case measure => simp [intOf]; omega
theorem page_any (A : Option Addr) (n c : Nat) (l : List UInt8) (w : World) (ho : Oct w A n l) (hn : n ≤ 124) :
    Calls Try.prog 22 #[.slice A n c] w fun e w' => ∃ g, e = .returned (.slice (some ⟨g, 0, none⟩) 128 128) ∧ OwnE w' g 5 ((pageP l).map B8) ∧ w.heap.size ≤ g ∧ Below w.heap.size w w' := by
  have HS := hid (seal_any A n c l w ho (by omega))
  have hl : l.length = n := ho.1
  have HL := hid hl
  clear ho hl
  go_enter Try.func22, Try.ntmps22
  go_wp2_with (first
    | (go_at_call 38; refine HS.out.mono ?_; rintro e w1 ⟨A1, c1, rfl, hc1, ho1, b1⟩; have HO1 := hid ho1; have HB1 := hid b1; clear ho1 b1)
    | (go_at_call 37; refine (pad_own A1 (n + 4) c1 128 (l ++ le4 (sumL l)) _ HO1.out (by omega) (by omega)).mono ?_; rintro e w2 ⟨g, rfl, hh, hg, b2⟩; have HH := hid hh; have HG : Hid (w.heap.size ≤ g) := hid (Nat.le_trans HB1.out.size hg); have HB2 := hid (next HB1.out b2); clear hh hg b2))
  go_ret
  refine ⟨g, rfl, ?_, HG.out, HB2.out⟩
  have h := HH.out
  have e1 : l ++ le4 (sumL l) ++ List.replicate (128 - (n + 4)) 0 = pageP l := by
    unfold pageP padP
    rw [List.length_append, le4_length, HL.out]
  rw [e1] at h
  exact h
end Go.Proofs.Ytlhngieinmgooaa
