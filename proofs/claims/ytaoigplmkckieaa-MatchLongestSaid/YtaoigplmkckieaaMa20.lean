/-
  MatchFinds, MatchExpands, MatchBest: the walks. A part of the proof: see the head of the text that ends in 'Law'.
-/
import Derived.Test.YtaoigplmkckieaaMa19
namespace Go.Proofs.Ytaoigplmkckieaa
open Go.RowKit
set_option linter.unusedVariables false

theorem str_self (l : List UInt8) : (str l == str l) = true := by
  show (l.toArray == l.toArray) = true
  simp
theorem sameT_eq (A B : Option Addr) (n c d : Nat) (xs : List Tok) (w : World) (ha : TRow w A n xs) (hb : TRow w B n xs) (hn : n ≤ 100000) :
    Calls Try.prog 11 #[.slice A n c, .slice B n d] w fun e w' => e = .returned (.bool true) ∧ Below w.heap.size w w' :=
  (sameT_any A B n c n d xs xs w ha hb hn).mono fun e w' ⟨he, hb⟩ => ⟨by rw [he, decide_eq_true rfl], hb⟩
set_option maxHeartbeats 1000000 in
theorem walkMatchFinds (A : Option Addr) (n c : Nat) (l : List UInt8) (w : World) (ho : Oct w A n l) (hn : n ≤ c) (hc : c ≤ maxLen) :
    Calls Try.prog 3 #[.slice A n c] w fun e w' => e = .returned (.bool true) ∧ Below w.heap.size w w' := by
  have hfw := few_any A n c l w ho hn hc
  have hf := fewN_le n
  obtain ⟨m, hm⟩ : ∃ m, fewN n = m := ⟨_, rfl⟩
  rw [hm] at hfw hf
  have hO : Oct w A m (l.take m) := ho.take m hf.1
  have hmc : m ≤ c := by omega
  have HC := hid hc
  obtain ⟨q, hq⟩ : ∃ q, l.take m = q := ⟨_, rfl⟩
  rw [hq] at hO
  have HO := hid hO
  have HF := hid hfw
  have s0 := strP c hO
  have B := hid (Below.refl w.heap.size w)
  clear hm hq hO ho hfw hc
  by_cases hbig : 65536 < m
  · have d1 : decide ((65536 : Int) < m) = true := by simp; omega
    have d1' : decide (65536 < m) = true := by simp; omega
    have HM := hid hbig
    clear hf hbig
    go_enter Try.func3, Try.ntmps3
    go_wp2_with (first
      | (go_at_call 8; (with_reducible refine HF.out.mono ?_); rintro e w' ⟨rfl, rfl⟩)
      | (go_at_call 9; (with_reducible refine (mFind_big _ m c A HM.out).mono ?_); rintro e w2 ⟨rfl, b2⟩; ((first | replace B := B.far b2 | replace B := hid (B.out.below b2) | skip)); clear b2)
      | (go_at_call 10; (with_reducible refine (awake_any _).mono ?_); rintro e w2 ⟨rfl, b2⟩; ((first | replace B := B.far b2 | replace B := hid (B.out.below b2) | skip)); clear b2))
    go_ret
    exact ⟨rfl, B.out⟩
  · have d1 : decide ((65536 : Int) < m) = false := by simp; omega
    have d1' : decide (65536 < m) = false := by simp; omega
    have hm7 : m ≤ 700 := by omega
    have hql : q.length ≤ 700 := by rw [HO.out.1]; omega
    have hts := toks_few q
    have HP := hid (mFind_any w m c A q HO.out hmc HC.out (by omega))
    have HR := hid (fun W (h : Oct W A m q) => refFind_any W m c A q h (by omega))
    obtain ⟨ts, hts'⟩ : ∃ ts, toks q 0 = ts := ⟨_, rfl⟩
    rw [hts'] at HP HR hts
    have htl : ts.length ≤ 100000 := by omega
    have hss := str_self q
    clear hts' hf hbig hts hql
    go_enter Try.func3, Try.ntmps3
    go_wp2_with (first
      | (go_at_call 8; (with_reducible refine HF.out.mono ?_); rintro e w' ⟨rfl, rfl⟩)
      | (go_at_call 9; (with_reducible refine HP.out.mono ?_); rintro e w2 ⟨A2, c2, rfl, t2, hx1, hx2, b2⟩; ((first | replace B := B.far b2 | replace B := hid (B.out.below b2) | skip)); have T2 := hid t2; clear b2 t2 hx1 hx2)
      | (go_at_call 12; (with_reducible refine (HR.out _ (HO.out.below B.out)).mono ?_); rintro e w3 ⟨A3, c3, rfl, t3, b3⟩; ((first | replace B := B.far b3 | replace B := hid (B.out.below b3) | skip)); have T3 := hid t3; have T2 := hid (T2.out.below b3); clear b3 t3)
      | (go_at_call 11; (with_reducible refine (sameT_eq A2 A3 ts.length c2 c3 ts _ T2.out T3.out htl).mono ?_); rintro e w4 ⟨rfl, b4⟩; ((first | replace B := B.far b4 | replace B := hid (B.out.below b4) | skip)); have s4 := strP c (HO.out.below B.out); clear b4)
      | (go_at_call 10; (with_reducible refine (awake_any _).mono ?_); rintro e w5 ⟨rfl, b5⟩; ((first | replace B := B.far b5 | replace B := hid (B.out.below b5) | skip)); clear b5))
    go_ret
    exact ⟨rfl, B.out⟩
set_option maxHeartbeats 1000000 in
theorem walkMatchExpands (A : Option Addr) (n c : Nat) (l : List Tok) (most : Int) (w : World) (hr : TRow w A n l) (hn : n ≤ c) (hc : c ≤ maxLen) (hm : -9223372036854775808 ≤ most ∧ most ≤ 9223372036854775807) :
    Calls Try.prog 4 #[.slice A n c, .int .i64 most] w fun e w' => e = .returned (.bool true) ∧ Below w.heap.size w w' := by
  have HF := hid (tokens_any A n c w hn hc)
  obtain ⟨m, hmm⟩ : ∃ m, min n 120 = m := ⟨_, rfl⟩
  rw [hmm] at HF
  have hT : TRow w A m (l.take m) := hr.take m (by omega)
  have hm7 : m ≤ 1000 := by omega
  obtain ⟨q, hq⟩ : ∃ q, l.take m = q := ⟨_, rfl⟩
  rw [hq] at hT
  have HT := hid hT
  have HP := hid (mExp_any w A m c q hT hm7 most hm)
  have HR := hid (fun W (h : TRow W A m q) => rExp_any W A m c q h hm7 most hm)
  have B := hid (Below.refl w.heap.size w)
  obtain ⟨⟨x, E, i⟩, hx⟩ : ∃ x, expAll most q = x := ⟨_, rfl⟩
  rw [hx] at HP HR
  have hss := str_self x
  clear hx hT hq hr hmm hn hc
  go_enter Try.func4, Try.ntmps4
  go_wp2_with (first
    | (go_at_call 13; (with_reducible refine HF.out.mono ?_); rintro e w' ⟨rfl, rfl⟩)
    | (go_at_call 14; (with_reducible refine HP.out.mono ?_); rintro e w2 ⟨A2, c2, rfl, o2, b2⟩; ((first | replace B := B.far b2 | replace B := hid (B.out.below b2) | skip)); have O2 := hid o2; clear b2 o2)
    | (go_at_call 15; (with_reducible refine (HR.out _ (HT.out.below B.out)).mono ?_); rintro e w3 ⟨rfl, b3⟩; ((first | replace B := B.far b3 | replace B := hid (B.out.below b3) | skip)); have s3 := strP c2 (O2.out.below b3); clear b3)
    | (go_at_call 10; (with_reducible refine (awake_any _).mono ?_); rintro e w5 ⟨rfl, b5⟩; ((first | replace B := B.far b5 | replace B := hid (B.out.below b5) | skip)); clear b5))
  go_ret
  exact ⟨rfl, B.out⟩
set_option maxHeartbeats 1000000 in
theorem walkMatchBest (A : Option Addr) (n c : Nat) (l : List UInt8) (p : Int) (w : World) (ho : Oct w A n l) (hn : n ≤ c) (hc : c ≤ maxLen) (hp : -9223372036854775808 ≤ p ∧ p ≤ 9223372036854775807) :
    Calls Try.prog 6 #[.slice A n c, .int .i64 p] w fun e w' => e = .returned (.bool true) ∧ Below w.heap.size w w' := by
  have hp1 := hp.1
  have hp2 := hp.2
  have hfw := few_any A n c l w ho hn hc
  have hf := fewN_le n
  obtain ⟨m, hm⟩ : ∃ m, fewN n = m := ⟨_, rfl⟩
  rw [hm] at hfw hf
  have hO : Oct w A m (l.take m) := ho.take m hf.1
  have hmc : m ≤ c := by omega
  have hmi : (m : Int) ≤ 9223372036854775807 := by unfold maxLen at hc; omega
  obtain ⟨q, hq⟩ : ∃ q, l.take m = q := ⟨_, rfl⟩
  rw [hq] at hO
  have HO := hid hO
  have HF := hid hfw
  have B := hid (Below.refl w.heap.size w)
  have hB := mBest_any w m c A q hO hmc hc p
  clear hm hq hO ho hfw hc hp
  by_cases hbig : 65536 < m
  · have d1 : decide ((65536 : Int) < m) = true := by simp; omega
    have d1' : decide (65536 < m) = true := by simp; omega
    have hb : bestOut m q p = (0, 0, 5) := by unfold bestOut; rw [if_pos hbig]
    rw [hb] at hB
    have HB := hid hB
    clear hf hbig hb hB
    go_enter Try.func6, Try.ntmps6
    go_wp2_with (first
      | (go_at_call 8; (with_reducible refine HF.out.mono ?_); rintro e w' ⟨rfl, rfl⟩)
      | (go_at_call 16; (with_reducible refine HB.out.mono ?_); rintro e w2 ⟨rfl, b2⟩; ((first | replace B := B.far b2 | replace B := hid (B.out.below b2) | skip)); clear b2)
      | (go_at_call 10; (with_reducible refine (awake_any _).mono ?_); rintro e w5 ⟨rfl, b5⟩; ((first | replace B := B.far b5 | replace B := hid (B.out.below b5) | skip)); clear b5))
    go_ret
    exact ⟨rfl, B.out⟩
  · have d1 : decide ((65536 : Int) < m) = false := by simp; omega
    have d1' : decide (65536 < m) = false := by simp; omega
    by_cases h2 : p < 0
    · have d2 : decide (p < 0) = true := by simp; omega
      have hb : bestOut m q p = (0, 0, 4) := by unfold bestOut; rw [if_neg hbig, if_pos (Or.inl h2)]
      rw [hb] at hB
      have HB := hid hB
      clear hf hbig hb hB
      go_enter Try.func6, Try.ntmps6
      go_wp2_with (first
        | (go_at_call 8; (with_reducible refine HF.out.mono ?_); rintro e w' ⟨rfl, rfl⟩)
        | (go_at_call 16; (with_reducible refine HB.out.mono ?_); rintro e w2 ⟨rfl, b2⟩; ((first | replace B := B.far b2 | replace B := hid (B.out.below b2) | skip)); clear b2)
        | (go_at_call 10; (with_reducible refine (awake_any _).mono ?_); rintro e w5 ⟨rfl, b5⟩; ((first | replace B := B.far b5 | replace B := hid (B.out.below b5) | skip)); clear b5))
      go_ret
      exact ⟨rfl, B.out⟩
    · have d2 : decide (p < 0) = false := by simp; omega
      by_cases h3 : (m : Int) ≤ p
      · have d3 : decide ((m : Int) ≤ p) = true := by simp; omega
        have hb : bestOut m q p = (0, 0, 4) := by unfold bestOut; rw [if_neg hbig, if_pos (Or.inr h3)]
        rw [hb] at hB
        have HB := hid hB
        clear hf hbig hb hB
        go_enter Try.func6, Try.ntmps6
        go_wp2_with (first
          | (go_at_call 8; (with_reducible refine HF.out.mono ?_); rintro e w' ⟨rfl, rfl⟩)
          | (go_at_call 16; (with_reducible refine HB.out.mono ?_); rintro e w2 ⟨rfl, b2⟩; ((first | replace B := B.far b2 | replace B := hid (B.out.below b2) | skip)); clear b2)
          | (go_at_call 10; (with_reducible refine (awake_any _).mono ?_); rintro e w5 ⟨rfl, b5⟩; ((first | replace B := B.far b5 | replace B := hid (B.out.below b5) | skip)); clear b5))
        go_ret
        exact ⟨rfl, B.out⟩
      · have d3 : decide ((m : Int) ≤ p) = false := by simp; omega
        have hb : bestOut m q p = ((bestF q p.toNat).1, (bestF q p.toNat).2, 0) := by unfold bestOut; rw [if_neg hbig, if_neg (by omega)]
        rw [hb] at hB
        obtain ⟨k, rfl⟩ : ∃ k : Nat, p = k := ⟨p.toNat, by omega⟩
        rw [Int.toNat_natCast] at hB
        have hR := fun W (h : Oct W A m q) => refBest_any W m c A q h (by omega) k (by omega)
        obtain ⟨⟨bm, bd⟩, hbm⟩ : ∃ s, bestF q k = s := ⟨_, rfl⟩
        rw [hbm] at hB
        have d3' : decide (m ≤ k) = false := by simp; omega
        have HB := hid hB
        have HR : Hid (∀ W, Oct W A m q → Calls Try.prog 17 #[.slice A m c, .int .i64 (k : Int)] W fun e w' => e = .returned (.tuple #[.int .i64 (bm : Int), .int .i64 (bd : Int)]) ∧ Below W.heap.size W w') := hid (fun W h => by have := hR W h; rw [hbm] at this; exact this)
        clear hf hbig hb hB hR hbm
        go_enter Try.func6, Try.ntmps6
        go_wp2_with (first
          | (go_at_call 8; (with_reducible refine HF.out.mono ?_); rintro e w' ⟨rfl, rfl⟩)
          | (go_at_call 16; (with_reducible refine HB.out.mono ?_); rintro e w2 ⟨rfl, b2⟩; ((first | replace B := B.far b2 | replace B := hid (B.out.below b2) | skip)); clear b2)
          | (go_at_call 17; (with_reducible refine (HR.out _ (HO.out.below B.out)).mono ?_); rintro e w3 ⟨rfl, b3⟩; ((first | replace B := B.far b3 | replace B := hid (B.out.below b3) | skip)); clear b3)
          | (go_at_call 10; (with_reducible refine (awake_any _).mono ?_); rintro e w5 ⟨rfl, b5⟩; ((first | replace B := B.far b5 | replace B := hid (B.out.below b5) | skip)); clear b5))
        go_ret
        exact ⟨rfl, B.out⟩
end Go.Proofs.Ytaoigplmkckieaa
