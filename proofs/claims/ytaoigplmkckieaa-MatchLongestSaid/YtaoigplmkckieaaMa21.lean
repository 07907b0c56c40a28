/-
  MatchBack, MatchLongest: the walks. A part of the proof: see the head of the text that ends in 'Law'.
-/
import Derived.Test.YtaoigplmkckieaaMa20
namespace Go.Proofs.Ytaoigplmkckieaa
open Go.RowKit
set_option linter.unusedVariables false

theorem str_selfn (l : List UInt8) : (str l != str l) = false := by
  unfold bne
  rw [str_self]
  rfl
set_option maxHeartbeats 1000000 in
theorem walkMatchBack (A : Option Addr) (n c : Nat) (l : List UInt8) (w : World) (ho : Oct w A n l) (hn : n ≤ c) (hc : c ≤ maxLen) :
    Calls Try.prog 5 #[.slice A n c] w fun e w' => e = .returned (.bool true) ∧ Below w.heap.size w w' := by
  have hfw := few_any A n c l w ho hn hc
  have hf := fewN_le n
  obtain ⟨m, hm⟩ : ∃ m, fewN n = m := ⟨_, rfl⟩
  rw [hm] at hfw hf
  have hO : Oct w A m (l.take m) := ho.take m hf.1
  have hmc : m ≤ c := by omega
  have HC := hid hc
  obtain ⟨q, hq⟩ : ∃ q, l.take m = q := ⟨_, rfl⟩
  rw [hq] at hO
  have HO := hid hO
  have HF := hid hfw
  have B := hid (Below.refl w.heap.size w)
  clear hm hq hO ho hfw hc
  by_cases hbig : 65536 < m
  · have d1 : decide ((65536 : Int) < m) = true := by simp; omega
    have d1' : decide (65536 < m) = true := by simp; omega
    have HM := hid hbig
    clear hf hbig
    go_enter Try.func5, Try.ntmps5
    go_wp2_with (first
      | (go_at_call 8; (with_reducible refine HF.out.mono ?_); rintro e w' ⟨rfl, rfl⟩)
      | (go_at_call 9; (with_reducible refine (mFind_big _ m c A HM.out).mono ?_); rintro e w2 ⟨rfl, b2⟩; ((first | replace B := B.far b2 | replace B := hid (B.out.below b2) | skip)); clear b2)
      | (go_at_call 10; (with_reducible refine (awake_any _).mono ?_); rintro e w2 ⟨rfl, b2⟩; ((first | replace B := B.far b2 | replace B := hid (B.out.below b2) | skip)); clear b2))
    go_ret
    exact ⟨rfl, B.out⟩
  · have hm7 : m ≤ 700 := by omega
    have hql : q.length = m := HO.out.1
    have hts := toks_few q
    have HP := hid (mFind_any w m c A q HO.out hmc HC.out (by omega))
    have hb1 := back_all q
    rw [hql] at hb1 hts
    have hX : ∀ (ts : List Tok), toks q 0 = ts → ts.length ≤ 1000 → ∀ W A2 c2, TRow W A2 ts.length ts → Calls Try.prog 14 #[.slice A2 ts.length c2, .int .i64 (m : Int)] W (ExpPost W (q, 0, 0)) := fun ts h hl W A2 c2 ht => by
      have := mExp_any W A2 ts.length c2 ts ht hl (m : Int) (by omega)
      rw [← h, hb1] at this
      rw [← h]
      exact this
    have hY : 0 < m → ∃ j, ∀ (ts : List Tok), toks q 0 = ts → ts.length ≤ 1000 → ∀ W A2 c2, TRow W A2 ts.length ts → Calls Try.prog 14 #[.slice A2 ts.length c2, .int .i64 ((m : Int) - 1)] W (ExpPost W ([], 13, j)) := fun h0 => by
      obtain ⟨j, hj⟩ := back_less q (by omega)
      rw [hql] at hj
      refine ⟨j, fun ts h hl W A2 c2 ht => ?_⟩
      have := mExp_any W A2 ts.length c2 ts ht hl ((m : Int) - 1) (by omega)
      rw [← h, hj] at this
      rw [← h]
      exact this
    have HY := hid hY
    have HX := hid (fun h => hX _ rfl h)
    have HZ := hid (fun h0 => (HY.out h0).imp (fun j hj => hj _ rfl))
    obtain ⟨ts, hts'⟩ : ∃ ts, toks q 0 = ts := ⟨_, rfl⟩
    rw [hts'] at HP HX HZ hts
    have HX := hid (HX.out (by omega))
    have d5 : decide (m < ts.length) = false := by simp; omega
    have hss := str_selfn q
    have HQL := hid hql
    have hql7 : q.length ≤ 700 := by omega
    have htl : ts.length ≤ 1000 := by omega
    clear hts' hf hbig hts hql hb1 hX hY HY
    by_cases h0 : 0 < m
    · have d0 : decide ((0 : Int) < m) = true := by simp; omega
      have d0' : decide (0 < m) = true := by simp; omega
      obtain ⟨j, hj⟩ := HZ.out h0
      have HZ := hid (hj htl)
      clear hj
      go_enter Try.func5, Try.ntmps5
      go_wp2_with (first
        | (go_at_call 8; (with_reducible refine HF.out.mono ?_); rintro e w' ⟨rfl, rfl⟩)
        | (go_at_call 9; (with_reducible refine HP.out.mono ?_); rintro e w2 ⟨A2, c2, rfl, t2, hx1, hx2, b2⟩; ((first | replace B := B.far b2 | replace B := hid (B.out.below b2) | skip)); have T2 := hid t2; clear b2 t2 hx1 hx2)
        | (go_at_call 14; (with_reducible refine (HX.out _ A2 c2 T2.out).mono ?_); rintro e w3 ⟨A3, c3, rfl, o3, b3⟩; ((first | replace B := B.far b3 | replace B := hid (B.out.below b3) | skip)); have T2 := hid (T2.out.below b3); have s3 := strP c3 o3; have s0 := strP c (HO.out.below B.out); clear b3 o3)
        | (go_at_call 14; (with_reducible refine (HZ.out _ A2 c2 T2.out).mono ?_); rintro e w3 ⟨A4, c4, rfl, o4, b4⟩; ((first | replace B := B.far b4 | replace B := hid (B.out.below b4) | skip)); clear b4 o4)
        | (go_at_call 10; (with_reducible refine (awake_any _).mono ?_); rintro e w5 ⟨rfl, b5⟩; ((first | replace B := B.far b5 | replace B := hid (B.out.below b5) | skip)); clear b5))
      go_ret
      exact ⟨rfl, B.out⟩
    · have d0 : decide ((0 : Int) < m) = false := by simp; omega
      have d0' : decide (0 < m) = false := by simp; omega
      go_enter Try.func5, Try.ntmps5
      go_wp2_with (first
        | (go_at_call 8; (with_reducible refine HF.out.mono ?_); rintro e w' ⟨rfl, rfl⟩)
        | (go_at_call 9; (with_reducible refine HP.out.mono ?_); rintro e w2 ⟨A2, c2, rfl, t2, hx1, hx2, b2⟩; ((first | replace B := B.far b2 | replace B := hid (B.out.below b2) | skip)); have T2 := hid t2; clear b2 t2 hx1 hx2)
        | (go_at_call 14; (with_reducible refine (HX.out _ A2 c2 T2.out).mono ?_); rintro e w3 ⟨A3, c3, rfl, o3, b3⟩; ((first | replace B := B.far b3 | replace B := hid (B.out.below b3) | skip)); have s3 := strP c3 o3; have s0 := strP c (HO.out.below B.out); clear b3 o3)
        | (go_at_call 10; (with_reducible refine (awake_any _).mono ?_); rintro e w5 ⟨rfl, b5⟩; ((first | replace B := B.far b5 | replace B := hid (B.out.below b5) | skip)); clear b5))
      go_ret
      exact ⟨rfl, B.out⟩
theorem longest_facts {l : List UInt8} {p bm bd : Nat} (h : IsBest l p (bm, bd)) (D v : Nat) (h1 : 1 ≤ D) (h2 : D ≤ p) (h3 : D ≤ 32768) (hv : lenL l (p - D) p = v) : (bm = 0 → bd = 0 ∧ v < 3) ∧ (bm ≠ 0 → 3 ≤ bm ∧ v ≤ bm ∧ (v < bm ∨ bd ≤ D)) := by
  subst hv
  rcases h with ⟨k1, k2⟩ | ⟨k1, k2, k3, k4, k5, k6⟩
  · injection k1 with k1 k1'
    subst k1 k1'
    exact ⟨fun _ => ⟨rfl, k2 D h1 h2 h3⟩, fun h => absurd rfl h⟩
  · dsimp only at *
    have := k6 D h1 h2 h3
    refine ⟨fun h => by omega, fun _ => ⟨k1, this.1, ?_⟩⟩
    by_cases hD : bd ≤ D
    · exact Or.inr hD
    · exact Or.inl (this.2 (by omega))
theorem longest_out (m : Nat) (q : List UInt8) (p : Int) (h : ¬ (m ≤ 65536 ∧ 0 ≤ p ∧ p < m)) : ∃ E : Nat, bestOut m q p = (0, 0, E) ∧ ((E : Int) != 0) = true ∧ ((E : Int) == 0) = false := by
  unfold bestOut
  by_cases h1 : 65536 < m
  · exact ⟨5, by rw [if_pos h1], rfl, rfl⟩
  · exact ⟨4, by rw [if_neg h1, if_pos (by omega)], rfl, rfl⟩
set_option maxRecDepth 20000 in
set_option maxHeartbeats 4000000 in
theorem walkMatchLongest (A : Option Addr) (n c : Nat) (l : List UInt8) (p dist : Int) (w : World) (ho : Oct w A n l) (hn : n ≤ c) (hc : c ≤ maxLen) (hp : -9223372036854775808 ≤ p ∧ p ≤ 9223372036854775807) (hd : -9223372036854775808 ≤ dist ∧ dist ≤ 9223372036854775807) :
    Calls Try.prog 7 #[.slice A n c, .int .i64 p, .int .i64 dist] w fun e w' => e = .returned (.bool true) ∧ Below w.heap.size w w' := by
  have hp1 := hp.1
  have hp2 := hp.2
  have hd1 := hd.1
  have hd2 := hd.2
  have hfw := few_any A n c l w ho hn hc
  have hf := fewN_le n
  obtain ⟨m, hm⟩ : ∃ m, fewN n = m := ⟨_, rfl⟩
  rw [hm] at hfw hf
  have hO : Oct w A m (l.take m) := ho.take m hf.1
  have hmc : m ≤ c := by omega
  obtain ⟨q, hq⟩ : ∃ q, l.take m = q := ⟨_, rfl⟩
  rw [hq] at hO
  have HO := hid hO
  have HF := hid hfw
  have B := hid (Below.refl w.heap.size w)
  have hB := mBest_any w m c A q hO hmc hc p
  clear hm hq hO ho hfw hc hp hd
  by_cases hok : m ≤ 65536 ∧ 0 ≤ p ∧ p < m
  · have hb : bestOut m q p = ((bestF q p.toNat).1, (bestF q p.toNat).2, 0) := by unfold bestOut; rw [if_neg (by omega), if_neg (by omega)]
    rw [hb] at hB
    obtain ⟨p, rfl⟩ : ∃ k : Nat, p = k := ⟨p.toNat, by omega⟩
    rw [Int.toNat_natCast] at hB
    have hIB := bestF_is q p
    obtain ⟨⟨bm, bd⟩, hbm⟩ : ∃ s, bestF q p = s := ⟨_, rfl⟩
    rw [hbm] at hB hIB
    have HB := hid hB
    have HIB := hid hIB
    have hm7 : m ≤ 700 := by omega
    have hpm : p < m := by omega
    clear hB hb hbm hIB hf hok
    by_cases t1 : dist < 1
    · have d1 : decide (dist < 1) = true := by simpa using t1
      clear t1
      go_enter Try.func7, Try.ntmps7
      go_wp2_with (first
        | (go_at_call 8; (with_reducible refine HF.out.mono ?_); rintro e w' ⟨rfl, rfl⟩)
        | (go_at_call 16; (with_reducible refine HB.out.mono ?_); rintro e w2 ⟨rfl, b2⟩; ((first | replace B := B.far b2 | replace B := hid (B.out.below b2) | skip)); clear b2)
        | (go_at_call 10; (with_reducible refine (awake_any _).mono ?_); rintro e w5 ⟨rfl, b5⟩; ((first | replace B := B.far b5 | replace B := hid (B.out.below b5) | skip)); clear b5))
      go_ret
      exact ⟨rfl, B.out⟩
    · have d1 : decide (dist < 1) = false := by simpa using t1
      by_cases t2 : 32768 < dist
      · have d2 : decide (32768 < dist) = true := by simpa using t2
        clear t1 t2
        go_enter Try.func7, Try.ntmps7
        go_wp2_with (first
          | (go_at_call 8; (with_reducible refine HF.out.mono ?_); rintro e w' ⟨rfl, rfl⟩)
          | (go_at_call 16; (with_reducible refine HB.out.mono ?_); rintro e w2 ⟨rfl, b2⟩; ((first | replace B := B.far b2 | replace B := hid (B.out.below b2) | skip)); clear b2)
          | (go_at_call 10; (with_reducible refine (awake_any _).mono ?_); rintro e w5 ⟨rfl, b5⟩; ((first | replace B := B.far b5 | replace B := hid (B.out.below b5) | skip)); clear b5))
        go_ret
        exact ⟨rfl, B.out⟩
      · have d2 : decide (32768 < dist) = false := by simpa using t2
        obtain ⟨D, rfl⟩ : ∃ D : Nat, dist = D := ⟨dist.toNat, by omega⟩
        by_cases t3 : p < D
        · have d3 : decide (p < D) = true := by simpa using t3
          have d3' : decide ((p : Int) < D) = true := by simpa using t3
          clear t1 t2 t3
          go_enter Try.func7, Try.ntmps7
          go_wp2_with (first
            | (go_at_call 8; (with_reducible refine HF.out.mono ?_); rintro e w' ⟨rfl, rfl⟩)
            | (go_at_call 16; (with_reducible refine HB.out.mono ?_); rintro e w2 ⟨rfl, b2⟩; ((first | replace B := B.far b2 | replace B := hid (B.out.below b2) | skip)); clear b2)
            | (go_at_call 10; (with_reducible refine (awake_any _).mono ?_); rintro e w5 ⟨rfl, b5⟩; ((first | replace B := B.far b5 | replace B := hid (B.out.below b5) | skip)); clear b5))
          go_ret
          exact ⟨rfl, B.out⟩
        · have d3 : decide (p < D) = false := by simpa using t3
          have d3' : decide ((p : Int) < D) = false := by simpa using t3
          have hD1 : 1 ≤ D := by omega
          have hD2 : D ≤ 32768 := by omega
          have hD3 : D ≤ p := by omega
          obtain ⟨b, off, rfl, hc⟩ := HO.out.at_ (by omega)
          have HCL := hid hc
          have HQL := hid HO.out.1
          clear t1 t2 t3 hc
          go_enter Try.func7, Try.ntmps7
          go_wp2_with (first
            | (go_at_call 8; (with_reducible refine HF.out.mono ?_); rintro e w' ⟨rfl, rfl⟩)
            | (go_at_call 16; (with_reducible refine HB.out.mono ?_); rintro e w2 ⟨rfl, b2⟩; ((first | replace B := B.far b2 | replace B := hid (B.out.below b2) | skip)); clear b2)
            | (go_at_call 10; (with_reducible refine (awake_any _).mono ?_); rintro e w5 ⟨rfl, b5⟩; ((first | replace B := B.far b5 | replace B := hid (B.out.below b5) | skip)); clear b5))
          have HB0 := B
          clear B
          go_loopw [10] (fun v wz => ∃ k : Nat, v = .int .i64 (k : Int) ∧ k ≤ 258 ∧ Hid (AlikeTo q (p - D) p k) ∧ Hid (Below w.heap.size w wz)) (fun v wz => 258 - (intOf v).toNat)
          case atStart => exact ⟨0, rfl, by omega, hid (fun q hq => by omega), HB0⟩
          case round =>
            obtain ⟨k, rfl, hk, hA, B⟩ := hrel
            by_cases h2 : k < 258
            · have e2 : decide ((k : Int) < 258) = true := by simp; omega
              by_cases h1 : p + k < m
              · have e1 : decide ((p : Int) + k < m) = true := by simp; omega
                have e1' : decide (p + k < m) = true := by simp; omega
                have hql := HQL.out
                have p0 := cells_keep B.out (HCL.out (p + k) (by omega))
                have p1 := cells_keep B.out (HCL.out (p - D + k) (by omega))
                obtain ⟨x, hx⟩ : ∃ x, q[p + k]'(by omega) = x := ⟨_, rfl⟩
                obtain ⟨y, hy⟩ : ∃ y, q[p - D + k]'(by omega) = y := ⟨_, rfl⟩
                rw [hx] at p0
                rw [hy] at p1
                have HX := hid (show q[p + k]? = some x by rw [List.getElem?_eq_getElem (by omega), hx])
                have HY := hid (show q[p - D + k]? = some y by rw [List.getElem?_eq_getElem (by omega), hy])
                have f0 : (0 : Int) ≤ (p : Int) + k := by omega
                have f1 : (p : Int) + k < m := by omega
                have f2 : IntKind.i64.wrap ((p : Int) + k - D) = ((p - D + k : Nat) : Int) := by rw [IntKind.wrap_i64]; omega
                have f3 : ((p - D + k : Nat) : Int) < m := by omega
                have f3' : p - D + k < m := by omega
                have f4 : ((p : Int) + k).toNat = p + k := by omega
                have f5 : (0 : Int) ≤ ((p - D + k : Nat) : Int) := by omega
                have f6 : (((p - D + k : Nat) : Int)).toNat = p - D + k := by omega
                clear hx hy hql
                by_cases h3 : x = y
                · have d3 : ((x.toNat : Int) == y.toNat) = true := by rw [h3]; simp
                  have HXY := hid h3
                  clear h3
                  go_upto_region 6 with fail
                  go_quiet (fail)
                  go_wp2
                  go_roundw
                  case rel => exact ⟨k + 1, by go_num, by omega, hid (fun r hr => by
                    have hql := HQL.out
                    by_cases hqk : r < k
                    · exact hA.out r hqk
                    · obtain rfl : r = k := by omega
                      exact ⟨by omega, by rw [HX.out, HY.out, HXY.out]⟩), hid (bq B.out _)⟩
                  case measure => simp [intOf]; omega
                · have d3 : ((x.toNat : Int) == y.toNat) = false := by simp; intro h; exact h3 (UInt8.toNat_inj.1 (by omega))
                  have HLN := hid (lenL_is hA.out hk (Or.inr (fun h => h3 (by rw [HX.out, HY.out] at h; exact (Option.some.inj h.2).symm))))
                  clear h3
                  go_upto_region 6 with fail
                  go_quiet (fail)
                  have B := hid (bq B.out nq)
                  have hlf := longest_facts HIB.out D k (by omega) (by omega) (by omega) HLN.out
                  by_cases hb0 : bm = 0
                  · have b0 := hlf.1 hb0
                    have e0 : ((bm : Int) == 0) = true := by simp; omega
                    have e0' : (bm == 0) = true := by simp; omega
                    have e1 : ((bd : Int) == 0) = true := by simp; omega
                    have e1' : (bd == 0) = true := by simp; omega
                    have e2 : decide ((k : Int) < 3) = true := by simp; omega
                    have e2' : decide (k < 3) = true := by simp; omega
                    clear hlf b0 hb0 HLN
                    go_wp2_with (first
                      | (go_at_call 8; (with_reducible refine HF.out.mono ?_); rintro e w' ⟨rfl, rfl⟩)
                      | (go_at_call 16; (with_reducible refine HB.out.mono ?_); rintro e w2 ⟨rfl, b2⟩; ((first | replace B := B.far b2 | replace B := hid (B.out.below b2) | skip)); clear b2)
                      | (go_at_call 10; (with_reducible refine (awake_any _).mono ?_); rintro e w5 ⟨rfl, b5⟩; ((first | replace B := B.far b5 | replace B := hid (B.out.below b5) | skip)); clear b5))
                    go_ret
                    exact ⟨rfl, B.out⟩
                  · have b0 := hlf.2 hb0
                    have e0 : ((bm : Int) == 0) = false := by simp; omega
                    have e0' : (bm == 0) = false := by simp; omega
                    have e1 : decide ((3 : Int) ≤ bm) = true := by simp; omega
                    have e1' : decide (3 ≤ bm) = true := by simp; omega
                    have e2' : decide (k ≤ bm) = true := by simp; omega
                    by_cases hkb : k < bm
                    · have e3 : decide (k < bm) = true := by simpa using hkb
                      clear hlf b0 hb0 HLN hkb
                      go_wp2_with (first
                        | (go_at_call 8; (with_reducible refine HF.out.mono ?_); rintro e w' ⟨rfl, rfl⟩)
                        | (go_at_call 16; (with_reducible refine HB.out.mono ?_); rintro e w2 ⟨rfl, b2⟩; ((first | replace B := B.far b2 | replace B := hid (B.out.below b2) | skip)); clear b2)
                        | (go_at_call 10; (with_reducible refine (awake_any _).mono ?_); rintro e w5 ⟨rfl, b5⟩; ((first | replace B := B.far b5 | replace B := hid (B.out.below b5) | skip)); clear b5))
                      go_ret
                      exact ⟨rfl, B.out⟩
                    · have e3 : decide (k < bm) = false := by simpa using hkb
                      have e4 : decide (bd ≤ D) = true := by simp; omega
                      clear hlf b0 hb0 HLN hkb
                      go_wp2_with (first
                        | (go_at_call 8; (with_reducible refine HF.out.mono ?_); rintro e w' ⟨rfl, rfl⟩)
                        | (go_at_call 16; (with_reducible refine HB.out.mono ?_); rintro e w2 ⟨rfl, b2⟩; ((first | replace B := B.far b2 | replace B := hid (B.out.below b2) | skip)); clear b2)
                        | (go_at_call 10; (with_reducible refine (awake_any _).mono ?_); rintro e w5 ⟨rfl, b5⟩; ((first | replace B := B.far b5 | replace B := hid (B.out.below b5) | skip)); clear b5))
                      go_ret
                      exact ⟨rfl, B.out⟩
              · have e1 : decide ((p : Int) + k < m) = false := by simp; omega
                have e1' : decide (p + k < m) = false := by simp; omega
                have HLN := hid (lenL_is hA.out hk (Or.inr (fun h => by have := HQL.out; omega)))
                go_upto_region 6 with fail
                go_quiet (fail)
                have B := hid (bq B.out nq)
                have hlf := longest_facts HIB.out D k (by omega) (by omega) (by omega) HLN.out
                by_cases hb0 : bm = 0
                · have b0 := hlf.1 hb0
                  have e0 : ((bm : Int) == 0) = true := by simp; omega
                  have e0' : (bm == 0) = true := by simp; omega
                  have e1 : ((bd : Int) == 0) = true := by simp; omega
                  have e1' : (bd == 0) = true := by simp; omega
                  have e2 : decide ((k : Int) < 3) = true := by simp; omega
                  have e2' : decide (k < 3) = true := by simp; omega
                  clear hlf b0 hb0 HLN
                  go_wp2_with (first
                    | (go_at_call 8; (with_reducible refine HF.out.mono ?_); rintro e w' ⟨rfl, rfl⟩)
                    | (go_at_call 16; (with_reducible refine HB.out.mono ?_); rintro e w2 ⟨rfl, b2⟩; ((first | replace B := B.far b2 | replace B := hid (B.out.below b2) | skip)); clear b2)
                    | (go_at_call 10; (with_reducible refine (awake_any _).mono ?_); rintro e w5 ⟨rfl, b5⟩; ((first | replace B := B.far b5 | replace B := hid (B.out.below b5) | skip)); clear b5))
                  go_ret
                  exact ⟨rfl, B.out⟩
                · have b0 := hlf.2 hb0
                  have e0 : ((bm : Int) == 0) = false := by simp; omega
                  have e0' : (bm == 0) = false := by simp; omega
                  have e1 : decide ((3 : Int) ≤ bm) = true := by simp; omega
                  have e1' : decide (3 ≤ bm) = true := by simp; omega
                  have e2' : decide (k ≤ bm) = true := by simp; omega
                  by_cases hkb : k < bm
                  · have e3 : decide (k < bm) = true := by simpa using hkb
                    clear hlf b0 hb0 HLN hkb
                    go_wp2_with (first
                      | (go_at_call 8; (with_reducible refine HF.out.mono ?_); rintro e w' ⟨rfl, rfl⟩)
                      | (go_at_call 16; (with_reducible refine HB.out.mono ?_); rintro e w2 ⟨rfl, b2⟩; ((first | replace B := B.far b2 | replace B := hid (B.out.below b2) | skip)); clear b2)
                      | (go_at_call 10; (with_reducible refine (awake_any _).mono ?_); rintro e w5 ⟨rfl, b5⟩; ((first | replace B := B.far b5 | replace B := hid (B.out.below b5) | skip)); clear b5))
                    go_ret
                    exact ⟨rfl, B.out⟩
                  · have e3 : decide (k < bm) = false := by simpa using hkb
                    have e4 : decide (bd ≤ D) = true := by simp; omega
                    clear hlf b0 hb0 HLN hkb
                    go_wp2_with (first
                      | (go_at_call 8; (with_reducible refine HF.out.mono ?_); rintro e w' ⟨rfl, rfl⟩)
                      | (go_at_call 16; (with_reducible refine HB.out.mono ?_); rintro e w2 ⟨rfl, b2⟩; ((first | replace B := B.far b2 | replace B := hid (B.out.below b2) | skip)); clear b2)
                      | (go_at_call 10; (with_reducible refine (awake_any _).mono ?_); rintro e w5 ⟨rfl, b5⟩; ((first | replace B := B.far b5 | replace B := hid (B.out.below b5) | skip)); clear b5))
                    go_ret
                    exact ⟨rfl, B.out⟩
            · have e2 : decide ((k : Int) < 258) = false := by simp; omega
              have HLN := hid (lenL_is hA.out hk (Or.inl (by omega)))
              go_upto_region 6 with fail
              go_quiet (fail)
              have B := hid (bq B.out nq)
              have hlf := longest_facts HIB.out D k (by omega) (by omega) (by omega) HLN.out
              by_cases hb0 : bm = 0
              · have b0 := hlf.1 hb0
                have e0 : ((bm : Int) == 0) = true := by simp; omega
                have e0' : (bm == 0) = true := by simp; omega
                have e1 : ((bd : Int) == 0) = true := by simp; omega
                have e1' : (bd == 0) = true := by simp; omega
                have e2 : decide ((k : Int) < 3) = true := by simp; omega
                have e2' : decide (k < 3) = true := by simp; omega
                clear hlf b0 hb0 HLN
                go_wp2_with (first
                  | (go_at_call 8; (with_reducible refine HF.out.mono ?_); rintro e w' ⟨rfl, rfl⟩)
                  | (go_at_call 16; (with_reducible refine HB.out.mono ?_); rintro e w2 ⟨rfl, b2⟩; ((first | replace B := B.far b2 | replace B := hid (B.out.below b2) | skip)); clear b2)
                  | (go_at_call 10; (with_reducible refine (awake_any _).mono ?_); rintro e w5 ⟨rfl, b5⟩; ((first | replace B := B.far b5 | replace B := hid (B.out.below b5) | skip)); clear b5))
                go_ret
                exact ⟨rfl, B.out⟩
              · have b0 := hlf.2 hb0
                have e0 : ((bm : Int) == 0) = false := by simp; omega
                have e0' : (bm == 0) = false := by simp; omega
                have e1 : decide ((3 : Int) ≤ bm) = true := by simp; omega
                have e1' : decide (3 ≤ bm) = true := by simp; omega
                have e2' : decide (k ≤ bm) = true := by simp; omega
                by_cases hkb : k < bm
                · have e3 : decide (k < bm) = true := by simpa using hkb
                  clear hlf b0 hb0 HLN hkb
                  go_wp2_with (first
                    | (go_at_call 8; (with_reducible refine HF.out.mono ?_); rintro e w' ⟨rfl, rfl⟩)
                    | (go_at_call 16; (with_reducible refine HB.out.mono ?_); rintro e w2 ⟨rfl, b2⟩; ((first | replace B := B.far b2 | replace B := hid (B.out.below b2) | skip)); clear b2)
                    | (go_at_call 10; (with_reducible refine (awake_any _).mono ?_); rintro e w5 ⟨rfl, b5⟩; ((first | replace B := B.far b5 | replace B := hid (B.out.below b5) | skip)); clear b5))
                  go_ret
                  exact ⟨rfl, B.out⟩
                · have e3 : decide (k < bm) = false := by simpa using hkb
                  have e4 : decide (bd ≤ D) = true := by simp; omega
                  clear hlf b0 hb0 HLN hkb
                  go_wp2_with (first
                    | (go_at_call 8; (with_reducible refine HF.out.mono ?_); rintro e w' ⟨rfl, rfl⟩)
                    | (go_at_call 16; (with_reducible refine HB.out.mono ?_); rintro e w2 ⟨rfl, b2⟩; ((first | replace B := B.far b2 | replace B := hid (B.out.below b2) | skip)); clear b2)
                    | (go_at_call 10; (with_reducible refine (awake_any _).mono ?_); rintro e w5 ⟨rfl, b5⟩; ((first | replace B := B.far b5 | replace B := hid (B.out.below b5) | skip)); clear b5))
                  go_ret
                  exact ⟨rfl, B.out⟩
  · obtain ⟨E, hE, hn1, hn2⟩ := longest_out m q p hok
    rw [hE] at hB
    have HB := hid hB
    clear hB hE hok hf
    go_enter Try.func7, Try.ntmps7
    go_wp2_with (first
      | (go_at_call 8; (with_reducible refine HF.out.mono ?_); rintro e w' ⟨rfl, rfl⟩)
      | (go_at_call 16; (with_reducible refine HB.out.mono ?_); rintro e w2 ⟨rfl, b2⟩; ((first | replace B := B.far b2 | replace B := hid (B.out.below b2) | skip)); clear b2)
      | (go_at_call 10; (with_reducible refine (awake_any _).mono ?_); rintro e w5 ⟨rfl, b5⟩; ((first | replace B := B.far b5 | replace B := hid (B.out.below b5) | skip)); clear b5))
    go_ret
    exact ⟨rfl, B.out⟩
end Go.Proofs.Ytaoigplmkckieaa
