/-
  tree.Find over good pages: the walk. A part of the proof: see the head of the text that ends in 'Law'.
-/
import Derived.Test.YtlhngieinmgooaaTrSo
namespace Go.Proofs.Ytlhngieinmgooaa
open Go.RowKit
set_option linter.unusedVariables false
set_option maxRecDepth 100000
attribute [local go_sem] Oper.semAt_some

/-- Pages that are well laid: each is one, its kids are in order and lie ahead of it. -/
def GoodP (ls : List (List UInt8)) : Prop := ∀ (j : Nat) (h : j < ls.length), isP ls[j] = true ∧ (∀ a b, a ≤ b → b < (kidsB ls[j]).length → leastA (kidsB ls[j]) a ≤ leastA (kidsB ls[j]) b) ∧ ∀ k ∈ kidsB ls[j], k.at_ < j
/-- What is found from a page on. -/
inductive FdR (ls : List (List UInt8)) (key : Nat) : Nat → Nat → Nat → Nat → Int → Prop
  | hit (at_ reads : Nat) (h : at_ < ls.length) (h2 : octA ls[at_] 0 ≠ 2) (i : Nat) (hi : i < (pairsB ls[at_]).length) (hk : (pairsB ls[at_])[i].key = key) : FdR ls key at_ reads (pairsB ls[at_])[i].val reads 0
  | miss (at_ reads : Nat) (h : at_ < ls.length) (h2 : octA ls[at_] 0 ≠ 2) (hk : ∀ p ∈ pairsB ls[at_], p.key ≠ key) : FdR ls key at_ reads 0 reads 6
  | low (at_ reads : Nat) (h : at_ < ls.length) (h2 : octA ls[at_] 0 = 2) (hk : ∀ i, i < (kidsB ls[at_]).length → key < leastA (kidsB ls[at_]) i) : FdR ls key at_ reads 0 reads 6
  | down (at_ reads : Nat) (h : at_ < ls.length) (h2 : octA ls[at_] 0 = 2) (i : Nat) (hi : i < (kidsB ls[at_]).length) (h3 : ∀ a, a ≤ i → leastA (kidsB ls[at_]) a ≤ key) (h4 : ∀ a, i < a → a < (kidsB ls[at_]).length → key < leastA (kidsB ls[at_]) a) (v n : Nat) (e : Int) (hr : FdR ls key (kidsB ls[at_])[i].at_ (reads + 1) v n e) : FdR ls key at_ reads v n e
theorem kidsB_few (b : List UInt8) (h : isP b = true) : (kidsB b).length ≤ 12 ∧ (octA b 0 = 2 → 0 < (kidsB b).length) := by
  unfold kidsB
  unfold isP kindP at h
  split
  · rename_i h2
    simp [h2] at h
    rw [List.length_map, List.length_range]
    omega
  · rename_i h2
    exact ⟨by simp, fun h3 => absurd h3 h2⟩
theorem last_lo (A : Option Addr) (n c key : Nat) (ks : List Kd) (w : World) (hr : Row w A (ks.flatMap kdC)) (hl : ks.length = n) (hn : n ≤ 100) (h0 : 0 < n) (hmono : ∀ i j, i ≤ j → j < n → leastA ks i ≤ leastA ks j) (hk : key < leastA ks 0) :
    Calls Try.prog 34 #[.slice A n c, .int .u64 (key : Int)] w fun e w' => Below w.heap.size w w' ∧ e = .returned (.int .i64 (-1)) :=
  (last_any A n c key ks w hr hl hn hmono).mono fun e w' ⟨h1, r, h2, h3, h4, h5⟩ => ⟨h1, by
    have : r = 0 := by
      rcases Nat.eq_zero_or_pos r with h | h
      · exact h
      · have := h4 0 h; omega
    subst this
    exact h3⟩
theorem last_hi (A : Option Addr) (n c key : Nat) (ks : List Kd) (w : World) (hr : Row w A (ks.flatMap kdC)) (hl : ks.length = n) (hn : n ≤ 100) (h0 : 0 < n) (hmono : ∀ i j, i ≤ j → j < n → leastA ks i ≤ leastA ks j) (hk : leastA ks 0 ≤ key) :
    Calls Try.prog 34 #[.slice A n c, .int .u64 (key : Int)] w fun e w' => Below w.heap.size w w' ∧ ∃ i, i < n ∧ e = .returned (.int .i64 (i : Int)) ∧ (∀ a, a ≤ i → leastA ks a ≤ key) ∧ (∀ a, i < a → a < n → key < leastA ks a) :=
  (last_any A n c key ks w hr hl hn hmono).mono fun e w' ⟨h1, r, h2, h3, h4, h5⟩ => ⟨h1, by
    have hp : 0 < r := by
      rcases Nat.eq_zero_or_pos r with h | h
      · subst h; have := h5 0 (Nat.le_refl _) h0; omega
      · exact h
    refine ⟨r - 1, by omega, ?_, fun a ha => h4 a (by omega), fun a h6 h7 => h5 a (by omega) h7⟩
    rw [h3, show ((r - 1 : Nat) : Int) = (r : Int) - 1 by omega]⟩
set_option maxHeartbeats 8000000 in
theorem find_any (A : Option Addr) (n c key : Nat) (ls : List (List UInt8)) (w : World) (hl : PIn w A ls) (hn : ls.length = n) (h0 : 0 < n) (hs : n ≤ 200) (hg : GoodP ls) :
    Calls Try.prog 17 #[.slice A n c, .int .u64 (key : Int)] w fun e w' => Below w.heap.size w w' ∧ ∃ (v m : Nat) (x : Int), e = .returned (.tuple #[.int .u64 (v : Int), .int .i64 (m : Int), .int .i64 x]) ∧ FdR ls key (n - 1) 1 v m x := by
  have HL := hid hl
  have HN := hid hn
  have HG := hid hg
  have g0 : ((n : Int) == 0) = false := ne_f (b := 0) (by omega)
  have g0n : (n == 0) = false := ne_n (by omega)
  obtain ⟨n1, hn1⟩ : ∃ n1, n - 1 = n1 := ⟨_, rfl⟩
  have hn1i : (n : Int) - 1 = (n1 : Int) := by omega
  have hn1w : IntKind.i64.wrap ((n : Int) - 1) = (n1 : Int) := by rw [IntKind.wrap_i64]; omega
  rw [hn1]
  have HN1 := hid hn1
  clear hl hn hg hn1
  go_enter Try.func17, Try.ntmps17
  go_upto_region 1 with fail
  obtain ⟨w0, hw0⟩ : ∃ w0, w.alloc (.cells #[.int .u64 (key : Int)] 44) = w0 := ⟨_, rfl⟩
  have hb0 : Below w.heap.size w w0 := by rw [← hw0]; exact (Below.refl _ w).alloc (Nat.le_refl _) _
  have k0 : OwnE w0 w.heap.size 44 [.int .u64 (key : Int)] := by rw [← hw0]; exact OwnE.new_ w _ _
  have HC0 := hid (k0.cell (j := 0) rfl)
  have HB0 := hid hb0
  have HSZ : w0.heap.size = w.heap.size + 1 := by rw [← hw0]; simp
  rw [hw0]
  clear hw0 hb0 k0
  go_wp2_with fail
  go_loopw [7, 8] (fun v7 v8 wr => ∃ j m : Nat, j < n ∧ m + j ≤ 1 + n ∧ v7 = .int .i64 (j : Int) ∧ v8 = .int .i64 (m : Int) ∧ Hid (Below w0.heap.size w0 wr ∧ ∀ v q e, FdR ls key j m v q e → FdR ls key n1 1 v q e)) (fun v7 v8 wr => (intOf v7).toNat)
  case atStart => exact ⟨n1, 1, by have := HN1.out; omega, by have := HN1.out; omega, by first | rfl | (simp; omega), rfl, hid ⟨Below.refl _ _, fun v q e h => h⟩⟩
  case round =>
    obtain ⟨j, m, hj, hm, rfl, rfl, HI⟩ := hrel
    rename World => wr
    have q0 : (0 : Int) ≤ (j : Int) := by omega
    have q1 : (j : Int) < (n : Int) := by omega
    have q2 : (j : Int).toNat = j := by omega
    obtain ⟨b1, o1, rfl, r1⟩ := HL.out.at_ (by rw [HN.out]; omega)
    have hj1 : j < ls.length := by rw [HN.out]; exact hj
    obtain ⟨B1, k1, d1, x1, hkd, p1⟩ := r1 j hj1
    obtain ⟨gp1, gp2, gp3⟩ := HG.out j hj1
    have hbw := past HB0.out HI.out.1
    have x2 := cells_keep hbw x1
    have HR := hid (read_any B1 k1 d1 ls[j] wr (p1.below hbw) hkd)
    have HBW := hid hbw
    have HCW := hid (cells_keep HI.out.1 HC0.out)
    have HG1 := hid gp1
    have HG2 := hid gp2
    have HG3 := hid gp3
    have HRT : Hid (Calls Try.prog 27 #[.slice B1 k1 d1] wr fun e w' => Below wr.heap.size wr w' ∧ ∃ A3 m3 c3 A4 m4 c4, e = .returned (.tuple #[.agg #[.slice A3 m3 c3, .slice A4 m4 c4, .bool (decide (octA ls[j] 0 = 2))], .bool true]) ∧ (pairsB ls[j]).length = m3 ∧ (kidsB ls[j]).length = m4 ∧ Row w' A3 ((pairsB ls[j]).flatMap paC) ∧ Row w' A4 ((kidsB ls[j]).flatMap kdC)) := hid (HR.out.mono (by
      rintro e w' ⟨h1, ⟨h2, h3⟩ | ⟨h2, A3, m3, c3, A4, m4, c4, h3, h4, h5, h6, h7⟩⟩
      · rw [HG1.out] at h2; cases h2
      · exact ⟨h1, A3, m3, c3, A4, m4, c4, h3, h4, h5, Row.of_own h6, Row.of_own h7⟩))
    obtain ⟨b, hb⟩ : ∃ b, ls[j] = b := ⟨_, rfl⟩
    have HBQ : Hid (∃ h : j < ls.length, ls[j]'h = b) := hid ⟨hj1, hb⟩
    rw [hb] at HRT HG1 HG2 HG3
    have hfk := kidsB_few b HG1.out
    have hfp := pairsB_few b HG1.out
    clear HR r1 p1 x1 hbw gp1 gp2 gp3 hb
    by_cases h2 : octA b 0 = 2
    · rw [decide_eq_true h2] at HRT
      by_cases hk : key < leastA (kidsB b) 0
      · have HF : Hid (FdR ls key j m 0 m 6) := hid (by
          obtain ⟨h, e⟩ := HBQ.out
          exact FdR.low j m h (by rw [e]; exact h2) (fun i hi => by
            rw [e] at hi ⊢
            exact Nat.lt_of_lt_of_le hk (HG2.out 0 i (Nat.zero_le _) hi)))
        have HKL := hid (fun (X : World) (A4 : Option Addr) (m4 c4 : Nat) (hr : Row X A4 ((kidsB b).flatMap kdC)) (hl : (kidsB b).length = m4) => last_lo A4 m4 c4 key (kidsB b) X hr hl (by omega) (by have := hfk.2 h2; omega) (fun a d h1 h3 => HG2.out a d h1 (by omega)) hk)
        clear hk h2 hfk
        go_wp2_with (first
          | (go_at_call 27; refine HRT.out.mono ?_; rintro e w3 ⟨b3, A3, m3, c3, A4, m4, c4, rfl, h4, h5, h6, h7⟩; have HB3 := hid (b3.trans ((Below.refl wr.heap.size w3).alloc b3.size (.cells #[.slice A3 m3 c3, .slice A4 m4 c4, .bool true] 66))); have cKY := cells_keep HB3.out HCW.out; have HK4 := hid (HKL.out _ A4 m4 c4 (h7.below ((Below.refl _ w3).alloc (Nat.le_refl _) (.cells #[.slice A3 m3 c3, .slice A4 m4 c4, .bool true] 66))) h5); clear b3 h4 h5 h6 h7)
          | (go_at_call 34; refine HK4.out.mono ?_; rintro e w5 ⟨b5, rfl⟩; have HB5 := hid b5; clear b5))
        refine bodyPost_ret (results_tmp3 rfl _ _ _) rfl ?_
        exact ⟨past (past HBW.out HB3.out) HB5.out, 0, m, 6, rfl, HI.out.2 _ _ _ HF.out⟩
      · have HKH := hid (fun (X : World) (A4 : Option Addr) (m4 c4 : Nat) (hr : Row X A4 ((kidsB b).flatMap kdC)) (hl : (kidsB b).length = m4) => last_hi A4 m4 c4 key (kidsB b) X hr hl (by omega) (by have := hfk.2 h2; omega) (fun a d h1 h3 => HG2.out a d h1 (by omega)) (by omega))
        have HF : Hid (∀ (i : Nat) (hi : i < (kidsB b).length) (h3 : ∀ a, a ≤ i → leastA (kidsB b) a ≤ key) (h4 : ∀ a, i < a → a < (kidsB b).length → key < leastA (kidsB b) a) (v q : Nat) (e : Int), FdR ls key ((kidsB b)[i]'hi).at_ (m + 1) v q e → FdR ls key j m v q e) := hid (by
          obtain ⟨h, e⟩ := HBQ.out
          subst e
          exact fun i hi h3 h4 v q e hr => FdR.down j m h h2 i hi h3 h4 v q e hr)
        clear hk h2 hfk
        go_wp2_with (first
          | (go_at_call 27; refine HRT.out.mono ?_; rintro e w3 ⟨b3, A3, m3, c3, A4, m4, c4, rfl, h4, h5, h6, h7⟩; have hal := (Below.refl _ w3).alloc (Nat.le_refl _) (.cells #[.slice A3 m3 c3, .slice A4 m4 c4, .bool true] 66); have HB3 := hid (past b3 hal); have cKY := cells_keep HB3.out HCW.out; have HND : Hid (OwnE (w3.alloc (.cells #[.slice A3 m3 c3, .slice A4 m4 c4, .bool true] 66)) w3.heap.size 66 [.slice A3 m3 c3, .slice A4 m4 c4, .bool true]) := hid (OwnE.new_ w3 [.slice A3 m3 c3, .slice A4 m4 c4, .bool true] 66); have H7 := hid (h7.below hal); have H5 := hid h5; have HK4 := hid (HKH.out _ A4 m4 c4 H7.out h5); clear b3 h4 h5 h6 h7 hal)
          | (go_at_call 34; refine HK4.out.mono ?_; rintro e w5 ⟨b5, i, hi, rfl, h8, h9⟩; have HB5 := hid b5; have nd1 := (HND.out.below b5).cell (j := 1) rfl; obtain ⟨bk, ok, rfl, hc⟩ := kd_at (H7.out.below b5) (k := i) (by rw [H5.out]; exact hi); have xa := (hc i (by rw [H5.out]; exact hi)).2; obtain ⟨ka, hka⟩ : ∃ ka, ((kidsB b)[i]'(by rw [H5.out]; exact hi)).at_ = ka := ⟨_, rfl⟩; rw [hka] at xa; have hkj : ka < j := by (rw [← hka]; exact HG3.out _ (List.getElem_mem _))
             have HFD : Hid (∀ v q e, FdR ls key ka (m + 1) v q e → FdR ls key j m v q e) := hid (fun v q e hr => HF.out i (by rw [H5.out]; exact hi) h8 (fun a h1 h3 => h9 a h1 (by rw [← H5.out]; exact h3)) v q e (by rw [hka]; exact hr))
             have gq : decide ((j : Int) ≤ (ka : Int)) = false := by (rw [decide_eq_false_iff_not]; omega)
             have gqn : decide (j ≤ ka) = false := by (rw [decide_eq_false_iff_not]; omega)
             have gi : decide ((i : Int) < 0) = false := by (rw [decide_eq_false_iff_not]; omega)
             have i0 : (0 : Int) ≤ (i : Int) := by omega
             have i1 : (i : Int) < (m4 : Int) := by omega
             have i2 : (i : Int).toNat = i := by omega
             clear b5 h8 h9 hc hka))
        go_roundw
        case rel => exact ⟨ka, m + 1, by omega, by omega, rfl, by go_num, hid ⟨(past (past HI.out.1 HB3.out) HB5.out), fun v q e h => HI.out.2 v q e (HFD.out v q e h)⟩⟩
        case measure => simp [intOf]; omega
    · rw [decide_eq_false h2] at HRT
      have HIX := hid (fun (X : World) (A3 : Option Addr) (m3 c3 : Nat) (hr : Row X A3 ((pairsB b).flatMap paC)) (hl : (pairsB b).length = m3) (hb : X.cell? ⟨w.heap.size, 0, none⟩ = some (.int .u64 (key : Int))) => idx_any A3 m3 c3 key w.heap.size (pairsB b) X hr hl (by omega) hb)
      by_cases hex : ∃ p ∈ pairsB b, p.key = key
      · have HF : Hid (∀ (i : Nat) (hi : i < (pairsB b).length), ((pairsB b)[i]'hi).key = key → FdR ls key j m ((pairsB b)[i]'hi).val m 0) := hid (by
          obtain ⟨h, e⟩ := HBQ.out
          subst e
          exact fun i hi hk => FdR.hit j m h h2 i hi hk)
        have HIY := hid (fun (X : World) (A3 : Option Addr) (m3 c3 : Nat) (hr : Row X A3 ((pairsB b).flatMap paC)) (hl : (pairsB b).length = m3) (hb : X.cell? ⟨w.heap.size, 0, none⟩ = some (.int .u64 (key : Int))) => (HIX.out X A3 m3 c3 hr hl hb).mono (R' := fun e w' => Below X.heap.size X w' ∧ ∃ (i : Nat) (h : i < (pairsB b).length), ((pairsB b)[i]'h).key = key ∧ e = .returned (.int .i64 (i : Int))) (by
          rintro e w' ⟨h1, h3 | ⟨h3, -⟩⟩
          · exact ⟨h1, h3⟩
          · obtain ⟨p, hp, hpk⟩ := hex
            exact absurd hpk (h3 p hp)))
        clear hex h2 hfk HIX
        go_wp2_with (first
          | (go_at_call 27; refine HRT.out.mono ?_; rintro e w3 ⟨b3, A3, m3, c3, A4, m4, c4, rfl, h4, h5, h6, h7⟩; have hal := (Below.refl _ w3).alloc (Nat.le_refl _) (.cells #[.slice A3 m3 c3, .slice A4 m4 c4, .bool false] 66); have HB3 := hid (past b3 hal); have cKY := cells_keep HB3.out HCW.out; have HND : Hid (OwnE (w3.alloc (.cells #[.slice A3 m3 c3, .slice A4 m4 c4, .bool false] 66)) w3.heap.size 66 [.slice A3 m3 c3, .slice A4 m4 c4, .bool false]) := hid (OwnE.new_ w3 [.slice A3 m3 c3, .slice A4 m4 c4, .bool false] 66); have H6 := hid (h6.below hal); have H4 := hid h4; have HK4 := hid (HIY.out _ A3 m3 c3 H6.out h4 cKY); have nd0 := HND.out.cell (j := 0) rfl; clear b3 h4 h5 h6 h7 hal)
          | (go_at_call 32; refine HK4.out.mono ?_; rintro e w5 ⟨b5, i, hi, hki, rfl⟩; have HB5 := hid b5; have nd1 := (HND.out.below b5).cell (j := 0) rfl; obtain ⟨bk, ok, rfl, hc⟩ := pa_at (H6.out.below b5) hi; have xa := (hc i hi).2; obtain ⟨pv, hpv⟩ : ∃ pv, ((pairsB b)[i]'hi).val = pv := ⟨_, rfl⟩; rw [hpv] at xa
             have HFD : Hid (FdR ls key j m pv m 0) := hid (by rw [← hpv]; exact HF.out i hi hki)
             have gi : decide ((i : Int) < 0) = false := by (rw [decide_eq_false_iff_not]; omega)
             have him : i < m3 := by (rw [← H4.out]; exact hi)
             have i0 : (0 : Int) ≤ (i : Int) := by omega
             have i1 : (i : Int) < (m3 : Int) := by omega
             have i2 : (i : Int).toNat = i := by omega
             clear b5 hc hpv hki hi))
        refine bodyPost_ret (results_tmp3 rfl _ _ _) rfl ?_
        exact ⟨past (past HBW.out HB3.out) HB5.out, pv, m, 0, rfl, HI.out.2 _ _ _ HFD.out⟩
      · have HF : Hid (FdR ls key j m 0 m 6) := hid (by
          obtain ⟨h, e⟩ := HBQ.out
          subst e
          exact FdR.miss j m h h2 (fun p hp hk => hex ⟨p, hp, hk⟩))
        have HIY := hid (fun (X : World) (A3 : Option Addr) (m3 c3 : Nat) (hr : Row X A3 ((pairsB b).flatMap paC)) (hl : (pairsB b).length = m3) (hb : X.cell? ⟨w.heap.size, 0, none⟩ = some (.int .u64 (key : Int))) => (HIX.out X A3 m3 c3 hr hl hb).mono (R' := fun e w' => Below X.heap.size X w' ∧ e = .returned (.int .i64 (-1))) (by
          rintro e w' ⟨h1, ⟨i, hi, h3, -⟩ | ⟨-, h4⟩⟩
          · exact absurd ⟨_, List.getElem_mem hi, h3⟩ hex
          · exact ⟨h1, h4⟩))
        clear hex h2 hfk HIX
        go_wp2_with (first
          | (go_at_call 27; refine HRT.out.mono ?_; rintro e w3 ⟨b3, A3, m3, c3, A4, m4, c4, rfl, h4, h5, h6, h7⟩; have hal := (Below.refl _ w3).alloc (Nat.le_refl _) (.cells #[.slice A3 m3 c3, .slice A4 m4 c4, .bool false] 66); have HB3 := hid (past b3 hal); have cKY := cells_keep HB3.out HCW.out; have HND : Hid (OwnE (w3.alloc (.cells #[.slice A3 m3 c3, .slice A4 m4 c4, .bool false] 66)) w3.heap.size 66 [.slice A3 m3 c3, .slice A4 m4 c4, .bool false]) := hid (OwnE.new_ w3 [.slice A3 m3 c3, .slice A4 m4 c4, .bool false] 66); have H6 := hid (h6.below hal); have H4 := hid h4; have HK4 := hid (HIY.out _ A3 m3 c3 H6.out h4 cKY); have nd0 := HND.out.cell (j := 0) rfl; clear b3 h4 h5 h6 h7 hal)
          | (go_at_call 32; refine HK4.out.mono ?_; rintro e w5 ⟨b5, rfl⟩; have HB5 := hid b5; clear b5))
        refine bodyPost_ret (results_tmp3 rfl _ _ _) rfl ?_
        exact ⟨past (past HBW.out HB3.out) HB5.out, 0, m, 6, rfl, HI.out.2 _ _ _ HF.out⟩
end Go.Proofs.Ytlhngieinmgooaa
