/-
  Asks a key the octets: both sides; and whether a message is meant, or asked of, by a key that may be. A part of the proof: see the head of the text that ends in 'Law'.
-/
import Derived.Test.YtonjadmldgloaaaGreatDoorSe11
namespace Go.Proofs.YtonjadmldgloaaaGreatDoor
open Go.RowKit Go.Shelf
set_option linter.unusedVariables false
set_option maxRecDepth 100000
attribute [local go_sem] Oper.semAt_some

theorem reads_eq (f : Nat) (k : KeyT) : readsF (f + 1) k = ((decide (5 ≤ k.kind ∧ k.kind ≤ 7) || decide (10 ≤ k.kind ∧ k.kind ≤ 12)) || (decide (15 ≤ k.kind) && k.l.any (readsF f))) := by
  rw [readsF]
/-- What is read of a key that may be, so deep: the program. -/
def Rds (f : Nat) : Prop := ∀ (k : KeyT) (w : World), KeyIn w 100 k → MayD f k →
  Calls Tryz.prog 35 #[.agg (keyC k).toArray] w fun e w' => e = .returned (.bool (readsF f k)) ∧ Below w.heap.size w w'
/-- And the document. -/
def RRds (f : Nat) : Prop := ∀ (k : KeyT) (w : World), KeyIn w 100 k → MayD f k →
  Calls Tryz.prog 15 #[.agg (keyC k).toArray] w fun e w' => e = .returned (.bool (readsF f k)) ∧ Below w.heap.size w w'
set_option maxHeartbeats 4000000 in
theorem kindex_any (f : Nat) (ih : Rds f) (A : Option Addr) (len c : Nat) (l : List KeyT) (w : World) (hl : l.length = len) (hb : len ≤ 100) (hr : Row w A (l.flatMap keyC)) (hk : ∀ x ∈ l, KeyIn w 100 x) (hm : ∀ x ∈ l, MayD f x) :
    Calls Tryz.prog 87 #[.slice A len c, .func (.func 35) #[] #[]] w fun e w' => (∃ k : Int, e = .returned (.int .i64 k) ∧ decide (0 ≤ k) = l.any (readsF f)) ∧ Below w.heap.size w w' := by
  have HR := hid hr
  have HL := hid hl
  have HK := hid hk
  have HM := hid hm
  have IH := hid ih
  clear hr hl hk hm ih
  go_enter Tryz.func87, Tryz.ntmps87
  go_wp2_with fail
  go_loopw [5, 8] (fun j i wr => ∃ k : Nat, k ≤ len ∧ i = .int .i64 (k : Int) ∧ Hid ((l.drop k).any (readsF f) = l.any (readsF f) ∧ Below w.heap.size w wr)) (fun j i wr => len - (intOf i).toNat)
  case atStart => exact ⟨0, by omega, rfl, hid ⟨by rw [List.drop_zero], Below.refl _ _⟩⟩
  case round =>
    obtain ⟨k, hk, rfl, HI⟩ := hrel
    by_cases hlt : k < len
    · have d1 : decide ((k : Int) < (len : Int)) = true := by simp; omega
      have d1' : decide (k < len) = true := by simpa using hlt
      have i0 : (0 : Int) ≤ (k : Int) := by omega
      have i1 : (k : Int) < (len : Int) := by omega
      have i2 : (k : Int).toNat = k := by omega
      have hkl : k < l.length := by rw [HL.out]; exact hlt
      obtain ⟨cb, off, hLA, hcc⟩ := key_at (HR.out.below HI.out.2) hkl
      have hmem : l[k]'hkl ∈ l := List.getElem_mem hkl
      have hst : (l.drop k).any (readsF f) = (readsF f (l[k]'hkl) || (l.drop (k + 1)).any (readsF f)) := by rw [List.drop_eq_getElem_cons hkl, List.any_cons]
      have hc := hcc k hkl
      obtain ⟨x, hx⟩ : ∃ x, l[k]'hkl = x := ⟨_, rfl⟩
      rw [hx] at hmem hst hc
      have hIX := fun (X : World) (b : Below w.heap.size w X) => IH.out x X ((HK.out x hmem).on b) (HM.out x hmem)
      obtain ⟨z, hz⟩ : ∃ z, readsF f x = z := ⟨_, rfl⟩
      rw [hz] at hst hIX
      have HST := hid hst
      obtain ⟨xk, xs, xt, xn, xA, xm, xc, xl, xB, xp, xq, xr⟩ := x
      have HIX := hid (fun X b => (by exact hIX X b : Calls Tryz.prog 35 #[.agg #[.int .i64 xk, .string (str xs), .string (str xt), .int .i64 xn, .slice xA xm xc, .slice xB xp xq]] X fun e w' => e = .returned (.bool z) ∧ Below X.heap.size X w'))
      dsimp only at hc
      have c0 := hc.1
      have c1 := hc.2.1
      have c2 := hc.2.2.1
      have c3 := hc.2.2.2.1
      have c4 := hc.2.2.2.2.1
      have c5 := hc.2.2.2.2.2
      subst hLA
      clear hcc hmem hst hx hIX hz hc
      cases z with
      | true =>
        have HF : Hid (l.any (readsF f) = true) := hid (by rw [← HI.out.1, HST.out]; rfl)
        go_wp2_with (go_at_call 35; (with_reducible refine (HIX.out _ HI.out.2).mono ?_); rintro e w3 ⟨rfl, b3⟩; have B3 := hid (past HI.out.2 b3); clear b3 c0 c1 c2 c3 c4 c5 HI HIX)
        go_ret
        exact ⟨⟨_, rfl, by rw [HF.out]; simp⟩, B3.out⟩
      | false =>
        have HF : Hid ((l.drop (k + 1)).any (readsF f) = l.any (readsF f)) := hid (by rw [← HI.out.1, HST.out, Bool.false_or])
        go_wp2_with (go_at_call 35; (with_reducible refine (HIX.out _ HI.out.2).mono ?_); rintro e w3 ⟨rfl, b3⟩; have B3 := hid (past HI.out.2 b3); clear b3 c0 c1 c2 c3 c4 c5 HI HIX)
        go_roundw
        case rel => exact ⟨k + 1, by omega, by go_num, hid ⟨HF.out, B3.out⟩⟩
        case measure => simp [intOf]; omega
    · have d1 : decide ((k : Int) < (len : Int)) = false := by simp; omega
      have d1' : decide (k < len) = false := by simpa using hlt
      have HF : Hid (l.any (readsF f) = false) := hid (by rw [← HI.out.1, List.drop_of_length_le (by rw [HL.out]; omega)]; rfl)
      have HB := hid HI.out.2
      clear HI
      go_wp2_with fail
      go_ret
      exact ⟨⟨-1, rfl, by rw [HF.out]; rfl⟩, HB.out⟩
theorem kcontains_any (f : Nat) (ih : Rds f) (A : Option Addr) (len c : Nat) (l : List KeyT) (w : World) (hl : l.length = len) (hb : len ≤ 100) (hr : Row w A (l.flatMap keyC)) (hk : ∀ x ∈ l, KeyIn w 100 x) (hm : ∀ x ∈ l, MayD f x) :
    Calls Tryz.prog 61 #[.slice A len c, .func (.func 35) #[] #[]] w fun e w' => e = .returned (.bool (l.any (readsF f))) ∧ Below w.heap.size w w' := by
  have HC := hid (kindex_any f ih A len c l w hl hb hr hk hm)
  obtain ⟨q, hq⟩ : ∃ q, l.any (readsF f) = q := ⟨_, rfl⟩
  rw [hq] at HC ⊢
  clear hl hr hk hm hq
  go_enter Tryz.func61, Tryz.ntmps61
  go_wp2_with (go_at_call 87; (with_reducible refine HC.out.mono ?_); rintro e w3 ⟨⟨k, rfl, hk⟩, b3⟩; have B3 := hid b3; clear b3)
  go_ret
  exact ⟨rfl, B3.out⟩
set_option maxHeartbeats 16000000 in
theorem reads_step (f : Nat) (ih : Rds f) : Rds (f + 1) := by
  intro k w hk hm
  have IH := hid ih
  have HMX := hid hm.2
  have hbad := hm.1
  have hks : 0 ≤ k.kind ∧ k.kind ≤ 17 := by
    unfold badK at hbad
    simp only [Bool.or_eq_false_iff, decide_eq_false_iff_not] at hbad
    omega
  obtain ⟨r, hr⟩ : ∃ r, readsF (f + 1) k = r := ⟨_, rfl⟩
  rw [hr]
  rw [reads_eq] at hr
  have KI := hid hk
  obtain ⟨kind, s, t, n, SA, sn, sc, sp, LA, ln, lc, l⟩ := k
  dsimp only at hks hr
  have HR := hid hr
  obtain ⟨W1, hW1⟩ : ∃ W1, w.alloc (.cells #[.int .i64 kind, .string (str s), .string (str t), .int .i64 n, .slice SA sn sc, .slice LA ln lc] 37) = W1 := ⟨_, rfl⟩
  have b1 : Below w.heap.size w W1 := by rw [← hW1]; exact (Below.refl _ _).alloc (Nat.le_refl _) _
  have hkx : OwnE W1 w.heap.size 37 [.int .i64 kind, .string (str s), .string (str t), .int .i64 n, .slice SA sn sc, .slice LA ln lc] := by rw [← hW1]; exact OwnE.new_ w _ _
  have B1 := hid b1
  have K1 := hid (hk.on b1)
  have y0 := hkx.cell (j := 0) rfl
  have y5 := hkx.cell (j := 5) rfl
  have HWI := hid (fun X => within_any kind X)
  clear ih hk hm hbad hr b1 hkx
  show Calls Tryz.prog 35 #[.agg #[.int .i64 kind, .string (str s), .string (str t), .int .i64 n, .slice SA sn sc, .slice LA ln lc]] w fun e w' => e = .returned (.bool r) ∧ Below w.heap.size w w'
  by_cases h15 : kind < 15
  · have hwz : wiF kind = 0 := by unfold wiF; rw [if_neg (by omega), if_neg (by omega), if_neg (by omega)]
    rw [hwz] at HWI
    rw [decide_eq_false (show ¬ 15 ≤ kind by omega)] at HR
    have hc : kind = 0 ∨ kind = 1 ∨ kind = 2 ∨ kind = 3 ∨ kind = 4 ∨ kind = 5 ∨ kind = 6 ∨ kind = 7 ∨ kind = 8 ∨ kind = 9 ∨ kind = 10 ∨ kind = 11 ∨ kind = 12 ∨ kind = 13 ∨ kind = 14 := by omega
    clear hks hwz h15
    go_enter Tryz.func35, Tryz.ntmps35
    go_upto_region 2 with fail
    clear hW1
    rcases hc with rfl | rfl | rfl | rfl | rfl | rfl | rfl | rfl | rfl | rfl | rfl | rfl | rfl | rfl | rfl
    all_goals (as_aux_lemma =>
      go_wp2_with (go_at_call 23; (with_reducible refine (HWI.out _).mono ?_); rintro e w1 ⟨rfl, rfl⟩)
      go_ret
      exact ⟨by rw [← HR.out]; rfl, B1.out⟩)
  · have hwn : (wiF kind != 0) = true := by
      unfold wiF
      have : kind = 15 ∨ kind = 16 ∨ kind = 17 := by omega
      rcases this with rfl | rfl | rfl <;> rfl
    obtain ⟨wi, hwi⟩ : ∃ wi, wiF kind = wi := ⟨_, rfl⟩
    rw [hwi] at HWI hwn
    have e5 : (kind == 5) = false := by rw [beq_eq_false_iff_ne]; omega
    have e6 : (kind == 6) = false := by rw [beq_eq_false_iff_ne]; omega
    have e7 : (kind == 7) = false := by rw [beq_eq_false_iff_ne]; omega
    have e10 : (kind == 10) = false := by rw [beq_eq_false_iff_ne]; omega
    have e11 : (kind == 11) = false := by rw [beq_eq_false_iff_ne]; omega
    have e12 : (kind == 12) = false := by rw [beq_eq_false_iff_ne]; omega
    have hra : r = l.any (readsF f) := by
      rw [← HR.out, decide_eq_true (show 15 ≤ kind by omega), decide_eq_false (show ¬ (5 ≤ kind ∧ kind ≤ 7) by omega), decide_eq_false (show ¬ (10 ≤ kind ∧ kind ≤ 12) by omega)]
      rfl
    have HKC := hid (kcontains_any f IH.out LA ln lc l W1 K1.out.ok.ll K1.out.ok.lm K1.out.ok.lr K1.out.ch (HMX.out (show (15 : Int) ≤ kind by omega)))
    rw [← hra] at HKC
    clear hra h15 hks hwi
    go_enter Tryz.func35, Tryz.ntmps35
    go_wp2_with first
      | (go_at_call 23; (with_reducible refine (HWI.out _).mono ?_); rintro e w1 ⟨rfl, rfl⟩)
      | (go_at_call 61; (with_reducible refine HKC.out.mono ?_); rintro e w2 ⟨rfl, b2⟩; have B2 := hid (past B1.out b2); clear b2)
    go_ret
    exact ⟨rfl, B2.out⟩
theorem rdss : ∀ f, Rds f
  | 0 => fun _ _ _ hm => absurd hm (fun h => h)
  | f + 1 => reads_step f (rdss f)
set_option maxHeartbeats 16000000 in
theorem rreads_step (f : Nat) (ih : RRds f) : RRds (f + 1) := by
  intro k w hk hm
  have IH := hid ih
  have HMX := hid hm.2
  obtain ⟨r, hr⟩ : ∃ r, readsF (f + 1) k = r := ⟨_, rfl⟩
  rw [hr]
  rw [reads_eq] at hr
  obtain ⟨kind, s, t, n, SA, sn, sc, sp, LA, ln, lc, l⟩ := k
  dsimp only at hr
  obtain ⟨W1, hW1⟩ : ∃ W1, w.alloc (.cells #[.int .i64 kind, .string (str s), .string (str t), .int .i64 n, .slice SA sn sc, .slice LA ln lc] 37) = W1 := ⟨_, rfl⟩
  have b1 : Below w.heap.size w W1 := by rw [← hW1]; exact (Below.refl _ _).alloc (Nat.le_refl _) _
  have hkx : OwnE W1 w.heap.size 37 [.int .i64 kind, .string (str s), .string (str t), .int .i64 n, .slice SA sn sc, .slice LA ln lc] := by rw [← hW1]; exact OwnE.new_ w _ _
  have KX := hid hkx
  have B1 := hid b1
  have KI := hid (hk.on b1)
  have HLL := hid (show l.length = ln from hk.ok.ll)
  have hln : ln ≤ 100 := hk.ok.lm
  have y0 := hkx.cell (j := 0) rfl
  obtain ⟨t1, ht1⟩ : ∃ q, decide (5 ≤ kind) = q := ⟨_, rfl⟩
  obtain ⟨t2, ht2⟩ : ∃ q, decide (kind ≤ 7) = q := ⟨_, rfl⟩
  obtain ⟨t3, ht3⟩ : ∃ q, decide (10 ≤ kind) = q := ⟨_, rfl⟩
  obtain ⟨t4, ht4⟩ : ∃ q, decide (kind ≤ 12) = q := ⟨_, rfl⟩
  obtain ⟨k15, hk15⟩ : ∃ q, decide (15 ≤ kind) = q := ⟨_, rfl⟩
  obtain ⟨tt, htt⟩ : ∃ q, ((t1 && t2) || (t3 && t4)) = q := ⟨_, rfl⟩
  rw [Bool.decide_and, Bool.decide_and, ht1, ht2, ht3, ht4, hk15, htt] at hr
  have HR := hid hr
  have H15 := hid hk15
  clear ih hk hm hr b1 hkx
  show Calls Tryz.prog 15 #[.agg #[.int .i64 kind, .string (str s), .string (str t), .int .i64 n, .slice SA sn sc, .slice LA ln lc]] w fun e w' => e = .returned (.bool r) ∧ Below w.heap.size w w'
  go_enter Tryz.func15, Tryz.ntmps15
  go_upto_region 1 with fail
  clear hW1
  go_cut [3] (fun t wx => t = .bool tt ∧ W1 = wx)
  case first =>
    go_wp2_with fail
    all_goals (go_meet; exact ⟨by rw [← htt]; simp [*], rfl⟩)
  case rest =>
  obtain ⟨rfl, hw9⟩ := hcut
  subst hw9
  clear y0 ht1 ht2 ht3 ht4 htt
  go_wp2_with fail
  go_loopw [3, 4] (fun b i wr => ∃ (j : Nat) (z : Bool), j ≤ ln ∧ i = .int .i64 (j : Int) ∧ b = .bool z ∧ Hid (r = (z || (k15 && (l.drop j).any (readsF f)))) ∧ Hid (Below W1.heap.size W1 wr)) (fun b i wr => ln - (intOf i).toNat)
  case atStart => exact ⟨0, tt, Nat.zero_le _, rfl, rfl, hid (by rw [List.drop_zero]; exact HR.out.symm), hid (Below.refl _ _)⟩
  case round =>
    clear HR
    obtain ⟨j, z, hj, rfl, rfl, HA, HB⟩ := hrel
    rename World => wr
    have KX4 := KX.out.below HB.out
    have y0 := KX4.cell (j := 0) rfl
    have y5 := KX4.cell (j := 5) rfl
    clear KX4
    by_cases hgo : j < ln ∧ k15 = true
    · obtain ⟨hlt, rfl⟩ := hgo
      have q1 : decide ((j : Int) < (ln : Int)) = true := by simp; omega
      have q1' : decide (j < ln) = true := by simpa using hlt
      have i0 : (0 : Int) ≤ (j : Int) := by omega
      have i1 : (j : Int) < (ln : Int) := by omega
      have i2 : (j : Int).toNat = j := by omega
      have hjl : j < l.length := by rw [HLL.out]; exact hlt
      cases z with
      | true =>
        have HA2 := hid (show r = (true || (true && (l.drop (j + 1)).any (readsF f))) by rw [HA.out]; rfl)
        clear HA
        go_wp2_with fail
        go_roundw
        case rel => exact ⟨j + 1, true, by omega, by go_num, rfl, HA2, HB⟩
        case measure => simp [intOf]; omega
      | false =>
        obtain ⟨cb, off, hLA, hcc⟩ := key_at (KI.out.ok.lr.below HB.out) hjl
        have hmem : l[j]'hjl ∈ l := List.getElem_mem hjl
        have hst : (l.drop j).any (readsF f) = (readsF f (l[j]'hjl) || (l.drop (j + 1)).any (readsF f)) := by rw [List.drop_eq_getElem_cons hjl, List.any_cons]
        have hc := hcc j hjl
        dsimp only at hLA hc
        obtain ⟨x, hx⟩ : ∃ x, l[j]'hjl = x := ⟨_, rfl⟩
        rw [hx] at hmem hst hc
        have hIX := fun (X : World) (b : Below W1.heap.size W1 X) => IH.out x X ((KI.out.ch x hmem).on b) (HMX.out (show (15 : Int) ≤ kind from of_decide_eq_true H15.out) x hmem)
        obtain ⟨q, hq⟩ : ∃ q, readsF f x = q := ⟨_, rfl⟩
        rw [hq] at hIX hst
        have HA2 := hid (show r = (q || (true && (l.drop (j + 1)).any (readsF f))) by rw [HA.out, hst]; rfl)
        obtain ⟨xk, xs, xt, xn, xA, xm, xc, xl, xB, xp, xq, xr⟩ := x
        have HIX := hid (fun X b => (by exact hIX X b : Calls Tryz.prog 15 #[.agg #[.int .i64 xk, .string (str xs), .string (str xt), .int .i64 xn, .slice xA xm xc, .slice xB xp xq]] X fun e w' => e = .returned (.bool q) ∧ Below X.heap.size X w'))
        dsimp only at hc
        have c0 := hc.1
        have c1 := hc.2.1
        have c2 := hc.2.2.1
        have c3 := hc.2.2.2.1
        have c4 := hc.2.2.2.2.1
        have c5 := hc.2.2.2.2.2
        subst hLA
        clear hcc hmem hst hx hIX hq hc HA
        go_wp2_with (go_at_call 15; (with_reducible refine (HIX.out _ HB.out).mono ?_); rintro e w4 ⟨rfl, b4⟩; have B4 := hid (past HB.out b4); clear b4 c0 c1 c2 c3 c4 c5 y0 y5)
        go_roundw
        case rel => exact ⟨j + 1, q, by omega, by go_num, rfl, HA2, B4⟩
        case measure => simp [intOf]; omega
    · have hrz : r = z := by
        rw [HA.out]
        by_cases hlt : j < ln
        · have hk : k15 = false := by cases hk2 : k15 with | false => rfl | true => exact absurd ⟨hlt, hk2⟩ hgo
          rw [hk, Bool.false_and, Bool.or_false]
        · rw [List.drop_of_length_le (by rw [HLL.out]; omega), List.any_nil, Bool.and_false, Bool.or_false]
      have HRZ := hid hrz
      obtain ⟨p1, hp1⟩ : ∃ q, decide (j < ln) = q := ⟨_, rfl⟩
      have j1 : decide ((j : Int) < (ln : Int)) = p1 := by rw [← hp1, decide_eq_decide]; omega
      have hpp : (p1 && k15) = false := by
        rw [Bool.eq_false_iff]
        intro h
        rw [Bool.and_eq_true] at h
        exact hgo ⟨of_decide_eq_true (hp1.trans h.1), h.2⟩
      clear hrz hgo HA
      go_upto_region 3 with fail
      go_cut [23, 24, 25, 26, 27, 28, 29, 30, 31, 32] from 23 to 32 (fun a1 a2 a3 a4 a5 a6 a7 a8 a9 t wx => t = .bool false ∧ wr = wx)
      case first =>
        go_wp2_with fail
        all_goals (go_meet; exact ⟨by simp_all, rfl⟩)
      case rest =>
      obtain ⟨rfl, hw9⟩ := hcut
      subst hw9
      clear hpp j1 hp1
      go_wp2_with fail
      go_ret
      exact ⟨by rw [HRZ.out]; rfl, past B1.out HB.out⟩
theorem rrdss : ∀ f, RRds f
  | 0 => fun _ _ _ hm => absurd hm (fun h => h)
  | f + 1 => rreads_step f (rrdss f)
end Go.Proofs.YtonjadmldgloaaaGreatDoor
