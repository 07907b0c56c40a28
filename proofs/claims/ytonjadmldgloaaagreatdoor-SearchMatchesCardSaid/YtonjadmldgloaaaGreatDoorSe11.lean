/-
  May a key be, and asks it the octets, as the document says. A part of the proof: see the head of the text that ends in 'Law'.
-/
import Derived.Test.YtonjadmldgloaaaGreatDoorSe10
namespace Go.Proofs.YtonjadmldgloaaaGreatDoor
open Go.RowKit Go.Shelf
set_option linter.unusedVariables false
set_option maxRecDepth 100000
attribute [local go_sem] Oper.semAt_some

theorem loopR_le (g : KeyT → Nat) (B : Nat) (h : ∀ x, g x ≤ B) : ∀ (l : List KeyT) (n : Nat), n ≤ 64 + B → loopR g l n ≤ 64 + B
  | [], n, hn => hn
  | x :: r, n, hn => by
    unfold loopR
    split
    · exact loopR_le g B h r _ (by have := h x; omega)
    · exact hn
theorem cnt_le : ∀ (f : Nat) (k : KeyT), cntR f k ≤ 65 + 64 * f
  | 0, k => Nat.le_refl _
  | f + 1, k => by
    unfold cntR
    split
    · omega
    · split
      · omega
      · exact Nat.le_trans (loopR_le (cntR f) (65 + 64 * f) (cnt_le f) k.l 1 (by omega)) (by omega)
theorem loopR_out (g : KeyT → Nat) (l : List KeyT) (n : Nat) (h : ¬ n < 65) : loopR g l n = n := by
  cases l with
  | nil => rfl
  | cons x r => unfold loopR; rw [if_neg h]
def RCnt (f : Nat) : Prop := ∀ (k : KeyT) (deep : Nat) (w : World), KeyIn w 100 k → deep + f = 9 →
  Calls Tryz.prog 21 #[.agg (keyC k).toArray, .int .i64 (deep : Int)] w fun e w' => e = .returned (.int .i64 (cntR f k : Int)) ∧ Below w.heap.size w w'
set_option maxHeartbeats 32000000 in
theorem count_step (f : Nat) (ih : ∀ g, g + 1 = f → RCnt g) : RCnt f := by
  intro k deep w hk hdeep
  have IH := hid ih
  obtain ⟨r, hr⟩ : ∃ r, cntR f k = r := ⟨_, rfl⟩
  have hrb := cnt_le f k
  rw [hr] at hrb ⊢
  have HR := hid hr
  have HD := hid hdeep
  have hd9 : deep ≤ 9 := by omega
  have hr700 : r ≤ 700 := by omega
  obtain ⟨kind, s, t, n, SA, sn, sc, sp, LA, ln, lc, l⟩ := k
  obtain ⟨W1, hW1⟩ : ∃ W1, w.alloc (.cells #[.int .i64 kind, .string (str s), .string (str t), .int .i64 n, .slice SA sn sc, .slice LA ln lc] 37) = W1 := ⟨_, rfl⟩
  have b1 : Below w.heap.size w W1 := by rw [← hW1]; exact (Below.refl _ _).alloc (Nat.le_refl _) _
  have hkx : OwnE W1 w.heap.size 37 [.int .i64 kind, .string (str s), .string (str t), .int .i64 n, .slice SA sn sc, .slice LA ln lc] := by rw [← hW1]; exact OwnE.new_ w _ _
  have KX := hid hkx
  have B1 := hid b1
  have KI := hid (hk.on b1)
  have HLL := hid (show l.length = ln from hk.ok.ll)
  have hln : ln ≤ 100 := hk.ok.lm
  have HTL := hid (rtold_any s W1 (Nat.le_trans hk.ok.s (by omega)))
  obtain ⟨bb, hbb⟩ : ∃ bb, (decide (8 < deep) || badK ⟨kind, s, t, n, SA, sn, sc, sp, LA, ln, lc, l⟩) = bb := ⟨_, rfl⟩
  have y0 := hkx.cell (j := 0) rfl
  have y1 := hkx.cell (j := 1) rfl
  have y5 := hkx.cell (j := 5) rfl
  clear ih hk hdeep hr hrb b1 hkx
  show Calls Tryz.prog 21 #[.agg #[.int .i64 kind, .string (str s), .string (str t), .int .i64 n, .slice SA sn sc, .slice LA ln lc], .int .i64 (deep : Int)] w fun e w' => e = .returned (.int .i64 (r : Int)) ∧ Below w.heap.size w w'
  go_enter Tryz.func21, Tryz.ntmps21
  go_upto_region 1 with fail
  clear hW1
  go_cut [51] (fun t wx => t = .bool bb ∧ Hid (Below W1.heap.size W1 wx))
  case first =>
    unfold badK at hbb
    dsimp only at hbb
    rw [HLL.out] at hbb
    by_cases h8 : 8 < deep
    · have e1 : decide ((8 : Int) < (deep : Int)) = true := by simp; omega
      have e1' : decide (8 < deep) = true := by simpa using h8
      rw [e1', Bool.true_or] at hbb
      subst hbb
      clear h8
      go_wp2_with fail
      go_meet
      exact ⟨rfl, hid (Below.refl _ _)⟩
    have e1 : decide ((8 : Int) < (deep : Int)) = false := by simp; omega
    have e1' : decide (8 < deep) = false := by simpa using h8
    rw [e1', Bool.false_or] at hbb
    clear h8
    by_cases hk0 : kind < 0
    · have e2 : decide (kind < 0) = true := by simpa using hk0
      rw [e2] at hbb
      simp only [Bool.true_or] at hbb
      subst hbb
      clear hk0
      go_wp2_with fail
      go_meet
      exact ⟨rfl, hid (Below.refl _ _)⟩
    have e2 : decide (kind < 0) = false := by simpa using hk0
    rw [e2] at hbb
    clear hk0
    by_cases hk17 : 17 < kind
    · have e3 : decide (17 < kind) = true := by simpa using hk17
      rw [e3] at hbb
      simp only [Bool.true_or, Bool.or_true] at hbb
      subst hbb
      clear hk17
      go_wp2_with fail
      go_meet
      exact ⟨rfl, hid (Below.refl _ _)⟩
    have e3 : decide (17 < kind) = false := by simpa using hk17
    rw [e3] at hbb
    clear hk17
    by_cases hk1 : kind = 1
    · subst hk1
      obtain ⟨tx, htx⟩ : ∃ tx, toldF s = tx := ⟨_, rfl⟩
      rw [htx] at HTL hbb
      cases hem : tx.isEmpty with
      | true =>
        have e4 : (str tx == (⟨#[]⟩ : ByteArray)) = true := by cases tx with | nil => rfl | cons a b => cases hem
        have e5 : tx = [] := by cases tx with | nil => rfl | cons a b => cases hem
        rw [hem] at hbb
        have hb2 : bb = true := by rw [← hbb]; rfl
        subst hb2
        subst e5
        clear hbb
        go_wp2_with (go_at_call 46; (with_reducible refine HTL.out.mono ?_); rintro e w3 ⟨rfl, b3⟩; have B3 := hid b3; have z0 := cells_keep b3 y0; have z5 := cells_keep b3 y5; clear b3 y0 y1 y5)
        go_meet
        exact ⟨rfl, B3⟩
      | false =>
        have e5 : ¬ tx = [] := by rintro rfl; cases hem
        have e4 : (str tx == (⟨#[]⟩ : ByteArray)) = false := by rw [show (⟨#[]⟩ : ByteArray) = str [] from rfl, D16.str_beq, beq_eq_false_iff_ne]; exact e5
        rw [hem] at hbb
        have hb2 : bb = false := by rw [← hbb]; rfl
        subst hb2
        clear hbb
        go_wp2_with (go_at_call 46; (with_reducible refine HTL.out.mono ?_); rintro e w3 ⟨rfl, b3⟩; have B3 := hid b3; have z0 := cells_keep b3 y0; have z5 := cells_keep b3 y5; clear b3 y0 y1 y5)
        go_meet
        exact ⟨rfl, B3⟩
    have e4 : (kind == 1) = false := by simpa using hk1
    have e4' : decide (kind = 1) = false := by simpa using hk1
    rw [e4'] at hbb
    clear hk1
    by_cases hk15 : kind = 15
    · subst hk15
      by_cases hl1 : ln = 1
      · subst hl1
        have hb2 : bb = false := by rw [← hbb]; rfl
        subst hb2
        clear hbb
        go_wp2_with fail
        go_meet
        exact ⟨rfl, hid (Below.refl _ _)⟩
      · have e5 : ((ln : Int) != 1) = true := by rw [bne_iff_ne]; omega
        have e6 : (ln != 1) = true := by simpa using hl1
        have hb2 : bb = true := by rw [← hbb, decide_eq_true (show ln ≠ 1 from hl1)]; rfl
        subst hb2
        clear hbb hl1
        go_wp2_with fail
        go_meet
        exact ⟨rfl, hid (Below.refl _ _)⟩
    have e5 : (kind == 15) = false := by simpa using hk15
    have e5' : decide (kind = 15) = false := by simpa using hk15
    rw [e5'] at hbb
    clear hk15
    by_cases hk16 : kind = 16
    · subst hk16
      by_cases hl1 : ln = 2
      · subst hl1
        have hb2 : bb = false := by rw [← hbb]; rfl
        subst hb2
        clear hbb
        go_wp2_with fail
        go_meet
        exact ⟨rfl, hid (Below.refl _ _)⟩
      · have e7 : ((ln : Int) != 2) = true := by rw [bne_iff_ne]; omega
        have e6 : (ln != 2) = true := by simpa using hl1
        have hb2 : bb = true := by rw [← hbb, decide_eq_true (show ln ≠ 2 from hl1)]; rfl
        subst hb2
        clear hbb hl1
        go_wp2_with fail
        go_meet
        exact ⟨rfl, hid (Below.refl _ _)⟩
    have e6 : (kind == 16) = false := by simpa using hk16
    have e6' : decide (kind = 16) = false := by simpa using hk16
    rw [e6'] at hbb
    have hb2 : bb = false := by rw [← hbb]; rfl
    subst hb2
    clear hbb hk16
    go_wp2_with fail
    go_meet
    exact ⟨rfl, hid (Below.refl _ _)⟩
  case rest =>
  obtain ⟨rfl, hB⟩ := hcut
  rename World => w3
  have KI := hid (KI.out.on hB.out)
  have KX := hid (KX.out.below hB.out)
  have B3 := hid (past B1.out hB.out)
  clear HTL y0 y1 y5 hB B1
  cases bb with
  | true =>
    have hr65 : r = 65 := by
      rw [← HR.out]
      by_cases h8 : 8 < deep
      · rw [show f = 0 by have := HD.out; omega]; rfl
      · rw [decide_eq_false h8, Bool.false_or] at hbb
        cases f with
        | zero => rfl
        | succ g => unfold cntR; rw [if_pos hbb]
    have HR65 := hid hr65
    clear hbb hr65
    go_wp2_with fail
    go_ret
    exact ⟨by rw [HR65.out]; rfl, B3.out⟩
  | false =>
    rw [Bool.or_eq_false_iff] at hbb
    have h8 : ¬ 8 < deep := of_decide_eq_false hbb.1
    obtain ⟨g, rfl⟩ : ∃ g, f = g + 1 := ⟨f - 1, by have := HD.out; omega⟩
    have hrr : r = if kind < 15 then 1 else loopR (cntR g) l 1 := by
      rw [← HR.out]
      unfold cntR
      rw [hbb.2, if_neg (by decide)]
    have HRR := hid hrr
    have HCT := hid (show RCnt g from IH.out g rfl)
    obtain ⟨dp, hdp⟩ : ∃ dp, deep + 1 = dp := ⟨_, rfl⟩
    have jd : IntKind.i64.wrap ((deep : Int) + 1) = (dp : Int) := by rw [IntKind.wrap_i64]; omega
    have HDP := hid hdp
    obtain ⟨k15, hk15⟩ : ∃ q, decide (15 ≤ kind) = q := ⟨_, rfl⟩
    clear hbb hrr hdp h8
    go_wp2_with fail
    go_loopw [5, 6] (fun m i wr => ∃ (j v : Nat), j ≤ ln ∧ v ≤ 700 ∧ i = .int .i64 (j : Int) ∧ m = .int .i64 (v : Int) ∧ Hid (r = if kind < 15 then v else loopR (cntR g) (l.drop j) v) ∧ Hid (Below w3.heap.size w3 wr)) (fun m i wr => ln - (intOf i).toNat)
    case atStart => exact ⟨0, 1, Nat.zero_le _, by omega, rfl, rfl, hid (by rw [List.drop_zero]; exact HRR.out), hid (Below.refl _ _)⟩
    case round =>
      clear HRR
      obtain ⟨j, v, hj, hv, rfl, rfl, HA, HB⟩ := hrel
      rename World => wr
      have KX4 := KX.out.below HB.out
      have y0 := KX4.cell (j := 0) rfl
      have y5 := KX4.cell (j := 5) rfl
      clear KX4
      by_cases hgo : (j < ln ∧ k15 = true) ∧ v < 65
      · obtain ⟨⟨hlt, rfl⟩, hv65⟩ := hgo
        have h15 : ¬ kind < 15 := by have := of_decide_eq_true hk15; omega
        have q1 : decide ((j : Int) < (ln : Int)) = true := by simp; omega
        have q1' : decide (j < ln) = true := by simpa using hlt
        have q3 : decide ((v : Int) < 65) = true := by simp; omega
        have q3' : decide (v < 65) = true := by simpa using hv65
        have i0 : (0 : Int) ≤ (j : Int) := by omega
        have i1 : (j : Int) < (ln : Int) := by omega
        have i2 : (j : Int).toNat = j := by omega
        have hjl : j < l.length := by rw [HLL.out]; exact hlt
        obtain ⟨cb, off, hLA, hcc⟩ := key_at (KI.out.ok.lr.below HB.out) hjl
        have hmem : l[j]'hjl ∈ l := List.getElem_mem hjl
        have hc := hcc j hjl
        have hst : loopR (cntR g) (l.drop j) v = loopR (cntR g) (l.drop (j + 1)) (v + cntR g (l[j]'hjl)) := by rw [List.drop_eq_getElem_cons hjl, loopR, if_pos hv65]
        dsimp only at hLA hc
        obtain ⟨x, hx⟩ : ∃ x, l[j]'hjl = x := ⟨_, rfl⟩
        rw [hx] at hmem hst hc
        have hIX := fun (X : World) (m : Below w3.heap.size w3 X) => HCT.out x dp X ((KI.out.ch x hmem).on m) (by have := HDP.out; have := HD.out; omega)
        have hqb := cnt_le g x
        obtain ⟨q, hq⟩ : ∃ q, cntR g x = q := ⟨_, rfl⟩
        rw [hq] at hIX hst hqb
        have HA2 := HA.out
        rw [if_neg h15, hst] at HA2
        have hvq : v + q ≤ 700 := by
          have h1 := loopR_ge (cntR g) (l.drop (j + 1)) (v + q)
          omega
        have HA3 := hid (show r = if kind < 15 then v + q else loopR (cntR g) (l.drop (j + 1)) (v + q) by rw [if_neg h15]; exact HA2)
        obtain ⟨xk, xs, xt, xn, xA, xm, xc, xl, xB, xp, xq, xr⟩ := x
        have HIX := hid (fun X m => (by exact hIX X m : Calls Tryz.prog 21 #[.agg #[.int .i64 xk, .string (str xs), .string (str xt), .int .i64 xn, .slice xA xm xc, .slice xB xp xq], .int .i64 (dp : Int)] X fun e w' => e = .returned (.int .i64 (q : Int)) ∧ Below X.heap.size X w'))
        dsimp only at hc
        have c0 := hc.1
        have c1 := hc.2.1
        have c2 := hc.2.2.1
        have c3 := hc.2.2.2.1
        have c4 := hc.2.2.2.2.1
        have c5 := hc.2.2.2.2.2
        have js : IntKind.i64.wrap ((v : Int) + (q : Int)) = ((v + q : Nat) : Int) := by rw [IntKind.wrap_i64]; omega
        obtain ⟨vq, hvv⟩ : ∃ vq, v + q = vq := ⟨_, rfl⟩
        rw [hvv] at js HA3 hvq
        subst hLA
        clear hcc hmem hst hx hIX hq hc HA HA2 hvv hqb h15
        go_wp2_with (go_at_call 21; (with_reducible refine (HIX.out _ HB.out).mono ?_); rintro e w4 ⟨rfl, b4⟩; have B4 := hid (past HB.out b4); clear b4 c0 c1 c2 c3 c4 c5 y0 y5)
        go_roundw
        case rel => exact ⟨j + 1, vq, by omega, hvq, by go_num, by go_num, HA3, B4⟩
        case measure => simp [intOf]; omega
      · have hrv : r = v := by
          rw [HA.out]
          by_cases h15 : kind < 15
          · rw [if_pos h15]
          · rw [if_neg h15]
            have hk : k15 = true := by rw [← hk15]; exact decide_eq_true (by omega)
            by_cases hlt : j < ln
            · exact loopR_out _ _ _ (fun h => hgo ⟨⟨hlt, hk⟩, h⟩)
            · rw [List.drop_of_length_le (by rw [HLL.out]; omega)]; rfl
        have HRV := hid hrv
        obtain ⟨p1, hp1⟩ : ∃ q, decide (j < ln) = q := ⟨_, rfl⟩
        obtain ⟨p3, hp3⟩ : ∃ q, decide (v < 65) = q := ⟨_, rfl⟩
        have j1 : decide ((j : Int) < (ln : Int)) = p1 := by rw [← hp1, decide_eq_decide]; omega
        have j3 : decide ((v : Int) < 65) = p3 := by rw [← hp3, decide_eq_decide]; omega
        have hpp : (p1 && k15 && p3) = false := by
          rw [Bool.eq_false_iff]
          intro h
          rw [Bool.and_eq_true, Bool.and_eq_true] at h
          exact hgo ⟨⟨of_decide_eq_true (hp1.trans h.1.1), h.1.2⟩, of_decide_eq_true (hp3.trans h.2)⟩
        clear hrv hgo HA
        go_upto_region 5 with fail
        go_cut [52, 53, 54, 55, 56, 57, 58, 59, 60, 61, 62, 63, 64, 65] from 52 to 65 (fun a1 a2 a3 a4 a5 a6 a7 a8 a9 a10 a11 a12 a13 t wx => t = .bool false ∧ wr = wx)
        case first =>
          go_wp2_with fail
          all_goals (go_meet; exact ⟨by simp_all, rfl⟩)
        case rest =>
        obtain ⟨rfl, hw9⟩ := hcut
        subst hw9
        clear hpp j1 j3 hp1 hp3
        go_wp2_with fail
        go_ret
        exact ⟨by rw [HRV.out]; rfl, past B3.out HB.out⟩
theorem count_next (f : Nat) (h : RCnt f) : RCnt (f + 1) := by
  refine count_step (f + 1) ?_
  intro g hg
  have e : g = f := Nat.succ.inj hg
  rw [e]
  exact h
theorem rcnts : ∀ f, RCnt f
  | 0 => by
    refine count_step 0 ?_
    intro g hg
    cases hg
  | f + 1 => count_next f (rcnts f)
set_option maxHeartbeats 2000000 in
theorem rmay_any (k : KeyT) (w : World) (hk : KeyIn w 100 k) :
    Calls Tryz.prog 11 #[.agg (keyC k).toArray] w fun e w' => e = .returned (.bool (mayB k)) ∧ Below w.heap.size w w' := by
  have hm := may_cnt k
  have hcl := cnt_le 9 k
  obtain ⟨c, hc⟩ : ∃ c, cntR 9 k = c := ⟨_, rfl⟩
  have hC := fun (X : World) (b : Below w.heap.size w X) => rcnts 9 k 0 X (hk.on b) rfl
  rw [hc] at hm hcl hC
  obtain ⟨q, hq⟩ : ∃ q, decide (c ≤ 64) = q := ⟨_, rfl⟩
  have jq : decide ((c : Int) ≤ 64) = q := by rw [← hq, decide_eq_decide]; omega
  rw [hm, hq]
  obtain ⟨kind, s, t, n, SA, sn, sc, sp, LA, ln, lc, l⟩ := k
  have HC := hid (fun X b => (by exact hC X b : Calls Tryz.prog 21 #[.agg #[.int .i64 kind, .string (str s), .string (str t), .int .i64 n, .slice SA sn sc, .slice LA ln lc], .int .i64 0] X fun e w' => e = .returned (.int .i64 (c : Int)) ∧ Below X.heap.size X w'))
  have O0 := OwnE.new_ w [.int .i64 kind, .string (str s), .string (str t), .int .i64 n, .slice SA sn sc, .slice LA ln lc] 37
  have B0 := hid (show Below w.heap.size w (w.alloc (.cells #[.int .i64 kind, .string (str s), .string (str t), .int .i64 n, .slice SA sn sc, .slice LA ln lc] 37)) from (Below.refl _ _).alloc (Nat.le_refl _) _)
  have x0 := O0.cell (j := 0) rfl
  have x1 := O0.cell (j := 1) rfl
  have x2 := O0.cell (j := 2) rfl
  have x3 := O0.cell (j := 3) rfl
  have x4 := O0.cell (j := 4) rfl
  have x5 := O0.cell (j := 5) rfl
  clear O0 hk hm hc hC
  show Calls Tryz.prog 11 #[.agg #[.int .i64 kind, .string (str s), .string (str t), .int .i64 n, .slice SA sn sc, .slice LA ln lc]] w fun e w' => e = .returned (.bool q) ∧ Below w.heap.size w w'
  go_enter Tryz.func11, Tryz.ntmps11
  go_wp2_with (go_at_call 21; (with_reducible refine (HC.out _ B0.out).mono ?_); rintro e w4 ⟨rfl, b4⟩; have B4 := hid (past B0.out b4); clear b4 x0 x1 x2 x3 x4 x5)
  go_ret
  exact ⟨rfl, B4.out⟩
end Go.Proofs.YtonjadmldgloaaaGreatDoor
