/-
  May a key be: the program's side. A part of the proof: see the head of the text that ends in 'Law'.
-/
import Derived.Test.YtonjadmldgloaaaGreatDoorSe7
namespace Go.Proofs.YtonjadmldgloaaaGreatDoor
open Go.RowKit Go.Shelf
set_option linter.unusedVariables false
set_option maxRecDepth 100000
attribute [local go_sem] Oper.semAt_some

/-- How many keys are within one of a kind; -1: any number. -/
def wiF (kind : Int) : Int := if kind = 15 then 1 else if kind = 16 then 2 else if kind = 17 then -1 else 0
theorem within_any (kind : Int) (w : World) :
    Calls Tryz.prog 23 #[.int .i64 kind] w fun e w' => e = .returned (.int .i64 (wiF kind)) ∧ w = w' := by
  unfold wiF
  by_cases h1 : kind = 15
  · subst h1
    go_enter Tryz.func23, Tryz.ntmps23
    go_wp2
    go_ret
    exact ⟨rfl, rfl⟩
  rw [if_neg h1]
  by_cases h2 : kind = 16
  · subst h2
    go_enter Tryz.func23, Tryz.ntmps23
    go_wp2
    go_ret
    exact ⟨rfl, rfl⟩
  rw [if_neg h2]
  by_cases h3 : kind = 17
  · subst h3
    go_enter Tryz.func23, Tryz.ntmps23
    go_wp2
    go_ret
    exact ⟨rfl, rfl⟩
  rw [if_neg h3]
  have e1 : (kind == 15) = false := by simpa using h1
  have e2 : (kind == 16) = false := by simpa using h2
  have e3 : (kind == 17) = false := by simpa using h3
  clear h1 h2 h3
  go_enter Tryz.func23, Tryz.ntmps23
  go_wp2
  go_ret
  exact ⟨rfl, rfl⟩
def mayV (gc gm : Nat) : Value := .func (.func 22) #[] #[.pointer (some ⟨gc, 0, none⟩), .pointer (some ⟨gm, 0, none⟩)]
/-- What is counted, and the function itself, in boxes of their own. -/
structure MayS (w0 W : World) (gc gm : Nat) (c : Nat) : Prop where
  cnt : OwnE W gc 3 [.int .i64 (c : Int)]
  fn : OwnE W gm 51 [mayV gc gm]
  c0 : w0.heap.size ≤ gc
  b : Below w0.heap.size w0 W
theorem MayS.below {w0 W X : World} {gc gm c : Nat} (m : MayS w0 W gc gm c) (k : Below W.heap.size W X) : MayS w0 X gc gm c := ⟨m.cnt.below k, m.fn.below k, m.c0, past m.b k⟩
theorem MayS.ne {w0 W : World} {gc gm c : Nat} (m : MayS w0 W gc gm c) : gm ≠ gc := m.fn.type_ne m.cnt (by decide)
theorem MayS.count {w0 W : World} {gc gm c : Nat} (m : MayS w0 W gc gm c) (d : Nat) : MayS w0 (W.setCell ⟨gc, 0, none⟩ (.int .i64 (d : Int))) gc gm d :=
  ⟨m.cnt.set 0 _, m.fn.far m.ne _, m.c0, m.b.setCell (p := ⟨gc, 0, none⟩) m.c0 _⟩
theorem go_le {f c : Nat} {k : KeyT} {d : Nat} (h : goK f c k = some d) : d ≤ 64 := by
  rw [go_cnt] at h
  split at h
  · injection h with h; omega
  · cases h
theorem go_bad {f c : Nat} {k : KeyT} (h : 64 < c + 1 ∨ badK k = true) : goK f c k = none := by
  cases f with
  | zero => rfl
  | succ f => unfold goK; rw [if_pos h]
theorem go_ok {f c : Nat} {k : KeyT} (h1 : ¬ 64 < c + 1) (h2 : badK k = false) : goK (f + 1) c k = if k.kind < 15 then some (c + 1) else k.l.foldlM (goK f) (c + 1) := by
  rw [goK, if_neg]
  rintro (h | h)
  · exact h1 h
  · rw [h2] at h; cases h
theorem fold_step (f c : Nat) (l : List KeyT) (j : Nat) (hj : j < l.length) : (l.drop j).foldlM (goK f) c = (goK f c l[j]).bind fun d => (l.drop (j + 1)).foldlM (goK f) d := by
  rw [List.drop_eq_getElem_cons hj, List.foldlM_cons]
  rfl
/-- Asking a key that lies in w0, so deep. -/
def MayA (f : Nat) : Prop := ∀ (k : KeyT) (c deep gc gm : Nat) (w0 W : World), KeyIn w0 100 k → MayS w0 W gc gm c → deep + f = 9 → c ≤ 64 →
  Calls Tryz.prog 22 #[.agg (keyC k).toArray, .int .i64 (deep : Int), .pointer (some ⟨gc, 0, none⟩), .pointer (some ⟨gm, 0, none⟩)] W fun e w' =>
    ∃ d, e = .returned (.bool (goK f c k).isSome) ∧ MayS w0 w' gc gm d ∧ (∀ x, goK f c k = some x → d = x)
set_option maxHeartbeats 32000000 in
theorem may1_step (f : Nat) (ih : ∀ g, g + 1 = f → MayA g) : MayA f := by
  intro k c deep gc gm w0 W hk hm hdeep hc
  have IH := hid ih
  have KI := hid hk
  have M := hid hm
  obtain ⟨r, hr⟩ : ∃ r, goK f c k = r := ⟨_, rfl⟩
  rw [hr]
  have HR := hid hr
  have hd64 : deep ≤ 9 := by omega
  have HD := hid hdeep
  clear ih hk hm hr
  obtain ⟨kind, s, t, n, SA, sn, sc, sp, LA, ln, lc, l⟩ := k
  have hkind := KI.out.ok.kind
  dsimp only at hkind
  obtain ⟨W1, hW1⟩ : ∃ W1, W.alloc (.cells #[.int .i64 kind, .string (str s), .string (str t), .int .i64 n, .slice SA sn sc, .slice LA ln lc] 37) = W1 := ⟨_, rfl⟩
  have b1 : Below W.heap.size W W1 := by rw [← hW1]; exact (Below.refl _ _).alloc (Nat.le_refl _) _
  have hkx : OwnE W1 W.heap.size 37 [.int .i64 kind, .string (str s), .string (str t), .int .i64 n, .slice SA sn sc, .slice LA ln lc] := by rw [← hW1]; exact OwnE.new_ W _ _
  have M1 := M.out.below b1
  have x0 := M1.cnt.cell (j := 0) rfl
  have f0 := M1.cnt.frozen 0
  have hgk : gc ≠ W.heap.size := Nat.ne_of_lt M.out.cnt.lt
  have hkc : OwnE (W1.setCell ⟨gc, 0, none⟩ (.int .i64 ((c + 1 : Nat) : Int))) W.heap.size 37 [.int .i64 kind, .string (str s), .string (str t), .int .i64 n, .slice SA sn sc, .slice LA ln lc] := hkx.far (Ne.symm hgk) _
  have M2 := M1.count (c + 1)
  obtain ⟨W2, hW2⟩ : ∃ W2, W1.setCell ⟨gc, 0, none⟩ (.int .i64 ((c + 1 : Nat) : Int)) = W2 := ⟨_, rfl⟩
  rw [hW2] at hkc M2
  have hcc : ((c + 1 : Nat) : Int) = (c : Int) + 1 := by omega
  rw [hcc] at hW2
  have KX := hid hkc
  have M := hid M2
  have HWI := hid (fun X => within_any kind X)
  obtain ⟨wi, hwi⟩ : ∃ wi, wiF kind = wi := ⟨_, rfl⟩
  rw [hwi] at HWI
  have HW := hid hwi
  have c9 : IntKind.i64.wrap ((c : Int) + 1) = (c : Int) + 1 := by rw [IntKind.wrap_i64]; omega
  obtain ⟨d1, hd1⟩ : ∃ d, c + 1 = d := ⟨_, rfl⟩
  have HD1 := hid hd1
  have hd1b : d1 ≤ 65 := by omega
  have hcx : (c : Int) + 1 = (d1 : Int) := by omega
  rw [hd1] at M
  clear hkx M1 M2 hgk hkc hwi b1 hd1 hcc
  show Calls Tryz.prog 22 #[.agg #[.int .i64 kind, .string (str s), .string (str t), .int .i64 n, .slice SA sn sc, .slice LA ln lc], .int .i64 (deep : Int), .pointer (some ⟨gc, 0, none⟩), .pointer (some ⟨gm, 0, none⟩)] W fun e w' => ∃ d, e = .returned (.bool r.isSome) ∧ MayS w0 w' gc gm d ∧ (∀ x, r = some x → d = x)
  obtain ⟨t1, ht1⟩ : ∃ t, decide (64 < d1) = t := ⟨_, rfl⟩
  obtain ⟨t2, ht2⟩ : ∃ t, decide (8 < deep) = t := ⟨_, rfl⟩
  obtain ⟨t3, ht3⟩ : ∃ t, decide (kind < 0) = t := ⟨_, rfl⟩
  obtain ⟨t4, ht4⟩ : ∃ t, decide (17 < kind) = t := ⟨_, rfl⟩
  have jt1 : decide ((64 : Int) < (d1 : Int)) = t1 := by rw [← ht1, decide_eq_decide]; omega
  have jt2 : decide ((8 : Int) < (deep : Int)) = t2 := by rw [← ht2, decide_eq_decide]; omega
  obtain ⟨tt, htt⟩ : ∃ t, (((t1 || t2) || t3) || t4) = t := ⟨_, rfl⟩
  rw [hcx] at c9 hW2
  go_enter Tryz.func22, Tryz.ntmps22
  go_upto_region 2 with fail
  clear x0 f0 c9 hW1 hW2 hcx
  have y0 := KX.out.cell (j := 0) rfl
  have y1 := KX.out.cell (j := 1) rfl
  have y5 := KX.out.cell (j := 5) rfl
  have k0 := M.out.cnt.cell (j := 0) rfl
  go_upto_region 3 with (go_at_call 23; (with_reducible refine (HWI.out _).mono ?_); rintro e w1 ⟨rfl, rfl⟩)
  go_cut [32] (fun t wx => t = .bool tt ∧ W2 = wx)
  case first =>
    go_wp2_with fail
    all_goals (go_meet; exact ⟨by rw [← htt]; simp [*], rfl⟩)
  case rest =>
  obtain ⟨rfl, hw9⟩ := hcut
  subst hw9
  clear jt1 jt2 k0
  cases tt with
  | true =>
    have hrn : r = none := by
      rw [← HR.out]
      by_cases hd8 : 8 < deep
      · rw [show f = 0 by have := HD.out; omega]; rfl
      · refine go_bad ?_
        by_cases h64 : 64 < d1
        · exact .inl (by have := HD1.out; omega)
        · right
          rw [← ht1, ← ht2, ← ht3, ← ht4, decide_eq_false h64, decide_eq_false hd8, Bool.false_or, Bool.false_or] at htt
          unfold badK
          dsimp only
          rw [Bool.or_eq_true] at htt
          rcases htt with e | e
          · rw [e]; rfl
          · rw [e, Bool.or_true]; rfl
    subst hrn
    clear ht1 ht2 ht3 ht4 htt
    go_wp2_with fail
    go_ret
    exact ⟨d1, rfl, M.out, fun x h => by cases h⟩
  | false =>
    simp only [Bool.or_eq_false_iff] at htt
    obtain ⟨⟨⟨u1, u2⟩, u3⟩, u4⟩ := htt
    rw [u1] at ht1; rw [u2] at ht2; rw [u3] at ht3; rw [u4] at ht4
    have g1 : ¬ 64 < d1 := of_decide_eq_false ht1
    have g2 : ¬ 8 < deep := of_decide_eq_false ht2
    have g3 : ¬ kind < 0 := of_decide_eq_false ht3
    have g4 : ¬ 17 < kind := of_decide_eq_false ht4
    clear ht1 ht2 ht3 ht4 u1 u2 u3 u4
    obtain ⟨f0, rfl⟩ : ∃ f0, f = f0 + 1 := ⟨f - 1, by have := HD.out; omega⟩
    have HTL := hid (told_any s W2 (Nat.le_trans KI.out.ok.s (by omega)))
    unfold toldV at HTL
    obtain ⟨em, hem⟩ : ∃ em, (toldF s).isEmpty = em := ⟨_, rfl⟩
    rw [hem] at HTL
    have HEM := hid hem
    have hbadK : badK ⟨kind, s, t, n, SA, sn, sc, sp, LA, ln, lc, l⟩ = ((decide (kind = 1) && em) || (decide (kind = 15) && decide (l.length ≠ 1)) || (decide (kind = 16) && decide (l.length ≠ 2))) := by
      unfold badK
      dsimp only
      rw [decide_eq_false g3, decide_eq_false g4, hem]
      rfl
    have HBK := hid hbadK
    have HLL := hid (show l.length = ln from KI.out.ok.ll)
    have hln : ln ≤ 100 := KI.out.ok.lm
    obtain ⟨tx, htx⟩ : ∃ tx, toldF s = tx := ⟨_, rfl⟩
    rw [htx] at HTL
    obtain ⟨en, hen⟩ : ∃ en : Int, (if em = true then (18 : Int) else 0) = en := ⟨_, rfl⟩
    rw [hen] at HTL
    obtain ⟨k1, hk1⟩ : ∃ q, (kind == 1) = q := ⟨_, rfl⟩
    obtain ⟨tb, htb⟩ : ∃ q, (k1 && em) = q := ⟨_, rfl⟩
    have hne : (en != 0) = em := by rw [← hen]; cases em <;> rfl
    clear hem hbadK htx hen
    go_upto_region 6 with (go_at_call 24; (with_reducible refine HTL.out.mono ?_); rintro e w3 ⟨rfl, b3⟩; have z0 := cells_keep b3 y0; have z5 := cells_keep b3 y5; have M3 := hid (M.out.below b3); have KX3 := hid (KX.out.below b3); clear b3 y0 y1 y5)
    go_cut [45] (fun t wx => t = .bool tb ∧ w3 = wx)
    case first =>
      go_wp2_with fail
      all_goals (go_meet; exact ⟨by rw [← htb]; simp [*], rfl⟩)
    case rest =>
    obtain ⟨rfl, hw9⟩ := hcut
    subst hw9
    clear hne
    have hkd : decide (kind = 1) = k1 := by rw [← hk1]; rfl
    clear hk1
    cases tb with
    | true =>
      have hrn : r = none := by rw [← HR.out]; refine go_bad (.inr ?_); rw [HBK.out, hkd, htb]; rfl
      subst hrn
      clear htb hkd
      go_wp2_with fail
      go_ret
      exact ⟨d1, rfl, M3.out, fun x h => by cases h⟩
    | false =>
      by_cases h15 : kind < 15
      · have hwz : wi = 0 := by rw [← HW.out]; unfold wiF; rw [if_neg (by omega), if_neg (by omega), if_neg (by omega)]
        have hrs : r = some d1 := by
          rw [← HR.out, go_ok (by have := HD1.out; omega) (by rw [HBK.out, hkd, htb, decide_eq_false (show ¬ kind = 15 by omega), decide_eq_false (show ¬ kind = 16 by omega)]; rfl)]
          dsimp only
          rw [if_pos h15]
          exact congrArg some HD1.out
        subst hwz hrs
        clear htb hkd h15
        go_wp2_with fail
        go_ret
        exact ⟨d1, rfl, M3.out, fun x h => by injection h⟩
      · have hwn : (wi == 0) = false := by
          rw [beq_eq_false_iff_ne, ← HW.out]
          unfold wiF
          have : kind = 15 ∨ kind = 16 ∨ kind = 17 := by omega
          rcases this with rfl | rfl | rfl <;> decide
        obtain ⟨l1, hl1⟩ : ∃ q, decide (0 < wi) = q := ⟨_, rfl⟩
        obtain ⟨l2, hl2⟩ : ∃ q, ((ln : Int) != wi) = q := ⟨_, rfl⟩
        obtain ⟨tl, htl⟩ : ∃ q, (l1 && l2) = q := ⟨_, rfl⟩
        have hbk : badK ⟨kind, s, t, n, SA, sn, sc, sp, LA, ln, lc, l⟩ = tl := by
          rw [HBK.out, hkd, htb, HLL.out, Bool.false_or, ← htl, ← hl1, ← hl2, ← HW.out]
          unfold wiF
          have : kind = 15 ∨ kind = 16 ∨ kind = 17 := by omega
          rcases this with rfl | rfl | rfl
          · by_cases h1 : ln = 1
            · subst h1; rfl
            · rw [decide_eq_true h1, show ((ln : Int) != (if (15 : Int) = 15 then 1 else if (15 : Int) = 16 then 2 else if (15 : Int) = 17 then -1 else 0)) = true by show ((ln : Int) != 1) = true; rw [bne_iff_ne]; omega]; rfl
          · by_cases h1 : ln = 2
            · subst h1; rfl
            · rw [decide_eq_true h1, show ((ln : Int) != (if (16 : Int) = 15 then 1 else if (16 : Int) = 16 then 2 else if (16 : Int) = 17 then -1 else 0)) = true by show ((ln : Int) != 2) = true; rw [bne_iff_ne]; omega]; rfl
          · rfl
        have HB2 := hid hbk
        clear hbk
        go_upto_region 10 with fail
        go_cut [56] (fun t wx => t = .bool tl ∧ w3 = wx)
        case first =>
          go_wp2_with fail
          all_goals (go_meet; exact ⟨by rw [← htl]; simp [*], rfl⟩)
        case rest =>
        obtain ⟨rfl, hw9⟩ := hcut
        subst hw9
        clear hl1 hl2 htl hwn htb hkd
        cases tl with
        | true =>
          have hrn : r = none := by rw [← HR.out]; exact go_bad (.inr HB2.out)
          subst hrn
          go_wp2_with fail
          go_ret
          first
            | exact ⟨d1, rfl, M3.out, fun x h => by cases h⟩
            | exact ⟨rfl, d1, M3.out⟩
            | exact ⟨rfl, d1, M3.out, fun x h => by cases h⟩
        | false =>
          have hrf : r = l.foldlM (goK f0) d1 := by
            rw [← HR.out, go_ok (by have := HD1.out; omega) HB2.out]
            dsimp only
            rw [if_neg h15]
            exact congrArg (fun d => l.foldlM (goK f0) d) HD1.out
          have HRF := hid hrf
          obtain ⟨dp, hdp⟩ : ∃ dp, deep + 1 = dp := ⟨_, rfl⟩
          have jd : IntKind.i64.wrap ((deep : Int) + 1) = (dp : Int) := by rw [IntKind.wrap_i64]; omega
          have HDP := hid hdp
          have HKI := hid (show MayA f0 from IH.out f0 rfl)
          clear hrf hdp h15
          go_wp2_with fail
          clear z0 z5
          go_loopw [11, 60] (fun bx i wr => ∃ (j d : Nat), j ≤ ln ∧ d ≤ 64 ∧ i = .int .i64 (j : Int) ∧ Hid (r = (l.drop j).foldlM (goK f0) d) ∧ Hid (MayS w0 wr gc gm d)) (fun bx i wr => ln - (intOf i).toNat)
          case atStart => exact ⟨0, d1, Nat.zero_le _, by omega, rfl, hid (by rw [List.drop_zero]; exact HRF.out), M3⟩
          case round =>
            clear M3 HRF
            obtain ⟨j, d, hj, hd, rfl, HA, M⟩ := hrel
            rename World => wr
            by_cases hlt : j < ln
            · have q1 : decide ((j : Int) < (ln : Int)) = true := by simp; omega
              have q1' : decide (j < ln) = true := by simpa using hlt
              have i0 : (0 : Int) ≤ (j : Int) := by omega
              have i1 : (j : Int) < (ln : Int) := by omega
              have i2 : (j : Int).toNat = j := by omega
              have hjl : j < l.length := by rw [HLL.out]; exact hlt
              obtain ⟨cb, off, hLA, hcc⟩ := key_at (KI.out.ok.lr.below M.out.b) hjl
              have hmem : l[j]'hjl ∈ l := List.getElem_mem hjl
              have hst := fold_step f0 d l j hjl
              have hc := hcc j hjl
              dsimp only at hLA hc
              obtain ⟨x, hx⟩ : ∃ x, l[j]'hjl = x := ⟨_, rfl⟩
              rw [hx] at hmem hst hc
              have hIX := fun (X : World) (m : MayS w0 X gc gm d) => HKI.out x d dp gc gm w0 X (KI.out.ch x hmem) m (by have := HDP.out; have := HD.out; omega) hd
              obtain ⟨q, hq⟩ : ∃ q, goK f0 d x = q := ⟨_, rfl⟩
              rw [hq] at hIX hst
              have HST := hid hst
              obtain ⟨xk, xs, xt, xn, xA, xm, xc, xl, xB, xp, xq, xr⟩ := x
              have HIX := hid (fun X m => (by exact hIX X m : Calls Tryz.prog 22 #[.agg #[.int .i64 xk, .string (str xs), .string (str xt), .int .i64 xn, .slice xA xm xc, .slice xB xp xq], .int .i64 (dp : Int), .pointer (some ⟨gc, 0, none⟩), .pointer (some ⟨gm, 0, none⟩)] X fun e w' => ∃ d', e = .returned (.bool q.isSome) ∧ MayS w0 w' gc gm d' ∧ (∀ y, q = some y → d' = y)))
              have HQ := hid (fun y (h : q = some y) => go_le (hq.trans h))
              dsimp only at hc
              have c0 := hc.1
              have c1 := hc.2.1
              have c2 := hc.2.2.1
              have c3 := hc.2.2.2.1
              have c4 := hc.2.2.2.2.1
              have c5 := hc.2.2.2.2.2
              obtain ⟨Wx, hWx⟩ : ∃ Wx, wr.alloc (.cells #[.int .i64 xk, .string (str xs), .string (str xt), .int .i64 xn, .slice xA xm xc, .slice xB xp xq] 37) = Wx := ⟨_, rfl⟩
              have hOX : OwnE Wx wr.heap.size 37 [.int .i64 xk, .string (str xs), .string (str xt), .int .i64 xn, .slice xA xm xc, .slice xB xp xq] := by rw [← hWx]; exact OwnE.new_ wr _ _
              have hMW : MayS w0 Wx gc gm d := by rw [← hWx]; exact M.out.below ((Below.refl _ wr).alloc (Nat.le_refl _) _)
              have x0 := hOX.cell (j := 0) rfl
              have x1 := hOX.cell (j := 1) rfl
              have x2 := hOX.cell (j := 2) rfl
              have x3 := hOX.cell (j := 3) rfl
              have x4 := hOX.cell (j := 4) rfl
              have x5 := hOX.cell (j := 5) rfl
              have xf := hMW.fn.cell (j := 0) rfl
              unfold mayV at xf
              have M := hid hMW
              subst hLA
              clear hcc hmem hst hx hIX hq hc hOX hMW
              cases q with
              | none =>
                have HRN := hid (show r = none by rw [HA.out, HST.out]; rfl)
                clear HST HA
                go_wp2_with (go_at_call 22; (with_reducible refine (HIX.out _ M.out).mono ?_); rintro e w4 ⟨d4, rfl, m4, h4⟩; have M4 := hid m4; clear m4 h4 c0 c1 c2 c3 c4 c5 x0 x1 x2 x3 x4 x5 xf hWx)
                go_ret
                exact ⟨d4, by rw [HRN.out]; rfl, M4.out, fun x h => by rw [HRN.out] at h; cases h⟩
              | some d2 =>
                have HA2 := hid (show r = (l.drop (j + 1)).foldlM (goK f0) d2 by rw [HA.out, HST.out]; rfl)
                clear HST HA
                go_wp2_with (go_at_call 22; (with_reducible refine (HIX.out _ M.out).mono ?_); rintro e w4 ⟨d4, rfl, m4, h4⟩; have M4 := hid m4; have H4 := hid (h4 d2 rfl); clear m4 h4 c0 c1 c2 c3 c4 c5 x0 x1 x2 x3 x4 x5 xf hWx)
                go_roundw
                case rel => exact ⟨j + 1, d2, by omega, HQ.out d2 rfl, by go_num, HA2, hid (by have := M4.out; rw [H4.out] at this; exact this)⟩
                case measure => simp [intOf]; omega
            · have q1 : decide ((j : Int) < (ln : Int)) = false := by simp; omega
              have q1' : decide (j < ln) = false := by simpa using hlt
              have HRN := hid (show r = some d by rw [HA.out, List.drop_of_length_le (by rw [HLL.out]; omega)]; rfl)
              go_wp2_with fail
              go_ret
              exact ⟨d, by rw [HRN.out]; rfl, M.out, fun x h => by rw [HRN.out] at h; injection h⟩
theorem run_store_func {P : Program} {w : World} {a : Addr} (f : Fn) (b c : Array Value) (m : _) : (store a (.func f b c) m).run P w = stored P w a (.func f b c) m := run_store P w a _ m rfl
attribute [local go_sem] run_store_func
theorem may1_next (f : Nat) (h : MayA f) : MayA (f + 1) := by
  refine may1_step (f + 1) ?_
  intro g hg
  have e : g = f := Nat.succ.inj hg
  rw [e]
  exact h
theorem mays : ∀ f, MayA f
  | 0 => by
    refine may1_step 0 ?_
    intro g hg
    cases hg
  | f + 1 => may1_next f (mays f)
set_option maxHeartbeats 4000000 in
theorem may_any (k : KeyT) (w : World) (hk : KeyIn w 100 k) :
    Calls Tryz.prog 12 #[.agg (keyC k).toArray] w fun e w' => e = .returned (.bool (mayB k)) ∧ Below w.heap.size w w' := by
  have hr : (goK 9 0 k).isSome = mayB k := rfl
  obtain ⟨r, hrr⟩ : ∃ r, goK 9 0 k = r := ⟨_, rfl⟩
  have hm := fun (X : World) (m : MayS w X (w.heap.size + 1) (w.heap.size + 1 + 1) 0) => mays 9 k 0 0 (w.heap.size + 1) (w.heap.size + 1 + 1) w X hk m rfl (by omega)
  rw [hrr] at hr hm
  rw [← hr]
  obtain ⟨kind, s, t, n, SA, sn, sc, sp, LA, ln, lc, l⟩ := k
  have HM := hid (fun X m => (by exact hm X m : Calls Tryz.prog 22 #[.agg #[.int .i64 kind, .string (str s), .string (str t), .int .i64 n, .slice SA sn sc, .slice LA ln lc], .int .i64 0, .pointer (some ⟨w.heap.size + 1, 0, none⟩), .pointer (some ⟨w.heap.size + 1 + 1, 0, none⟩)] X fun e w' => ∃ d, e = .returned (.bool r.isSome) ∧ MayS w w' (w.heap.size + 1) (w.heap.size + 1 + 1) d ∧ (∀ x, r = some x → d = x)))
  have a1 : Below w.heap.size w (w.alloc (.cells #[.int .i64 kind, .string (str s), .string (str t), .int .i64 n, .slice SA sn sc, .slice LA ln lc] 37)) := (Below.refl _ _).alloc (Nat.le_refl _) _
  have a2 := a1.alloc a1.size (.cells #[.int .i64 0] 3)
  have a3 := a2.alloc a2.size (.cells #[mayV (w.heap.size + 1) (w.heap.size + 1 + 1)] 51)
  have k1 : Below (w.alloc (.cells #[.int .i64 kind, .string (str s), .string (str t), .int .i64 n, .slice SA sn sc, .slice LA ln lc] 37)).heap.size (w.alloc (.cells #[.int .i64 kind, .string (str s), .string (str t), .int .i64 n, .slice SA sn sc, .slice LA ln lc] 37)) ((w.alloc (.cells #[.int .i64 kind, .string (str s), .string (str t), .int .i64 n, .slice SA sn sc, .slice LA ln lc] 37)).alloc (.cells #[.int .i64 0] 3)) := (Below.refl _ _).alloc (Nat.le_refl _) _
  have k2 : Below ((w.alloc (.cells #[.int .i64 kind, .string (str s), .string (str t), .int .i64 n, .slice SA sn sc, .slice LA ln lc] 37)).alloc (.cells #[.int .i64 0] 3)).heap.size ((w.alloc (.cells #[.int .i64 kind, .string (str s), .string (str t), .int .i64 n, .slice SA sn sc, .slice LA ln lc] 37)).alloc (.cells #[.int .i64 0] 3)) (((w.alloc (.cells #[.int .i64 kind, .string (str s), .string (str t), .int .i64 n, .slice SA sn sc, .slice LA ln lc] 37)).alloc (.cells #[.int .i64 0] 3)).alloc (.cells #[mayV (w.heap.size + 1) (w.heap.size + 1 + 1)] 51)) := (Below.refl _ _).alloc (Nat.le_refl _) _
  have o1 := ((OwnE.new_ w [.int .i64 kind, .string (str s), .string (str t), .int .i64 n, .slice SA sn sc, .slice LA ln lc] 37).below k1).below k2
  have o2 := (OwnE.new_ (w.alloc (.cells #[.int .i64 kind, .string (str s), .string (str t), .int .i64 n, .slice SA sn sc, .slice LA ln lc] 37)) [.int .i64 0] 3).below k2
  have o3 := OwnE.new_ ((w.alloc (.cells #[.int .i64 kind, .string (str s), .string (str t), .int .i64 n, .slice SA sn sc, .slice LA ln lc] 37)).alloc (.cells #[.int .i64 0] 3)) [mayV (w.heap.size + 1) (w.heap.size + 1 + 1)] 51
  have o4 := OwnE.new_ ((w.alloc (.cells #[.int .i64 kind, .string (str s), .string (str t), .int .i64 n, .slice SA sn sc, .slice LA ln lc] 37)).alloc (.cells #[.int .i64 0] 3)) [.nilFunc] 51
  rw [World.size_alloc] at o2
  rw [World.size_alloc, World.size_alloc] at o3 o4
  have n0 := o4.cell (j := 0) rfl
  have n1 := o4.frozen 0
  obtain ⟨W3, hW3⟩ : ∃ W3, (((w.alloc (.cells #[.int .i64 kind, .string (str s), .string (str t), .int .i64 n, .slice SA sn sc, .slice LA ln lc] 37)).alloc (.cells #[.int .i64 0] 3)).alloc (.cells #[mayV (w.heap.size + 1) (w.heap.size + 1 + 1)] 51)) = W3 := ⟨_, rfl⟩
  have M : Hid (MayS w W3 (w.heap.size + 1) (w.heap.size + 1 + 1) 0) := hid (by rw [← hW3]; exact ⟨o2, o3, by omega, a3⟩)
  have x0 : W3.cell? ⟨w.heap.size, 0, none⟩ = some (.int .i64 kind) := by rw [← hW3]; exact o1.cell (j := 0) rfl
  have x1 : W3.cell? ⟨w.heap.size, 1, none⟩ = some (.string (str s)) := by rw [← hW3]; exact o1.cell (j := 1) rfl
  have x2 : W3.cell? ⟨w.heap.size, 2, none⟩ = some (.string (str t)) := by rw [← hW3]; exact o1.cell (j := 2) rfl
  have x3 : W3.cell? ⟨w.heap.size, 3, none⟩ = some (.int .i64 n) := by rw [← hW3]; exact o1.cell (j := 3) rfl
  have x4 : W3.cell? ⟨w.heap.size, 4, none⟩ = some (.slice SA sn sc) := by rw [← hW3]; exact o1.cell (j := 4) rfl
  have x5 : W3.cell? ⟨w.heap.size, 5, none⟩ = some (.slice LA ln lc) := by rw [← hW3]; exact o1.cell (j := 5) rfl
  have xf : W3.cell? ⟨w.heap.size + 1 + 1, 0, none⟩ = some (mayV (w.heap.size + 1) (w.heap.size + 1 + 1)) := M.out.fn.cell (j := 0) rfl
  unfold mayV at xf hW3
  clear a1 a2 a3 k1 k2 o1 o2 o3 o4 hk hm hrr hr
  show Calls Tryz.prog 12 #[.agg #[.int .i64 kind, .string (str s), .string (str t), .int .i64 n, .slice SA sn sc, .slice LA ln lc]] w fun e w' => e = .returned (.bool r.isSome) ∧ Below w.heap.size w w'
  go_enter Tryz.func12, Tryz.ntmps12
  go_wp2_with (go_at_call 22; (with_reducible refine (HM.out _ M.out).mono ?_); rintro e w4 ⟨d4, rfl, m4, -⟩; have M4 := hid m4; clear m4 x0 x1 x2 x3 x4 x5 xf hW3 n0 n1)
  go_ret
  exact ⟨rfl, M4.out.b⟩
end Go.Proofs.YtonjadmldgloaaaGreatDoor
