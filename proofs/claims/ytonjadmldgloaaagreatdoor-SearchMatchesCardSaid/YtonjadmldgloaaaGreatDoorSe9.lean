/-
  Is a message meant: the document's side. A part of the proof: see the head of the text that ends in 'Law'.
-/
import Derived.Test.YtonjadmldgloaaaGreatDoorSe8
namespace Go.Proofs.YtonjadmldgloaaaGreatDoor
open Go.RowKit Go.Shelf
set_option linter.unusedVariables false
set_option linter.unusedSimpArgs false
set_option maxRecDepth 100000
attribute [local go_sem] Oper.semAt_some

theorem mn_start2 (w : World) (k : KeyT) (h : HitV) (hk : KeyIn w 100 k) (hh : HitIn w h) (ht : Tabs w) :
    MnS w ((w.alloc (.cells (keyC k).toArray 37)).alloc (.cells (hitC h).toArray 30)) k h (w.heap.size + 1) w.heap.size := by
  have a1 : Below w.heap.size w (w.alloc (.cells (keyC k).toArray 37)) := (Below.refl _ _).alloc (Nat.le_refl _) _
  have a2 : Below w.heap.size w ((w.alloc (.cells (keyC k).toArray 37)).alloc (.cells (hitC h).toArray 30)) := a1.alloc a1.size _
  have k1 : Below (w.alloc (.cells (keyC k).toArray 37)).heap.size (w.alloc (.cells (keyC k).toArray 37)) ((w.alloc (.cells (keyC k).toArray 37)).alloc (.cells (hitC h).toArray 30)) := (Below.refl _ _).alloc (Nat.le_refl _) _
  refine ⟨(OwnE.new_ w (keyC k) 37).below k1, ?_, hk.on a2, hh.below a2, ht.below a2, a2⟩
  have := OwnE.new_ (w.alloc (.cells (keyC k).toArray 37)) (hitC h) 30
  rw [World.size_alloc] at this
  exact this
/-- What the document says of a key that may be, so deep. -/
def RAsks (f : Nat) : Prop := ∀ (k : KeyT) (h : HitV) (w : World), KeyIn w 100 k → MayD f k → HitIn w h → Tabs w →
  Calls Tryz.prog 13 #[.agg (keyC k).toArray, .agg (hitC h).toArray] w fun e w' => e = .returned (.bool (meansF f h k)) ∧ Below w.heap.size w w'
theorem find_date (l : List UInt8) : D17.findF l [100, 97, 116, 101] (D17.fieldsL l) = D17.findF l dateL (D17.fieldsL l) := rfl
set_option maxHeartbeats 32000000 in
theorem rmeans_step (f : Nat) (ih : RAsks f) : RAsks (f + 1) := by
  intro k h w hk hm hh ht
  have IH := hid ih
  have hmx := hm.2
  have hbad := hm.1
  have hks : 0 ≤ k.kind ∧ k.kind ≤ 17 := by
    unfold badK at hbad
    simp only [Bool.or_eq_false_iff, decide_eq_false_iff_not] at hbad
    omega
  obtain ⟨r, hr⟩ : ∃ r, meansF (f + 1) h k = r := ⟨_, rfl⟩
  rw [hr]
  have HR := hid hr
  clear hr ih
  have HM := hid (mn_start2 w k h hk hh ht)
  obtain ⟨kind, s, t, n, SA, sn, sc, sp, LA, ln, lc, l⟩ := k
  obtain ⟨uid, sec, zone, size, blob, FA, fn, fc, fl, place, many, great, BA, bn, bc, b⟩ := h
  obtain ⟨W2, hW2⟩ : ∃ W2, ((w.alloc (.cells #[.int .i64 kind, .string (str s), .string (str t), .int .i64 n, .slice SA sn sc, .slice LA ln lc] 37)).alloc (.cells #[.int .i64 uid, .int .i64 sec, .int .i64 zone, .int .i64 size, .int .u64 (blob : Int), .slice FA fn fc, .int .i64 place, .int .i64 many, .int .i64 great, .slice BA bn bc] 30)) = W2 := ⟨_, rfl⟩
  have M : Hid (MnS w W2 ⟨kind, s, t, n, SA, sn, sc, sp, LA, ln, lc, l⟩ ⟨uid, sec, zone, size, blob, FA, fn, fc, fl, place, many, great, BA, bn, bc, b⟩ (w.heap.size + 1) w.heap.size) := hid (by rw [← hW2]; exact HM.out)
  have HMX := hid hmx
  have HBAD := hid hbad
  have hcv := D16.strP bc M.out.hi.bl
  have zz := M.out.hit.cell (j := 9) rfl
  dsimp only at hks hcv
  clear HM hk hm hh ht hmx hbad
  show Calls Tryz.prog 13 #[.agg #[.int .i64 kind, .string (str s), .string (str t), .int .i64 n, .slice SA sn sc, .slice LA ln lc], .agg #[.int .i64 uid, .int .i64 sec, .int .i64 zone, .int .i64 size, .int .u64 (blob : Int), .slice FA fn fc, .int .i64 place, .int .i64 many, .int .i64 great, .slice BA bn bc]] w fun e w' => e = .returned (.bool r) ∧ Below w.heap.size w w'
  go_enter Tryz.func13, Tryz.ntmps13
  go_upto_region 2 with fail
  have y0 := M.out.key.cell (j := 0) rfl
  have y1 := M.out.key.cell (j := 1) rfl
  have y2 := M.out.key.cell (j := 2) rfl
  have y3 := M.out.key.cell (j := 3) rfl
  have y4 := M.out.key.cell (j := 4) rfl
  have y5 := M.out.key.cell (j := 5) rfl
  clear hW2 hcv zz
  have hc : kind = 0 ∨ kind = 1 ∨ kind = 2 ∨ kind = 3 ∨ kind = 4 ∨ kind = 5 ∨ kind = 6 ∨ kind = 7 ∨ kind = 8 ∨ kind = 9 ∨ kind = 10 ∨ kind = 11 ∨ kind = 12 ∨ kind = 13 ∨ kind = 14 ∨ kind = 15 ∨ kind = 16 ∨ kind = 17 := by omega
  clear hks
  rcases hc with rfl | rfl | rfl | rfl | rfl | rfl | rfl | rfl | rfl | rfl | rfl | rfl | rfl | rfl | rfl | rfl | rfl | rfl
  · as_aux_lemma =>
      go_wp2_with fail
      go_ret
      exact ⟨by rw [← HR.out]; rfl, M.out.b⟩
  · as_aux_lemma =>
      have z5 := M.out.hit.cell (j := 5) rfl
      have hr : flagF fl s = r := by rw [← HR.out]; unfold meansF; rfl
      have HFL := hid (rfhas_any FA fn fc fl s W2 M.out.hi.fl M.out.hi.fm M.out.hi.fr (Nat.le_trans M.out.ki.ok.s (by omega)))
      rw [hr] at HFL
      clear hr
      go_wp2_with (go_at_call 25; (with_reducible refine HFL.out.mono ?_); rintro e w1 ⟨rfl, b1⟩; have B1 := hid (past M.out.b b1); clear b1)
      go_ret
      exact ⟨rfl, B1.out⟩
  · as_aux_lemma =>
      have z1 := M.out.hit.cell (j := 1) rfl
      have z2 := M.out.hit.cell (j := 2) rfl
      have jw : IntKind.i64.wrap (0 : Int) = 0 := rfl
      cases hmd : D16.mayD sec zone with
      | true =>
        obtain ⟨dn, hdn⟩ : ∃ d, (sec + 60 * zone) / 86400 = d := ⟨_, rfl⟩
        have hr : dayF 0 dn n = r := by rw [← HR.out, ← hdn, show (sec + 60 * zone) / 86400 = dayN ⟨uid, sec, zone, size, blob, FA, fn, fc, fl, place, many, great, BA, bn, bc, b⟩ by unfold dayN; dsimp only; rw [hmd, if_pos rfl]]; unfold meansF; rfl
        have HCK := hid (D16.clock_yes sec zone W2 hmd)
        rw [hdn] at HCK
        have HDY := hid (fun X => rday_any 0 dn n (by omega) X)
        rw [hr] at HDY
        clear hr hdn hmd
        go_wp2_with first
          | (go_at_call 26; (with_reducible refine HCK.out.mono ?_); rintro e w4 ⟨rfl, b4⟩; have B4 := hid (past M.out.b b4); have x0 := cells_keep b4 y0; have x3 := cells_keep b4 y3; clear b4 y0 y1 y2 y3 y4 y5 z1 z2)
          | (go_at_call 27; (with_reducible refine (HDY.out _).mono ?_); rintro e w5 ⟨rfl, rfl⟩)
        go_ret
        exact ⟨rfl, B4.out⟩
      | false =>
        have hdz : dayN ⟨uid, sec, zone, size, blob, FA, fn, fc, fl, place, many, great, BA, bn, bc, b⟩ = 0 := by unfold dayN; dsimp only; rw [hmd, if_neg (by decide)]
        have hr : dayF 0 (dayN ⟨uid, sec, zone, size, blob, FA, fn, fc, fl, place, many, great, BA, bn, bc, b⟩) n = r := by rw [← HR.out]; unfold meansF; rfl
        rw [hdz] at hr
        have HCK := hid (D16.clock_no sec zone W2 hmd M.out.hi.i64.2.1 M.out.hi.i64.2.2.1)
        have HDY := hid (fun X => rday_any 0 0 n (by omega) X)
        rw [hr] at HDY
        clear hr hmd hdz
        go_wp2_with first
          | (go_at_call 26; (with_reducible refine HCK.out.mono ?_); rintro e w4 ⟨ka, kb, rfl, b4⟩; have B4 := hid (past M.out.b b4); have x0 := cells_keep b4 y0; have x3 := cells_keep b4 y3; clear b4 y0 y1 y2 y3 y4 y5 z1 z2)
          | (go_at_call 27; (with_reducible refine (HDY.out _).mono ?_); rintro e w5 ⟨rfl, rfl⟩)
        go_ret
        exact ⟨rfl, B4.out⟩
  · as_aux_lemma =>
      have z1 := M.out.hit.cell (j := 1) rfl
      have z2 := M.out.hit.cell (j := 2) rfl
      have jw : IntKind.i64.wrap (1 : Int) = 1 := rfl
      cases hmd : D16.mayD sec zone with
      | true =>
        obtain ⟨dn, hdn⟩ : ∃ d, (sec + 60 * zone) / 86400 = d := ⟨_, rfl⟩
        have hr : dayF 1 dn n = r := by rw [← HR.out, ← hdn, show (sec + 60 * zone) / 86400 = dayN ⟨uid, sec, zone, size, blob, FA, fn, fc, fl, place, many, great, BA, bn, bc, b⟩ by unfold dayN; dsimp only; rw [hmd, if_pos rfl]]; unfold meansF; rfl
        have HCK := hid (D16.clock_yes sec zone W2 hmd)
        rw [hdn] at HCK
        have HDY := hid (fun X => rday_any 1 dn n (by omega) X)
        rw [hr] at HDY
        clear hr hdn hmd
        go_wp2_with first
          | (go_at_call 26; (with_reducible refine HCK.out.mono ?_); rintro e w4 ⟨rfl, b4⟩; have B4 := hid (past M.out.b b4); have x0 := cells_keep b4 y0; have x3 := cells_keep b4 y3; clear b4 y0 y1 y2 y3 y4 y5 z1 z2)
          | (go_at_call 27; (with_reducible refine (HDY.out _).mono ?_); rintro e w5 ⟨rfl, rfl⟩)
        go_ret
        exact ⟨rfl, B4.out⟩
      | false =>
        have hdz : dayN ⟨uid, sec, zone, size, blob, FA, fn, fc, fl, place, many, great, BA, bn, bc, b⟩ = 0 := by unfold dayN; dsimp only; rw [hmd, if_neg (by decide)]
        have hr : dayF 1 (dayN ⟨uid, sec, zone, size, blob, FA, fn, fc, fl, place, many, great, BA, bn, bc, b⟩) n = r := by rw [← HR.out]; unfold meansF; rfl
        rw [hdz] at hr
        have HCK := hid (D16.clock_no sec zone W2 hmd M.out.hi.i64.2.1 M.out.hi.i64.2.2.1)
        have HDY := hid (fun X => rday_any 1 0 n (by omega) X)
        rw [hr] at HDY
        clear hr hmd hdz
        go_wp2_with first
          | (go_at_call 26; (with_reducible refine HCK.out.mono ?_); rintro e w4 ⟨ka, kb, rfl, b4⟩; have B4 := hid (past M.out.b b4); have x0 := cells_keep b4 y0; have x3 := cells_keep b4 y3; clear b4 y0 y1 y2 y3 y4 y5 z1 z2)
          | (go_at_call 27; (with_reducible refine (HDY.out _).mono ?_); rintro e w5 ⟨rfl, rfl⟩)
        go_ret
        exact ⟨rfl, B4.out⟩
  · as_aux_lemma =>
      have z1 := M.out.hit.cell (j := 1) rfl
      have z2 := M.out.hit.cell (j := 2) rfl
      have jw : IntKind.i64.wrap (2 : Int) = 2 := rfl
      cases hmd : D16.mayD sec zone with
      | true =>
        obtain ⟨dn, hdn⟩ : ∃ d, (sec + 60 * zone) / 86400 = d := ⟨_, rfl⟩
        have hr : dayF 2 dn n = r := by rw [← HR.out, ← hdn, show (sec + 60 * zone) / 86400 = dayN ⟨uid, sec, zone, size, blob, FA, fn, fc, fl, place, many, great, BA, bn, bc, b⟩ by unfold dayN; dsimp only; rw [hmd, if_pos rfl]]; unfold meansF; rfl
        have HCK := hid (D16.clock_yes sec zone W2 hmd)
        rw [hdn] at HCK
        have HDY := hid (fun X => rday_any 2 dn n (by omega) X)
        rw [hr] at HDY
        clear hr hdn hmd
        go_wp2_with first
          | (go_at_call 26; (with_reducible refine HCK.out.mono ?_); rintro e w4 ⟨rfl, b4⟩; have B4 := hid (past M.out.b b4); have x0 := cells_keep b4 y0; have x3 := cells_keep b4 y3; clear b4 y0 y1 y2 y3 y4 y5 z1 z2)
          | (go_at_call 27; (with_reducible refine (HDY.out _).mono ?_); rintro e w5 ⟨rfl, rfl⟩)
        go_ret
        exact ⟨rfl, B4.out⟩
      | false =>
        have hdz : dayN ⟨uid, sec, zone, size, blob, FA, fn, fc, fl, place, many, great, BA, bn, bc, b⟩ = 0 := by unfold dayN; dsimp only; rw [hmd, if_neg (by decide)]
        have hr : dayF 2 (dayN ⟨uid, sec, zone, size, blob, FA, fn, fc, fl, place, many, great, BA, bn, bc, b⟩) n = r := by rw [← HR.out]; unfold meansF; rfl
        rw [hdz] at hr
        have HCK := hid (D16.clock_no sec zone W2 hmd M.out.hi.i64.2.1 M.out.hi.i64.2.2.1)
        have HDY := hid (fun X => rday_any 2 0 n (by omega) X)
        rw [hr] at HDY
        clear hr hmd hdz
        go_wp2_with first
          | (go_at_call 26; (with_reducible refine HCK.out.mono ?_); rintro e w4 ⟨ka, kb, rfl, b4⟩; have B4 := hid (past M.out.b b4); have x0 := cells_keep b4 y0; have x3 := cells_keep b4 y3; clear b4 y0 y1 y2 y3 y4 y5 z1 z2)
          | (go_at_call 27; (with_reducible refine (HDY.out _).mono ?_); rintro e w5 ⟨rfl, rfl⟩)
        go_ret
        exact ⟨rfl, B4.out⟩
  · as_aux_lemma =>
      have jw : IntKind.i64.wrap (0 : Int) = 0 := rfl
      have hr : sentB 0 b n = r := by rw [← HR.out]; unfold meansF; rfl
      have hbl : b.length ≤ 600 := M.out.hi.len
      have HFD := hid (D17.rfind_any b [100, 97, 116, 101] W2 (by omega))
      rw [find_date] at HFD
      have hsf : sentF b = (match D17.findF b dateL (D17.fieldsL b) with | none => none | some t => if (D16.mailF t).2 = 0 then some (D16.mailF t).1 else none) := rfl
      have hsb : sentB 0 b n = (match sentF b with | none => false | some d => dayF 0 d n) := rfl
      cases hf : D17.findF b dateL (D17.fieldsL b) with
      | none =>
        rw [hf] at HFD hsf
        unfold D17.fdO at HFD
        have HM := hid (fun X => D16.rmail_any [] X (by simp))
        obtain ⟨d, hd⟩ : ∃ d, (D16.mailF []).1 = d := ⟨_, rfl⟩
        obtain ⟨m, hm⟩ : ∃ m, (D16.mailF []).2 = m := ⟨_, rfl⟩
        rw [hd, hm] at HM
        dsimp only at hsf
        rw [hsf, hr] at hsb
        have HRR := hid hsb
        clear hd hm hsf hf hsb hr hbl
        go_wp2_with first
          | (go_at_call 28; refine HFD.out.mono ?_; rintro e w1 ⟨rfl, b1⟩; have B1 := hid (past M.out.b b1); clear b1 y0 y1 y2 y3 y4 y5)
          | (go_at_call 29; (refine (HM.out _).mono ?_); rintro e w2 ⟨rfl, b2⟩; have B2 := hid (past B1.out b2); clear b2)
        go_ret
        exact ⟨by rw [HRR.out]; rfl, B2.out⟩
      | some tx =>
        rw [hf] at HFD hsf
        unfold D17.fdO at HFD
        have htl := findF_le hf
        have HM := hid (fun X => D16.rmail_any tx X (by omega))
        obtain ⟨d, hd⟩ : ∃ d, (D16.mailF tx).1 = d := ⟨_, rfl⟩
        obtain ⟨m, hm⟩ : ∃ m, (D16.mailF tx).2 = m := ⟨_, rfl⟩
        rw [hd, hm] at HM
        dsimp only at hsf
        rw [hd, hm] at hsf
        rw [hsf, hr] at hsb
        have Y0 := hid (fun (X : World) (k : Below W2.heap.size W2 X) => cells_keep k y0)
        have Y3 := hid (fun (X : World) (k : Below W2.heap.size W2 X) => cells_keep k y3)
        clear hd hm hsf hf hr htl hbl
        by_cases h0 : m = 0
        · have e0 : ((m : Int) == 0) = true := by rw [h0]; rfl
          have e1 : (m == 0) = true := by rw [h0]; rfl
          rw [if_pos h0] at hsb
          dsimp only at hsb
          have HDY := hid (fun X => rday_any 0 d n (by omega) X)
          rw [← hsb] at HDY
          clear h0 hsb
          go_wp2_with first
            | (go_at_call 28; refine HFD.out.mono ?_; rintro e w1 ⟨rfl, b1⟩; have B1 := hid b1; clear b1 y0 y1 y2 y3 y4 y5)
            | (go_at_call 29; (with_reducible refine (HM.out _).mono ?_); rintro e w2 ⟨rfl, b2⟩; have B2 := hid (past B1.out b2); have x0 := Y0.out _ B2.out; have x3 := Y3.out _ B2.out; clear b2)
            | (go_at_call 27; (with_reducible refine (HDY.out _).mono ?_); rintro e w5 ⟨rfl, rfl⟩)
          go_ret
          exact ⟨rfl, past M.out.b B2.out⟩
        · have e0 : ((m : Int) == 0) = false := by simp; omega
          have e1 : (m == 0) = false := by simp; omega
          rw [if_neg h0] at hsb
          have HRR := hid hsb
          clear hsb
          go_wp2_with first
            | (go_at_call 28; refine HFD.out.mono ?_; rintro e w1 ⟨rfl, b1⟩; have B1 := hid b1; clear b1 y0 y1 y2 y3 y4 y5)
            | (go_at_call 29; (with_reducible refine (HM.out _).mono ?_); rintro e w2 ⟨rfl, b2⟩; have B2 := hid (past B1.out b2); clear b2)
          go_ret
          exact ⟨by rw [HRR.out]; rfl, past M.out.b B2.out⟩
  · as_aux_lemma =>
      have jw : IntKind.i64.wrap (1 : Int) = 1 := rfl
      have hr : sentB 1 b n = r := by rw [← HR.out]; unfold meansF; rfl
      have hbl : b.length ≤ 600 := M.out.hi.len
      have HFD := hid (D17.rfind_any b [100, 97, 116, 101] W2 (by omega))
      rw [find_date] at HFD
      have hsf : sentF b = (match D17.findF b dateL (D17.fieldsL b) with | none => none | some t => if (D16.mailF t).2 = 0 then some (D16.mailF t).1 else none) := rfl
      have hsb : sentB 1 b n = (match sentF b with | none => false | some d => dayF 1 d n) := rfl
      cases hf : D17.findF b dateL (D17.fieldsL b) with
      | none =>
        rw [hf] at HFD hsf
        unfold D17.fdO at HFD
        have HM := hid (fun X => D16.rmail_any [] X (by simp))
        obtain ⟨d, hd⟩ : ∃ d, (D16.mailF []).1 = d := ⟨_, rfl⟩
        obtain ⟨m, hm⟩ : ∃ m, (D16.mailF []).2 = m := ⟨_, rfl⟩
        rw [hd, hm] at HM
        dsimp only at hsf
        rw [hsf, hr] at hsb
        have HRR := hid hsb
        clear hd hm hsf hf hsb hr hbl
        go_wp2_with first
          | (go_at_call 28; refine HFD.out.mono ?_; rintro e w1 ⟨rfl, b1⟩; have B1 := hid (past M.out.b b1); clear b1 y0 y1 y2 y3 y4 y5)
          | (go_at_call 29; (refine (HM.out _).mono ?_); rintro e w2 ⟨rfl, b2⟩; have B2 := hid (past B1.out b2); clear b2)
        go_ret
        exact ⟨by rw [HRR.out]; rfl, B2.out⟩
      | some tx =>
        rw [hf] at HFD hsf
        unfold D17.fdO at HFD
        have htl := findF_le hf
        have HM := hid (fun X => D16.rmail_any tx X (by omega))
        obtain ⟨d, hd⟩ : ∃ d, (D16.mailF tx).1 = d := ⟨_, rfl⟩
        obtain ⟨m, hm⟩ : ∃ m, (D16.mailF tx).2 = m := ⟨_, rfl⟩
        rw [hd, hm] at HM
        dsimp only at hsf
        rw [hd, hm] at hsf
        rw [hsf, hr] at hsb
        have Y0 := hid (fun (X : World) (k : Below W2.heap.size W2 X) => cells_keep k y0)
        have Y3 := hid (fun (X : World) (k : Below W2.heap.size W2 X) => cells_keep k y3)
        clear hd hm hsf hf hr htl hbl
        by_cases h0 : m = 0
        · have e0 : ((m : Int) == 0) = true := by rw [h0]; rfl
          have e1 : (m == 0) = true := by rw [h0]; rfl
          rw [if_pos h0] at hsb
          dsimp only at hsb
          have HDY := hid (fun X => rday_any 1 d n (by omega) X)
          rw [← hsb] at HDY
          clear h0 hsb
          go_wp2_with first
            | (go_at_call 28; refine HFD.out.mono ?_; rintro e w1 ⟨rfl, b1⟩; have B1 := hid b1; clear b1 y0 y1 y2 y3 y4 y5)
            | (go_at_call 29; (with_reducible refine (HM.out _).mono ?_); rintro e w2 ⟨rfl, b2⟩; have B2 := hid (past B1.out b2); have x0 := Y0.out _ B2.out; have x3 := Y3.out _ B2.out; clear b2)
            | (go_at_call 27; (with_reducible refine (HDY.out _).mono ?_); rintro e w5 ⟨rfl, rfl⟩)
          go_ret
          exact ⟨rfl, past M.out.b B2.out⟩
        · have e0 : ((m : Int) == 0) = false := by simp; omega
          have e1 : (m == 0) = false := by simp; omega
          rw [if_neg h0] at hsb
          have HRR := hid hsb
          clear hsb
          go_wp2_with first
            | (go_at_call 28; refine HFD.out.mono ?_; rintro e w1 ⟨rfl, b1⟩; have B1 := hid b1; clear b1 y0 y1 y2 y3 y4 y5)
            | (go_at_call 29; (with_reducible refine (HM.out _).mono ?_); rintro e w2 ⟨rfl, b2⟩; have B2 := hid (past B1.out b2); clear b2)
          go_ret
          exact ⟨by rw [HRR.out]; rfl, past M.out.b B2.out⟩
  · as_aux_lemma =>
      have jw : IntKind.i64.wrap (2 : Int) = 2 := rfl
      have hr : sentB 2 b n = r := by rw [← HR.out]; unfold meansF; rfl
      have hbl : b.length ≤ 600 := M.out.hi.len
      have HFD := hid (D17.rfind_any b [100, 97, 116, 101] W2 (by omega))
      rw [find_date] at HFD
      have hsf : sentF b = (match D17.findF b dateL (D17.fieldsL b) with | none => none | some t => if (D16.mailF t).2 = 0 then some (D16.mailF t).1 else none) := rfl
      have hsb : sentB 2 b n = (match sentF b with | none => false | some d => dayF 2 d n) := rfl
      cases hf : D17.findF b dateL (D17.fieldsL b) with
      | none =>
        rw [hf] at HFD hsf
        unfold D17.fdO at HFD
        have HM := hid (fun X => D16.rmail_any [] X (by simp))
        obtain ⟨d, hd⟩ : ∃ d, (D16.mailF []).1 = d := ⟨_, rfl⟩
        obtain ⟨m, hm⟩ : ∃ m, (D16.mailF []).2 = m := ⟨_, rfl⟩
        rw [hd, hm] at HM
        dsimp only at hsf
        rw [hsf, hr] at hsb
        have HRR := hid hsb
        clear hd hm hsf hf hsb hr hbl
        go_wp2_with first
          | (go_at_call 28; refine HFD.out.mono ?_; rintro e w1 ⟨rfl, b1⟩; have B1 := hid (past M.out.b b1); clear b1 y0 y1 y2 y3 y4 y5)
          | (go_at_call 29; (refine (HM.out _).mono ?_); rintro e w2 ⟨rfl, b2⟩; have B2 := hid (past B1.out b2); clear b2)
        go_ret
        exact ⟨by rw [HRR.out]; rfl, B2.out⟩
      | some tx =>
        rw [hf] at HFD hsf
        unfold D17.fdO at HFD
        have htl := findF_le hf
        have HM := hid (fun X => D16.rmail_any tx X (by omega))
        obtain ⟨d, hd⟩ : ∃ d, (D16.mailF tx).1 = d := ⟨_, rfl⟩
        obtain ⟨m, hm⟩ : ∃ m, (D16.mailF tx).2 = m := ⟨_, rfl⟩
        rw [hd, hm] at HM
        dsimp only at hsf
        rw [hd, hm] at hsf
        rw [hsf, hr] at hsb
        have Y0 := hid (fun (X : World) (k : Below W2.heap.size W2 X) => cells_keep k y0)
        have Y3 := hid (fun (X : World) (k : Below W2.heap.size W2 X) => cells_keep k y3)
        clear hd hm hsf hf hr htl hbl
        by_cases h0 : m = 0
        · have e0 : ((m : Int) == 0) = true := by rw [h0]; rfl
          have e1 : (m == 0) = true := by rw [h0]; rfl
          rw [if_pos h0] at hsb
          dsimp only at hsb
          have HDY := hid (fun X => rday_any 2 d n (by omega) X)
          rw [← hsb] at HDY
          clear h0 hsb
          go_wp2_with first
            | (go_at_call 28; refine HFD.out.mono ?_; rintro e w1 ⟨rfl, b1⟩; have B1 := hid b1; clear b1 y0 y1 y2 y3 y4 y5)
            | (go_at_call 29; (with_reducible refine (HM.out _).mono ?_); rintro e w2 ⟨rfl, b2⟩; have B2 := hid (past B1.out b2); have x0 := Y0.out _ B2.out; have x3 := Y3.out _ B2.out; clear b2)
            | (go_at_call 27; (with_reducible refine (HDY.out _).mono ?_); rintro e w5 ⟨rfl, rfl⟩)
          go_ret
          exact ⟨rfl, past M.out.b B2.out⟩
        · have e0 : ((m : Int) == 0) = false := by simp; omega
          have e1 : (m == 0) = false := by simp; omega
          rw [if_neg h0] at hsb
          have HRR := hid hsb
          clear hsb
          go_wp2_with first
            | (go_at_call 28; refine HFD.out.mono ?_; rintro e w1 ⟨rfl, b1⟩; have B1 := hid b1; clear b1 y0 y1 y2 y3 y4 y5)
            | (go_at_call 29; (with_reducible refine (HM.out _).mono ?_); rintro e w2 ⟨rfl, b2⟩; have B2 := hid (past B1.out b2); clear b2)
          go_ret
          exact ⟨by rw [HRR.out]; rfl, past M.out.b B2.out⟩
  · as_aux_lemma =>
      have z3 := M.out.hit.cell (j := 3) rfl
      go_wp2_with fail
      go_ret
      exact ⟨by rw [← HR.out]; unfold meansF; rfl, M.out.b⟩
  · as_aux_lemma =>
      have z3 := M.out.hit.cell (j := 3) rfl
      go_wp2_with fail
      go_ret
      exact ⟨by rw [← HR.out]; unfold meansF; rfl, M.out.b⟩
  · as_aux_lemma =>
      have hr : fieldF b s t = r := by rw [← HR.out]; unfold meansF; rfl
      have hbl : b.length ≤ 600 := M.out.hi.len
      have HFL := hid (D17.rfields_any b W2 (by omega))
      have hfl := D17.fields_len b
      obtain ⟨k, hk⟩ : ∃ k, (D17.fieldsL b).length = k := ⟨_, rfl⟩
      rw [hk] at HFL hfl
      have HK := hid hk
      have HRR := hid hr
      have HBL := hid hbl
      have hkb : k ≤ 600 := by omega
      clear hr hk hbl hfl
      go_upto_region 24 with (go_at_call 30; refine HFL.out.mono ?_; rintro e w5 ⟨B5, n5, c5, rfl, hn5, hc5, ho5, b5⟩; have HR5 := hid (Row.of_own ho5); have M5 := hid (M.out.below b5); clear b5 ho5 y0 y1 y2 y3 y4 y5)
      obtain rfl := hn5
      go_wp2_with fail
      go_loopw [14] (fun i wr => ∃ j : Nat, j ≤ k ∧ i = .int .i64 (j : Int) ∧ Hid (((D17.fieldsL b).drop j).any (fdB b s t) = fieldF b s t) ∧ Hid (Below w5.heap.size w5 wr)) (fun i wr => k - (intOf i).toNat)
      case atStart => exact ⟨0, Nat.zero_le _, rfl, hid (by rw [List.drop_zero]; rfl), hid (Below.refl _ _)⟩
      case round =>
        obtain ⟨j, hj, rfl, HA, HB⟩ := hrel
        rename World => wr
        by_cases hlt : j < k
        · have d1 : decide ((j : Int) < (k : Int)) = true := by simp; omega
          have d1' : decide (j < k) = true := by simpa using hlt
          have i0 : (0 : Int) ≤ (j : Int) := by omega
          have i1 : (j : Int) < (k : Int) := by omega
          have i2 : (j : Int).toNat = j := by omega
          have hkl : j < (D17.fieldsL b).length := by rw [HK.out]; exact hlt
          obtain ⟨bb, off, rfl, hc⟩ := D17.fd_at HR5.out hkl
          have hmem : (D17.fieldsL b)[j]'hkl ∈ D17.fieldsL b := List.getElem_mem hkl
          have hst : ((D17.fieldsL b).drop j).any (fdB b s t) = (fdB b s t ((D17.fieldsL b)[j]'hkl) || ((D17.fieldsL b).drop (j + 1)).any (fdB b s t)) := by rw [List.drop_eq_getElem_cons hkl, List.any_cons]
          obtain ⟨g, hg⟩ : ∃ g, (D17.fieldsL b)[j]'hkl = g := ⟨_, rfl⟩
          have hcc := hc j hkl
          rw [hg] at hcc hst hmem
          have hbd := D17.field_bounds hmem
          have hbl := HBL.out
          have htl := fdText_le b g
          have HAL := hid (fun X => D17.alike_any g.nm s X (by omega))
          have HTX := hid (fun X => D17.rtext_any b g X (by omega) hbd.1 hbd.2.1)
          have HHS := hid (fun X => rhas_any (D17.fdText b g) t X (by omega) (Nat.le_trans M.out.ki.ok.t (by omega)))
          obtain ⟨tx, htx⟩ : ∃ tx, D17.fdText b g = tx := ⟨_, rfl⟩
          obtain ⟨q1, hq1⟩ : ∃ q, D16.alikeL g.nm s = q := ⟨_, rfl⟩
          obtain ⟨q2, hq2⟩ : ∃ q, hasL tx t = q := ⟨_, rfl⟩
          rw [htx] at HTX HHS
          rw [hq2] at HHS
          rw [show D17.alikeL g.nm s = D16.alikeL g.nm s from rfl, hq1] at HAL
          have hfb : fdB b s t g = (q1 && q2) := by show (D16.alikeL g.nm s && hasL (D17.fdText b g) t) = _; rw [htx, hq1, hq2]
          rw [hfb] at hst
          have HST := hid hst
          obtain ⟨fnm, ffr, fte, fat⟩ := g
          dsimp only at HAL HTX HHS hcc
          have M6 := hid (M5.out.below HB.out)
          have HSF := hid (fun (X : World) (m : Below w5.heap.size w5 X) => And.intro (cells_keep m hcc.1) (And.intro (cells_keep m hcc.2.1) (And.intro (cells_keep m hcc.2.2.1) (And.intro (cells_keep m hcc.2.2.2) (And.intro ((M5.out.below m).key.cell (j := 1) rfl) ((M5.out.below m).key.cell (j := 2) rfl))))))
          dsimp only at HSF
          clear hc hmem hst hg hcc hbd hbl htl htx hq1 hq2 hfb
          go_upto_region 27 with fail
          have HB := hid (past HB.out (drew_below _))
          have hS := HSF.out _ HB.out
          cases q1 with
          | true =>
            refine wp_region_noPanic ?_
            refine wp_region_held_drew (S := (fun X => X.cell? ⟨bb, off + j * 4, none⟩ = some (.string (str fnm)) ∧ X.cell? ⟨bb, off + j * 4 + 1, none⟩ = some (.int .i64 (ffr : Int)) ∧ X.cell? ⟨bb, off + j * 4 + 2, none⟩ = some (.int .i64 (fte : Int)) ∧ X.cell? ⟨bb, off + j * 4 + 3, none⟩ = some (.int .i64 (fat : Int)) ∧ X.cell? ⟨w.heap.size, 1, none⟩ = some (.string (str s)) ∧ X.cell? ⟨w.heap.size, 2, none⟩ = some (.string (str t)))) (by kernel_rfl) (by first | assumption | trivial) (fun hHeld => ?_)
            refine wpAnyH_take (i := 0) (v := ?_) rfl (by kernel_rfl) (by kernel_rfl) (by kernel_rfl) (fun _ _ _ h => h) (Or.inl ⟨by kernel_rfl, ?_⟩) (by first | assumption | trivial) ?_
            rotate_left
            · (intro wS hSw; (try dsimp only at hSw); go_simp; try with_reducible rfl)
            (try simp only [List.append_eq, List.cons_append, List.nil_append, List.getElem_toArray, List.getElem_cons_succ, List.getElem_cons_zero, Act.put, List.setIfInBounds_toArray, List.set_cons_zero, List.set_cons_succ])
            refine wpAnyH_take (i := 1) (v := ?_) rfl (by kernel_rfl) (by kernel_rfl) (by kernel_rfl) (fun _ _ _ h => h) (Or.inl ⟨by kernel_rfl, ?_⟩) (by first | assumption | trivial) ?_
            rotate_left
            · (intro wS hSw; (try dsimp only at hSw); go_simp; try with_reducible rfl)
            (try simp only [List.append_eq, List.cons_append, List.nil_append, List.getElem_toArray, List.getElem_cons_succ, List.getElem_cons_zero, Act.put, List.setIfInBounds_toArray, List.set_cons_zero, List.set_cons_succ])
            refine wpAnyH_take (i := 2) (v := ?_) rfl (by kernel_rfl) (by kernel_rfl) (by kernel_rfl) (fun _ _ _ h => h) (Or.inl ⟨by kernel_rfl, ?_⟩) (by first | assumption | trivial) ?_
            rotate_left
            · (intro wS hSw; (try dsimp only at hSw); go_simp; try with_reducible rfl)
            (try simp only [List.append_eq, List.cons_append, List.nil_append, List.getElem_toArray, List.getElem_cons_succ, List.getElem_cons_zero, Act.put, List.setIfInBounds_toArray, List.set_cons_zero, List.set_cons_succ])
            refine wpAnyH_take (i := 3) (v := ?_) rfl (by kernel_rfl) (by kernel_rfl) (by kernel_rfl) (fun _ _ _ h => h) (Or.inl ⟨by kernel_rfl, ?_⟩) (by first | assumption | trivial) ?_
            rotate_left
            · (intro wS hSw; (try dsimp only at hSw); go_simp; try with_reducible rfl)
            (try simp only [List.append_eq, List.cons_append, List.nil_append, List.getElem_toArray, List.getElem_cons_succ, List.getElem_cons_zero, Act.put, List.setIfInBounds_toArray, List.set_cons_zero, List.set_cons_succ])
            refine wpAnyH_take (i := 4) (v := ?_) rfl (by kernel_rfl) (by kernel_rfl) (by kernel_rfl) (fun _ _ _ h => h) (Or.inl ⟨by kernel_rfl, ?_⟩) (by first | assumption | trivial) ?_
            rotate_left
            · (intro wS hSw; (try dsimp only at hSw); go_simp; try with_reducible rfl)
            (try simp only [List.append_eq, List.cons_append, List.nil_append, List.getElem_toArray, List.getElem_cons_succ, List.getElem_cons_zero, Act.put, List.setIfInBounds_toArray, List.set_cons_zero, List.set_cons_succ])
            refine wpAnyH_take (i := 5) (v := ?_) rfl (by kernel_rfl) (by kernel_rfl) (by kernel_rfl) (fun _ _ _ h => h) (Or.inl ⟨by kernel_rfl, ?_⟩) (by first | assumption | trivial) ?_
            rotate_left
            · (intro wS hSw; (try dsimp only at hSw); go_simp; try with_reducible rfl)
            (try simp only [List.append_eq, List.cons_append, List.nil_append, List.getElem_toArray, List.getElem_cons_succ, List.getElem_cons_zero, Act.put, List.setIfInBounds_toArray, List.set_cons_zero, List.set_cons_succ])
            refine wpAnyH_take (i := 6) (v := ?_) rfl (by kernel_rfl) (by kernel_rfl) (by kernel_rfl) (fun _ _ _ h => h) (Or.inl ⟨by kernel_rfl, ?_⟩) (by first | assumption | trivial) ?_
            rotate_left
            · (intro wS hSw; (try dsimp only at hSw); go_simp; try with_reducible rfl)
            (try simp only [List.append_eq, List.cons_append, List.nil_append, List.getElem_toArray, List.getElem_cons_succ, List.getElem_cons_zero, Act.put, List.setIfInBounds_toArray, List.set_cons_zero, List.set_cons_succ])
            refine wpAnyH_ready (rs := [7]) (by kernel_rfl) (by simp) ?_
            refine AllReadyH.cons rfl (fun K hK => ?_) AllReadyH.nil
            go_simp
            (go_at_call 17; (with_reducible refine (HAL.out _).mono ?_); rintro e w6 ⟨rfl, b6⟩; have HB := hid (past HB.out b6); have hS := HSF.out _ HB.out; clear b6 hHeld)
            go_wp2_with fail
            refine hK.out _ _ (by first | assumption | trivial) (fun hHeld => ?_)
            clear hK K
            (try simp only [List.append_eq, List.cons_append, List.nil_append, List.getElem_toArray, List.getElem_cons_succ, List.getElem_cons_zero, Act.put, List.setIfInBounds_toArray, List.set_cons_zero, List.set_cons_succ])
            refine wpAnyH_take (i := 8) (v := ?_) rfl (by kernel_rfl) (by kernel_rfl) (by kernel_rfl) (fun _ _ _ h => h) (Or.inl ⟨by kernel_rfl, ?_⟩) (by first | assumption | trivial) ?_
            rotate_left
            · (intro wS hSw; (try dsimp only at hSw); go_simp; try with_reducible rfl)
            (try simp only [List.append_eq, List.cons_append, List.nil_append, List.getElem_toArray, List.getElem_cons_succ, List.getElem_cons_zero, Act.put, List.setIfInBounds_toArray, List.set_cons_zero, List.set_cons_succ])
            refine wpAnyH_take (i := 9) (v := ?_) rfl (by kernel_rfl) (by kernel_rfl) (by kernel_rfl) (fun _ _ _ h => h) (Or.inl ⟨by kernel_rfl, ?_⟩) (by first | assumption | trivial) ?_
            rotate_left
            · (intro wS hSw; (try dsimp only at hSw); go_simp; try with_reducible rfl)
            (try simp only [List.append_eq, List.cons_append, List.nil_append, List.getElem_toArray, List.getElem_cons_succ, List.getElem_cons_zero, Act.put, List.setIfInBounds_toArray, List.set_cons_zero, List.set_cons_succ])
            refine wpAnyH_take (i := 10) (v := ?_) rfl (by kernel_rfl) (by kernel_rfl) (by kernel_rfl) (fun _ _ _ h => h) (Or.inl ⟨by kernel_rfl, ?_⟩) (by first | assumption | trivial) ?_
            rotate_left
            · (intro wS hSw; (try dsimp only at hSw); go_simp; try with_reducible rfl)
            (try simp only [List.append_eq, List.cons_append, List.nil_append, List.getElem_toArray, List.getElem_cons_succ, List.getElem_cons_zero, Act.put, List.setIfInBounds_toArray, List.set_cons_zero, List.set_cons_succ])
            refine wpAnyH_take (i := 11) (v := ?_) rfl (by kernel_rfl) (by kernel_rfl) (by kernel_rfl) (fun _ _ _ h => h) (Or.inl ⟨by kernel_rfl, ?_⟩) (by first | assumption | trivial) ?_
            rotate_left
            · (intro wS hSw; (try dsimp only at hSw); go_simp; try with_reducible rfl)
            (try simp only [List.append_eq, List.cons_append, List.nil_append, List.getElem_toArray, List.getElem_cons_succ, List.getElem_cons_zero, Act.put, List.setIfInBounds_toArray, List.set_cons_zero, List.set_cons_succ])
            refine wpAnyH_take (i := 12) (v := ?_) rfl (by kernel_rfl) (by kernel_rfl) (by kernel_rfl) (fun _ _ _ h => h) (Or.inl ⟨by kernel_rfl, ?_⟩) (by first | assumption | trivial) ?_
            rotate_left
            · (intro wS hSw; (try dsimp only at hSw); go_simp; try with_reducible rfl)
            (try simp only [List.append_eq, List.cons_append, List.nil_append, List.getElem_toArray, List.getElem_cons_succ, List.getElem_cons_zero, Act.put, List.setIfInBounds_toArray, List.set_cons_zero, List.set_cons_succ])
            refine wpAnyH_take (i := 13) (v := ?_) rfl (by kernel_rfl) (by kernel_rfl) (by kernel_rfl) (fun _ _ _ h => h) (Or.inl ⟨by kernel_rfl, ?_⟩) (by first | assumption | trivial) ?_
            rotate_left
            · (intro wS hSw; (try dsimp only at hSw); go_simp; try with_reducible rfl)
            (try simp only [List.append_eq, List.cons_append, List.nil_append, List.getElem_toArray, List.getElem_cons_succ, List.getElem_cons_zero, Act.put, List.setIfInBounds_toArray, List.set_cons_zero, List.set_cons_succ])
            refine wpAnyH_take (i := 15) (v := ?_) rfl (by kernel_rfl) (by kernel_rfl) (by kernel_rfl) (fun _ _ _ h => h) (Or.inl ⟨by kernel_rfl, ?_⟩) (by first | assumption | trivial) ?_
            rotate_left
            · (intro wS hSw; (try dsimp only at hSw); go_simp; try with_reducible rfl)
            (try simp only [List.append_eq, List.cons_append, List.nil_append, List.getElem_toArray, List.getElem_cons_succ, List.getElem_cons_zero, Act.put, List.setIfInBounds_toArray, List.set_cons_zero, List.set_cons_succ])
            refine wpAnyH_take (i := 16) (v := ?_) rfl (by kernel_rfl) (by kernel_rfl) (by kernel_rfl) (fun _ _ _ h => h) (Or.inl ⟨by kernel_rfl, ?_⟩) (by first | assumption | trivial) ?_
            rotate_left
            · (intro wS hSw; (try dsimp only at hSw); go_simp; try with_reducible rfl)
            (try simp only [List.append_eq, List.cons_append, List.nil_append, List.getElem_toArray, List.getElem_cons_succ, List.getElem_cons_zero, Act.put, List.setIfInBounds_toArray, List.set_cons_zero, List.set_cons_succ])
            refine wpAnyH_ready (rs := [14]) (by kernel_rfl) (by simp) ?_
            refine AllReadyH.cons rfl (fun K hK => ?_) AllReadyH.nil
            go_simp
            (go_at_call 32; (with_reducible refine (HTX.out _).mono ?_); rintro e w7 ⟨rfl, b7⟩; have HB := hid (past HB.out b7); have hS := HSF.out _ HB.out; clear b7 hHeld)
            go_wp2_with fail
            refine hK.out _ _ (by first | assumption | trivial) (fun hHeld => ?_)
            clear hK K
            (try simp only [List.append_eq, List.cons_append, List.nil_append, List.getElem_toArray, List.getElem_cons_succ, List.getElem_cons_zero, Act.put, List.setIfInBounds_toArray, List.set_cons_zero, List.set_cons_succ])
            refine wpAnyH_ready (rs := [17]) (by kernel_rfl) (by simp) ?_
            refine AllReadyH.cons rfl (fun K hK => ?_) AllReadyH.nil
            go_simp
            (go_at_call 31; (with_reducible refine (HHS.out _).mono ?_); rintro e w8 ⟨rfl, b8⟩; have HB := hid (past HB.out b8); have hS := HSF.out _ HB.out; clear b8 hHeld)
            go_wp2_with fail
            refine hK.out _ _ (by first | assumption | trivial) (fun hHeld => ?_)
            clear hK K
            (try simp only [List.append_eq, List.cons_append, List.nil_append, List.getElem_toArray, List.getElem_cons_succ, List.getElem_cons_zero, Act.put, List.setIfInBounds_toArray, List.set_cons_zero, List.set_cons_succ])
            refine wpAnyH_take (i := 18) (v := ?_) rfl (by kernel_rfl) (by kernel_rfl) (by kernel_rfl) (fun _ _ _ h => h) (Or.inl ⟨by kernel_rfl, ?_⟩) (by first | assumption | trivial) ?_
            rotate_left
            · (intro wS hSw; (try dsimp only at hSw); go_simp; try with_reducible rfl)
            (try simp only [List.append_eq, List.cons_append, List.nil_append, List.getElem_toArray, List.getElem_cons_succ, List.getElem_cons_zero, Act.put, List.setIfInBounds_toArray, List.set_cons_zero, List.set_cons_succ])
            refine wpAnyH_done (by kernel_rfl) ?_ _
            refine NoPanic.normal ?_
            clear hS hHeld
            cases q2 with
            | true =>
              have HT := hid (show r = true by rw [← HRR.out, ← HA.out, HST.out]; rfl)
              go_wp2_with fail
              go_ret
              exact ⟨by rw [HT.out]; rfl, past M5.out.b HB.out⟩
            | false =>
              have HA2 := hid (show ((D17.fieldsL b).drop (j + 1)).any (fdB b s t) = fieldF b s t by rw [← HA.out, HST.out]; rfl)
              go_wp2_with fail
              go_roundw
              case rel => exact ⟨j + 1, by omega, by go_num, HA2, HB⟩
              case measure => simp [intOf]; omega
          | false =>
            refine wp_region_noPanic ?_
            refine wp_region_held_drew (S := (fun X => X.cell? ⟨bb, off + j * 4, none⟩ = some (.string (str fnm)) ∧ X.cell? ⟨bb, off + j * 4 + 1, none⟩ = some (.int .i64 (ffr : Int)) ∧ X.cell? ⟨bb, off + j * 4 + 2, none⟩ = some (.int .i64 (fte : Int)) ∧ X.cell? ⟨bb, off + j * 4 + 3, none⟩ = some (.int .i64 (fat : Int)) ∧ X.cell? ⟨w.heap.size, 1, none⟩ = some (.string (str s)) ∧ X.cell? ⟨w.heap.size, 2, none⟩ = some (.string (str t)))) (by kernel_rfl) (by first | assumption | trivial) (fun hHeld => ?_)
            refine wpAnyH_take (i := 0) (v := ?_) rfl (by kernel_rfl) (by kernel_rfl) (by kernel_rfl) (fun _ _ _ h => h) (Or.inl ⟨by kernel_rfl, ?_⟩) (by first | assumption | trivial) ?_
            rotate_left
            · (intro wS hSw; (try dsimp only at hSw); go_simp; try with_reducible rfl)
            (try simp only [List.append_eq, List.cons_append, List.nil_append, List.getElem_toArray, List.getElem_cons_succ, List.getElem_cons_zero, Act.put, List.setIfInBounds_toArray, List.set_cons_zero, List.set_cons_succ])
            refine wpAnyH_take (i := 1) (v := ?_) rfl (by kernel_rfl) (by kernel_rfl) (by kernel_rfl) (fun _ _ _ h => h) (Or.inl ⟨by kernel_rfl, ?_⟩) (by first | assumption | trivial) ?_
            rotate_left
            · (intro wS hSw; (try dsimp only at hSw); go_simp; try with_reducible rfl)
            (try simp only [List.append_eq, List.cons_append, List.nil_append, List.getElem_toArray, List.getElem_cons_succ, List.getElem_cons_zero, Act.put, List.setIfInBounds_toArray, List.set_cons_zero, List.set_cons_succ])
            refine wpAnyH_take (i := 2) (v := ?_) rfl (by kernel_rfl) (by kernel_rfl) (by kernel_rfl) (fun _ _ _ h => h) (Or.inl ⟨by kernel_rfl, ?_⟩) (by first | assumption | trivial) ?_
            rotate_left
            · (intro wS hSw; (try dsimp only at hSw); go_simp; try with_reducible rfl)
            (try simp only [List.append_eq, List.cons_append, List.nil_append, List.getElem_toArray, List.getElem_cons_succ, List.getElem_cons_zero, Act.put, List.setIfInBounds_toArray, List.set_cons_zero, List.set_cons_succ])
            refine wpAnyH_take (i := 3) (v := ?_) rfl (by kernel_rfl) (by kernel_rfl) (by kernel_rfl) (fun _ _ _ h => h) (Or.inl ⟨by kernel_rfl, ?_⟩) (by first | assumption | trivial) ?_
            rotate_left
            · (intro wS hSw; (try dsimp only at hSw); go_simp; try with_reducible rfl)
            (try simp only [List.append_eq, List.cons_append, List.nil_append, List.getElem_toArray, List.getElem_cons_succ, List.getElem_cons_zero, Act.put, List.setIfInBounds_toArray, List.set_cons_zero, List.set_cons_succ])
            refine wpAnyH_take (i := 4) (v := ?_) rfl (by kernel_rfl) (by kernel_rfl) (by kernel_rfl) (fun _ _ _ h => h) (Or.inl ⟨by kernel_rfl, ?_⟩) (by first | assumption | trivial) ?_
            rotate_left
            · (intro wS hSw; (try dsimp only at hSw); go_simp; try with_reducible rfl)
            (try simp only [List.append_eq, List.cons_append, List.nil_append, List.getElem_toArray, List.getElem_cons_succ, List.getElem_cons_zero, Act.put, List.setIfInBounds_toArray, List.set_cons_zero, List.set_cons_succ])
            refine wpAnyH_take (i := 5) (v := ?_) rfl (by kernel_rfl) (by kernel_rfl) (by kernel_rfl) (fun _ _ _ h => h) (Or.inl ⟨by kernel_rfl, ?_⟩) (by first | assumption | trivial) ?_
            rotate_left
            · (intro wS hSw; (try dsimp only at hSw); go_simp; try with_reducible rfl)
            (try simp only [List.append_eq, List.cons_append, List.nil_append, List.getElem_toArray, List.getElem_cons_succ, List.getElem_cons_zero, Act.put, List.setIfInBounds_toArray, List.set_cons_zero, List.set_cons_succ])
            refine wpAnyH_take (i := 6) (v := ?_) rfl (by kernel_rfl) (by kernel_rfl) (by kernel_rfl) (fun _ _ _ h => h) (Or.inl ⟨by kernel_rfl, ?_⟩) (by first | assumption | trivial) ?_
            rotate_left
            · (intro wS hSw; (try dsimp only at hSw); go_simp; try with_reducible rfl)
            (try simp only [List.append_eq, List.cons_append, List.nil_append, List.getElem_toArray, List.getElem_cons_succ, List.getElem_cons_zero, Act.put, List.setIfInBounds_toArray, List.set_cons_zero, List.set_cons_succ])
            refine wpAnyH_ready (rs := [7]) (by kernel_rfl) (by simp) ?_
            refine AllReadyH.cons rfl (fun K hK => ?_) AllReadyH.nil
            go_simp
            (go_at_call 17; (with_reducible refine (HAL.out _).mono ?_); rintro e w6 ⟨rfl, b6⟩; have HB := hid (past HB.out b6); have hS := HSF.out _ HB.out; clear b6 hHeld)
            go_wp2_with fail
            refine hK.out _ _ (by first | assumption | trivial) (fun hHeld => ?_)
            clear hK K
            (try simp only [List.append_eq, List.cons_append, List.nil_append, List.getElem_toArray, List.getElem_cons_succ, List.getElem_cons_zero, Act.put, List.setIfInBounds_toArray, List.set_cons_zero, List.set_cons_succ])
            refine wpAnyH_take (i := 8) (v := ?_) rfl (by kernel_rfl) (by kernel_rfl) (by kernel_rfl) (fun _ _ _ h => h) (Or.inl ⟨by kernel_rfl, ?_⟩) (by first | assumption | trivial) ?_
            rotate_left
            · (intro wS hSw; (try dsimp only at hSw); go_simp; try with_reducible rfl)
            (try simp only [List.append_eq, List.cons_append, List.nil_append, List.getElem_toArray, List.getElem_cons_succ, List.getElem_cons_zero, Act.put, List.setIfInBounds_toArray, List.set_cons_zero, List.set_cons_succ])
            refine wpAnyH_take (i := 9) (v := undef) rfl (by kernel_rfl) (by kernel_rfl) (by kernel_rfl) (fun _ _ _ h => h) (Or.inr ⟨by kernel_rfl, rfl⟩) (by first | assumption | trivial) ?_
            (try simp only [List.append_eq, List.cons_append, List.nil_append, List.getElem_toArray, List.getElem_cons_succ, List.getElem_cons_zero, Act.put, List.setIfInBounds_toArray, List.set_cons_zero, List.set_cons_succ])
            refine wpAnyH_take (i := 10) (v := undef) rfl (by kernel_rfl) (by kernel_rfl) (by kernel_rfl) (fun _ _ _ h => h) (Or.inr ⟨by kernel_rfl, rfl⟩) (by first | assumption | trivial) ?_
            (try simp only [List.append_eq, List.cons_append, List.nil_append, List.getElem_toArray, List.getElem_cons_succ, List.getElem_cons_zero, Act.put, List.setIfInBounds_toArray, List.set_cons_zero, List.set_cons_succ])
            refine wpAnyH_take (i := 11) (v := undef) rfl (by kernel_rfl) (by kernel_rfl) (by kernel_rfl) (fun _ _ _ h => h) (Or.inr ⟨by kernel_rfl, rfl⟩) (by first | assumption | trivial) ?_
            (try simp only [List.append_eq, List.cons_append, List.nil_append, List.getElem_toArray, List.getElem_cons_succ, List.getElem_cons_zero, Act.put, List.setIfInBounds_toArray, List.set_cons_zero, List.set_cons_succ])
            refine wpAnyH_take (i := 12) (v := undef) rfl (by kernel_rfl) (by kernel_rfl) (by kernel_rfl) (fun _ _ _ h => h) (Or.inr ⟨by kernel_rfl, rfl⟩) (by first | assumption | trivial) ?_
            (try simp only [List.append_eq, List.cons_append, List.nil_append, List.getElem_toArray, List.getElem_cons_succ, List.getElem_cons_zero, Act.put, List.setIfInBounds_toArray, List.set_cons_zero, List.set_cons_succ])
            refine wpAnyH_take (i := 13) (v := undef) rfl (by kernel_rfl) (by kernel_rfl) (by kernel_rfl) (fun _ _ _ h => h) (Or.inr ⟨by kernel_rfl, rfl⟩) (by first | assumption | trivial) ?_
            (try simp only [List.append_eq, List.cons_append, List.nil_append, List.getElem_toArray, List.getElem_cons_succ, List.getElem_cons_zero, Act.put, List.setIfInBounds_toArray, List.set_cons_zero, List.set_cons_succ])
            refine wpAnyH_take (i := 14) (v := undef) rfl (by kernel_rfl) (by kernel_rfl) (by kernel_rfl) (fun _ _ _ h => h) (Or.inr ⟨by kernel_rfl, rfl⟩) (by first | assumption | trivial) ?_
            (try simp only [List.append_eq, List.cons_append, List.nil_append, List.getElem_toArray, List.getElem_cons_succ, List.getElem_cons_zero, Act.put, List.setIfInBounds_toArray, List.set_cons_zero, List.set_cons_succ])
            refine wpAnyH_take (i := 15) (v := undef) rfl (by kernel_rfl) (by kernel_rfl) (by kernel_rfl) (fun _ _ _ h => h) (Or.inr ⟨by kernel_rfl, rfl⟩) (by first | assumption | trivial) ?_
            (try simp only [List.append_eq, List.cons_append, List.nil_append, List.getElem_toArray, List.getElem_cons_succ, List.getElem_cons_zero, Act.put, List.setIfInBounds_toArray, List.set_cons_zero, List.set_cons_succ])
            refine wpAnyH_take (i := 16) (v := undef) rfl (by kernel_rfl) (by kernel_rfl) (by kernel_rfl) (fun _ _ _ h => h) (Or.inr ⟨by kernel_rfl, rfl⟩) (by first | assumption | trivial) ?_
            (try simp only [List.append_eq, List.cons_append, List.nil_append, List.getElem_toArray, List.getElem_cons_succ, List.getElem_cons_zero, Act.put, List.setIfInBounds_toArray, List.set_cons_zero, List.set_cons_succ])
            refine wpAnyH_take (i := 17) (v := undef) rfl (by kernel_rfl) (by kernel_rfl) (by kernel_rfl) (fun _ _ _ h => h) (Or.inr ⟨by kernel_rfl, rfl⟩) (by first | assumption | trivial) ?_
            (try simp only [List.append_eq, List.cons_append, List.nil_append, List.getElem_toArray, List.getElem_cons_succ, List.getElem_cons_zero, Act.put, List.setIfInBounds_toArray, List.set_cons_zero, List.set_cons_succ])
            refine wpAnyH_take (i := 18) (v := ?_) rfl (by kernel_rfl) (by kernel_rfl) (by kernel_rfl) (fun _ _ _ h => h) (Or.inl ⟨by kernel_rfl, ?_⟩) (by first | assumption | trivial) ?_
            rotate_left
            · (intro wS hSw; (try dsimp only at hSw); go_simp; try with_reducible rfl)
            (try simp only [List.append_eq, List.cons_append, List.nil_append, List.getElem_toArray, List.getElem_cons_succ, List.getElem_cons_zero, Act.put, List.setIfInBounds_toArray, List.set_cons_zero, List.set_cons_succ])
            refine wpAnyH_done (by kernel_rfl) ?_ _
            refine NoPanic.normal ?_
            clear hS hHeld
            have HA2 := hid (show ((D17.fieldsL b).drop (j + 1)).any (fdB b s t) = fieldF b s t by rw [← HA.out, HST.out]; rfl)
            go_wp2_with fail
            go_roundw
            case rel => exact ⟨j + 1, by omega, by go_num, HA2, HB⟩
            case measure => simp [intOf]; omega
        · have d1 : decide ((j : Int) < (k : Int)) = false := by simp; omega
          have d1' : decide (j < k) = false := by simpa using hlt
          have HT := hid (show r = false by rw [← HRR.out, ← HA.out, List.drop_of_length_le (by rw [HK.out]; omega)]; rfl)
          go_wp2_with fail
          go_ret
          exact ⟨by rw [HT.out]; rfl, past M5.out.b HB.out⟩
  · as_aux_lemma =>
      have hr : hasL (b.drop (D17.splitL b)) s = r := by rw [← HR.out]; unfold meansF; rfl
      have hle := D17.split_le b
      have hbl : b.length ≤ 600 := M.out.hi.len
      have HSP := hid (fun X => D17.rsplit_any b X (by omega))
      obtain ⟨k, hk⟩ : ∃ k, D17.splitL b = k := ⟨_, rfl⟩
      rw [hk] at HSP hr hle
      obtain ⟨y, hy⟩ : ∃ y, b.drop k = y := ⟨_, rfl⟩
      have hyl : y.length ≤ 600 := by rw [← hy, List.length_drop]; omega
      have HHS := hid (fun X => rhas_any y s X (by omega) (Nat.le_trans M.out.ki.ok.s (by omega)))
      rw [hy] at hr
      rw [hr] at HHS
      have hsz : (str b).size = b.length := rfl
      obtain ⟨nb, hnb⟩ : ∃ nb, b.length = nb := ⟨_, rfl⟩
      rw [hnb] at hsz hle
      have hx : (str b).extract k nb = str y := by rw [← hy, str_extract, ← hnb, List.take_of_length_le (by rw [List.length_drop]; exact Nat.le_refl _)]
      have HSF := hid (fun (X : World) (m : MnS w X ⟨11, s, t, n, SA, sn, sc, sp, LA, ln, lc, l⟩ ⟨uid, sec, zone, size, blob, FA, fn, fc, fl, place, many, great, BA, bn, bc, b⟩ (w.heap.size + 1) w.heap.size) => m.key.cell (j := 1) rfl)
      have a0 : (0 : Int) ≤ (k : Int) := by omega
      have a1 : (k : Int) ≤ (nb : Int) := by omega
      have a3 : (k : Int).toNat = k := by omega
      have a4 : (nb : Int).toNat = nb := by omega
      have a5 : k ≤ nb := hle
      clear hr hk hbl hy hyl hnb
      go_upto_region 31 with fail
      have M := hid (M.out.below (drew_below _))
      have hS := HSF.out _ M.out
      clear y0 y1 y2 y3 y4 y5
      refine wp_region_noPanic ?_
      refine wp_region_held_drew (S := (fun X => X.cell? ⟨w.heap.size, 1, none⟩ = some (.string (str s)))) (by kernel_rfl) (by first | assumption | trivial) (fun hHeld => ?_)
      refine wpAnyH_take (i := 0) (v := ?_) rfl (by kernel_rfl) (by kernel_rfl) (by kernel_rfl) (fun _ _ _ h => h) (Or.inl ⟨by kernel_rfl, ?_⟩) (by first | assumption | trivial) ?_
      rotate_left
      · (intro wS hSw; (try dsimp only at hSw); go_simp; try with_reducible rfl)
      (try simp only [List.append_eq, List.cons_append, List.nil_append, List.getElem_toArray, List.getElem_cons_succ, List.getElem_cons_zero, Act.put, List.setIfInBounds_toArray, List.set_cons_zero, List.set_cons_succ])
      refine wpAnyH_take (i := 1) (v := ?_) rfl (by kernel_rfl) (by kernel_rfl) (by kernel_rfl) (fun _ _ _ h => h) (Or.inl ⟨by kernel_rfl, ?_⟩) (by first | assumption | trivial) ?_
      rotate_left
      · (intro wS hSw; (try dsimp only at hSw); go_simp; try with_reducible rfl)
      (try simp only [List.append_eq, List.cons_append, List.nil_append, List.getElem_toArray, List.getElem_cons_succ, List.getElem_cons_zero, Act.put, List.setIfInBounds_toArray, List.set_cons_zero, List.set_cons_succ])
      refine wpAnyH_take (i := 4) (v := ?_) rfl (by kernel_rfl) (by kernel_rfl) (by kernel_rfl) (fun _ _ _ h => h) (Or.inl ⟨by kernel_rfl, ?_⟩) (by first | assumption | trivial) ?_
      rotate_left
      · (intro wS hSw; (try dsimp only at hSw); go_simp; try with_reducible rfl)
      (try simp only [List.append_eq, List.cons_append, List.nil_append, List.getElem_toArray, List.getElem_cons_succ, List.getElem_cons_zero, Act.put, List.setIfInBounds_toArray, List.set_cons_zero, List.set_cons_succ])
      refine wpAnyH_take (i := 5) (v := ?_) rfl (by kernel_rfl) (by kernel_rfl) (by kernel_rfl) (fun _ _ _ h => h) (Or.inl ⟨by kernel_rfl, ?_⟩) (by first | assumption | trivial) ?_
      rotate_left
      · (intro wS hSw; (try dsimp only at hSw); go_simp; try with_reducible rfl)
      (try simp only [List.append_eq, List.cons_append, List.nil_append, List.getElem_toArray, List.getElem_cons_succ, List.getElem_cons_zero, Act.put, List.setIfInBounds_toArray, List.set_cons_zero, List.set_cons_succ])
      refine wpAnyH_ready (rs := [2]) (by kernel_rfl) (by simp) ?_
      refine AllReadyH.cons rfl (fun K hK => ?_) AllReadyH.nil
      go_simp
      (go_at_call 33; (with_reducible refine (HSP.out _).mono ?_); rintro e w4 ⟨rfl, b4⟩; have M := hid (M.out.below b4); have hS := HSF.out _ M.out; clear b4 hHeld)
      go_wp2_with fail
      refine hK.out _ _ (by first | assumption | trivial) (fun hHeld => ?_)
      clear hK K
      (try simp only [List.append_eq, List.cons_append, List.nil_append, List.getElem_toArray, List.getElem_cons_succ, List.getElem_cons_zero, Act.put, List.setIfInBounds_toArray, List.set_cons_zero, List.set_cons_succ])
      refine wpAnyH_take (i := 3) (v := ?_) rfl (by kernel_rfl) (by kernel_rfl) (by kernel_rfl) (fun _ _ _ h => h) (Or.inl ⟨by kernel_rfl, ?_⟩) (by first | assumption | trivial) ?_
      rotate_left
      · (intro wS hSw; (try dsimp only at hSw); go_simp; try with_reducible rfl)
      (try simp only [List.append_eq, List.cons_append, List.nil_append, List.getElem_toArray, List.getElem_cons_succ, List.getElem_cons_zero, Act.put, List.setIfInBounds_toArray, List.set_cons_zero, List.set_cons_succ])
      refine wpAnyH_ready (rs := [6]) (by kernel_rfl) (by simp) ?_
      refine AllReadyH.cons rfl (fun K hK => ?_) AllReadyH.nil
      go_simp
      (go_at_call 31; (with_reducible refine (HHS.out _).mono ?_); rintro e w5 ⟨rfl, b5⟩; have M := hid (M.out.below b5); have hS := HSF.out _ M.out; clear b5 hHeld)
      go_wp2_with fail
      refine hK.out _ _ (by first | assumption | trivial) (fun hHeld => ?_)
      clear hK K
      (try simp only [List.append_eq, List.cons_append, List.nil_append, List.getElem_toArray, List.getElem_cons_succ, List.getElem_cons_zero, Act.put, List.setIfInBounds_toArray, List.set_cons_zero, List.set_cons_succ])
      refine wpAnyH_take (i := 7) (v := ?_) rfl (by kernel_rfl) (by kernel_rfl) (by kernel_rfl) (fun _ _ _ h => h) (Or.inl ⟨by kernel_rfl, ?_⟩) (by first | assumption | trivial) ?_
      rotate_left
      · (intro wS hSw; (try dsimp only at hSw); go_simp; try with_reducible rfl)
      (try simp only [List.append_eq, List.cons_append, List.nil_append, List.getElem_toArray, List.getElem_cons_succ, List.getElem_cons_zero, Act.put, List.setIfInBounds_toArray, List.set_cons_zero, List.set_cons_succ])
      refine wpAnyH_done (by kernel_rfl) ?_ _
      refine NoPanic.normal ?_
      clear hS hHeld
      go_wp2_with fail
      go_ret
      exact ⟨rfl, M.out.b⟩
  · as_aux_lemma =>
      have hr : hasL b s = r := by rw [← HR.out]; unfold meansF; rfl
      have HHS := hid (rhas_any b s W2 (Nat.le_trans M.out.hi.len (by omega)) (Nat.le_trans M.out.ki.ok.s (by omega)))
      rw [hr] at HHS
      clear hr
      go_wp2_with (go_at_call 31; (with_reducible refine HHS.out.mono ?_); rintro e w1 ⟨rfl, b1⟩; have B1 := hid (past M.out.b b1); clear b1)
      go_ret
      exact ⟨rfl, B1.out⟩
  · as_aux_lemma =>
      have za := M.out.hit.cell (j := 0) rfl
      have zb := M.out.hit.cell (j := 8) rfl
      have hr : seqF sp uid great = r := by rw [← HR.out]; unfold meansF; rfl
      have HSQ := hid (rshas_any SA sn sc sp uid great W2 M.out.ki.ok.sl (Nat.le_trans M.out.ki.ok.sm (by omega)) M.out.ki.ok.sr)
      rw [hr] at HSQ
      clear hr
      go_wp2_with (go_at_call 34; (with_reducible refine HSQ.out.mono ?_); rintro e w1 ⟨rfl, b1⟩; have B1 := hid (past M.out.b b1); clear b1)
      go_ret
      exact ⟨rfl, B1.out⟩
  · as_aux_lemma =>
      have za := M.out.hit.cell (j := 6) rfl
      have zb := M.out.hit.cell (j := 7) rfl
      have hr : seqF sp place many = r := by rw [← HR.out]; unfold meansF; rfl
      have HSQ := hid (rshas_any SA sn sc sp place many W2 M.out.ki.ok.sl (Nat.le_trans M.out.ki.ok.sm (by omega)) M.out.ki.ok.sr)
      rw [hr] at HSQ
      clear hr
      go_wp2_with (go_at_call 34; (with_reducible refine HSQ.out.mono ?_); rintro e w1 ⟨rfl, b1⟩; have B1 := hid (past M.out.b b1); clear b1)
      go_ret
      exact ⟨rfl, B1.out⟩
  · as_aux_lemma =>
      have hl1 : l.length = 1 := by
        have := HBAD.out
        unfold badK at this
        simpa using this
      obtain ⟨x, rfl⟩ : ∃ x, l = [x] := by
        cases l with
        | nil => cases hl1
        | cons x r2 => cases r2 with | nil => exact ⟨x, rfl⟩ | cons y r3 => simp at hl1
      have hln : ln = 1 := M.out.ki.ok.ll.symm
      have hmx := HMX.out (Int.le_refl 15) x (List.mem_singleton.2 rfl)
      have hr : (!(meansF f ⟨uid, sec, zone, size, blob, FA, fn, fc, fl, place, many, great, BA, bn, bc, b⟩ x)) = r := by rw [← HR.out, mn15 f _ _ rfl]; dsimp only; rw [List.all_cons, List.all_nil, Bool.and_true]
      obtain ⟨cb, off, hLA, hcc⟩ := key_at M.out.ki.ok.lr (k := 0) (by simp)
      have hIH := fun (X : World) (m : MnS w X ⟨15, s, t, n, SA, sn, sc, sp, LA, ln, lc, [x]⟩ ⟨uid, sec, zone, size, blob, FA, fn, fc, fl, place, many, great, BA, bn, bc, b⟩ (w.heap.size + 1) w.heap.size) => IH.out x ⟨uid, sec, zone, size, blob, FA, fn, fc, fl, place, many, great, BA, bn, bc, b⟩ X (m.ki.ch x (List.mem_singleton.2 rfl)) hmx m.hi m.t
      have hce := fun (X : World) (m : MnS w X ⟨15, s, t, n, SA, sn, sc, sp, LA, ln, lc, [x]⟩ ⟨uid, sec, zone, size, blob, FA, fn, fc, fl, place, many, great, BA, bn, bc, b⟩ (w.heap.size + 1) w.heap.size) => (by
        obtain ⟨cb2, off2, hLA2, hcc2⟩ := key_at m.ki.ok.lr (k := 0) (by simp)
        have e := hLA.symm.trans hLA2
        injection e with e
        injection e with e1 e2
        subst e1 e2
        have := hcc2 0 (by simp)
        rw [Nat.zero_mul, Nat.add_zero] at this
        exact this : X.cell? ⟨cb, off, none⟩ = some (.int .i64 x.kind) ∧ X.cell? ⟨cb, off + 1, none⟩ = some (.string (str x.s)) ∧ X.cell? ⟨cb, off + 2, none⟩ = some (.string (str x.t)) ∧ X.cell? ⟨cb, off + 3, none⟩ = some (.int .i64 x.n) ∧ X.cell? ⟨cb, off + 4, none⟩ = some (.slice x.SA x.sn x.sc) ∧ X.cell? ⟨cb, off + 5, none⟩ = some (.slice x.LA x.ln x.lc))
      dsimp only at hLA
      obtain ⟨q, hq⟩ : ∃ q, meansF f ⟨uid, sec, zone, size, blob, FA, fn, fc, fl, place, many, great, BA, bn, bc, b⟩ x = q := ⟨_, rfl⟩
      rw [hq] at hIH hr
      obtain ⟨xk, xs, xt, xn, xA, xm, xc, xl, xB, xp, xq, xr⟩ := x
      have HIH := hid (fun X m => (by exact hIH X m : Calls Tryz.prog 13 #[.agg #[.int .i64 xk, .string (str xs), .string (str xt), .int .i64 xn, .slice xA xm xc, .slice xB xp xq], .agg #[.int .i64 uid, .int .i64 sec, .int .i64 zone, .int .i64 size, .int .u64 (blob : Int), .slice FA fn fc, .int .i64 place, .int .i64 many, .int .i64 great, .slice BA bn bc]] X fun e w' => e = .returned (.bool q) ∧ Below X.heap.size X w'))
      have HSF := hid (fun (X : World) (m : MnS w X ⟨15, s, t, n, SA, sn, sc, sp, LA, ln, lc, [⟨xk, xs, xt, xn, xA, xm, xc, xl, xB, xp, xq, xr⟩]⟩ ⟨uid, sec, zone, size, blob, FA, fn, fc, fl, place, many, great, BA, bn, bc, b⟩ (w.heap.size + 1) w.heap.size) => And.intro (m.key.cell (j := 5) rfl) (And.intro (hce X m).1 (And.intro (hce X m).2.1 (And.intro (hce X m).2.2.1 (And.intro (hce X m).2.2.2.1 (And.intro (hce X m).2.2.2.2.1 (And.intro (hce X m).2.2.2.2.2 (And.intro (m.hit.cell (j := 0) rfl) (And.intro (m.hit.cell (j := 1) rfl) (And.intro (m.hit.cell (j := 2) rfl) (And.intro (m.hit.cell (j := 3) rfl) (And.intro (m.hit.cell (j := 4) rfl) (And.intro (m.hit.cell (j := 5) rfl) (And.intro (m.hit.cell (j := 6) rfl) (And.intro (m.hit.cell (j := 7) rfl) (And.intro (m.hit.cell (j := 8) rfl) (m.hit.cell (j := 9) rfl)))))))))))))))))
      dsimp only at HSF
      have HRR := hid hr
      subst hLA hln
      clear hl1 hmx hr hcc hIH hce hq
      go_upto_region 39 with fail
      have M := hid (M.out.below (drew_below _))
      have hS := HSF.out _ M.out
      clear y0 y1 y2 y3 y4 y5
      refine wp_region_noPanic ?_
      refine wp_region_held_drew (S := (fun X => X.cell? ⟨w.heap.size, 5, none⟩ = some (.slice (some ⟨cb, off, none⟩) 1 lc) ∧ X.cell? ⟨cb, off, none⟩ = some (.int .i64 xk) ∧ X.cell? ⟨cb, off + 1, none⟩ = some (.string (str xs)) ∧ X.cell? ⟨cb, off + 2, none⟩ = some (.string (str xt)) ∧ X.cell? ⟨cb, off + 3, none⟩ = some (.int .i64 xn) ∧ X.cell? ⟨cb, off + 4, none⟩ = some (.slice xA xm xc) ∧ X.cell? ⟨cb, off + 5, none⟩ = some (.slice xB xp xq) ∧ X.cell? ⟨w.heap.size + 1, 0, none⟩ = some (.int .i64 uid) ∧ X.cell? ⟨w.heap.size + 1, 1, none⟩ = some (.int .i64 sec) ∧ X.cell? ⟨w.heap.size + 1, 2, none⟩ = some (.int .i64 zone) ∧ X.cell? ⟨w.heap.size + 1, 3, none⟩ = some (.int .i64 size) ∧ X.cell? ⟨w.heap.size + 1, 4, none⟩ = some (.int .u64 (blob : Int)) ∧ X.cell? ⟨w.heap.size + 1, 5, none⟩ = some (.slice FA fn fc) ∧ X.cell? ⟨w.heap.size + 1, 6, none⟩ = some (.int .i64 place) ∧ X.cell? ⟨w.heap.size + 1, 7, none⟩ = some (.int .i64 many) ∧ X.cell? ⟨w.heap.size + 1, 8, none⟩ = some (.int .i64 great) ∧ X.cell? ⟨w.heap.size + 1, 9, none⟩ = some (.slice BA bn bc))) (by kernel_rfl) (by first | assumption | trivial) (fun hHeld => ?_)
      refine wpAnyH_take (i := 0) (v := ?_) rfl (by kernel_rfl) (by kernel_rfl) (by kernel_rfl) (fun _ _ _ h => h) (Or.inl ⟨by kernel_rfl, ?_⟩) (by first | assumption | trivial) ?_
      rotate_left
      · (intro wS hSw; (try dsimp only at hSw); go_simp; try with_reducible rfl)
      (try simp only [List.append_eq, List.cons_append, List.nil_append, List.getElem_toArray, List.getElem_cons_succ, List.getElem_cons_zero, Act.put, List.setIfInBounds_toArray, List.set_cons_zero, List.set_cons_succ])
      refine wpAnyH_take (i := 1) (v := ?_) rfl (by kernel_rfl) (by kernel_rfl) (by kernel_rfl) (fun _ _ _ h => h) (Or.inl ⟨by kernel_rfl, ?_⟩) (by first | assumption | trivial) ?_
      rotate_left
      · (intro wS hSw; (try dsimp only at hSw); go_simp; try with_reducible rfl)
      (try simp only [List.append_eq, List.cons_append, List.nil_append, List.getElem_toArray, List.getElem_cons_succ, List.getElem_cons_zero, Act.put, List.setIfInBounds_toArray, List.set_cons_zero, List.set_cons_succ])
      refine wpAnyH_take (i := 2) (v := ?_) rfl (by kernel_rfl) (by kernel_rfl) (by kernel_rfl) (fun _ _ _ h => h) (Or.inl ⟨by kernel_rfl, ?_⟩) (by first | assumption | trivial) ?_
      rotate_left
      · (intro wS hSw; (try dsimp only at hSw); go_simp; try with_reducible rfl)
      (try simp only [List.append_eq, List.cons_append, List.nil_append, List.getElem_toArray, List.getElem_cons_succ, List.getElem_cons_zero, Act.put, List.setIfInBounds_toArray, List.set_cons_zero, List.set_cons_succ])
      refine wpAnyH_take (i := 3) (v := ?_) rfl (by kernel_rfl) (by kernel_rfl) (by kernel_rfl) (fun _ _ _ h => h) (Or.inl ⟨by kernel_rfl, ?_⟩) (by first | assumption | trivial) ?_
      rotate_left
      · (intro wS hSw; (try dsimp only at hSw); go_simp; try with_reducible rfl)
      (try simp only [List.append_eq, List.cons_append, List.nil_append, List.getElem_toArray, List.getElem_cons_succ, List.getElem_cons_zero, Act.put, List.setIfInBounds_toArray, List.set_cons_zero, List.set_cons_succ])
      refine wpAnyH_take (i := 4) (v := ?_) rfl (by kernel_rfl) (by kernel_rfl) (by kernel_rfl) (fun _ _ _ h => h) (Or.inl ⟨by kernel_rfl, ?_⟩) (by first | assumption | trivial) ?_
      rotate_left
      · (intro wS hSw; (try dsimp only at hSw); go_simp; try with_reducible rfl)
      (try simp only [List.append_eq, List.cons_append, List.nil_append, List.getElem_toArray, List.getElem_cons_succ, List.getElem_cons_zero, Act.put, List.setIfInBounds_toArray, List.set_cons_zero, List.set_cons_succ])
      refine wpAnyH_ready (rs := [5]) (by kernel_rfl) (by simp) ?_
      refine AllReadyH.cons rfl (fun K hK => ?_) AllReadyH.nil
      go_simp
      (go_at_call 13; (with_reducible refine (HIH.out _ M.out).mono ?_); rintro e w4 ⟨rfl, b4⟩; have M := hid (M.out.below b4); have hS := HSF.out _ M.out; clear b4 hHeld)
      go_wp2_with fail
      refine hK.out _ _ (by first | assumption | trivial) (fun hHeld => ?_)
      clear hK K
      (try simp only [List.append_eq, List.cons_append, List.nil_append, List.getElem_toArray, List.getElem_cons_succ, List.getElem_cons_zero, Act.put, List.setIfInBounds_toArray, List.set_cons_zero, List.set_cons_succ])
      refine wpAnyH_take (i := 6) (v := ?_) rfl (by kernel_rfl) (by kernel_rfl) (by kernel_rfl) (fun _ _ _ h => h) (Or.inl ⟨by kernel_rfl, ?_⟩) (by first | assumption | trivial) ?_
      rotate_left
      · (intro wS hSw; (try dsimp only at hSw); go_simp; try with_reducible rfl)
      (try simp only [List.append_eq, List.cons_append, List.nil_append, List.getElem_toArray, List.getElem_cons_succ, List.getElem_cons_zero, Act.put, List.setIfInBounds_toArray, List.set_cons_zero, List.set_cons_succ])
      refine wpAnyH_take (i := 7) (v := ?_) rfl (by kernel_rfl) (by kernel_rfl) (by kernel_rfl) (fun _ _ _ h => h) (Or.inl ⟨by kernel_rfl, ?_⟩) (by first | assumption | trivial) ?_
      rotate_left
      · (intro wS hSw; (try dsimp only at hSw); go_simp; try with_reducible rfl)
      (try simp only [List.append_eq, List.cons_append, List.nil_append, List.getElem_toArray, List.getElem_cons_succ, List.getElem_cons_zero, Act.put, List.setIfInBounds_toArray, List.set_cons_zero, List.set_cons_succ])
      refine wpAnyH_done (by kernel_rfl) ?_ _
      refine NoPanic.normal ?_
      clear hS hHeld
      go_wp2_with fail
      go_ret
      exact ⟨by rw [← HRR.out]; rfl, M.out.b⟩
  · as_aux_lemma =>
      have hl2 : l.length = 2 := by
        have := HBAD.out
        unfold badK at this
        simpa using this
      obtain ⟨x, y, rfl⟩ : ∃ x y, l = [x, y] := by
        match l, hl2 with
        | [x, y], _ => exact ⟨x, y, rfl⟩
      have hln : ln = 2 := M.out.ki.ok.ll.symm
      have mx : x ∈ [x, y] := List.mem_cons_self ..
      have my : y ∈ [x, y] := List.mem_cons_of_mem _ (List.mem_cons_self ..)
      have hmx := HMX.out (show (15 : Int) ≤ 16 by decide) x mx
      have hmy := HMX.out (show (15 : Int) ≤ 16 by decide) y my
      have hr : (meansF f ⟨uid, sec, zone, size, blob, FA, fn, fc, fl, place, many, great, BA, bn, bc, b⟩ x || meansF f ⟨uid, sec, zone, size, blob, FA, fn, fc, fl, place, many, great, BA, bn, bc, b⟩ y) = r := by rw [← HR.out, mn16 f _ _ rfl]; dsimp only; rw [List.any_cons, List.any_cons, List.any_nil, Bool.or_false]
      obtain ⟨cb, off, hLA, hcc⟩ := key_at M.out.ki.ok.lr (k := 0) (show 0 < 2 by decide)
      have hIX := fun (X : World) (m : MnS w X ⟨16, s, t, n, SA, sn, sc, sp, LA, ln, lc, [x, y]⟩ ⟨uid, sec, zone, size, blob, FA, fn, fc, fl, place, many, great, BA, bn, bc, b⟩ (w.heap.size + 1) w.heap.size) => IH.out x ⟨uid, sec, zone, size, blob, FA, fn, fc, fl, place, many, great, BA, bn, bc, b⟩ X (m.ki.ch x mx) hmx m.hi m.t
      have hIY := fun (X : World) (m : MnS w X ⟨16, s, t, n, SA, sn, sc, sp, LA, ln, lc, [x, y]⟩ ⟨uid, sec, zone, size, blob, FA, fn, fc, fl, place, many, great, BA, bn, bc, b⟩ (w.heap.size + 1) w.heap.size) => IH.out y ⟨uid, sec, zone, size, blob, FA, fn, fc, fl, place, many, great, BA, bn, bc, b⟩ X (m.ki.ch y my) hmy m.hi m.t
      have hce := fun (X : World) (m : MnS w X ⟨16, s, t, n, SA, sn, sc, sp, LA, ln, lc, [x, y]⟩ ⟨uid, sec, zone, size, blob, FA, fn, fc, fl, place, many, great, BA, bn, bc, b⟩ (w.heap.size + 1) w.heap.size) => (by
        obtain ⟨cb2, off2, hLA2, hcc2⟩ := key_at m.ki.ok.lr (k := 0) (show 0 < 2 by decide)
        have e := hLA.symm.trans hLA2
        injection e with e
        injection e with e1 e2
        subst e1 e2
        have h0 := hcc2 0 (show 0 < 2 by decide)
        have h1 := hcc2 1 (show 1 < 2 by decide)
        rw [Nat.zero_mul, Nat.add_zero] at h0
        rw [Nat.one_mul] at h1
        exact ⟨h0, h1⟩ : (X.cell? ⟨cb, off, none⟩ = some (.int .i64 x.kind) ∧ X.cell? ⟨cb, off + 1, none⟩ = some (.string (str x.s)) ∧ X.cell? ⟨cb, off + 2, none⟩ = some (.string (str x.t)) ∧ X.cell? ⟨cb, off + 3, none⟩ = some (.int .i64 x.n) ∧ X.cell? ⟨cb, off + 4, none⟩ = some (.slice x.SA x.sn x.sc) ∧ X.cell? ⟨cb, off + 5, none⟩ = some (.slice x.LA x.ln x.lc)) ∧ (X.cell? ⟨cb, off + 6, none⟩ = some (.int .i64 y.kind) ∧ X.cell? ⟨cb, off + 6 + 1, none⟩ = some (.string (str y.s)) ∧ X.cell? ⟨cb, off + 6 + 2, none⟩ = some (.string (str y.t)) ∧ X.cell? ⟨cb, off + 6 + 3, none⟩ = some (.int .i64 y.n) ∧ X.cell? ⟨cb, off + 6 + 4, none⟩ = some (.slice y.SA y.sn y.sc) ∧ X.cell? ⟨cb, off + 6 + 5, none⟩ = some (.slice y.LA y.ln y.lc)))
      dsimp only at hLA
      obtain ⟨q1, hq1⟩ : ∃ q, meansF f ⟨uid, sec, zone, size, blob, FA, fn, fc, fl, place, many, great, BA, bn, bc, b⟩ x = q := ⟨_, rfl⟩
      obtain ⟨q2, hq2⟩ : ∃ q, meansF f ⟨uid, sec, zone, size, blob, FA, fn, fc, fl, place, many, great, BA, bn, bc, b⟩ y = q := ⟨_, rfl⟩
      rw [hq1] at hIX
      rw [hq2] at hIY
      rw [hq1, hq2] at hr
      obtain ⟨xk, xs, xt, xn, xA, xm, xc, xl, xB, xp, xq, xr⟩ := x
      obtain ⟨yk, ys, yt, yn, yA, ym, yc, yl, yB, yp, yq, yr⟩ := y
      have HIX := hid (fun X m => (by exact hIX X m : Calls Tryz.prog 13 #[.agg #[.int .i64 xk, .string (str xs), .string (str xt), .int .i64 xn, .slice xA xm xc, .slice xB xp xq], .agg #[.int .i64 uid, .int .i64 sec, .int .i64 zone, .int .i64 size, .int .u64 (blob : Int), .slice FA fn fc, .int .i64 place, .int .i64 many, .int .i64 great, .slice BA bn bc]] X fun e w' => e = .returned (.bool q1) ∧ Below X.heap.size X w'))
      have HIY := hid (fun X m => (by exact hIY X m : Calls Tryz.prog 13 #[.agg #[.int .i64 yk, .string (str ys), .string (str yt), .int .i64 yn, .slice yA ym yc, .slice yB yp yq], .agg #[.int .i64 uid, .int .i64 sec, .int .i64 zone, .int .i64 size, .int .u64 (blob : Int), .slice FA fn fc, .int .i64 place, .int .i64 many, .int .i64 great, .slice BA bn bc]] X fun e w' => e = .returned (.bool q2) ∧ Below X.heap.size X w'))
      have HSF := hid (fun (X : World) (m : MnS w X ⟨16, s, t, n, SA, sn, sc, sp, LA, ln, lc, [⟨xk, xs, xt, xn, xA, xm, xc, xl, xB, xp, xq, xr⟩, ⟨yk, ys, yt, yn, yA, ym, yc, yl, yB, yp, yq, yr⟩]⟩ ⟨uid, sec, zone, size, blob, FA, fn, fc, fl, place, many, great, BA, bn, bc, b⟩ (w.heap.size + 1) w.heap.size) => And.intro (m.key.cell (j := 5) rfl) (And.intro (hce X m).1.1 (And.intro (hce X m).1.2.1 (And.intro (hce X m).1.2.2.1 (And.intro (hce X m).1.2.2.2.1 (And.intro (hce X m).1.2.2.2.2.1 (And.intro (hce X m).1.2.2.2.2.2 (And.intro (hce X m).2.1 (And.intro (hce X m).2.2.1 (And.intro (hce X m).2.2.2.1 (And.intro (hce X m).2.2.2.2.1 (And.intro (hce X m).2.2.2.2.2.1 (And.intro (hce X m).2.2.2.2.2.2 (And.intro (m.hit.cell (j := 0) rfl) (And.intro (m.hit.cell (j := 1) rfl) (And.intro (m.hit.cell (j := 2) rfl) (And.intro (m.hit.cell (j := 3) rfl) (And.intro (m.hit.cell (j := 4) rfl) (And.intro (m.hit.cell (j := 5) rfl) (And.intro (m.hit.cell (j := 6) rfl) (And.intro (m.hit.cell (j := 7) rfl) (And.intro (m.hit.cell (j := 8) rfl) (m.hit.cell (j := 9) rfl)))))))))))))))))))))))
      dsimp only at HSF
      have HRR := hid hr
      subst hLA hln
      clear hl2 hmx hmy mx my hr hcc hIX hIY hce hq1 hq2
      go_upto_region 41 with fail
      have M := hid (M.out.below (drew_below _))
      have hS := HSF.out _ M.out
      clear y0 y1 y2 y3 y4 y5
      cases q1 with
      | true =>
        refine wp_region_noPanic ?_
        refine wp_region_held_drew (S := (fun X => X.cell? ⟨w.heap.size, 5, none⟩ = some (.slice (some ⟨cb, off, none⟩) 2 lc) ∧ X.cell? ⟨cb, off, none⟩ = some (.int .i64 xk) ∧ X.cell? ⟨cb, off + 1, none⟩ = some (.string (str xs)) ∧ X.cell? ⟨cb, off + 2, none⟩ = some (.string (str xt)) ∧ X.cell? ⟨cb, off + 3, none⟩ = some (.int .i64 xn) ∧ X.cell? ⟨cb, off + 4, none⟩ = some (.slice xA xm xc) ∧ X.cell? ⟨cb, off + 5, none⟩ = some (.slice xB xp xq) ∧ X.cell? ⟨cb, off + 6, none⟩ = some (.int .i64 yk) ∧ X.cell? ⟨cb, off + 6 + 1, none⟩ = some (.string (str ys)) ∧ X.cell? ⟨cb, off + 6 + 2, none⟩ = some (.string (str yt)) ∧ X.cell? ⟨cb, off + 6 + 3, none⟩ = some (.int .i64 yn) ∧ X.cell? ⟨cb, off + 6 + 4, none⟩ = some (.slice yA ym yc) ∧ X.cell? ⟨cb, off + 6 + 5, none⟩ = some (.slice yB yp yq) ∧ X.cell? ⟨w.heap.size + 1, 0, none⟩ = some (.int .i64 uid) ∧ X.cell? ⟨w.heap.size + 1, 1, none⟩ = some (.int .i64 sec) ∧ X.cell? ⟨w.heap.size + 1, 2, none⟩ = some (.int .i64 zone) ∧ X.cell? ⟨w.heap.size + 1, 3, none⟩ = some (.int .i64 size) ∧ X.cell? ⟨w.heap.size + 1, 4, none⟩ = some (.int .u64 (blob : Int)) ∧ X.cell? ⟨w.heap.size + 1, 5, none⟩ = some (.slice FA fn fc) ∧ X.cell? ⟨w.heap.size + 1, 6, none⟩ = some (.int .i64 place) ∧ X.cell? ⟨w.heap.size + 1, 7, none⟩ = some (.int .i64 many) ∧ X.cell? ⟨w.heap.size + 1, 8, none⟩ = some (.int .i64 great) ∧ X.cell? ⟨w.heap.size + 1, 9, none⟩ = some (.slice BA bn bc))) (by kernel_rfl) (by first | assumption | trivial) (fun hHeld => ?_)
        refine wpAnyH_take (i := 0) (v := ?_) rfl (by kernel_rfl) (by kernel_rfl) (by kernel_rfl) (fun _ _ _ h => h) (Or.inl ⟨by kernel_rfl, ?_⟩) (by first | assumption | trivial) ?_
        rotate_left
        · (intro wS hSw; (try dsimp only at hSw); go_simp; try with_reducible rfl)
        (try simp only [List.append_eq, List.cons_append, List.nil_append, List.getElem_toArray, List.getElem_cons_succ, List.getElem_cons_zero, Act.put, List.setIfInBounds_toArray, List.set_cons_zero, List.set_cons_succ])
        refine wpAnyH_take (i := 1) (v := ?_) rfl (by kernel_rfl) (by kernel_rfl) (by kernel_rfl) (fun _ _ _ h => h) (Or.inl ⟨by kernel_rfl, ?_⟩) (by first | assumption | trivial) ?_
        rotate_left
        · (intro wS hSw; (try dsimp only at hSw); go_simp; try with_reducible rfl)
        (try simp only [List.append_eq, List.cons_append, List.nil_append, List.getElem_toArray, List.getElem_cons_succ, List.getElem_cons_zero, Act.put, List.setIfInBounds_toArray, List.set_cons_zero, List.set_cons_succ])
        refine wpAnyH_take (i := 2) (v := ?_) rfl (by kernel_rfl) (by kernel_rfl) (by kernel_rfl) (fun _ _ _ h => h) (Or.inl ⟨by kernel_rfl, ?_⟩) (by first | assumption | trivial) ?_
        rotate_left
        · (intro wS hSw; (try dsimp only at hSw); go_simp; try with_reducible rfl)
        (try simp only [List.append_eq, List.cons_append, List.nil_append, List.getElem_toArray, List.getElem_cons_succ, List.getElem_cons_zero, Act.put, List.setIfInBounds_toArray, List.set_cons_zero, List.set_cons_succ])
        refine wpAnyH_take (i := 3) (v := ?_) rfl (by kernel_rfl) (by kernel_rfl) (by kernel_rfl) (fun _ _ _ h => h) (Or.inl ⟨by kernel_rfl, ?_⟩) (by first | assumption | trivial) ?_
        rotate_left
        · (intro wS hSw; (try dsimp only at hSw); go_simp; try with_reducible rfl)
        (try simp only [List.append_eq, List.cons_append, List.nil_append, List.getElem_toArray, List.getElem_cons_succ, List.getElem_cons_zero, Act.put, List.setIfInBounds_toArray, List.set_cons_zero, List.set_cons_succ])
        refine wpAnyH_take (i := 4) (v := ?_) rfl (by kernel_rfl) (by kernel_rfl) (by kernel_rfl) (fun _ _ _ h => h) (Or.inl ⟨by kernel_rfl, ?_⟩) (by first | assumption | trivial) ?_
        rotate_left
        · (intro wS hSw; (try dsimp only at hSw); go_simp; try with_reducible rfl)
        (try simp only [List.append_eq, List.cons_append, List.nil_append, List.getElem_toArray, List.getElem_cons_succ, List.getElem_cons_zero, Act.put, List.setIfInBounds_toArray, List.set_cons_zero, List.set_cons_succ])
        refine wpAnyH_ready (rs := [5]) (by kernel_rfl) (by simp) ?_
        refine AllReadyH.cons rfl (fun K hK => ?_) AllReadyH.nil
        go_simp
        (go_at_call 13; (with_reducible refine (HIX.out _ M.out).mono ?_); rintro e w4 ⟨rfl, b4⟩; have M := hid (M.out.below b4); have hS := HSF.out _ M.out; clear b4 hHeld)
        go_wp2_with fail
        refine hK.out _ _ (by first | assumption | trivial) (fun hHeld => ?_)
        clear hK K
        (try simp only [List.append_eq, List.cons_append, List.nil_append, List.getElem_toArray, List.getElem_cons_succ, List.getElem_cons_zero, Act.put, List.setIfInBounds_toArray, List.set_cons_zero, List.set_cons_succ])
        refine wpAnyH_take (i := 6) (v := ?_) rfl (by kernel_rfl) (by kernel_rfl) (by kernel_rfl) (fun _ _ _ h => h) (Or.inl ⟨by kernel_rfl, ?_⟩) (by first | assumption | trivial) ?_
        rotate_left
        · (intro wS hSw; (try dsimp only at hSw); go_simp; try with_reducible rfl)
        (try simp only [List.append_eq, List.cons_append, List.nil_append, List.getElem_toArray, List.getElem_cons_succ, List.getElem_cons_zero, Act.put, List.setIfInBounds_toArray, List.set_cons_zero, List.set_cons_succ])
        refine wpAnyH_take (i := 7) (v := undef) rfl (by kernel_rfl) (by kernel_rfl) (by kernel_rfl) (fun _ _ _ h => h) (Or.inr ⟨by kernel_rfl, rfl⟩) (by first | assumption | trivial) ?_
        (try simp only [List.append_eq, List.cons_append, List.nil_append, List.getElem_toArray, List.getElem_cons_succ, List.getElem_cons_zero, Act.put, List.setIfInBounds_toArray, List.set_cons_zero, List.set_cons_succ])
        refine wpAnyH_take (i := 8) (v := undef) rfl (by kernel_rfl) (by kernel_rfl) (by kernel_rfl) (fun _ _ _ h => h) (Or.inr ⟨by kernel_rfl, rfl⟩) (by first | assumption | trivial) ?_
        (try simp only [List.append_eq, List.cons_append, List.nil_append, List.getElem_toArray, List.getElem_cons_succ, List.getElem_cons_zero, Act.put, List.setIfInBounds_toArray, List.set_cons_zero, List.set_cons_succ])
        refine wpAnyH_take (i := 9) (v := undef) rfl (by kernel_rfl) (by kernel_rfl) (by kernel_rfl) (fun _ _ _ h => h) (Or.inr ⟨by kernel_rfl, rfl⟩) (by first | assumption | trivial) ?_
        (try simp only [List.append_eq, List.cons_append, List.nil_append, List.getElem_toArray, List.getElem_cons_succ, List.getElem_cons_zero, Act.put, List.setIfInBounds_toArray, List.set_cons_zero, List.set_cons_succ])
        refine wpAnyH_take (i := 10) (v := undef) rfl (by kernel_rfl) (by kernel_rfl) (by kernel_rfl) (fun _ _ _ h => h) (Or.inr ⟨by kernel_rfl, rfl⟩) (by first | assumption | trivial) ?_
        (try simp only [List.append_eq, List.cons_append, List.nil_append, List.getElem_toArray, List.getElem_cons_succ, List.getElem_cons_zero, Act.put, List.setIfInBounds_toArray, List.set_cons_zero, List.set_cons_succ])
        refine wpAnyH_take (i := 11) (v := undef) rfl (by kernel_rfl) (by kernel_rfl) (by kernel_rfl) (fun _ _ _ h => h) (Or.inr ⟨by kernel_rfl, rfl⟩) (by first | assumption | trivial) ?_
        (try simp only [List.append_eq, List.cons_append, List.nil_append, List.getElem_toArray, List.getElem_cons_succ, List.getElem_cons_zero, Act.put, List.setIfInBounds_toArray, List.set_cons_zero, List.set_cons_succ])
        refine wpAnyH_take (i := 12) (v := undef) rfl (by kernel_rfl) (by kernel_rfl) (by kernel_rfl) (fun _ _ _ h => h) (Or.inr ⟨by kernel_rfl, rfl⟩) (by first | assumption | trivial) ?_
        (try simp only [List.append_eq, List.cons_append, List.nil_append, List.getElem_toArray, List.getElem_cons_succ, List.getElem_cons_zero, Act.put, List.setIfInBounds_toArray, List.set_cons_zero, List.set_cons_succ])
        refine wpAnyH_take (i := 13) (v := ?_) rfl (by kernel_rfl) (by kernel_rfl) (by kernel_rfl) (fun _ _ _ h => h) (Or.inl ⟨by kernel_rfl, ?_⟩) (by first | assumption | trivial) ?_
        rotate_left
        · (intro wS hSw; (try dsimp only at hSw); go_simp; try with_reducible rfl)
        (try simp only [List.append_eq, List.cons_append, List.nil_append, List.getElem_toArray, List.getElem_cons_succ, List.getElem_cons_zero, Act.put, List.setIfInBounds_toArray, List.set_cons_zero, List.set_cons_succ])
        refine wpAnyH_take (i := 14) (v := ?_) rfl (by kernel_rfl) (by kernel_rfl) (by kernel_rfl) (fun _ _ _ h => h) (Or.inl ⟨by kernel_rfl, ?_⟩) (by first | assumption | trivial) ?_
        rotate_left
        · (intro wS hSw; (try dsimp only at hSw); go_simp; try with_reducible rfl)
        (try simp only [List.append_eq, List.cons_append, List.nil_append, List.getElem_toArray, List.getElem_cons_succ, List.getElem_cons_zero, Act.put, List.setIfInBounds_toArray, List.set_cons_zero, List.set_cons_succ])
        refine wpAnyH_done (by kernel_rfl) ?_ _
        refine NoPanic.normal ?_
        clear hS hHeld
        go_wp2_with fail
        go_ret
        exact ⟨by rw [← HRR.out]; rfl, M.out.b⟩
      | false =>
        refine wp_region_noPanic ?_
        refine wp_region_held_drew (S := (fun X => X.cell? ⟨w.heap.size, 5, none⟩ = some (.slice (some ⟨cb, off, none⟩) 2 lc) ∧ X.cell? ⟨cb, off, none⟩ = some (.int .i64 xk) ∧ X.cell? ⟨cb, off + 1, none⟩ = some (.string (str xs)) ∧ X.cell? ⟨cb, off + 2, none⟩ = some (.string (str xt)) ∧ X.cell? ⟨cb, off + 3, none⟩ = some (.int .i64 xn) ∧ X.cell? ⟨cb, off + 4, none⟩ = some (.slice xA xm xc) ∧ X.cell? ⟨cb, off + 5, none⟩ = some (.slice xB xp xq) ∧ X.cell? ⟨cb, off + 6, none⟩ = some (.int .i64 yk) ∧ X.cell? ⟨cb, off + 6 + 1, none⟩ = some (.string (str ys)) ∧ X.cell? ⟨cb, off + 6 + 2, none⟩ = some (.string (str yt)) ∧ X.cell? ⟨cb, off + 6 + 3, none⟩ = some (.int .i64 yn) ∧ X.cell? ⟨cb, off + 6 + 4, none⟩ = some (.slice yA ym yc) ∧ X.cell? ⟨cb, off + 6 + 5, none⟩ = some (.slice yB yp yq) ∧ X.cell? ⟨w.heap.size + 1, 0, none⟩ = some (.int .i64 uid) ∧ X.cell? ⟨w.heap.size + 1, 1, none⟩ = some (.int .i64 sec) ∧ X.cell? ⟨w.heap.size + 1, 2, none⟩ = some (.int .i64 zone) ∧ X.cell? ⟨w.heap.size + 1, 3, none⟩ = some (.int .i64 size) ∧ X.cell? ⟨w.heap.size + 1, 4, none⟩ = some (.int .u64 (blob : Int)) ∧ X.cell? ⟨w.heap.size + 1, 5, none⟩ = some (.slice FA fn fc) ∧ X.cell? ⟨w.heap.size + 1, 6, none⟩ = some (.int .i64 place) ∧ X.cell? ⟨w.heap.size + 1, 7, none⟩ = some (.int .i64 many) ∧ X.cell? ⟨w.heap.size + 1, 8, none⟩ = some (.int .i64 great) ∧ X.cell? ⟨w.heap.size + 1, 9, none⟩ = some (.slice BA bn bc))) (by kernel_rfl) (by first | assumption | trivial) (fun hHeld => ?_)
        refine wpAnyH_take (i := 0) (v := ?_) rfl (by kernel_rfl) (by kernel_rfl) (by kernel_rfl) (fun _ _ _ h => h) (Or.inl ⟨by kernel_rfl, ?_⟩) (by first | assumption | trivial) ?_
        rotate_left
        · (intro wS hSw; (try dsimp only at hSw); go_simp; try with_reducible rfl)
        (try simp only [List.append_eq, List.cons_append, List.nil_append, List.getElem_toArray, List.getElem_cons_succ, List.getElem_cons_zero, Act.put, List.setIfInBounds_toArray, List.set_cons_zero, List.set_cons_succ])
        refine wpAnyH_take (i := 1) (v := ?_) rfl (by kernel_rfl) (by kernel_rfl) (by kernel_rfl) (fun _ _ _ h => h) (Or.inl ⟨by kernel_rfl, ?_⟩) (by first | assumption | trivial) ?_
        rotate_left
        · (intro wS hSw; (try dsimp only at hSw); go_simp; try with_reducible rfl)
        (try simp only [List.append_eq, List.cons_append, List.nil_append, List.getElem_toArray, List.getElem_cons_succ, List.getElem_cons_zero, Act.put, List.setIfInBounds_toArray, List.set_cons_zero, List.set_cons_succ])
        refine wpAnyH_take (i := 2) (v := ?_) rfl (by kernel_rfl) (by kernel_rfl) (by kernel_rfl) (fun _ _ _ h => h) (Or.inl ⟨by kernel_rfl, ?_⟩) (by first | assumption | trivial) ?_
        rotate_left
        · (intro wS hSw; (try dsimp only at hSw); go_simp; try with_reducible rfl)
        (try simp only [List.append_eq, List.cons_append, List.nil_append, List.getElem_toArray, List.getElem_cons_succ, List.getElem_cons_zero, Act.put, List.setIfInBounds_toArray, List.set_cons_zero, List.set_cons_succ])
        refine wpAnyH_take (i := 3) (v := ?_) rfl (by kernel_rfl) (by kernel_rfl) (by kernel_rfl) (fun _ _ _ h => h) (Or.inl ⟨by kernel_rfl, ?_⟩) (by first | assumption | trivial) ?_
        rotate_left
        · (intro wS hSw; (try dsimp only at hSw); go_simp; try with_reducible rfl)
        (try simp only [List.append_eq, List.cons_append, List.nil_append, List.getElem_toArray, List.getElem_cons_succ, List.getElem_cons_zero, Act.put, List.setIfInBounds_toArray, List.set_cons_zero, List.set_cons_succ])
        refine wpAnyH_take (i := 4) (v := ?_) rfl (by kernel_rfl) (by kernel_rfl) (by kernel_rfl) (fun _ _ _ h => h) (Or.inl ⟨by kernel_rfl, ?_⟩) (by first | assumption | trivial) ?_
        rotate_left
        · (intro wS hSw; (try dsimp only at hSw); go_simp; try with_reducible rfl)
        (try simp only [List.append_eq, List.cons_append, List.nil_append, List.getElem_toArray, List.getElem_cons_succ, List.getElem_cons_zero, Act.put, List.setIfInBounds_toArray, List.set_cons_zero, List.set_cons_succ])
        refine wpAnyH_ready (rs := [5]) (by kernel_rfl) (by simp) ?_
        refine AllReadyH.cons rfl (fun K hK => ?_) AllReadyH.nil
        go_simp
        (go_at_call 13; (with_reducible refine (HIX.out _ M.out).mono ?_); rintro e w4 ⟨rfl, b4⟩; have M := hid (M.out.below b4); have hS := HSF.out _ M.out; clear b4 hHeld)
        go_wp2_with fail
        refine hK.out _ _ (by first | assumption | trivial) (fun hHeld => ?_)
        clear hK K
        (try simp only [List.append_eq, List.cons_append, List.nil_append, List.getElem_toArray, List.getElem_cons_succ, List.getElem_cons_zero, Act.put, List.setIfInBounds_toArray, List.set_cons_zero, List.set_cons_succ])
        refine wpAnyH_take (i := 6) (v := ?_) rfl (by kernel_rfl) (by kernel_rfl) (by kernel_rfl) (fun _ _ _ h => h) (Or.inl ⟨by kernel_rfl, ?_⟩) (by first | assumption | trivial) ?_
        rotate_left
        · (intro wS hSw; (try dsimp only at hSw); go_simp; try with_reducible rfl)
        (try simp only [List.append_eq, List.cons_append, List.nil_append, List.getElem_toArray, List.getElem_cons_succ, List.getElem_cons_zero, Act.put, List.setIfInBounds_toArray, List.set_cons_zero, List.set_cons_succ])
        refine wpAnyH_take (i := 7) (v := ?_) rfl (by kernel_rfl) (by kernel_rfl) (by kernel_rfl) (fun _ _ _ h => h) (Or.inl ⟨by kernel_rfl, ?_⟩) (by first | assumption | trivial) ?_
        rotate_left
        · (intro wS hSw; (try dsimp only at hSw); go_simp; try with_reducible rfl)
        (try simp only [List.append_eq, List.cons_append, List.nil_append, List.getElem_toArray, List.getElem_cons_succ, List.getElem_cons_zero, Act.put, List.setIfInBounds_toArray, List.set_cons_zero, List.set_cons_succ])
        refine wpAnyH_take (i := 8) (v := ?_) rfl (by kernel_rfl) (by kernel_rfl) (by kernel_rfl) (fun _ _ _ h => h) (Or.inl ⟨by kernel_rfl, ?_⟩) (by first | assumption | trivial) ?_
        rotate_left
        · (intro wS hSw; (try dsimp only at hSw); go_simp; try with_reducible rfl)
        (try simp only [List.append_eq, List.cons_append, List.nil_append, List.getElem_toArray, List.getElem_cons_succ, List.getElem_cons_zero, Act.put, List.setIfInBounds_toArray, List.set_cons_zero, List.set_cons_succ])
        refine wpAnyH_take (i := 9) (v := ?_) rfl (by kernel_rfl) (by kernel_rfl) (by kernel_rfl) (fun _ _ _ h => h) (Or.inl ⟨by kernel_rfl, ?_⟩) (by first | assumption | trivial) ?_
        rotate_left
        · (intro wS hSw; (try dsimp only at hSw); go_simp; try with_reducible rfl)
        (try simp only [List.append_eq, List.cons_append, List.nil_append, List.getElem_toArray, List.getElem_cons_succ, List.getElem_cons_zero, Act.put, List.setIfInBounds_toArray, List.set_cons_zero, List.set_cons_succ])
        refine wpAnyH_take (i := 10) (v := ?_) rfl (by kernel_rfl) (by kernel_rfl) (by kernel_rfl) (fun _ _ _ h => h) (Or.inl ⟨by kernel_rfl, ?_⟩) (by first | assumption | trivial) ?_
        rotate_left
        · (intro wS hSw; (try dsimp only at hSw); go_simp; try with_reducible rfl)
        (try simp only [List.append_eq, List.cons_append, List.nil_append, List.getElem_toArray, List.getElem_cons_succ, List.getElem_cons_zero, Act.put, List.setIfInBounds_toArray, List.set_cons_zero, List.set_cons_succ])
        refine wpAnyH_take (i := 11) (v := ?_) rfl (by kernel_rfl) (by kernel_rfl) (by kernel_rfl) (fun _ _ _ h => h) (Or.inl ⟨by kernel_rfl, ?_⟩) (by first | assumption | trivial) ?_
        rotate_left
        · (intro wS hSw; (try dsimp only at hSw); go_simp; try with_reducible rfl)
        (try simp only [List.append_eq, List.cons_append, List.nil_append, List.getElem_toArray, List.getElem_cons_succ, List.getElem_cons_zero, Act.put, List.setIfInBounds_toArray, List.set_cons_zero, List.set_cons_succ])
        refine wpAnyH_ready (rs := [12]) (by kernel_rfl) (by simp) ?_
        refine AllReadyH.cons rfl (fun K hK => ?_) AllReadyH.nil
        go_simp
        (go_at_call 13; (with_reducible refine (HIY.out _ M.out).mono ?_); rintro e w5 ⟨rfl, b5⟩; have M := hid (M.out.below b5); have hS := HSF.out _ M.out; clear b5 hHeld)
        go_wp2_with fail
        refine hK.out _ _ (by first | assumption | trivial) (fun hHeld => ?_)
        clear hK K
        (try simp only [List.append_eq, List.cons_append, List.nil_append, List.getElem_toArray, List.getElem_cons_succ, List.getElem_cons_zero, Act.put, List.setIfInBounds_toArray, List.set_cons_zero, List.set_cons_succ])
        refine wpAnyH_take (i := 13) (v := ?_) rfl (by kernel_rfl) (by kernel_rfl) (by kernel_rfl) (fun _ _ _ h => h) (Or.inl ⟨by kernel_rfl, ?_⟩) (by first | assumption | trivial) ?_
        rotate_left
        · (intro wS hSw; (try dsimp only at hSw); go_simp; try with_reducible rfl)
        (try simp only [List.append_eq, List.cons_append, List.nil_append, List.getElem_toArray, List.getElem_cons_succ, List.getElem_cons_zero, Act.put, List.setIfInBounds_toArray, List.set_cons_zero, List.set_cons_succ])
        refine wpAnyH_take (i := 14) (v := ?_) rfl (by kernel_rfl) (by kernel_rfl) (by kernel_rfl) (fun _ _ _ h => h) (Or.inl ⟨by kernel_rfl, ?_⟩) (by first | assumption | trivial) ?_
        rotate_left
        · (intro wS hSw; (try dsimp only at hSw); go_simp; try with_reducible rfl)
        (try simp only [List.append_eq, List.cons_append, List.nil_append, List.getElem_toArray, List.getElem_cons_succ, List.getElem_cons_zero, Act.put, List.setIfInBounds_toArray, List.set_cons_zero, List.set_cons_succ])
        refine wpAnyH_done (by kernel_rfl) ?_ _
        refine NoPanic.normal ?_
        clear hS hHeld
        go_wp2_with fail
        go_ret
        exact ⟨by rw [← HRR.out]; rfl, M.out.b⟩
  · as_aux_lemma =>
      have hr : l.all (meansF f ⟨uid, sec, zone, size, blob, FA, fn, fc, fl, place, many, great, BA, bn, bc, b⟩) = r := by rw [← HR.out, mn17 f _ _ rfl]
      have HRR := hid hr
      have HLL := hid (show l.length = ln from M.out.ki.ok.ll)
      have hln : ln ≤ 100 := M.out.ki.ok.lm
      clear hr
      go_wp2_with fail
      clear y0 y1 y2 y3 y4 y5
      have M0 := M
      clear M
      go_loopw [15] (fun i wr => ∃ j : Nat, j ≤ ln ∧ i = .int .i64 (j : Int) ∧ Hid ((l.drop j).all (meansF f ⟨uid, sec, zone, size, blob, FA, fn, fc, fl, place, many, great, BA, bn, bc, b⟩) = l.all (meansF f ⟨uid, sec, zone, size, blob, FA, fn, fc, fl, place, many, great, BA, bn, bc, b⟩)) ∧ Hid (MnS w wr ⟨17, s, t, n, SA, sn, sc, sp, LA, ln, lc, l⟩ ⟨uid, sec, zone, size, blob, FA, fn, fc, fl, place, many, great, BA, bn, bc, b⟩ (w.heap.size + 1) w.heap.size)) (fun i wr => ln - (intOf i).toNat)
      case atStart => exact ⟨0, Nat.zero_le _, rfl, hid (by rw [List.drop_zero]), M0⟩
      case round =>
        clear M0
        obtain ⟨j, hj, rfl, HA, M⟩ := hrel
        rename World => wr
        have y5 := M.out.key.cell (j := 5) rfl
        by_cases hlt : j < ln
        · have d1 : decide ((j : Int) < (ln : Int)) = true := by simp; omega
          have d1' : decide (j < ln) = true := by simpa using hlt
          have i0 : (0 : Int) ≤ (j : Int) := by omega
          have i1 : (j : Int) < (ln : Int) := by omega
          have i2 : (j : Int).toNat = j := by omega
          have hjl : j < l.length := by rw [HLL.out]; exact hlt
          obtain ⟨cb, off, hLA, hcc⟩ := key_at M.out.ki.ok.lr hjl
          have hmem : l[j]'hjl ∈ l := List.getElem_mem hjl
          have hst : (l.drop j).all (meansF f ⟨uid, sec, zone, size, blob, FA, fn, fc, fl, place, many, great, BA, bn, bc, b⟩) = (meansF f ⟨uid, sec, zone, size, blob, FA, fn, fc, fl, place, many, great, BA, bn, bc, b⟩ (l[j]'hjl) && (l.drop (j + 1)).all (meansF f ⟨uid, sec, zone, size, blob, FA, fn, fc, fl, place, many, great, BA, bn, bc, b⟩)) := by rw [List.drop_eq_getElem_cons hjl, List.all_cons]
          obtain ⟨x, hx⟩ : ∃ x, l[j]'hjl = x := ⟨_, rfl⟩
          have hce := fun (X : World) (m : MnS w X ⟨17, s, t, n, SA, sn, sc, sp, LA, ln, lc, l⟩ ⟨uid, sec, zone, size, blob, FA, fn, fc, fl, place, many, great, BA, bn, bc, b⟩ (w.heap.size + 1) w.heap.size) => (by
            obtain ⟨cb2, off2, hLA2, hcc2⟩ := key_at m.ki.ok.lr hjl
            have e := hLA.symm.trans hLA2
            injection e with e
            injection e with e1 e2
            subst e1 e2
            have := hcc2 j hjl
            rw [hx] at this
            exact this : X.cell? ⟨cb, off + j * 6, none⟩ = some (.int .i64 x.kind) ∧ X.cell? ⟨cb, off + j * 6 + 1, none⟩ = some (.string (str x.s)) ∧ X.cell? ⟨cb, off + j * 6 + 2, none⟩ = some (.string (str x.t)) ∧ X.cell? ⟨cb, off + j * 6 + 3, none⟩ = some (.int .i64 x.n) ∧ X.cell? ⟨cb, off + j * 6 + 4, none⟩ = some (.slice x.SA x.sn x.sc) ∧ X.cell? ⟨cb, off + j * 6 + 5, none⟩ = some (.slice x.LA x.ln x.lc))
          rw [hx] at hmem hst
          have hmx := HMX.out (show (15 : Int) ≤ 17 by decide) x hmem
          have hIX := fun (X : World) (m : MnS w X ⟨17, s, t, n, SA, sn, sc, sp, LA, ln, lc, l⟩ ⟨uid, sec, zone, size, blob, FA, fn, fc, fl, place, many, great, BA, bn, bc, b⟩ (w.heap.size + 1) w.heap.size) => IH.out x ⟨uid, sec, zone, size, blob, FA, fn, fc, fl, place, many, great, BA, bn, bc, b⟩ X (m.ki.ch x hmem) hmx m.hi m.t
          obtain ⟨q, hq⟩ : ∃ q, meansF f ⟨uid, sec, zone, size, blob, FA, fn, fc, fl, place, many, great, BA, bn, bc, b⟩ x = q := ⟨_, rfl⟩
          rw [hq] at hIX hst
          have HST := hid hst
          dsimp only at hLA
          obtain ⟨xk, xs, xt, xn, xA, xm, xc, xl, xB, xp, xq, xr⟩ := x
          have HIX := hid (fun X m => (by exact hIX X m : Calls Tryz.prog 13 #[.agg #[.int .i64 xk, .string (str xs), .string (str xt), .int .i64 xn, .slice xA xm xc, .slice xB xp xq], .agg #[.int .i64 uid, .int .i64 sec, .int .i64 zone, .int .i64 size, .int .u64 (blob : Int), .slice FA fn fc, .int .i64 place, .int .i64 many, .int .i64 great, .slice BA bn bc]] X fun e w' => e = .returned (.bool q) ∧ Below X.heap.size X w'))
          have HSF := hid (fun (X : World) (m : MnS w X ⟨17, s, t, n, SA, sn, sc, sp, LA, ln, lc, l⟩ ⟨uid, sec, zone, size, blob, FA, fn, fc, fl, place, many, great, BA, bn, bc, b⟩ (w.heap.size + 1) w.heap.size) => And.intro (m.key.cell (j := 5) rfl) (And.intro (hce X m).1 (And.intro (hce X m).2.1 (And.intro (hce X m).2.2.1 (And.intro (hce X m).2.2.2.1 (And.intro (hce X m).2.2.2.2.1 (And.intro (hce X m).2.2.2.2.2 (And.intro (m.hit.cell (j := 0) rfl) (And.intro (m.hit.cell (j := 1) rfl) (And.intro (m.hit.cell (j := 2) rfl) (And.intro (m.hit.cell (j := 3) rfl) (And.intro (m.hit.cell (j := 4) rfl) (And.intro (m.hit.cell (j := 5) rfl) (And.intro (m.hit.cell (j := 6) rfl) (And.intro (m.hit.cell (j := 7) rfl) (And.intro (m.hit.cell (j := 8) rfl) (m.hit.cell (j := 9) rfl)))))))))))))))))
          dsimp only at HSF
          subst hLA
          clear hcc hmem hst hx hmx hIX hq hce
          go_upto_region 46 with fail
          have M := hid (M.out.below (drew_below _))
          have hS := HSF.out _ M.out
          clear y5
          refine wp_region_noPanic ?_
          refine wp_region_held_drew (S := (fun X => X.cell? ⟨w.heap.size, 5, none⟩ = some (.slice (some ⟨cb, off, none⟩) ln lc) ∧ X.cell? ⟨cb, off + j * 6, none⟩ = some (.int .i64 xk) ∧ X.cell? ⟨cb, off + j * 6 + 1, none⟩ = some (.string (str xs)) ∧ X.cell? ⟨cb, off + j * 6 + 2, none⟩ = some (.string (str xt)) ∧ X.cell? ⟨cb, off + j * 6 + 3, none⟩ = some (.int .i64 xn) ∧ X.cell? ⟨cb, off + j * 6 + 4, none⟩ = some (.slice xA xm xc) ∧ X.cell? ⟨cb, off + j * 6 + 5, none⟩ = some (.slice xB xp xq) ∧ X.cell? ⟨w.heap.size + 1, 0, none⟩ = some (.int .i64 uid) ∧ X.cell? ⟨w.heap.size + 1, 1, none⟩ = some (.int .i64 sec) ∧ X.cell? ⟨w.heap.size + 1, 2, none⟩ = some (.int .i64 zone) ∧ X.cell? ⟨w.heap.size + 1, 3, none⟩ = some (.int .i64 size) ∧ X.cell? ⟨w.heap.size + 1, 4, none⟩ = some (.int .u64 (blob : Int)) ∧ X.cell? ⟨w.heap.size + 1, 5, none⟩ = some (.slice FA fn fc) ∧ X.cell? ⟨w.heap.size + 1, 6, none⟩ = some (.int .i64 place) ∧ X.cell? ⟨w.heap.size + 1, 7, none⟩ = some (.int .i64 many) ∧ X.cell? ⟨w.heap.size + 1, 8, none⟩ = some (.int .i64 great) ∧ X.cell? ⟨w.heap.size + 1, 9, none⟩ = some (.slice BA bn bc))) (by kernel_rfl) (by first | assumption | trivial) (fun hHeld => ?_)
          refine wpAnyH_take (i := 0) (v := ?_) rfl (by kernel_rfl) (by kernel_rfl) (by kernel_rfl) (fun _ _ _ h => h) (Or.inl ⟨by kernel_rfl, ?_⟩) (by first | assumption | trivial) ?_
          rotate_left
          · (intro wS hSw; (try dsimp only at hSw); go_simp; try with_reducible rfl)
          (try simp only [List.append_eq, List.cons_append, List.nil_append, List.getElem_toArray, List.getElem_cons_succ, List.getElem_cons_zero, Act.put, List.setIfInBounds_toArray, List.set_cons_zero, List.set_cons_succ])
          refine wpAnyH_take (i := 1) (v := ?_) rfl (by kernel_rfl) (by kernel_rfl) (by kernel_rfl) (fun _ _ _ h => h) (Or.inl ⟨by kernel_rfl, ?_⟩) (by first | assumption | trivial) ?_
          rotate_left
          · (intro wS hSw; (try dsimp only at hSw); go_simp; try with_reducible rfl)
          (try simp only [List.append_eq, List.cons_append, List.nil_append, List.getElem_toArray, List.getElem_cons_succ, List.getElem_cons_zero, Act.put, List.setIfInBounds_toArray, List.set_cons_zero, List.set_cons_succ])
          refine wpAnyH_take (i := 2) (v := ?_) rfl (by kernel_rfl) (by kernel_rfl) (by kernel_rfl) (fun _ _ _ h => h) (Or.inl ⟨by kernel_rfl, ?_⟩) (by first | assumption | trivial) ?_
          rotate_left
          · (intro wS hSw; (try dsimp only at hSw); go_simp; try with_reducible rfl)
          (try simp only [List.append_eq, List.cons_append, List.nil_append, List.getElem_toArray, List.getElem_cons_succ, List.getElem_cons_zero, Act.put, List.setIfInBounds_toArray, List.set_cons_zero, List.set_cons_succ])
          refine wpAnyH_take (i := 3) (v := ?_) rfl (by kernel_rfl) (by kernel_rfl) (by kernel_rfl) (fun _ _ _ h => h) (Or.inl ⟨by kernel_rfl, ?_⟩) (by first | assumption | trivial) ?_
          rotate_left
          · (intro wS hSw; (try dsimp only at hSw); go_simp; try with_reducible rfl)
          (try simp only [List.append_eq, List.cons_append, List.nil_append, List.getElem_toArray, List.getElem_cons_succ, List.getElem_cons_zero, Act.put, List.setIfInBounds_toArray, List.set_cons_zero, List.set_cons_succ])
          refine wpAnyH_take (i := 4) (v := ?_) rfl (by kernel_rfl) (by kernel_rfl) (by kernel_rfl) (fun _ _ _ h => h) (Or.inl ⟨by kernel_rfl, ?_⟩) (by first | assumption | trivial) ?_
          rotate_left
          · (intro wS hSw; (try dsimp only at hSw); go_simp; try with_reducible rfl)
          (try simp only [List.append_eq, List.cons_append, List.nil_append, List.getElem_toArray, List.getElem_cons_succ, List.getElem_cons_zero, Act.put, List.setIfInBounds_toArray, List.set_cons_zero, List.set_cons_succ])
          refine wpAnyH_take (i := 5) (v := ?_) rfl (by kernel_rfl) (by kernel_rfl) (by kernel_rfl) (fun _ _ _ h => h) (Or.inl ⟨by kernel_rfl, ?_⟩) (by first | assumption | trivial) ?_
          rotate_left
          · (intro wS hSw; (try dsimp only at hSw); go_simp; try with_reducible rfl)
          (try simp only [List.append_eq, List.cons_append, List.nil_append, List.getElem_toArray, List.getElem_cons_succ, List.getElem_cons_zero, Act.put, List.setIfInBounds_toArray, List.set_cons_zero, List.set_cons_succ])
          refine wpAnyH_ready (rs := [6]) (by kernel_rfl) (by simp) ?_
          refine AllReadyH.cons rfl (fun K hK => ?_) AllReadyH.nil
          go_simp
          (go_at_call 13; (with_reducible refine (HIX.out _ M.out).mono ?_); rintro e w4 ⟨rfl, b4⟩; have M := hid (M.out.below b4); have hS := HSF.out _ M.out; clear b4 hHeld)
          go_wp2_with fail
          refine hK.out _ _ (by first | assumption | trivial) (fun hHeld => ?_)
          clear hK K
          (try simp only [List.append_eq, List.cons_append, List.nil_append, List.getElem_toArray, List.getElem_cons_succ, List.getElem_cons_zero, Act.put, List.setIfInBounds_toArray, List.set_cons_zero, List.set_cons_succ])
          refine wpAnyH_take (i := 7) (v := ?_) rfl (by kernel_rfl) (by kernel_rfl) (by kernel_rfl) (fun _ _ _ h => h) (Or.inl ⟨by kernel_rfl, ?_⟩) (by first | assumption | trivial) ?_
          rotate_left
          · (intro wS hSw; (try dsimp only at hSw); go_simp; try with_reducible rfl)
          (try simp only [List.append_eq, List.cons_append, List.nil_append, List.getElem_toArray, List.getElem_cons_succ, List.getElem_cons_zero, Act.put, List.setIfInBounds_toArray, List.set_cons_zero, List.set_cons_succ])
          refine wpAnyH_done (by kernel_rfl) ?_ _
          refine NoPanic.normal ?_
          clear hS hHeld
          cases q with
          | true =>
            have HA2 := hid (show (l.drop (j + 1)).all (meansF f ⟨uid, sec, zone, size, blob, FA, fn, fc, fl, place, many, great, BA, bn, bc, b⟩) = l.all (meansF f ⟨uid, sec, zone, size, blob, FA, fn, fc, fl, place, many, great, BA, bn, bc, b⟩) by rw [← HA.out, HST.out, Bool.true_and])
            clear HST HA
            go_wp2_with fail
            go_roundw
            case rel => exact ⟨j + 1, by omega, by go_num, HA2, M⟩
            case measure => simp [intOf]; omega
          | false =>
            have HRF := hid (show r = false by rw [← HRR.out, ← HA.out, HST.out, Bool.false_and])
            clear HST HA
            go_wp2_with fail
            go_ret
            exact ⟨by rw [HRF.out]; rfl, M.out.b⟩
        · have d1 : decide ((j : Int) < (ln : Int)) = false := by simp; omega
          have d1' : decide (j < ln) = false := by simpa using hlt
          have HRT := hid (show r = true by rw [← HRR.out, ← HA.out, List.drop_of_length_le (by rw [HLL.out]; omega)]; rfl)
          go_wp2_with fail
          go_ret
          exact ⟨by rw [HRT.out]; rfl, M.out.b⟩
theorem rasks : ∀ f, RAsks f
  | 0 => fun _ _ _ _ hm => absurd hm (fun h => h)
  | f + 1 => rmeans_step f (rasks f)
end Go.Proofs.YtonjadmldgloaaaGreatDoor
