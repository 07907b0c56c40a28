/-
  Feed: the walk. A part of the proof: see the head of the text that ends in 'Law'.
-/
import Derived.Test.YtlddhgnecfgnkaaLi23
namespace Go.Proofs.Ytlddhgnecfgnkaa
open Go.RowKit
set_option linter.unusedVariables false
attribute [local go_sem] Oper.semAt_some

theorem FdI.app {w0 W X X2 w6 : World} {r : Nat} {VP VH VP' VH' VP2 VH2 V : Value} {R : Rdr} {l : List UInt8} {j m n9 c6 : Nat} {A6 : Option Addr} {vs vs9 : List Value} (h : FdI w0 W X r VP VH R l j V VP' VH' vs) (hm : (feedR R (l.take j)).2.length = m) (hj : j < l.length) (h1 : RdAt X2 w0.heap.size r VP2 VH2 (stepR (feedR R (l.take j)).1 (l[j]'hj)).1) (h2 : Mv X X2 r VP' VH' VP2 VH2)
    (hn : n9 = (stepR (feedR R (l.take j)).1 (l[j]'hj)).2.length) (h3 : InsC X2 X.heap.size vs9 (stepR (feedR R (l.take j)).1 (l[j]'hj)).2)
    (ho : w6.ownsRow W.heap.size 45 3 (.slice A6 (m + n9) c6) (m + n9) (vs ++ vs9)) (hg : X2.grownBy w6 V.ownBlock) :
    FdI w0 W w6 r VP VH R l (j + 1) (.slice A6 (m + n9) c6) VP2 VH2 (vs ++ vs9) ∧ (feedR R (l.take (j + 1))).2.length = m + n9 := by
  have e : feedR R (l.take (j + 1)) = ((stepR (feedR R (l.take j)).1 (l[j]'hj)).1, (feedR R (l.take j)).2 ++ (stepR (feedR R (l.take j)).1 (l[j]'hj)).2) := by rw [List.take_succ_eq_append_getElem hj, feedR_snoc]
  have hV := h.rd.row h2 h.out (by decide) (by decide) (by decide)
  have hO : Only (fun g => V.ownBlock = some g) X2 w6 := Only.of_grown hg (fun g e => e)
  have hlen : (feedR R (l.take (j + 1))).2.length = m + n9 := by rw [e]; simp [hm, hn]
  refine ⟨⟨?_, ?_, ?_, ?_⟩, hlen⟩
  · rw [e]
    exact h1.only hO (fun g hg hr => by
      rcases hr with rfl | hr | hr
      · exact h1.cells.row_ne hV (by decide) hg
      · exact own_types hV h1.ps (by decide) g hg hr
      · exact own_types hV h1.hv (by decide) g hg hr)
  · have hM := h.mv.trans h2
    refine ⟨hM.o.trans hO (fun g hg => .inr (own_base hV g hg)), fun g hg => hM.n g hg⟩
  · rw [hlen]
    exact ho
  · rw [e]
    have k1 : InsC w6 W.heap.size vs (feedR R (l.take j)).2 := h.ins.keep (fun v n ys k => own_only (h.rd.row h2 k (by decide) (by decide) (by decide)) hO (fun g hg hr => own_types hV (h.rd.row h2 k (by decide) (by decide) (by decide)) (by decide) g hr hg))
    have k2 : InsC w6 W.heap.size vs9 (stepR (feedR R (l.take j)).1 (l[j]'hj)).2 := h3.keep (fun v n ys k => own_low (own_only k hO (fun g hg hr => own_types hV k (by decide) g hr hg)) h.mv.o.size)
    exact k1.append k2
set_option maxRecDepth 100000 in
set_option maxHeartbeats 8000000 in
theorem feed_any (w0 W : World) (r : Nat) (VP VH : Value) (R : Rdr) (A : Option Addr) (n c : Nat) (l : List UInt8) (h : RdAt W w0.heap.size r VP VH R) (bel : Below w0.heap.size w0 W) (hG : GM w0) (hok : Rok R) (hl : Oct W A n l) (hn : n ≤ 100000) (hA : ∀ a, A = some a → l ≠ [] → ¬ RM r VP VH a.block) :
    Calls Try.prog 10 #[.pointer (some ⟨r, 0, none⟩), .slice A n c] W (LinePost w0 W r VP VH (feedR R l).1 (feedR R l).2) := by
  have HH := hid h
  have HB := hid bel
  have HG := hid hG
  have HOK := hid hok
  have HO := hid hl
  have HLN := hid hl.1
  have HN := hid hn
  have HA := hid hA
  have F0 : Hid (FdI w0 W W r VP VH R l 0 (.slice none 0 0) VP VH []) := hid ⟨h, Mv.refl _ _ _ _, World.ownsRow_nil _ _ _ _, .nil⟩
  clear h bel hG hok hl hn hA
  go_enter Try.func10, Try.ntmps10
  go_wp2_with fail
  go_loopw [5, 10] (fun o i X => ∃ (j : Nat) (A5 : Option Addr) (m c5 : Nat) (VP' VH' : Value) (vs : List Value), j ≤ n ∧ i = .int .i64 (j : Int) ∧ o = .slice A5 m c5 ∧ Hid (FdI w0 W X r VP VH R l j (.slice A5 m c5) VP' VH' vs ∧ (feedR R (l.take j)).2.length = m)) (fun o i X => n - (intOf i).toNat)
  case atStart => exact ⟨0, none, 0, 0, VP, VH, [], by omega, rfl, rfl, hid ⟨F0.out, rfl⟩⟩
  case round =>
    clear F0
    obtain ⟨j, A5, m, c5, VP', VH', vs, hj, rfl, rfl, hI⟩ := hrel
    have F := hid hI.out.1
    have HM := hid hI.out.2
    clear hI
    by_cases hlt : j < n
    · have d1 : decide ((j : Int) < (n : Int)) = true := by simp; omega
      have d1' : decide (j < n) = true := by simpa using hlt
      obtain ⟨cb, co, rfl, hcell⟩ := (F.out.oct HO.out HA.out).at_ (by omega)
      have HJL := hid (show j < l.length by rw [HLN.out]; exact hlt)
      have p0 := hcell j HJL.out
      obtain ⟨x, hx⟩ : ∃ x, l[j]'HJL.out = x := ⟨_, rfl⟩
      rw [hx] at p0
      have HX := hid hx
      have i0 : (0 : Int) ≤ (j : Int) := by omega
      have i1 : (j : Int) < (n : Int) := by omega
      have i2 : (j : Int).toNat = j := by omega
      have i3 : (j : Int) ≤ 100000 := by have := HN.out; omega
      obtain ⟨Q, hQ⟩ : ∃ Q, (feedR R (l.take j)).1 = Q := ⟨_, rfl⟩
      have hqok : Rok Q := by rw [← hQ]; exact feed_ok _ _ HOK.out
      have HQ := hid hQ
      have hrd := F.out.rd
      rw [hQ] at hrd
      have HRD := hid hrd
      have HQOK := hid hqok
      have x5 := hrd.cells.cell (j := 5) rfl
      have HMV : Hid (∀ (X' : World) (VP2 VH2 : Value), RdAt X' w0.heap.size r VP2 VH2 (stepR Q x).1 → Mv wr X' r VP' VH' VP2 VH2 → (stepR Q x).2 = [] → FdI w0 W X' r VP VH R l (j + 1) (.slice A5 m c5) VP2 VH2 vs ∧ (feedR R (l.take (j + 1))).2.length = m) := hid (fun X' VP2 VH2 h1 h2 h3 => by
        rw [← HQ.out, ← HX.out] at h1 h3
        exact ⟨F.out.move HJL.out h1 h2 h3, by rw [List.take_succ_eq_append_getElem HJL.out, feedR_snoc, h3, List.append_nil]; exact HM.out⟩)
      have hB0 : Below w0.heap.size w0 wr := HB.out.trans (F.out.mv.below HH.out HB.out.size)
      have HBX := hid hB0
      clear hcell hx hQ hqok hrd hB0
      by_cases hw : 0 < Q.wait
      · have d2 : decide ((0 : Int) < (Q.wait : Int)) = true := by simp; omega
        have d2' : decide (0 < Q.wait) = true := by simpa using hw
        have HST : Hid (stepR Q x = (litR Q x, [])) := hid (by unfold stepR; rw [if_pos hw])
        have HLIT := hid (literal_any w0 wr r VP' VH' Q x HRD.out HBX.out.size hw HQOK.out)
        clear hw
        go_wp2_with (go_at_call 15
                     refine HLIT.out.mono ?_
                     rintro e w2 ⟨rfl, VP2, VH2, h1, h2⟩
                     have K := hid (HMV.out w2 VP2 VH2 (by rw [HST.out]; exact h1) h2 (by rw [HST.out]))
                     clear h1 h2)
        go_roundw
        case rel => exact ⟨j + 1, A5, m, c5, _, _, vs, by omega, by go_num, rfl, K⟩
        case measure => simp [intOf]; omega
      have hw0 : Q.wait = 0 := by omega
      have d2 : decide ((0 : Int) < (Q.wait : Int)) = false := by simp; omega
      have d2' : decide (0 < Q.wait) = false := by simp; omega
      by_cases h10 : x.toNat = 10
      · have d3 : ((x.toNat : Int) == 10) = true := by rw [h10]; rfl
        have HST : Hid (stepR Q x = lineR Q) := hid (by unfold stepR; rw [if_neg hw, if_pos h10])
        have HLINE := hid (line_any w0 wr r VP' VH' Q HRD.out HBX.out HG.out hw0 HQOK.out)
        have hstl := step_len Q x
        rw [HST.out] at hstl
        have HSL := hid hstl
        have hml := feed_len (l.take j) R
        rw [HM.out, List.length_take] at hml
        have HML := hid (show m ≤ 100000 by have := HN.out; omega)
        have HAPP : Hid (∀ (X2 w6 : World) (VP2 VH2 : Value) (n9 c6 : Nat) (A6 : Option Addr) (vs9 : List Value), RdAt X2 w0.heap.size r VP2 VH2 (lineR Q).1 → Mv wr X2 r VP' VH' VP2 VH2 → n9 = (lineR Q).2.length → InsC X2 wr.heap.size vs9 (lineR Q).2 → w6.ownsRow W.heap.size 45 3 (.slice A6 (m + n9) c6) (m + n9) (vs ++ vs9) → X2.grownBy w6 (Value.ownBlock (.slice A5 m c5)) → FdI w0 W w6 r VP VH R l (j + 1) (.slice A6 (m + n9) c6) VP2 VH2 (vs ++ vs9) ∧ (feedR R (l.take (j + 1))).2.length = m + n9) := hid (fun X2 w6 VP2 VH2 n9 c6 A6 vs9 h1 h2 h3 h4 h5 h6 => by
          rw [← HST.out, ← HQ.out, ← HX.out] at h1 h3 h4
          exact F.out.app HM.out HJL.out h1 h2 h3 h4 h5 h6)
        have HOW : Hid (∀ (X2 : World) (VP2 VH2 : Value), Mv wr X2 r VP' VH' VP2 VH2 → X2.ownsRow W.heap.size 45 3 (.slice A5 m c5) m vs) := hid (fun X2 VP2 VH2 h2 => by
          have := F.out.rd.row h2 F.out.out (by decide) (by decide) (by decide)
          rw [HM.out] at this
          exact this)
        have HWS := hid F.out.mv.o.size
        clear hw h10 hw0 hstl hml
        go_wp2_with (first
          | (go_at_call 16
             refine HLINE.out.mono ?_
             rintro e w2 ⟨A9, n9, c9, vs9, rfl, hn9, hrow, hins, VP2, VH2, h1, h2⟩
             have H1 := hid h1
             have H2 := hid h2
             have HN9 := hid hn9
             have HRW := hid (Row.of_own hrow)
             have HIN := hid hins
             clear h1 h2 hn9 hrow hins)
          | (refine wpList_append_row _ rfl (.tmp 36) (.tmp 38) inpS rfl W.heap.size (.slice A5 m c5) m vs rfl (HOW.out w2 VP2 VH2 H2.out) A9 n9 c9 vs9 rfl (by rw [HIN.out.len, ← HN9.out]) HRW.out HIN.out.one (by have := HML.out; have := HSL.out; have := HN9.out; simp only [maxLen]; omega) (by have := HML.out; have := HSL.out; have := HN9.out; omega) (by have := HWS.out; have := H2.out.o.size; omega) ?_
             intro A6 c6 w6 ho6 hg6 hh6
             have K := hid (HAPP.out w2 w6 VP2 VH2 n9 c6 A6 vs9 H1.out H2.out HN9.out HIN.out ho6 hg6)
             clear ho6 hg6 hh6))
        go_roundw
        case rel => exact ⟨j + 1, A6, m + n9, c6, _, _, _, by omega, by go_num, rfl, K⟩
        case measure => simp [intOf]; omega
      have d3 : ((x.toNat : Int) == 10) = false := by simp; omega
      obtain ⟨AH, cH, rfl, -⟩ := own_slice HRD.out.hv
      obtain ⟨nh, hnh⟩ : ∃ n, Q.hv.length = n := ⟨_, rfl⟩
      rw [hnh] at HRD HMV
      have x1 := HRD.out.cells.cell (j := 1) rfl
      by_cases hbig : 601 < nh
      · have d4 : decide ((601 : Int) < (nh : Int)) = true := by simp; omega
        have d4' : decide (601 < nh) = true := by simpa using hbig
        have HST : Hid (stepR Q x = ({ Q with over := true }, [])) := hid (by unfold stepR; rw [if_neg hw, if_neg h10, if_pos (by omega)])
        have f2 := HRD.out.cells.frozen 2
        have x2 := HRD.out.cells.cell (j := 2) rfl
        have hN := HRD.out.num (R' := { Q with over := true }) 2 (.bool true) rfl rfl rfl
        have K := hid (HMV.out _ _ _ (by rw [HST.out]; exact hN.1) hN.2 (by rw [HST.out]))
        clear hw h10 hw0 hbig hN
        go_wp2_with fail
        go_roundw
        case rel => exact ⟨j + 1, A5, m, c5, _, _, vs, by omega, by go_num, rfl, K⟩
        case measure => simp [intOf]; omega
      · have d4 : decide ((601 : Int) < (nh : Int)) = false := by simp; omega
        have d4' : decide (601 < nh) = false := by simpa using hbig
        have HST : Hid (stepR Q x = ({ Q with hv := Q.hv ++ [x] }, [])) := hid (by unfold stepR; rw [if_neg hw, if_neg h10, if_neg (by omega)])
        have HNH := hid hnh
        have HNB := hid hbig
        clear hw h10 hw0 hbig hnh
        go_wp2_with (
          refine wpList_append_row _ rfl (.tmp 18) (.tmp 20) u8S rfl w0.heap.size (.slice AH nh cH) nh (Q.hv.map B8) rfl (by have := own_alloc HRD.out.hv (.cells #[B8 x] 5); rw [HNH.out] at this; exact this) (some ⟨wr.heap.size, 0, none⟩) 1 1 [B8 x] rfl rfl (Row.of_block (heap_alloc_new wr (Obj.cells #[B8 x] 5))) (by simp [B8, Value.oneCell']) (by have := HNB.out; simp only [maxLen]; omega) (by have := HNB.out; omega) (by have := HBX.out.size; simp; omega) ?_
          intro A3 c3 w3 ho3 hg3 hh3
          have hE := HRD.out.addH HNH.out ho3 hg3 hh3
          have y1 := hE.1.cell (j := 1) rfl
          have z1 := hE.1.frozen 1
          have K := hid (HMV.out _ _ _ (by rw [HST.out]; exact hE.2.1) hE.2.2 (by rw [HST.out]))
          clear ho3 hg3 hh3 hE)
        go_roundw
        case rel => exact ⟨j + 1, A5, m, c5, _, _, vs, by omega, by go_num, rfl, K⟩
        case measure => simp [intOf]; omega
    · have d1 : decide ((j : Int) < (n : Int)) = false := by simp; omega
      have d1' : decide (j < n) = false := by simpa using hlt
      have he : l.take j = l := List.take_of_length_le (by have := HLN.out; omega)
      have HE := hid he
      clear he
      go_wp2_with fail
      go_ret
      have hF := F.out
      have hM := HM.out
      obtain ⟨f1, f2, f3, f4⟩ := hF
      rw [HE.out] at f1 f3 f4 hM
      rw [hM] at f3
      exact ⟨A5, m, c5, vs, rfl, hM.symm, f3, f4, _, _, f1, f2⟩
end Go.Proofs.Ytlddhgnecfgnkaa
