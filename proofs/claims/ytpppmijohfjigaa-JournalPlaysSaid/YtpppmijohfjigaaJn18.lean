/-
  The document's Recover. A part of the proof: see the head of the text that ends in 'Law'.
-/
import Derived.Test.YtpppmijohfjigaaJn17
namespace Go.Proofs.Ytpppmijohfjigaa
open Go.RowKit
set_option linter.unusedVariables false
set_option maxRecDepth 100000
attribute [local go_sem] Oper.semAt_some

def RecR (w0 W : World) (m : Nat) (r : Dsk × Nat × Nat) (e : Ending) (w' : World) : Prop := e = .returned (.tuple #[.int .i64 (r.2.1 : Int), .int .i64 (r.2.2 : Int)]) ∧ RSt w0 w' m r.1 ∧ RLets w0 W w'
set_option maxHeartbeats 16000000 in
theorem rrecover_any {w0 W : World} {m : Nat} {D : Dsk} (h : RSt w0 W m D) (hs : w0.heap.size ≤ W.heap.size) (hl128 : ∀ k, k < D.has.length → (readD D k).length = 128) (h41 : 41 < D.has.length) (hw : D.waits.length ≤ 70000) :
    Calls Try.prog 26 #[.pointer (some ⟨m, 0, none⟩)] W (RecR w0 W m (recoverD D)) := by
  have HST := hid h
  have HSZ := hid hs
  cases hoff : D.off with
  | true =>
    have HF : Hid (recoverD D = (D, 0, 10)) := hid (by unfold recoverD; rw [if_neg (by omega), if_pos hoff])
    have HRO := hid (by have := rread_any h hs 0 (by omega); rw [show readR D 0 = ([], 10) by unfold readR; rw [if_pos ⟨by omega, by omega⟩, if_pos hoff]] at this; exact this : Calls Try.prog 62 #[.pointer (some ⟨m, 0, none⟩), .int .i64 0] W fun e w' => e = .returned (.tuple #[.string (str []), .int .i64 10]) ∧ W = w')
    clear h h41 hoff hl128
    go_enter Try.func26, Try.ntmps26
    go_wp2_with (go_at_call 62; refine HRO.out.mono ?_; rintro e w2 ⟨rfl, rfl⟩)
    go_ret2
    unfold RecR
    rw [HF.out]
    exact ⟨rfl, HST.out, RLets.refl _ _⟩
  | false =>
    have hr0 : recoverD D = match toldD D with
        | some l => ((runD (settleS l) D).1, (if (runD (settleS l) D).2 = 0 then l.length else 0), (runD (settleS l) D).2)
        | none => if readD D 0 = zer then (D, 0, 0) else ((runD formatS D).1, 0, (runD formatS D).2) := by
      unfold recoverD
      rw [if_neg (by omega), if_neg (by rw [hoff]; decide)]
      rfl
    obtain ⟨hd, hhd⟩ : ∃ hd, readD D 0 = hd := ⟨_, rfl⟩
    rw [hhd] at hr0
    have HRD := hid (by have := rread_d h hs 0 (by omega) hoff (by omega); rw [hhd] at this; exact this : Calls Try.prog 62 #[.pointer (some ⟨m, 0, none⟩), .int .i64 0] W fun e w' => e = .returned (.tuple #[.string (str hd), .int .i64 0]) ∧ W = w')
    have HTO := hid (rtold_any h hs hl128 h41 hoff (by omega))
    have HMM := hid (fun l (h : toldD D = some l) => toldD_may h)
    cases htd : toldD D with
    | some l =>
      rw [htd] at hr0
      have HTD := hid htd
      obtain ⟨r, hr⟩ : ∃ r, runD (settleS l) D = r := ⟨_, rfl⟩
      dsimp only at hr0
      rw [hr] at hr0
      have HR0 := hid hr0
      have HRR := hid hr
      have hm := mayJ_true (HMM.out l htd).1
      have HMO := hid hm.one
      clear h h41 hoff hr0 htd hr hm hl128 hhd
      obtain ⟨D2, e2⟩ := r
      dsimp only at HR0
      by_cases hm0 : e2 = 0
      · subst hm0
        have HR1 : Hid (recoverD D = (D2, l.length, 0)) := hid HR0.out
        clear HR0
        go_enter Try.func26, Try.ntmps26
        go_wp2_with (first
          | (go_at_call 62; refine HRD.out.mono ?_; rintro e w2 ⟨rfl, rfl⟩)
          | (go_at_call 63
             (
               refine HTO.out.mono ?_
               rintro e w3 ⟨b3, ⟨hf, -⟩ | ⟨l2, A3, n3, c3, vs, hl2, rfl, hp3, hv3, hn40, hn1⟩⟩
               · exact absurd hf (by rw [HTD.out]; simp)
               obtain rfl : l = l2 := by (rw [HTD.out] at hl2; injection hl2)
               have HB3 := hid b3
               have HVL : Hid (l.length = n3) := hid (by rw [← hv3, List.length_map, hp3.len])
               have HSE := hid (by
                 have := home_any (HST.out.below b3) (Nat.le_trans HSZ.out b3.size) (by omega) A3 n3 c3 vs hp3 (by omega) (fun v hv => by
                   have h1 := (HMO.out v.p (by rw [← hv3]; exact List.mem_map_of_mem hv)).2.2
                   rw [← hp3.ol v hv]
                   exact h1)
                 rw [hv3, HRR.out] at this
                 exact this : Calls Try.prog 61 #[.pointer (some ⟨m, 0, none⟩), .slice A3 n3 c3] w3 (RunR w0 w3 m (D2, 0)))
               clear b3 hl2 hp3 hv3))
          | (go_at_call 61; refine HSE.out.mono ?_; rintro e w4 ⟨rfl, k1, k2⟩; have HK1 := hid k1; have HL2 := hid ((RLets.of_below HB3.out HSZ.out).trans k2); clear k1 k2))
        go_ret2
        unfold RecR
        rw [HR1.out]
        exact ⟨by rw [HVL.out]; rfl, HK1.out, HL2.out⟩
      · have HR1 : Hid (recoverD D = (D2, 0, e2)) := hid (by rw [HR0.out, if_neg hm0])
        have g1 : ((e2 : Int) != 0) = true := by rw [bne_iff_ne]; omega
        have g1n : (e2 != 0) = true := by rw [bne_iff_ne]; exact hm0
        clear HR0
        go_enter Try.func26, Try.ntmps26
        go_wp2_with (first
          | (go_at_call 62; refine HRD.out.mono ?_; rintro e w2 ⟨rfl, rfl⟩)
          | (go_at_call 63
             (
               refine HTO.out.mono ?_
               rintro e w3 ⟨b3, ⟨hf, -⟩ | ⟨l2, A3, n3, c3, vs, hl2, rfl, hp3, hv3, hn40, hn1⟩⟩
               · exact absurd hf (by rw [HTD.out]; simp)
               obtain rfl : l = l2 := by (rw [HTD.out] at hl2; injection hl2)
               have HB3 := hid b3
               have HSE := hid (by
                 have := home_any (HST.out.below b3) (Nat.le_trans HSZ.out b3.size) (by omega) A3 n3 c3 vs hp3 (by omega) (fun v hv => by
                   have h1 := (HMO.out v.p (by rw [← hv3]; exact List.mem_map_of_mem hv)).2.2
                   rw [← hp3.ol v hv]
                   exact h1)
                 rw [hv3, HRR.out] at this
                 exact this : Calls Try.prog 61 #[.pointer (some ⟨m, 0, none⟩), .slice A3 n3 c3] w3 (RunR w0 w3 m (D2, e2)))
               clear b3 hl2 hp3 hv3))
          | (go_at_call 61; refine HSE.out.mono ?_; rintro e w4 ⟨rfl, k1, k2⟩; have HK1 := hid k1; have HL2 := hid ((RLets.of_below HB3.out HSZ.out).trans k2); clear k1 k2))
        go_ret2
        unfold RecR
        rw [HR1.out]
        exact ⟨rfl, HK1.out, HL2.out⟩
    | none =>
      rw [htd] at hr0
      dsimp only at hr0
      have HTD := hid htd
      have HR0 := hid hr0
      have HNO := hid (fun X : World => (show Calls Try.prog 60 #[] X (fun e w' => e = .returned (.string (str zer)) ∧ Below X.heap.size X w') from noughts_any X))
      have HFO := hid (fun (X : World) (hr : RSt w0 X m D) (hz : w0.heap.size ≤ X.heap.size) => rformat_any hr hz (by omega))
      clear h h41 hoff hr0 htd hl128 hhd
      by_cases hz : hd = zer
      · have HR1 : Hid (recoverD D = (D, 0, 0)) := hid (by rw [HR0.out, if_pos hz])
        have h1 := str_ne hz
        have h2 : (hd == zer) = true := by rw [beq_iff_eq]; exact hz
        clear HR0 hz
        go_enter Try.func26, Try.ntmps26
        go_wp2_with (first
          | (go_at_call 62; refine HRD.out.mono ?_; rintro e w2 ⟨rfl, rfl⟩)
          | (go_at_call 63
             (
               refine HTO.out.mono ?_
               rintro e w3 ⟨b3, ⟨-, rfl⟩ | ⟨l2, A3, n3, c3, vs, hl2, -⟩⟩
               rotate_left
               · exact absurd hl2 (by rw [HTD.out]; simp)
               have HB3 := hid b3
               clear b3))
          | (go_at_call 60; refine (HNO.out _).mono ?_; rintro e w4 ⟨rfl, b4⟩; have HB4 := hid (past HB3.out b4); have HK4 := hid (HST.out.below HB4.out); have HL4 := hid (RLets.of_below HB4.out HSZ.out); clear b4))
        go_ret2
        unfold RecR
        rw [HR1.out]
        exact ⟨rfl, HK4.out, HL4.out⟩
      · have HR1 : Hid (recoverD D = ((runD formatS D).1, 0, (runD formatS D).2)) := hid (by rw [HR0.out, if_neg hz])
        have h1 : (str hd != str zer) = true := by rw [bne, str_eqv, decide_eq_false hz]; rfl
        have h2 : (hd == zer) = false := by rw [beq_eq_false_iff_ne]; exact hz
        clear HR0 hz
        go_enter Try.func26, Try.ntmps26
        go_wp2_with (first
          | (go_at_call 62; refine HRD.out.mono ?_; rintro e w2 ⟨rfl, rfl⟩)
          | (go_at_call 63
             (
               refine HTO.out.mono ?_
               rintro e w3 ⟨b3, ⟨-, rfl⟩ | ⟨l2, A3, n3, c3, vs, hl2, -⟩⟩
               rotate_left
               · exact absurd hl2 (by rw [HTD.out]; simp)
               have HB3 := hid b3
               clear b3))
          | (go_at_call 60; refine (HNO.out _).mono ?_; rintro e w4 ⟨rfl, b4⟩; have HB4 := hid (past HB3.out b4); have HK4 := hid (HST.out.below HB4.out); have HL4 := hid (RLets.of_below HB4.out HSZ.out); clear b4)
          | (go_at_call 29; refine (HFO.out _ HK4.out (Nat.le_trans HSZ.out HL4.out.sz)).mono ?_; rintro e w5 ⟨rfl, k1, k2⟩; have HK5 := hid k1; have HL5 := hid (HL4.out.trans k2); clear k1 k2))
        go_ret2
        unfold RecR
        rw [HR1.out]
        exact ⟨rfl, HK5.out, HL5.out⟩
end Go.Proofs.Ytpppmijohfjigaa
