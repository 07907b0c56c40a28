/-
  journal.Recover. A part of the proof: see the head of the text that ends in 'Law'.
-/
import Derived.Test.YtpppmijohfjigaaJn10
namespace Go.Proofs.Ytpppmijohfjigaa
open Go.RowKit
set_option linter.unusedVariables false
set_option maxRecDepth 100000
attribute [local go_sem] Oper.semAt_some

def recoverD (D : Dsk) : Dsk × Nat × Nat :=
  if D.has.length ≤ 41 then (D, 0, 1)
  else if D.off = true then (D, 0, 10)
  else match toldD D with
    | some l => ((runD (settleS l) D).1, (if (runD (settleS l) D).2 = 0 then l.length else 0), (runD (settleS l) D).2)
    | none => if readD D 0 = zer then (D, 0, 0) else ((runD formatS D).1, 0, (runD formatS D).2)
def RecP (w0 W : World) (d hb : Nat) (r : Dsk × Nat × Nat) (e : Ending) (w' : World) : Prop := e = .returned (.tuple #[.int .i64 (r.2.1 : Int), .int .i64 (r.2.2 : Int)]) ∧ St w0 w' d hb r.1 ∧ Lets d hb W w'
theorem read_off_st {w0 W : World} {d hb : Nat} {D : Dsk} (h : St w0 W d hb D) (i : Nat) (hi : i < D.has.length) (hoff : D.off = true) :
    Calls Try.prog 14 #[.pointer (some ⟨d, 0, none⟩), .int .i64 (i : Int)] W fun e w' => e = .returned (.tuple #[.slice none 0 0, .int .i64 10]) ∧ Below W.heap.size W w' := by
  obtain ⟨V, hV⟩ := h.at_
  exact read_off hV (i : Int) ⟨by omega, by omega⟩ hoff
theorem toldD_may {D : Dsk} {l : List Iss} (h : toldD D = some l) : mayJ l (D.has.length : Int) = true ∧ headL l = readD D 0 := by
  unfold toldD at h
  split at h
  · cases h
  · split at h
    · rename_i hc
      injection h with h
      rw [← h]
      exact hc
    · cases h
set_option maxHeartbeats 16000000 in
theorem recover_any {w0 W : World} {d hb : Nat} {D : Dsk} (h : St w0 W d hb D) (hw : D.waits.length ≤ 80000) :
    Calls Try.prog 18 #[.pointer (some ⟨d, 0, none⟩)] W (RecP w0 W d hb (recoverD D)) := by
  have HSM := hid (small_any h)
  have HST := hid h
  by_cases h41 : D.has.length ≤ 41
  · have HF : Hid (recoverD D = (D, 0, 1)) := hid (by unfold recoverD; rw [if_pos h41])
    rw [decide_eq_true h41] at HSM
    clear h h41
    go_enter Try.func18, Try.ntmps18
    go_wp2_with (go_at_call 45; refine HSM.out.mono ?_; rintro e w1 ⟨rfl, rfl⟩)
    go_ret2
    unfold RecP
    rw [HF.out]
    exact ⟨rfl, HST.out, Lets.refl _ _ _⟩
  · rw [decide_eq_false h41] at HSM
    cases hoff : D.off with
    | true =>
      have HF : Hid (recoverD D = (D, 0, 10)) := hid (by unfold recoverD; rw [if_neg h41, if_pos hoff])
      have HRO := hid (read_off_st h 0 (by omega) hoff)
      clear h h41 hoff
      go_enter Try.func18, Try.ntmps18
      go_wp2_with (first
        | (go_at_call 45; refine HSM.out.mono ?_; rintro e w1 ⟨rfl, rfl⟩)
        | (go_at_call 14; refine HRO.out.mono ?_; rintro e w2 ⟨rfl, b2⟩; have HB2 := hid b2; clear b2))
      go_ret2
      unfold RecP
      rw [HF.out]
      exact ⟨rfl, HST.out.below HB2.out, Lets.of_below HB2.out⟩
    | false =>
      have hr0 : recoverD D = match toldD D with
          | some l => ((runD (settleS l) D).1, (if (runD (settleS l) D).2 = 0 then l.length else 0), (runD (settleS l) D).2)
          | none => if readD D 0 = zer then (D, 0, 0) else ((runD formatS D).1, 0, (runD formatS D).2) := by
        unfold recoverD
        rw [if_neg h41, if_neg (by rw [hoff]; decide)]
      have HRD := hid (show Calls Try.prog 14 #[.pointer (some ⟨d, 0, none⟩), .int .i64 0] W _ from read_st h 0 (by omega) hoff (by omega))
      have hlen := readD_len h 0 (by omega)
      have HLE := hid hlen
      have HTO := hid (fun (X : World) (hS : St w0 X d hb D) (g0 : Nat) (hg : OwnE X g0 99 ((readD D 0).map B8)) => told_any hS g0 hg hlen (by omega) hoff (by omega))
      have hd := h.dl
      have hh := h.hbl
      have HMM := hid (fun l (h : toldD D = some l) => toldD_may h)
      cases htd : toldD D with
      | some l =>
        rw [htd] at hr0
        have HTD := hid htd
        obtain ⟨r, hr⟩ : ∃ r, runD (settleS l) D = r := ⟨_, rfl⟩
        dsimp only at hr0
        rw [hr] at hr0
        have HR0 := hid hr0
        have HRR := hid hr
        have hm := mayJ_true (HMM.out l htd).1
        have HMO := hid hm.one
        clear h h41 hoff hr0 hlen htd hr hm
        obtain ⟨D2, m⟩ := r
        dsimp only at HR0
        go_enter Try.func18, Try.ntmps18
        by_cases hm0 : m = 0
        · subst hm0
          have HR1 : Hid (recoverD D = (D2, l.length, 0)) := hid HR0.out
          clear HR0
          go_wp2_with (first
            | (go_at_call 45; refine HSM.out.mono ?_; rintro e w1 ⟨rfl, rfl⟩)
            | (go_at_call 14; refine HRD.out.mono ?_; rintro e w2 ⟨g2, rfl, o2, hn2, s2, b2⟩; have HB2 := hid b2; have HO2 := hid o2; have HS2 := hid s2; clear b2 o2 hn2 s2)
            | (go_at_call 55
               (
                 refine (HTO.out _ HS2.out g2 HO2.out).mono ?_
                 rintro e w3 ⟨b3, ⟨hf, -⟩ | ⟨l2, A3, n3, c3, vs, hl2, rfl, hp3, hv3, hn40, hn1⟩⟩
                 · exact absurd hf (by rw [HTD.out]; simp)
                 obtain rfl : l = l2 := by (rw [HTD.out] at hl2; injection hl2)
                 have HB3 := hid (past HB2.out b3)
                 have HVL : Hid (l.length = n3) := hid (by rw [← hv3, List.length_map, hp3.put.len])
                 have HSE := hid (by
                   have := settle_any d hb A3 n3 c3 vs w3 hp3 (by omega) (fun v hv => by
                     have h1 := (HMO.out v.p (by rw [← hv3]; exact List.mem_map_of_mem hv)).2.2
                     rw [← (hp3.put.oct v hv).len]
                     exact h1) (by have := HB3.out.size; omega) (by have := HB3.out.size; omega)
                   rw [hv3] at this
                   exact this : Calls Try.prog 49 #[.pointer (some ⟨d, 0, none⟩), .slice A3 n3 c3] w3 fun e w' => ∃ A' c' us, e = .returned (.slice A' (n3 + 3) c') ∧ w'.ownsRow w3.heap.size 54 1 (.slice A' (n3 + 3) c') (n3 + 3) us ∧ StepsV d hb w' us (settleS l) ∧ Below w3.heap.size w3 w')
                 clear b3 hl2 hp3 hv3))
            | (go_at_call 49; refine HSE.out.mono ?_; rintro e w4 ⟨A4, c4, us4, rfl, o4, s4, b4⟩; have HB4 := hid (past HB3.out b4); have HALL := hid (all_run (HST.out.below HB4.out) A4 (n3 + 3) c4 _ us4 (settleS l) o4 s4 (by omega)); clear o4 s4 b4)
            | (go_at_call 48; refine HALL.out.mono ?_; (rw [HRR.out]); rintro e w5 ⟨rfl, k1, k2⟩; have HK1 := hid k1; have HK2 := hid k2; clear k1 k2))
          go_ret2
          unfold RecP
          rw [HR1.out]
          exact ⟨by rw [HVL.out]; rfl, HK1.out, (Lets.of_below HB4.out).trans HK2.out⟩
        · have HR1 : Hid (recoverD D = (D2, 0, m)) := hid (by rw [HR0.out, if_neg hm0])
          have g1 : ((m : Int) != 0) = true := by rw [bne_iff_ne]; omega
          have g1n : (m != 0) = true := by rw [bne_iff_ne]; exact hm0
          clear HR0
          go_wp2_with (first
            | (go_at_call 45; refine HSM.out.mono ?_; rintro e w1 ⟨rfl, rfl⟩)
            | (go_at_call 14; refine HRD.out.mono ?_; rintro e w2 ⟨g2, rfl, o2, hn2, s2, b2⟩; have HB2 := hid b2; have HO2 := hid o2; have HS2 := hid s2; clear b2 o2 hn2 s2)
            | (go_at_call 55
               (
                 refine (HTO.out _ HS2.out g2 HO2.out).mono ?_
                 rintro e w3 ⟨b3, ⟨hf, -⟩ | ⟨l2, A3, n3, c3, vs, hl2, rfl, hp3, hv3, hn40, hn1⟩⟩
                 · exact absurd hf (by rw [HTD.out]; simp)
                 obtain rfl : l = l2 := by (rw [HTD.out] at hl2; injection hl2)
                 have HB3 := hid (past HB2.out b3)
                 have HVL : Hid (l.length = n3) := hid (by rw [← hv3, List.length_map, hp3.put.len])
                 have HSE := hid (by
                   have := settle_any d hb A3 n3 c3 vs w3 hp3 (by omega) (fun v hv => by
                     have h1 := (HMO.out v.p (by rw [← hv3]; exact List.mem_map_of_mem hv)).2.2
                     rw [← (hp3.put.oct v hv).len]
                     exact h1) (by have := HB3.out.size; omega) (by have := HB3.out.size; omega)
                   rw [hv3] at this
                   exact this : Calls Try.prog 49 #[.pointer (some ⟨d, 0, none⟩), .slice A3 n3 c3] w3 fun e w' => ∃ A' c' us, e = .returned (.slice A' (n3 + 3) c') ∧ w'.ownsRow w3.heap.size 54 1 (.slice A' (n3 + 3) c') (n3 + 3) us ∧ StepsV d hb w' us (settleS l) ∧ Below w3.heap.size w3 w')
                 clear b3 hl2 hp3 hv3))
            | (go_at_call 49; refine HSE.out.mono ?_; rintro e w4 ⟨A4, c4, us4, rfl, o4, s4, b4⟩; have HB4 := hid (past HB3.out b4); have HALL := hid (all_run (HST.out.below HB4.out) A4 (n3 + 3) c4 _ us4 (settleS l) o4 s4 (by omega)); clear o4 s4 b4)
            | (go_at_call 48; refine HALL.out.mono ?_; (rw [HRR.out]); rintro e w5 ⟨rfl, k1, k2⟩; have HK1 := hid k1; have HK2 := hid k2; clear k1 k2))
          go_ret2
          unfold RecP
          rw [HR1.out]
          exact ⟨rfl, HK1.out, (Lets.of_below HB4.out).trans HK2.out⟩
      | none =>
        rw [htd] at hr0
        dsimp only at hr0
        have HTD := hid htd
        have HR0 := hid hr0
        have HFO := hid (fun (X : World) (hS : St w0 X d hb D) => format_any hS (by omega))
        have HFD : Hid (formatD D = runD formatS D) := hid (by unfold formatD; rw [if_neg h41])
        obtain ⟨hdv, hhdv⟩ : ∃ hdv, readD D 0 = hdv := ⟨_, rfl⟩
        rw [hhdv] at HR0 HRD HTO HLE
        clear h h41 hoff hr0 hlen htd hhdv
        by_cases hz : hdv = zer
        · have HR1 : Hid (recoverD D = (D, 0, 0)) := hid (by rw [HR0.out, if_pos hz])
          have hbe : (hdv == zer) = true := by rw [beq_iff_eq]; exact hz
          clear HR0 hz
          go_enter Try.func18, Try.ntmps18
          go_wp2_with (first
            | (go_at_call 45; refine HSM.out.mono ?_; rintro e w1 ⟨rfl, rfl⟩)
            | (go_at_call 14; refine HRD.out.mono ?_; rintro e w2 ⟨g2, rfl, o2, hn2, s2, b2⟩; have HB2 := hid b2; have HO2 := hid o2; have HS2 := hid s2; clear b2 o2 hn2 s2)
            | (go_at_call 55
               (
                 refine (HTO.out _ HS2.out g2 HO2.out).mono ?_
                 rintro e w3 ⟨b3, ⟨-, x, rfl⟩ | ⟨l2, A3, n3, c3, vs, hl2, -⟩⟩
                 rotate_left
                 · exact absurd hl2 (by rw [HTD.out]; simp)
                 have HB3 := hid (past HB2.out b3)
                 have HO3 := hid (HO2.out.below b3)
                 clear b3))
            | (go_at_call 57; refine (empty_any _).mono ?_; rintro e w4 ⟨g4, rfl, o4, -, b4⟩; have HB4 := hid (past HB3.out b4); have HEQ := hid (Try.bytes_Equal_strs (.slice (some ⟨g2, 0, none⟩) 128 128) (.slice (some ⟨g4, 0, none⟩) 128 128) (str hdv) (str zer) w4 (strP 128 ⟨HLE.out, (HO3.out.below b4).row⟩) (strP 128 ⟨zer_len, o4.row⟩)); clear o4 b4)
            | (go_at_call 56; refine HEQ.out.mono ?_; (simp only [str_list, hbe]); rintro e w5 ⟨rfl, rfl⟩))
          go_ret2
          unfold RecP
          rw [HR1.out]
          exact ⟨rfl, HST.out.below HB4.out, Lets.of_below HB4.out⟩
        · have HR1 : Hid (recoverD D = ((runD formatS D).1, 0, (runD formatS D).2)) := hid (by rw [HR0.out, if_neg hz])
          have hbe : (hdv == zer) = false := by rw [beq_eq_false_iff_ne]; exact hz
          clear HR0 hz
          go_enter Try.func18, Try.ntmps18
          go_wp2_with (first
            | (go_at_call 45; refine HSM.out.mono ?_; rintro e w1 ⟨rfl, rfl⟩)
            | (go_at_call 14; refine HRD.out.mono ?_; rintro e w2 ⟨g2, rfl, o2, hn2, s2, b2⟩; have HB2 := hid b2; have HO2 := hid o2; have HS2 := hid s2; clear b2 o2 hn2 s2)
            | (go_at_call 55
               (
                 refine (HTO.out _ HS2.out g2 HO2.out).mono ?_
                 rintro e w3 ⟨b3, ⟨-, x, rfl⟩ | ⟨l2, A3, n3, c3, vs, hl2, -⟩⟩
                 rotate_left
                 · exact absurd hl2 (by rw [HTD.out]; simp)
                 have HB3 := hid (past HB2.out b3)
                 have HO3 := hid (HO2.out.below b3)
                 clear b3))
            | (go_at_call 57; refine (empty_any _).mono ?_; rintro e w4 ⟨g4, rfl, o4, -, b4⟩; have HB4 := hid (past HB3.out b4); have HEQ := hid (Try.bytes_Equal_strs (.slice (some ⟨g2, 0, none⟩) 128 128) (.slice (some ⟨g4, 0, none⟩) 128 128) (str hdv) (str zer) w4 (strP 128 ⟨HLE.out, (HO3.out.below b4).row⟩) (strP 128 ⟨zer_len, o4.row⟩)); clear o4 b4)
            | (go_at_call 56; refine HEQ.out.mono ?_; (simp only [str_list, hbe]); rintro e w5 ⟨rfl, rfl⟩)
            | (go_at_call 30; refine (HFO.out _ (HST.out.below HB4.out)).mono ?_; (rw [HFD.out]); rintro e w6 ⟨rfl, k1, k2⟩; have HK1 := hid k1; have HK2 := hid k2; clear k1 k2))
          go_ret2
          unfold RecP
          rw [HR1.out]
          exact ⟨rfl, HK1.out, (Lets.of_below HB4.out).trans HK2.out⟩
end Go.Proofs.Ytpppmijohfjigaa
