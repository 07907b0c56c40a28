/-
  journal.Format, Commit. A part of the proof: see the head of the text that ends in 'Law'.
-/
import Derived.Test.YtpppmijohfjigaaJn8
namespace Go.Proofs.Ytpppmijohfjigaa
open Go.RowKit
set_option linter.unusedVariables false
set_option maxRecDepth 100000
attribute [local go_sem] Oper.semAt_some

theorem own_new (w : World) (base : Nat) (e : TypeId) (size n : Nat) (xs : List Value) (hb : base ≤ w.heap.size) (hl : xs.length = n * size) (hn : n ≤ maxLen) :
    (w.alloc (.cells xs.toArray e)).ownsRow base e size (.slice (some ⟨w.heap.size, 0, none⟩) n n) n xs :=
  ⟨hl, .inr ⟨w.heap.size, n, xs.toArray, rfl, hb, heap_alloc_new w _, Nat.le_refl _, hn, by simpa using hl, by
    rw [← hl]
    simp⟩⟩
theorem St.dl {w0 W : World} {d hb : Nat} {D : Dsk} (h : St w0 W d hb D) : d < W.heap.size := by
  obtain ⟨V, hV⟩ := h.at_
  exact hV.cells.lt
def formatS : List Stp := [.wr 0 zer, .fl]
def formatD (D : Dsk) : Dsk × Nat := if D.has.length ≤ 41 then (D, 1) else runD formatS D
theorem two_steps {d hb : Nat} {W : World} {b1 b2 b3 : Nat} (i : Int) (s : List UInt8) (h : StepV d hb W (wrF b1 b2 b3) (.wr i s)) : StepsV d hb W [wrF b1 b2 b3, flF d] [.wr i s, .fl] := by
  refine ⟨rfl, fun j h1 h2 => ?_⟩
  match j, h1, h2 with
  | 0, _, _ => exact h
  | 1, _, _ => exact (rfl : flF d = flF d)
  | j + 2, h1, _ => simp at h1; omega
theorem format_any {w0 W : World} {d hb : Nat} {D : Dsk} (h : St w0 W d hb D) (hw : D.waits.length ≤ 90000) :
    Calls Try.prog 30 #[.pointer (some ⟨d, 0, none⟩)] W (RunP w0 W d hb (formatD D)) := by
  have HSM := hid (small_any h)
  have HST := hid h
  by_cases h41 : D.has.length ≤ 41
  · have HF : Hid (formatD D = (D, 1)) := hid (by unfold formatD; rw [if_pos h41])
    rw [decide_eq_true h41] at HSM
    clear h h41
    go_enter Try.func30, Try.ntmps30
    go_wp2_with (go_at_call 45; refine HSM.out.mono ?_; rintro e w1 ⟨rfl, rfl⟩)
    go_ret
    unfold RunP
    rw [HF.out]
    exact ⟨rfl, HST.out, Lets.refl _ _ _⟩
  · have HF : Hid (formatD D = runD formatS D) := hid (by unfold formatD; rw [if_neg h41])
    rw [decide_eq_false h41] at HSM
    have hd := h.dl
    have hh := h.hbl
    clear h h41
    go_enter Try.func30, Try.ntmps30
    go_wp2_with (first
      | (go_at_call 45; refine HSM.out.mono ?_; rintro e w1 ⟨rfl, rfl⟩)
      | (go_at_call 57; refine (empty_any _).mono ?_; rintro e w2 ⟨g2, rfl, o2, hg2, b2⟩; have HB2 := hid b2; have HO2 := hid o2; have HG2 := hid hg2; clear b2 o2 hg2)
      | (go_at_call 47
         (
           refine (jwrite_any d 0 (some ⟨g2, 0, none⟩) 128 128 _).mono ?_
           rintro e w3 ⟨a1, a2, a3, rfl, o1, o2, o3, b3⟩
           have HB3 := hid (past HB2.out b3)
           have hx := (Below.refl w3.heap.size w3).alloc (Nat.le_refl _) (.cells #[wrF a1 a2 a3, flF d] 54)
           have HX := hid (past HB3.out hx)
           have hg1 := HG2.out
           have hgd : g2 ≠ d := by omega
           have hgh : g2 ≠ hb := by omega
           have hoz := zer_octD (HO2.out.below b3) hgd hgh
           have HSP := hid ((two_steps 0 zer (stepV_new (d := d) (hb := hb) (i := 0) (s := zer) zer_len o1 o2 o3 (Nat.le_refl _) hoz)).below hx)
           have HOW := hid (own_new w3 0 54 1 2 [wrF a1 a2 a3, flF d] (Nat.zero_le _) rfl (by unfold maxLen; omega))
           have HS3 := hid (HST.out.below HX.out)
           have HALL := hid (all_run HS3.out (some ⟨w3.heap.size, 0, none⟩) 2 2 0 [wrF a1 a2 a3, flF d] formatS HOW.out HSP.out (by omega))
           unfold wrF
           clear o1 o2 o3 b3 hoz hg1 hgd hgh hx))
      | (go_at_call 48; refine HALL.out.mono ?_; rintro e w4 ⟨rfl, k1, k2⟩; have HK1 := hid k1; have HK2 := hid k2; clear k1 k2))
    go_ret
    unfold RunP
    rw [HF.out]
    exact ⟨rfl, HK1.out, (Lets.of_below HX.out).trans HK2.out⟩
def putK (l : List Iss) (k : Nat) : List Stp := (List.range k).map fun (i : Nat) => .wr (1 + (i : Int)) (l.getD i (0, [])).2
theorem putK_succ (l : List Iss) (k : Nat) (h : k < l.length) : putK l (k + 1) = putK l k ++ [.wr (1 + (k : Int)) (l[k]).2] := by
  unfold putK
  rw [List.range_succ, List.map_append, List.map_cons, List.map_nil, List.getD_eq_getElem?_getD, List.getElem?_eq_getElem h]
  rfl
def putS (l : List Iss) : List Stp := putK l l.length
def commitS (l : List Iss) : List Stp := (putS l ++ [.fl, .wr 0 (headL l), .fl]) ++ settleS l
def commitD (D : Dsk) (l : List Iss) : Dsk × Nat := if D.has.length ≤ 41 ∨ mayJ l (D.has.length : Int) = false then (D, 1) else runD (commitS l) D
theorem okK_mono2 (l : List Iss) (s t : Int) (hst : s ≤ t) (k : Nat) (h : okK l s k = true) : okK l t k = true := by
  unfold okK at h ⊢
  rw [List.all_eq_true] at h ⊢
  intro i hi
  have h1 := h i hi
  unfold oneJ at h1 ⊢
  simp only [Bool.and_eq_true, Bool.not_eq_true', decide_eq_false_iff_not, decide_eq_true_eq] at h1 ⊢
  obtain ⟨⟨⟨a1, a2⟩, a3⟩, a4⟩ := h1
  exact ⟨⟨⟨a1, by omega⟩, a3⟩, a4⟩
theorem mayJ_2048 (l : List Iss) (s : Int) (hs : s ≤ 2048) (h : mayJ l s = true) : mayJ l 2048 = true := by
  unfold mayJ at h ⊢
  rw [Bool.and_eq_true] at h ⊢
  exact ⟨okK_mono2 l s 2048 hs _ h.1, h.2⟩
theorem steps_one {d hb : Nat} {W : World} {us : List Value} {ss : List Stp} (h : StepsV d hb W us ss) : ∀ u ∈ us, u.oneCell' = true := by
  intro u hu
  obtain ⟨j, hj, rfl⟩ := List.getElem_of_mem hu
  have hj2 : j < ss.length := by rw [← h.len]; exact hj
  have := h.one j hj hj2
  cases hs : ss[j] with
  | fl => rw [hs] at this; rw [show us[j] = flF d from this]; rfl
  | wr i s => rw [hs] at this; obtain ⟨-, b1, b2, b3, A, c, hv, -⟩ := this; rw [hv]; rfl
set_option maxHeartbeats 16000000 in
theorem commit_any {w0 W : World} {d hb : Nat} {D : Dsk} (h : St w0 W d hb D) (A : Option Addr) (n c : Nat) (vs : List PuV) (hp : PutsD d hb W A n vs) (hn : n ≤ 1000) (hw : D.waits.length ≤ 90000) :
    Calls Try.prog 13 #[.pointer (some ⟨d, 0, none⟩), .slice A n c] W (RunP w0 W d hb (commitD D (vs.map PuV.p))) := by
  have HSM := hid (small_any h)
  have HSZ := hid (size_st h)
  have HST := hid h
  have HMY := hid (may_any A n c vs (D.has.length : Int) W hp.put hn)
  have HPD := hid hp
  have HNB := hid h.len.2.2.1
  obtain ⟨l, hl⟩ : ∃ l, vs.map PuV.p = l := ⟨_, rfl⟩
  have HLV := hid hl
  rw [hl] at HMY ⊢
  obtain ⟨N, hN⟩ : ∃ N, D.has.length = N := ⟨_, rfl⟩
  by_cases h41 : D.has.length ≤ 41
  · have HF : Hid (commitD D l = (D, 1)) := hid (by unfold commitD; rw [if_pos (.inl h41)])
    rw [decide_eq_true h41] at HSM
    clear h h41 hp hl
    go_enter Try.func13, Try.ntmps13
    go_wp2_with (go_at_call 45; refine HSM.out.mono ?_; rintro e w1 ⟨rfl, rfl⟩)
    go_ret
    unfold RunP
    rw [HF.out]
    exact ⟨rfl, HST.out, Lets.refl _ _ _⟩
  · cases hmb : mayJ l (D.has.length : Int) with
    | false =>
      have HF : Hid (commitD D l = (D, 1)) := hid (by unfold commitD; rw [if_pos (.inr hmb)])
      rw [decide_eq_false h41] at HSM
      rw [hmb] at HMY
      rw [hN] at HMY HSZ
      clear h h41 hp hl hmb hN
      go_enter Try.func13, Try.ntmps13
      go_wp2_with (first
        | (go_at_call 45; refine HSM.out.mono ?_; rintro e w1 ⟨rfl, rfl⟩)
        | (go_at_call 46; refine HSZ.out.mono ?_; rintro e w1 ⟨rfl, rfl⟩)
        | (go_at_call 34; refine HMY.out.mono ?_; rintro e w2 ⟨rfl, b2⟩; have HB2 := hid b2; clear b2))
      go_ret
      unfold RunP
      rw [HF.out]
      exact ⟨rfl, HST.out.below HB2.out, Lets.of_below HB2.out⟩
    | true =>
      have HF : Hid (commitD D l = runD (commitS l) D) := hid (by unfold commitD; rw [if_neg]; rintro (h1 | h1); exact h41 h1; rw [hmb] at h1; cases h1)
      have hm := mayJ_true hmb
      have HM48 := hid (mayJ_2048 l _ (by have := HNB.out; omega) hmb)
      have HLL : Hid (l.length = n) := hid (by rw [← hl, List.length_map, hp.put.len])
      have hn40 : n ≤ 40 := by have := hm.l40; rw [HLL.out] at this; exact this
      have h128 : ∀ v ∈ vs, v.n = 128 := fun v hv => by
        have h1 := (hm.one v.p (by rw [← hl]; exact List.mem_map_of_mem hv)).2.2
        rw [← (hp.put.oct v hv).len]
        exact h1
      have H128 := hid h128
      have HLG : Hid (∀ (j : Nat) (h1 : j < l.length) (h2 : j < vs.length), l[j]'h1 = (vs[j]'h2).p) := hid (fun j h1 h2 => by subst hl; rw [List.getElem_map])
      have hd := h.dl
      have hh := h.hbl
      rw [decide_eq_false h41] at HSM
      rw [hmb] at HMY
      rw [hN] at HMY HSZ
      clear h h41 hp hl hmb hN hm h128
      have HN := hid HPD.out.put.len
      have HRW := hid HPD.out.put.row
      go_enter Try.func13, Try.ntmps13
      go_wp2_with (first
        | (go_at_call 45; refine HSM.out.mono ?_; rintro e w1 ⟨rfl, rfl⟩)
        | (go_at_call 46; refine HSZ.out.mono ?_; rintro e w1 ⟨rfl, rfl⟩)
        | (go_at_call 34; refine HMY.out.mono ?_; rintro e w2 ⟨rfl, b2⟩; have HB2 := hid b2; clear b2))
      have I0 : Hid (∃ us, w2.ownsRow W.heap.size 54 1 (.slice none 0 0) 0 us ∧ StepsV d hb w2 us (putK l 0) ∧ Below W.heap.size W w2) := hid ⟨[], World.ownsRow_nil _ _ _ _, StepsV.nil _ _ _, HB2.out⟩
      go_loopw [5, 21] (fun v5 v21 wr => ∃ (j : Nat) (A1 : Option Addr) (c1 : Nat), j ≤ n ∧ v5 = .slice A1 j c1 ∧ v21 = .int .i64 (j : Int) ∧ Hid (∃ us, wr.ownsRow W.heap.size 54 1 (.slice A1 j c1) j us ∧ StepsV d hb wr us (putK l j) ∧ Below W.heap.size W wr)) (fun v5 v21 wr => n - (intOf v21).toNat)
      case atStart => exact ⟨0, none, 0, Nat.zero_le _, rfl, rfl, I0⟩
      case round =>
        clear I0 HB2
        obtain ⟨j, A1, c1, hj, rfl, rfl, HI0⟩ := hrel
        rename World => wr
        obtain ⟨us, ho, hsv, hbw⟩ := HI0.out
        have HO := hid ho
        have HSV := hid hsv
        have HBW := hid hbw
        clear ho hsv hbw HI0
        by_cases hlt : j < n
        · have e1 := lt_t hlt
          have e1n := lt_nt hlt
          have j0 : (0 : Int) ≤ (j : Int) := by omega
          have j1 : (j : Int) < (n : Int) := by omega
          have j2 : (j : Int).toNat = j := by omega
          have hjv : j < vs.length := by rw [HN.out]; exact hlt
          have hjl : j < l.length := by rw [HLL.out]; exact hlt
          obtain ⟨b, off, rfl, hc⟩ := pu_at HRW.out hjv
          have x0 := cells_keep HBW.out (hc j hjv).1
          have x1 := cells_keep HBW.out (hc j hjv).2
          obtain ⟨v, hv⟩ : ∃ v, vs[j] = v := ⟨_, rfl⟩
          have hvm : v ∈ vs := hv ▸ List.getElem_mem hjv
          have HO8 := hid (HPD.out.oct v hvm)
          have hcp := HPD.out.put.cap v hvm
          have h128 := H128.out v hvm
          have hel := HLG.out j hjl hjv
          rw [hv] at x0 x1 hel
          have HST2 : Hid (putK l (j + 1) = putK l j ++ [.wr (1 + (j : Int)) v.l]) := hid (by
            rw [putK_succ l j hjl, hel]
            rfl)
          clear hc hv hvm hjv hel hjl
          obtain ⟨at_, B, k, dd, bs⟩ := v
          dsimp only at x0 x1 hcp h128
          subst h128
          have HB2 : Hid (Below wr.heap.size wr (wr.alloc (.cells #[.int .i64 at_, .slice B 128 dd] 47))) := hid ((Below.refl _ wr).alloc (Nat.le_refl _) _)
          have hbox : OwnE (wr.alloc (.cells #[.int .i64 at_, .slice B 128 dd] 47)) wr.heap.size 47 [.int .i64 at_, .slice B 128 dd] := OwnE.new_ wr _ _
          have y0 := hbox.cell (j := 0) rfl
          have y1 := hbox.cell (j := 1) rfl
          have jw : IntKind.i64.wrap (1 + (j : Int)) = 1 + (j : Int) := by rw [IntKind.wrap_i64]; omega
          clear hbox
          go_wp2_with (first
            | (go_at_call 47
               (
                 refine (jwrite_any d (1 + (j : Int)) B 128 dd _).mono ?_
                 rintro e w2 ⟨a1, a2, a3, rfl, o1, o2, o3, b2⟩
                 have HB3 := hid (past HB2.out b2)
                 have HX := hid ((Below.refl w2.heap.size w2).alloc (Nat.le_refl _) (.cells #[wrF a1 a2 a3] 54))
                 have HSP := hid (stepV_new (d := d) (hb := hb) (i := 1 + (j : Int)) (s := bs) HO8.out.1 o1 o2 o3 hcp (HO8.out.below (past HBW.out HB3.out)))
                 have HO3 := hid (own_below (own_below HO.out HB3.out) HX.out)
                 have HBX := hid (past (past HBW.out HB3.out) HX.out)
                 unfold wrF
                 clear o1 o2 o3 b2))
            | (refine wpList_append_row _ rfl (.tmp 26) (.tmp 33) funT rfl W.heap.size (.slice A1 j c1) j us rfl HO3.out (some ⟨w2.heap.size, 0, none⟩) 1 1 [wrF a1 a2 a3] rfl rfl (Row.of_block (heap_alloc_new w2 (Obj.cells #[wrF a1 a2 a3] 54))) (by simp [wrF_one]) (by simp only [maxLen]; omega) (by omega) HBX.out.size ?_
               intro A5 c5 w5 ho5 hg5 hh5
               have HFI : Hid (∃ us, w5.ownsRow W.heap.size 54 1 (.slice A5 (j + 1) c5) (j + 1) us ∧ StepsV d hb w5 us (putK l (j + 1)) ∧ Below W.heap.size W w5) := hid (by
                 have hk := KeepF.grown HO3.out hg5
                 refine ⟨_, ho5, ?_, HBX.out.grown hg5 HBX.out.size (own_base HO3.out)⟩
                 rw [HST2.out]
                 exact ((((HSV.out.below HB3.out).below HX.out).append (StepsV.single (HSP.out.below HX.out))).keepF hk))
               clear ho5 hg5 hh5))
          go_roundw
          case rel => exact ⟨j + 1, A5, c5, by omega, rfl, by go_num, HFI⟩
          case measure => simp [intOf]; omega
        · have e1 := lt_f hlt
          have e1n := lt_nf hlt
          have hjn : j = n := by omega
          have HHL : Hid (putK l j = putS l) := hid (by unfold putS; rw [HLL.out, hjn])
          have HHD := hid (fun (X : World) (hb' : Below W.heap.size W X) => (by have := head_any A n c vs X (HPD.out.put.below hb') hn; rw [HLV.out] at this; exact this : Calls Try.prog 8 #[.slice A n c] X (HdPost X l)))
          have HSE := hid (fun (X : World) (hb' : Below W.heap.size W X) => (by have := settle_any d hb A n c vs X (HPD.out.below hb') hn H128.out (by have := hb'.size; omega) (by have := hb'.size; omega); rw [HLV.out] at this; exact this : Calls Try.prog 49 #[.pointer (some ⟨d, 0, none⟩), .slice A n c] X fun e w' => ∃ A' c' us, e = .returned (.slice A' (n + 3) c') ∧ w'.ownsRow X.heap.size 54 1 (.slice A' (n + 3) c') (n + 3) us ∧ StepsV d hb w' us (settleS l) ∧ Below X.heap.size X w'))
          subst hjn
          clear hlt
          go_wp2_with (first
            | (go_at_call 8
               (
                 refine (HHD.out _ HBW.out).mono ?_
                 rintro e w2 ⟨b2, ⟨hf, -⟩ | ⟨-, g2, rfl, o2, hg2⟩⟩
                 · exact absurd hf (by rw [HM48.out]; decide)
                 have HB2 := hid b2
                 have HO2 := hid o2
                 have HG2 := hid hg2
                 clear b2 o2 hg2))
            | (go_at_call 47
               (
                 refine (jwrite_any d 0 (some ⟨g2, 0, none⟩) 128 128 _).mono ?_
                 rintro e w3 ⟨a1, a2, a3, rfl, o1, o2, o3, b3⟩
                 have HB3 := hid (past HB2.out b3)
                 have HX := hid ((Below.refl w3.heap.size w3).alloc (Nat.le_refl _) (.cells #[flF d, wrF a1 a2 a3, flF d] 54))
                 have hg1 := HG2.out
                 have hg3 := HBW.out.size
                 have hgd : g2 ≠ d := by omega
                 have hgh : g2 ≠ hb := by omega
                 have hlh := headL_len l (by rw [HLL.out]; exact hn40)
                 have hoz := OctD.of_own (d := d) (hb := hb) (HO2.out.below b3) hgd hgh ⟨by decide, by decide⟩
                 rw [hlh] at hoz
                 have HSP := hid (tail_steps 0 (headL l) (stepV_new (d := d) (hb := hb) (i := 0) (s := headL l) hlh o1 o2 o3 (Nat.le_refl _) hoz))
                 have HO3 := hid (own_below (own_below HO.out HB3.out) HX.out)
                 have HBX := hid (past (past HBW.out HB3.out) HX.out)
                 unfold wrF
                 clear o1 o2 o3 b3 hoz hg1 hg3 hgd hgh hlh))
            | (refine wpList_append_row _ rfl (.tmp 41) (.tmp 49) funT rfl W.heap.size (.slice A1 j c1) j us rfl HO3.out (some ⟨w3.heap.size, 0, none⟩) 3 3 [flF d, wrF a1 a2 a3, flF d] rfl rfl (Row.of_block (heap_alloc_new w3 (Obj.cells #[flF d, wrF a1 a2 a3, flF d] 54))) (by simp [wrF_one, flF_one]) (by simp only [maxLen]; omega) (by omega) HBX.out.size ?_
               intro A5 c5 w5 ho5 hg5 hh5
               have HFI : Hid (∃ us, w5.ownsRow W.heap.size 54 1 (.slice A5 (j + 3) c5) (j + 3) us ∧ StepsV d hb w5 us (putS l ++ [.fl, .wr 0 (headL l), .fl]) ∧ Below W.heap.size W w5) := hid (by
                 have hk := KeepF.grown HO3.out hg5
                 refine ⟨_, ho5, ?_, HBX.out.grown hg5 HBX.out.size (own_base HO3.out)⟩
                 rw [← HHL.out]
                 exact ((((HSV.out.below HB3.out).below HX.out).append (HSP.out.below HX.out)).keepF hk))
               obtain ⟨us5, ho6, hs6, hb6⟩ := HFI.out
               have HO6 := hid ho6
               have HS6 := hid hs6
               have HB6 := hid hb6
               clear ho5 hg5 hh5 HFI ho6 hs6 hb6)
            | (go_at_call 49; refine (HSE.out _ HB6.out).mono ?_; rintro e w7 ⟨A7, c7, us7, rfl, o7, s7, b7⟩; have HB7 := hid (past HB6.out b7); have HO7 := hid (own_below HO6.out b7); have HS7 := hid (HS6.out.below b7); have HR7 := hid o7; have HT7 := hid s7; clear b7 o7 s7)
            | (refine wpList_append_row _ rfl (.tmp 51) (.tmp 54) funT rfl W.heap.size (.slice A5 (j + 3) c5) (j + 3) us5 rfl HO7.out A7 (j + 3) c7 us7 rfl (by have := HR7.out.1; omega) (Row.of_own HR7.out) (steps_one HT7.out) (by simp only [maxLen]; omega) (by omega) HB7.out.size ?_
               intro A8 c8 w8 ho8 hg8 hh8
               have hk := KeepF.grown HO7.out hg8
               have HB8 := hid (HB7.out.grown hg8 HB7.out.size (own_base HO7.out))
               have HS8 : Hid (StepsV d hb w8 (us5 ++ us7) (commitS l)) := hid ((HS7.out.append HT7.out).keepF hk)
               have HALL := hid (all_run (HST.out.below HB8.out) A8 (j + 3 + (j + 3)) c8 W.heap.size (us5 ++ us7) (commitS l) ho8 HS8.out (by omega))
               clear ho8 hg8 hh8 hk)
            | (go_at_call 48; refine HALL.out.mono ?_; rintro e w9 ⟨rfl, k1, k2⟩; have HK1 := hid k1; have HK2 := hid k2; clear k1 k2))
          go_ret
          unfold RunP
          rw [HF.out]
          exact ⟨rfl, HK1.out, (Lets.of_below HB8.out).trans HK2.out⟩
end Go.Proofs.Ytpppmijohfjigaa
