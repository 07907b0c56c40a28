/-
  journal.Head walked. A part of the proof: see the head of the text that ends in 'Law'.
-/
import Derived.Test.YtpppmijohfjigaaJn4
namespace Go.Proofs.Ytpppmijohfjigaa
open Go.RowKit
set_option linter.unusedVariables false
set_option maxRecDepth 100000
attribute [local go_sem] Oper.semAt_some

theorem wpList_append_run {P : Program} {w w' : World} {ops : Array Oper} {rest : List Oper} {o : Oper} {a : Act} {Q : Exit → Act → World → Prop} (hgd : o.guard = none) (s x : Operand) {t : TypeId} {v xv v' : Value}
    (ho : o.op = .call { callee := .builtin .append, args := #[s, x], argTypes := #[t, t] }) (hs : a.eval s = v) (hx : a.eval x = xv) (hrun : (Builtin.append_ #[t, t] o.type #[v, xv]).run P w = .ok v' w')
    (h : wpList P ops Q rest (a.put o.dst v') w') : wpList P ops Q (o :: rest) a w := by
  refine wpList_plain hgd fun K hK' => ?_
  unfold Oper.wp execOp
  simp only [ho, resolve, invoke, builtin, Sem.run_bind, Sem.run_pure, Result.andThen_ok, List.map_toArray, List.map_cons, List.map_nil, hs, hx, hrun]
  exact hK' _ _ h
/-- A head, as it is handed back. -/
def HdPost (w : World) (l : List Iss) (e : Ending) (w' : World) : Prop :=
  Below w.heap.size w w' ∧ ((mayJ l 2048 = false ∧ e = .returned (.tuple #[.slice none 0 0, .int .i64 1])) ∨
    (mayJ l 2048 = true ∧ ∃ g, e = .returned (.tuple #[.slice (some ⟨g, 0, none⟩) 128 128, .int .i64 0]) ∧ OwnE w' g 5 ((headL l).map B8) ∧ w.heap.size ≤ g))
set_option maxHeartbeats 8000000 in
theorem head_any (A : Option Addr) (n c : Nat) (vs : List PuV) (w : World) (h : PutsIn w A n vs) (hs : n ≤ 1000) :
    Calls Try.prog 8 #[.slice A n c] w (HdPost w (vs.map PuV.p)) := by
  have HMY := hid (may_any A n c vs 2048 w h hs)
  obtain ⟨l, hl⟩ : ∃ l, vs.map PuV.p = l := ⟨_, rfl⟩
  rw [hl] at HMY
  rw [hl]
  have HN := hid h.len
  have HRW := hid h.row
  have HOC := hid h.oct
  have HLL : Hid (l.length = n) := hid (by rw [← hl, List.length_map, h.len])
  have HLG : Hid (∀ (j : Nat) (h1 : j < l.length) (h2 : j < vs.length), l[j]'h1 = (vs[j]'h2).p) := hid (fun j h1 h2 => by subst hl; rw [List.getElem_map])
  clear h hl
  cases hmb : mayJ l 2048 with
  | false =>
    rw [hmb] at HMY
    have HMB := hid hmb
    clear hmb
    go_enter Try.func8, Try.ntmps8
    go_wp2_with (go_at_call 34; refine HMY.out.mono ?_; rintro e w1 ⟨rfl, b1⟩; have HB1 := hid b1; clear b1)
    go_ret2
    exact ⟨HB1.out, .inl ⟨HMB.out, rfl⟩⟩
  | true =>
    have hm := mayJ_true hmb
    have hn40 : n ≤ 40 := by have := hm.l40; rw [HLL.out] at this; exact this
    have hn1 : 1 ≤ n := by have := hm.l1; rw [HLL.out] at this; exact this
    have HM := hid hm
    rw [hmb] at HMY
    have HMB := hid hmb
    clear hmb hm hs
    have HS4 := hid (fun s : Nat => sumL_lt)
    have I0 : Hid (sumJ (l.take 0) = 0) := hid (by rw [List.take_zero]; decide)
    have HP1 := hid (fun W : World => (show Calls Try.prog 37 #[.int .u64 1785491060, .int .i64 4] W _ from jput_any 1785491060 4 W (by omega) (by omega) (by omega) (by decide)))
    have HP2 := hid (fun W : World => (show Calls Try.prog 37 #[.int .u64 (n : Int), .int .i64 2] W _ from jput_any n 2 W (by omega) (by omega) (by omega) (Nat.div_eq_of_lt (by omega))))
    have HP3 := hid (fun (W : World) (s : Nat) (hs : s < 4294967296) => (show Calls Try.prog 37 #[.int .u64 (s : Int), .int .i64 4] W _ from jput_any s 4 W (by omega) (by omega) (by omega) (Nat.div_eq_of_lt (by omega))))
    have HP4 := hid (fun (W : World) (a : Nat) (hs : a < 2048) => (show Calls Try.prog 37 #[.int .u64 (a : Int), .int .i64 2] W _ from jput_any a 2 W (by omega) (by omega) (by omega) (Nat.div_eq_of_lt (by omega))))
    go_enter Try.func8, Try.ntmps8
    go_wp2_with (go_at_call 34; refine HMY.out.mono ?_; rintro e w1 ⟨rfl, b1⟩; have HB1 := hid b1; clear b1)
    go_loopw [4, 15] (fun v4 v15 wr => ∃ (j s : Nat), j ≤ n ∧ s < 4294967296 ∧ v4 = .int .u32 (s : Int) ∧ v15 = .int .i64 (j : Int) ∧ Hid (s = sumJ (l.take j) ∧ Below w.heap.size w wr)) (fun v4 v15 wr => n - (intOf v15).toNat)
    case atStart => exact ⟨0, 0, Nat.zero_le _, by omega, rfl, rfl, hid ⟨I0.out.symm, HB1.out⟩⟩
    case round =>
      clear I0 HB1
      obtain ⟨j, s, hj, hs32, rfl, rfl, HI⟩ := hrel
      rename World => wr
      by_cases hlt : j < n
      · have e1 := lt_t hlt
        have e1n := lt_nt hlt
        have j0 : (0 : Int) ≤ (j : Int) := by omega
        have j1 : (j : Int) < (n : Int) := by omega
        have j2 : (j : Int).toNat = j := by omega
        have hjv : j < vs.length := by rw [HN.out]; exact hlt
        have hjl : j < l.length := by rw [HLL.out]; exact hlt
        obtain ⟨b, off, rfl, hc⟩ := pu_at HRW.out hjv
        have x0 := cells_keep HI.out.2 (hc j hjv).1
        have x1 := cells_keep HI.out.2 (hc j hjv).2
        obtain ⟨v, hv⟩ : ∃ v, vs[j] = v := ⟨_, rfl⟩
        have hvm : v ∈ vs := hv ▸ List.getElem_mem hjv
        have HO := hid (HOC.out v hvm)
        have hel := HLG.out j hjl hjv
        rw [hv] at x0 x1 hel
        have HST : Hid (4294967295 - goL (4294967295 - s) v.l = sumJ (l.take (j + 1))) := hid (by
          rw [HI.out.1, ← sumJ_succ l j hjl, hel]
          rfl)
        have hln : v.n = 128 := by
          have := (HM.out.one _ (List.getElem_mem hjl)).2.2
          rw [hel] at this
          rw [← HO.out.len]
          exact this
        clear hc hv hvm hjv hel hjl
        obtain ⟨at_, B, k, d, bs⟩ := v
        dsimp only at x0 x1 hln
        have HB2 : Hid (Below wr.heap.size wr (wr.alloc (.cells #[.int .i64 at_, .slice B k d] 47))) := hid ((Below.refl _ wr).alloc (Nat.le_refl _) _)
        have hbox : OwnE (wr.alloc (.cells #[.int .i64 at_, .slice B k d] 47)) wr.heap.size 47 [.int .i64 at_, .slice B k d] := OwnE.new_ wr _ _
        have y0 := hbox.cell (j := 0) rfl
        have y1 := hbox.cell (j := 1) rfl
        have HMO := hid (fun W (hb : Below wr.heap.size wr W) => more_any s B k d bs W hs32 ((HO.out.below HI.out.2).below hb) (by omega))
        obtain ⟨s2, hs2⟩ : ∃ s2, 4294967295 - goL (4294967295 - s) bs = s2 := ⟨_, rfl⟩
        rw [hs2] at HMO
        have HS2 : Hid (s2 = sumJ (l.take (j + 1))) := hid (by rw [← hs2]; exact HST.out)
        have hs2l : s2 < 4294967296 := by rw [HS2.out]; exact sumL_lt _
        clear hbox hs2 HST hln
        go_wp2_with (go_at_call 35; refine (HMO.out _ HB2.out).mono ?_; rintro e w2 ⟨rfl, b2⟩; have HB3 := hid (past (past HI.out.2 HB2.out) b2); clear b2)
        go_roundw
        case rel => exact ⟨j + 1, s2, by omega, hs2l, rfl, by go_num, hid ⟨HS2.out, HB3.out⟩⟩
        case measure => simp [intOf]; omega
      · have e1 := lt_f hlt
        have e1n := lt_nf hlt
        have hjn : j = n := by omega
        have HSJ : Hid (s = sumJ l) := hid (by rw [HI.out.1, List.take_of_length_le (by rw [HLL.out]; omega)])
        have HBW := hid HI.out.2
        clear HI hlt
        subst hjn
        have hpre : preJ l = putL 1785491060 4 ++ putL j 2 ++ putL s 4 := by unfold preJ; rw [HLL.out, HSJ.out]
        have HPRE := hid hpre
        clear hpre
        go_wp2_with (first
          | (go_at_call 37; (with_reducible refine (HP1.out _).mono ?_); rintro e w2 ⟨A2, c2, rfl, o2, b2⟩; have HB2 := hid (past HBW.out b2); have HO2 := hid o2; clear b2 o2)
          | (go_at_call 37; (with_reducible refine (HP2.out _).mono ?_); rintro e w3 ⟨A3, c3, rfl, o3, b3⟩; have HB3 := hid (past HB2.out b3); have HO3 := hid o3; have HO23 := hid (HO2.out.below b3); clear b3 o3)
          | (go_at_call 37; (with_reducible refine (HP3.out _ s hs32).mono ?_); rintro e w4 ⟨A4, c4, rfl, o4, b4⟩; have HB4 := hid (past HB3.out b4)
             have hal := (Below.refl w4.heap.size w4).alloc (Nat.le_refl _) (.cells #[.slice A2 4 c2, .slice A3 2 c3, .slice A4 4 c4] 24)
             have hbx : OwnE (w4.alloc (.cells #[.slice A2 4 c2, .slice A3 2 c3, .slice A4 4 c4] 24)) w4.heap.size 24 [.slice A2 4 c2, .slice A3 2 c3, .slice A4 4 c4] := OwnE.new_ w4 _ _
             have HB5 := hid (past HB4.out hal)
             have HJN := hid (Try.bytes_Join_many w4.heap.size 0 3 3 [.slice A2 4 c2, .slice A3 2 c3, .slice A4 4 c4] [putL 1785491060 4, putL j 2, putL s 4] (.slice none 0 0) [] (w4.alloc (.cells #[.slice A2 4 c2, .slice A3 2 c3, .slice A4 4 c4] 24)) rfl (by omega) ⟨rfl, fun i v hv => by rw [Addr.add_mid, Nat.zero_add]; exact hbx.cell hv, fun i v x hv hx => by
               match i, hv, hx with
               | 0, hv, hx =>
                 injection hv with hv
                 injection hx with hx
                 subst hv hx
                 exact holds_of_oct (((HO23.out.below b4)).below hal)
               | 1, hv, hx =>
                 injection hv with hv
                 injection hx with hx
                 subst hv hx
                 exact holds_of_oct ((HO3.out.below b4).below hal)
               | 2, hv, hx =>
                 injection hv with hv
                 injection hx with hx
                 subst hv hx
                 exact holds_of_oct (o4.below hal)
               | i + 3, hv, hx => simp at hv⟩ (by omega) ⟨none, 0, rfl, fun _ => rfl, fun a ha => by cases ha⟩ (by omega) (by simp [Lib.lens, putL_length]))
             clear b4 o4 hal hbx)
          | (go_at_call 36; refine HJN.out.mono ?_; rintro e w6 ⟨v6, rfl, f6, b6⟩; obtain ⟨g6, cap6, rfl, fr6⟩ := FrB.of_fresh f6; have HF6 := hid (FrB.mk (Nat.le_trans HB5.out.size fr6.b0) fr6.lc fr6.cm fr6.cell fr6.room : FrB w.heap.size w6 g6 cap6 _); have HB6 := hid (past HB5.out b6); clear f6 b6 fr6))
        have K0 : Hid (FrB w.heap.size w6 g6 cap6 (preJ l ++ atsJ (l.take 0)) ∧ Below w.heap.size w w6) := hid ⟨by
          have e : preJ l ++ atsJ (l.take 0) = Lib.join [putL 1785491060 4, putL j 2, putL s 4] [] := by rw [join3, HPRE.out, List.take_zero]; simp [atsJ]
          rw [e]
          exact HF6.out, HB6.out⟩
        have hj10 : (Lib.join [putL 1785491060 4, putL j 2, putL s 4] []).length = 10 := by rw [join3, List.length_append, List.length_append, putL_length, putL_length, putL_length]
        rw [hj10]
        clear hj10
        go_loopw [7, 36] (fun v7 v36 wr => ∃ (k q g cap : Nat), k ≤ j ∧ q = 10 + k * 2 ∧ v7 = .slice (some ⟨g, 0, none⟩) q cap ∧ v36 = .int .i64 (k : Int) ∧ Hid (FrB w.heap.size wr g cap (preJ l ++ atsJ (l.take k)) ∧ Below w.heap.size w wr)) (fun v7 v36 wr => j - (intOf v36).toNat)
        case atStart => exact ⟨0, 10, g6, cap6, Nat.zero_le _, rfl, rfl, rfl, K0⟩
        case round =>
          clear K0
          obtain ⟨k, q, g, cap, hk, hq, rfl, rfl, HK⟩ := hrel
          rename World => wq
          by_cases hlt2 : k < j
          · have k1 := lt_t hlt2
            have k1n := lt_nt hlt2
            have k2 : (0 : Int) ≤ (k : Int) := by omega
            have k3 : (k : Int) < (j : Int) := by omega
            have k4 : (k : Int).toNat = k := by omega
            have hkv : k < vs.length := by rw [HN.out]; exact hlt2
            have hkl : k < l.length := by rw [HLL.out]; exact hlt2
            obtain ⟨b, off, rfl, hc⟩ := pu_at HRW.out hkv
            have x0 := cells_keep HK.out.2 (hc k hkv).1
            have x1 := cells_keep HK.out.2 (hc k hkv).2
            obtain ⟨v, hv⟩ : ∃ v, vs[k] = v := ⟨_, rfl⟩
            have hel := HLG.out k hkl hkv
            rw [hv] at x0 x1 hel
            have h41 := HM.out.one _ (List.getElem_mem hkl)
            rw [hel] at h41
            obtain ⟨at_, B, kn, d, bs⟩ := v
            obtain ⟨a, rfl⟩ := Int.eq_ofNat_of_zero_le (show 0 ≤ at_ by have h0 : 41 ≤ at_ := h41.1; omega)
            have ha : a < 2048 := by have h0 : (a : Int) < 2048 := h41.2.1; omega
            have HST : Hid (atsJ (l.take (k + 1)) = atsJ (l.take k) ++ putL a 2) := hid (by
              rw [atsJ_succ l k hkl, hel]
              rfl)
            have HQ : Hid ((preJ l ++ atsJ (l.take k)).length = q) := hid (by rw [List.length_append, preJ_len, atsJ_len, List.length_take, HLL.out, Nat.min_eq_left hk, hq])
            have hq90 : q ≤ 90 := by omega
            have HQE := hid hq
            clear hc hv hkv hel hkl h41 hq
            dsimp only at x0 x1
            have HB2 : Hid (Below wq.heap.size wq (wq.alloc (.cells #[.int .i64 (a : Int), .slice B kn d] 47))) := hid ((Below.refl _ wq).alloc (Nat.le_refl _) _)
            have hbox : OwnE (wq.alloc (.cells #[.int .i64 (a : Int), .slice B kn d] 47)) wq.heap.size 47 [.int .i64 (a : Int), .slice B kn d] := OwnE.new_ wq _ _
            have y0 := hbox.cell (j := 0) rfl
            have y1 := hbox.cell (j := 1) rfl
            clear hbox
            go_wp2_with (first
              | (go_at_call 37; refine (HP4.out _ a ha).mono ?_; rintro e w7 ⟨A7, c7, rfl, o7, b7⟩
                 have HB7 := hid (past (past HK.out.2 HB2.out) b7)
                 obtain ⟨g', c', w8, hrun, hfr, hbw⟩ := append_fr w7 w.heap.size g cap (preJ l ++ atsJ (l.take k)) (putL a 2) A7 2 c7 24 ((HK.out.1.below HB2.out).below b7) o7 HB7.out.size (by rw [HQ.out]; omega) (by omega)
                 rw [HQ.out] at hrun
                 have HR := hid hrun
                 have HFR := hid hfr
                 have HB8 := hid (HB7.out.trans hbw)
                 clear b7 o7 hrun hfr hbw)
              | (refine wpList_append_run rfl (.tmp 40) (.tmp 44) rfl rfl rfl HR.out ?_))
            go_roundw
            case rel => exact ⟨k + 1, q + 2, g', c', by omega, by have := HQE.out; omega, rfl, by go_num, hid ⟨by rw [HST.out, ← List.append_assoc]; exact HFR.out, HB8.out⟩⟩
            case measure => simp [intOf]; omega
          · have k1 := lt_f hlt2
            have k1n := lt_nf hlt2
            have hkj : k = j := by omega
            have HHB : Hid (preJ l ++ atsJ (l.take k) = headB l) := hid (by unfold headB; rw [List.take_of_length_le (by rw [HLL.out]; omega)])
            have HOQ : Hid (Oct wq (some ⟨g, 0, none⟩) q (headB l)) := hid (by
              have h := HK.out.1.oct
              rw [HHB.out, headB_len, HLL.out] at h
              rw [hq, hkj]
              exact h)
            have hq90 : q ≤ 90 := by omega
            have HSL := hid (seal_any (some ⟨g, 0, none⟩) q cap (headB l) wq HOQ.out (by omega))
            have hqe : q = 10 + j * 2 := by rw [hq, hkj]
            have HQE := hid hqe
            clear hq hqe
            go_wp2_with (first
              | (go_at_call 39; refine HSL.out.mono ?_; rintro e w7 ⟨A7, c7, rfl, hc7, o7, b7⟩; have HB7 := hid (past HK.out.2 b7); have HO7 := hid o7; clear b7 o7)
              | (go_at_call 38; refine (pad_own A7 (q + 4) c7 128 (headB l ++ le4 (sumL (headB l))) _ HO7.out (by omega) (by omega)).mono ?_; rintro e w8 ⟨g8, rfl, h8, hg8, b8⟩; have HB8 := hid (past HB7.out b8); have H8 := hid h8; have HG8 := hid (Nat.le_trans HB7.out.size hg8); clear h8 hg8 b8))
            go_ret2
            refine ⟨HB8.out, .inr ⟨HMB.out, g8, rfl, ?_, HG8.out⟩⟩
            have h := H8.out
            have e : headB l ++ le4 (sumL (headB l)) ++ List.replicate (128 - (q + 4)) 0 = headL l := by
              have e2 : (headB l ++ le4 (sumL (headB l))).length = q + 4 := by rw [List.length_append, headB_len, le4_length, HLL.out, HQE.out]
              unfold headL padJ
              rw [e2]
            rw [e] at h
            exact h
end Go.Proofs.Ytpppmijohfjigaa
