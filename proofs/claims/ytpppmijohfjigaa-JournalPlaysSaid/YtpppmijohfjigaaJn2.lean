/-
  May a transaction be: journal.may walked. A part of the proof: see the head of the text that ends in 'Law'.
-/
import Derived.Test.YtpppmijohfjigaaJn1
namespace Go.Proofs.Ytpppmijohfjigaa
open Go.RowKit
set_option linter.unusedVariables false
set_option maxRecDepth 100000
attribute [local go_sem] Oper.semAt_some

theorem below_grown {w W W' : World} {b : Nat} (h : Below w.heap.size w W) (hg : W.grownBy W' (some b)) (hb : w.heap.size ≤ b) : Below w.heap.size w W' :=
  h.grown hg h.size (fun k hk => by injection hk with hk; omega)
theorem oneJ_put (size : Int) (pre : List Iss) (v : PuV) (hl : v.l.length = v.n) : oneJ size pre v.p = (!decide (v.at_ < 41) && !decide (size ≤ v.at_) && !seenB v.at_ pre && decide (v.n = 128)) := by
  show (!decide (v.at_ < 41) && !decide (size ≤ v.at_) && !seenB v.at_ pre && decide (v.l.length = 128)) = _
  rw [hl]
set_option maxHeartbeats 8000000 in
theorem may_any (A : Option Addr) (n c : Nat) (vs : List PuV) (size : Int) (w : World) (h : PutsIn w A n vs) (hs : n ≤ 1000) :
    Calls Try.prog 34 #[.slice A n c, .int .i64 size] w fun e w' => e = .returned (.bool (mayJ (vs.map PuV.p) size)) ∧ Below w.heap.size w w' := by
  have HN := hid h.len
  have HRW := hid h.row
  have HOC := hid h.oct
  have H64 := hid h.i64
  obtain ⟨l, hl⟩ : ∃ l, vs.map PuV.p = l := ⟨_, rfl⟩
  rw [hl]
  have HLL : Hid (l.length = n) := hid (by rw [← hl, List.length_map, h.len])
  have HLG : Hid (∀ (j : Nat) (h1 : j < l.length) (h2 : j < vs.length), l[j]'h1 = (vs[j]'h2).p) := hid (fun j h1 h2 => by subst hl; rw [List.getElem_map])
  have hmj : mayJ l size = (okK l size n && (decide (1 ≤ n) && decide (n ≤ 40))) := by unfold mayJ; rw [HLL.out]
  have HMJ := hid hmj
  clear h hl hmj
  by_cases h1 : n < 1
  · have g1 : decide ((n : Int) < 1) = true := lt_t (b := 1) h1
    have g1n := lt_nt h1
    have HF : Hid (mayJ l size = false) := hid (by rw [HMJ.out, decide_eq_false (show ¬ 1 ≤ n by omega)]; simp)
    go_enter Try.func34, Try.ntmps34
    go_wp2_with fail
    go_ret
    exact ⟨by rw [HF.out]; rfl, Below.refl _ _⟩
  · have g1 : decide ((n : Int) < 1) = false := lt_f (b := 1) h1
    have g1n := lt_nf h1
    by_cases h40 : 40 < n
    · have g2 : decide ((40 : Int) < (n : Int)) = true := lt_t (a := 40) h40
      have g2n := lt_nt h40
      have HF : Hid (mayJ l size = false) := hid (by rw [HMJ.out, decide_eq_false (show ¬ n ≤ 40 by omega)]; simp)
      go_enter Try.func34, Try.ntmps34
      go_wp2_with fail
      go_ret
      exact ⟨by rw [HF.out]; rfl, Below.refl _ _⟩
    · have g2 : decide ((40 : Int) < (n : Int)) = false := lt_f (a := 40) h40
      have g2n := lt_nf h40
      have HM2 : Hid (mayJ l size = okK l size n) := hid (by rw [HMJ.out, decide_eq_true (show n ≤ 40 by omega), decide_eq_true (show 1 ≤ n by omega)]; simp)
      have I0 : Hid (SeenM (w.alloc (.map #[] 0)) w.heap.size 0 (l.take 0) ∧ okK l size 0 = true ∧ Below w.heap.size w (w.alloc (.map #[] 0))) := hid ⟨SeenM.made w, rfl, (Below.refl _ _).alloc (Nat.le_refl _) _⟩
      have hmm := @run_makeMap Try.prog
      go_enter Try.func34, Try.ntmps34
      go_wp2_with fail
      go_loopw [19] (fun v19 wr => ∃ j : Nat, j ≤ n ∧ v19 = .int .i64 (j : Int) ∧ Hid (SeenM wr w.heap.size j (l.take j) ∧ okK l size j = true ∧ Below w.heap.size w wr)) (fun v19 wr => n - (intOf v19).toNat)
      case atStart => exact ⟨0, Nat.zero_le _, rfl, I0⟩
      case round =>
        clear I0 hmm
        obtain ⟨j, hj, rfl, HI⟩ := hrel
        rename World => wr
        by_cases hlt : j < n
        · have e1 := lt_t hlt
          have e1n := lt_nt hlt
          have j0 : (0 : Int) ≤ (j : Int) := by omega
          have j1 : (j : Int) < (n : Int) := by omega
          have j2 : (j : Int).toNat = j := by omega
          have hjv : j < vs.length := by rw [HN.out]; exact hlt
          have hjl : j < l.length := by rw [HLL.out]; exact hlt
          obtain ⟨b, off, rfl, hc⟩ := pu_at HRW.out hjv
          have x0 := cells_keep HI.out.2.2 (hc j hjv).1
          have x1 := cells_keep HI.out.2.2 (hc j hjv).2
          obtain ⟨v, hv⟩ : ∃ v, vs[j] = v := ⟨_, rfl⟩
          have hvm : v ∈ vs := hv ▸ List.getElem_mem hjv
          have HO := hid (HOC.out v hvm)
          have H6 := hid (H64.out v hvm)
          rw [hv] at x0 x1
          have HST : Hid (okK l size (j + 1) = oneJ size (l.take j) v.p ∧ l.take (j + 1) = l.take j ++ [v.p]) := hid (by
            have e := HLG.out j hjl hjv
            rw [hv] at e
            exact ⟨by rw [okK_succ l size j hjl, HI.out.2.1, e]; rfl, by rw [List.take_succ_eq_append_getElem hjl, e]⟩)
          have h1J := oneJ_put size (l.take j) v HO.out.len
          clear hc hv hvm hjv
          obtain ⟨at_, B, k, d, s⟩ := v
          dsimp only at x0 x1 h1J
          have hbx : Below wr.heap.size wr (wr.alloc (.cells #[.int .i64 at_, .slice B k d] 47)) := (Below.refl _ wr).alloc (Nat.le_refl _) _
          have hbox : OwnE (wr.alloc (.cells #[.int .i64 at_, .slice B k d] 47)) wr.heap.size 47 [.int .i64 at_, .slice B k d] := OwnE.new_ wr _ _
          have hlook := (HI.out.1.below hbx).look H6.out
          dsimp only at hlook
          have y0 := hbox.cell (j := 0) rfl
          have y1 := hbox.cell (j := 1) rfl
          have HBX := hid hbx
          obtain ⟨W1, hW1⟩ : ∃ W1, wr.alloc (.cells #[.int .i64 at_, .slice B k d] 47) = W1 := ⟨_, rfl⟩
          obtain ⟨bx, hbxe⟩ : ∃ bx, wr.heap.size = bx := ⟨_, rfl⟩
          rw [hW1] at hlook y0 y1 HBX
          rw [hbxe] at y0 y1
          go_upto_region 7 with fail
          (try rw [hW1]); (try rw [hbxe])
          have HBE := hid hbxe
          clear hbx hbox hW1 x0 x1 hbxe
          obtain ⟨p1, hp1⟩ : ∃ p1, decide (at_ < (41 : Int)) = p1 := ⟨_, rfl⟩
          obtain ⟨p2, hp2⟩ : ∃ p2, decide (size ≤ at_) = p2 := ⟨_, rfl⟩
          obtain ⟨p3, hp3⟩ : ∃ p3, seenB at_ (l.take j) = p3 := ⟨_, rfl⟩
          obtain ⟨p4, hp4⟩ : ∃ p4, decide (k = 128) = p4 := ⟨_, rfl⟩
          rw [hp1, hp2, hp3, hp4] at h1J
          rw [hp3] at hlook
          have hp4i : ((k : Int) != 128) = !p4 := by rw [← hp4]; by_cases e : k = 128 <;> simp [e]; omega
          have hp4n : (k != 128) = !p4 := by rw [← hp4]; by_cases e : k = 128 <;> simp [e]
          have HP3 := hid hp3
          obtain ⟨r, hr⟩ : ∃ r, (p1 || (p2 || (p3 || !p4))) = r := ⟨_, rfl⟩
          have HR4 := hid hr
          have H1J : Hid (oneJ size (l.take j) (at_, s) = !r) := hid (by
            rw [← hr]
            refine h1J.trans ?_
            cases p1 <;> cases p2 <;> cases p3 <;> cases p4 <;> rfl)
          clear hp3 hp4 hr h1J
          go_cut [43] (fun t wx => t = .bool r ∧ W1 = wx)
          case first =>
            cases p1 with
            | true =>
              go_wp2_with fail
              go_meet
              exact ⟨by rw [← HR4.out]; rfl, rfl⟩
            | false =>
              cases p2 with
              | true =>
                go_wp2_with fail
                go_meet
                exact ⟨by rw [← HR4.out]; rfl, rfl⟩
              | false =>
                cases p3 with
                | true =>
                  go_wp2_with fail
                  go_meet
                  exact ⟨by rw [← HR4.out]; rfl, rfl⟩
                | false =>
                  cases p4 with
                  | true =>
                    go_wp2_with fail
                    go_meet
                    exact ⟨by rw [← HR4.out]; rfl, rfl⟩
                  | false =>
                    go_wp2_with fail
                    go_meet
                    exact ⟨by rw [← HR4.out]; rfl, rfl⟩
          case rest =>
          obtain ⟨rfl, rfl⟩ := hcut
          cases r with
          | true =>
            have HF : Hid (mayJ l size = false) := hid (by
              rw [HM2.out, ← HLL.out]
              exact okK_mono l size (j + 1) (by rw [HLL.out]; omega) (by rw [HST.out.1]; exact H1J.out))
            go_wp2_with fail
            go_ret
            exact ⟨by rw [HF.out]; rfl, past HI.out.2.2 HBX.out⟩
          | false =>
            obtain ⟨w2, hrun, hsn, hgr⟩ := (HI.out.1.below HBX.out).put (by unfold maxLen; omega) (p := (at_, s)) H6.out
            dsimp only at hrun
            have HSN := hid hsn
            have HB2 := hid (below_grown (past HI.out.2.2 HBX.out) hgr (Nat.le_refl _))
            clear hsn hgr
            go_wp2_with fail
            go_roundw
            case rel => exact ⟨j + 1, by omega, by go_num, hid ⟨by rw [HST.out.2]; exact HSN.out, by rw [HST.out.1]; exact H1J.out, HB2.out⟩⟩
            case measure => simp [intOf]; omega
        · have e1 := lt_f hlt
          have e1n := lt_nf hlt
          have HF : Hid (mayJ l size = true) := hid (by rw [HM2.out, show n = j by omega]; exact HI.out.2.1)
          go_wp2_with fail
          go_ret
          exact ⟨by rw [HF.out]; rfl, HI.out.2.2⟩
end Go.Proofs.Ytpppmijohfjigaa
