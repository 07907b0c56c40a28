/-
  The document's May and Head. A part of the proof: see the head of the text that ends in 'Law'.
-/
import Derived.Test.YtpppmijohfjigaaJn11
import Derived.Test.YtpppmijohfjigaaBytes
namespace Go.Proofs.Ytpppmijohfjigaa
open Go.RowKit
set_option linter.unusedVariables false
set_option maxRecDepth 100000
attribute [local go_sem] Oper.semAt_some

theorem seenB_succ (x : Int) (l : List Iss) (k : Nat) (h : k < l.length) : seenB x (l.take (k + 1)) = (seenB x (l.take k) || (l[k].1 == x)) := by
  unfold seenB
  rw [List.take_succ_eq_append_getElem h, List.any_append]
  simp
set_option maxHeartbeats 8000000 in
theorem rmay_any (A : Option Addr) (n c : Nat) (vs : List PuV) (size : Int) (w : World) (h : PutsIn w A n vs) (hs : n ≤ 1000) :
    Calls Try.prog 9 #[.slice A n c, .int .i64 size] w fun e w' => e = .returned (.bool (mayJ (vs.map PuV.p) size)) ∧ Below w.heap.size w w' := by
  have HN := hid h.len
  have HRW := hid h.row
  have HOC := hid h.oct
  obtain ⟨l, hl⟩ : ∃ l, vs.map PuV.p = l := ⟨_, rfl⟩
  rw [hl]
  have HLL : Hid (l.length = n) := hid (by rw [← hl, List.length_map, h.len])
  have HLG : Hid (∀ (j : Nat) (h1 : j < l.length) (h2 : j < vs.length), l[j]'h1 = (vs[j]'h2).p) := hid (fun j h1 h2 => by subst hl; rw [List.getElem_map])
  have I0 : Hid (okK l size 0 = true ∧ Below w.heap.size w w) := hid ⟨rfl, Below.refl _ _⟩
  clear h hl
  go_enter Try.func9, Try.ntmps9
  go_wp2_with fail
  go_loopw [5] (fun v5 wr => ∃ j : Nat, j ≤ n ∧ v5 = .int .i64 (j : Int) ∧ Hid (okK l size j = true ∧ Below w.heap.size w wr)) (fun v5 wr => n - (intOf v5).toNat)
  case atStart => exact ⟨0, Nat.zero_le _, rfl, I0⟩
  case round =>
    clear I0
    obtain ⟨j, hj, rfl, HI⟩ := hrel
    rename World => wr
    by_cases hlt : j < n
    · have e1 := lt_t hlt
      have e1n := lt_nt hlt
      have j0 : (0 : Int) ≤ (j : Int) := by omega
      have j1 : (j : Int) < (n : Int) := by omega
      have j2 : (j : Int).toNat = j := by omega
      have hjv : j < vs.length := by rw [HN.out]; exact hlt
      have hjl : j < l.length := by rw [HLL.out]; exact hlt
      obtain ⟨b, off, rfl, hc⟩ := pu_at HRW.out hjv
      have HC := hid hc
      have x0 := cells_keep HI.out.2 (hc j hjv).1
      have x1 := cells_keep HI.out.2 (hc j hjv).2
      obtain ⟨v, hv⟩ : ∃ v, vs[j] = v := ⟨_, rfl⟩
      have hvm : v ∈ vs := hv ▸ List.getElem_mem hjv
      have HO := hid (HOC.out v hvm)
      rw [hv] at x0 x1
      have hel := HLG.out j hjl hjv
      rw [hv] at hel
      have HEL : Hid (∃ h : j < l.length, l[j]'h = v.p) := hid ⟨hjl, hel⟩
      have HST : Hid (okK l size (j + 1) = oneJ size (l.take j) v.p) := hid (by rw [okK_succ l size j hjl, HI.out.1, hel]; rfl)
      have h1J := oneJ_put size (l.take j) v HO.out.len
      clear hc hv hvm hel
      obtain ⟨at_, B, k, d, s⟩ := v
      dsimp only at x0 x1 h1J
      obtain ⟨p1, hp1⟩ : ∃ p1, decide (at_ < (41 : Int)) = p1 := ⟨_, rfl⟩
      obtain ⟨p2, hp2⟩ : ∃ p2, decide (size ≤ at_) = p2 := ⟨_, rfl⟩
      obtain ⟨p4, hp4⟩ : ∃ p4, decide (k = 128) = p4 := ⟨_, rfl⟩
      rw [hp1, hp2, hp4] at h1J
      have hp4i : ((k : Int) != 128) = !p4 := by rw [← hp4]; by_cases e : k = 128 <;> simp [e]; omega
      have hp4n : (k != 128) = !p4 := by rw [← hp4]; by_cases e : k = 128 <;> simp [e]
      obtain ⟨r, hr⟩ : ∃ r, (p1 || (p2 || !p4)) = r := ⟨_, rfl⟩
      have HR4 := hid hr
      have H1J : Hid (oneJ size (l.take j) (at_, s) = (!r && !seenB at_ (l.take j))) := hid (by
        rw [← hr]
        refine h1J.trans ?_
        cases p1 <;> cases p2 <;> cases p4 <;> cases seenB at_ (l.take j) <;> rfl)
      clear hp4 hr h1J
      go_upto_region 4 with fail
      go_cut [36] (fun t wx => t = .bool r ∧ wr = wx)
      case first =>
        cases p1 with
        | true =>
          go_wp2_with fail
          go_meet
          exact ⟨by rw [← HR4.out]; rfl, rfl⟩
        | false =>
          cases p2 with
          | true =>
            go_wp2_with fail
            go_meet
            exact ⟨by rw [← HR4.out]; rfl, rfl⟩
          | false =>
            cases p4 with
            | true =>
              go_wp2_with fail
              go_meet
              exact ⟨by rw [← HR4.out]; rfl, rfl⟩
            | false =>
              go_wp2_with fail
              go_meet
              exact ⟨by rw [← HR4.out]; rfl, rfl⟩
      case rest =>
      obtain ⟨rfl, rfl⟩ := hcut
      cases r with
      | true =>
        have HNO : Hid (oneJ size (l.take j) (at_, s) = false) := hid (by rw [H1J.out]; rfl)
        have HF : Hid (okK l size (j + 1) = false) := hid (by rw [HST.out]; exact HNO.out)
        have HG : Hid (mayJ l size = false) := hid (by
          unfold mayJ
          rw [okK_mono l size (j + 1) (by rw [HLL.out]; omega) HF.out]
          rfl)
        go_wp2_with fail
        go_ret
        exact ⟨by rw [HG.out]; rfl, HI.out.2⟩
      | false =>
        have K0 : Hid (seenB at_ (l.take 0) = false ∧ Below wr.heap.size wr wr) := hid ⟨rfl, Below.refl _ _⟩
        go_wp2_with fail
        go_loopw [6] (fun v6 wz => ∃ k : Nat, k ≤ j ∧ v6 = .int .i64 (k : Int) ∧ Hid (seenB at_ (l.take k) = false ∧ Below wr.heap.size wr wz)) (fun v6 wz => j - (intOf v6).toNat)
        case atStart => exact ⟨0, Nat.zero_le _, rfl, K0⟩
        case round =>
          clear K0
          obtain ⟨q, hq, rfl, HK⟩ := hrel
          rename World => wz
          by_cases hlt2 : q < j
          · have e2 := lt_t hlt2
            have e2n := lt_nt hlt2
            have q0 : (0 : Int) ≤ (q : Int) := by omega
            have q1 : (q : Int) < (n : Int) := by omega
            have q2 : (q : Int).toNat = q := by omega
            have hqv : q < vs.length := by rw [HN.out]; omega
            have hql : q < l.length := by rw [HLL.out]; omega
            have y0 := cells_keep (past HI.out.2 HK.out.2) (HC.out q hqv).1
            have z0 := cells_keep HK.out.2 x0
            obtain ⟨u, hu⟩ : ∃ u, (vs[q]'hqv).at_ = u := ⟨_, rfl⟩
            rw [hu] at y0
            have HSS : Hid (seenB at_ (l.take (q + 1)) = (u == at_)) := hid (by
              rw [seenB_succ at_ l q hql, HK.out.1, HLG.out q hql hqv, ← hu]
              rfl)
            clear hu hqv hql
            cases hue : (u == at_) with
            | true =>
              have HNO : Hid (oneJ size (l.take j) (at_, s) = false) := hid (by
                have h1 : seenB at_ (l.take j) = true := by
                  have h2 : seenB at_ (l.take (q + 1)) = true := by rw [HSS.out, hue]
                  unfold seenB at h2 ⊢
                  rw [List.any_eq_true] at h2 ⊢
                  obtain ⟨z, hz1, hz2⟩ := h2
                  exact ⟨z, List.mem_of_mem_take (i := q + 1) (by rw [List.take_take, Nat.min_eq_left (by omega)]; exact hz1), hz2⟩
                rw [H1J.out, h1]
                rfl)
              have HF : Hid (okK l size (j + 1) = false) := hid (by rw [HST.out]; exact HNO.out)
              have HG : Hid (mayJ l size = false) := hid (by
                unfold mayJ
                rw [okK_mono l size (j + 1) (by rw [HLL.out]; omega) HF.out]
                rfl)
              clear HSS
              go_upto_region 9 with fail
              go_quiet (fail)
              go_wp2_with fail
              go_ret
              exact ⟨by rw [HG.out]; rfl, bq (past HI.out.2 HK.out.2) _⟩
            | false =>
              have HSN : Hid (seenB at_ (l.take (q + 1)) = false) := hid (by rw [HSS.out, hue])
              clear HSS
              go_upto_region 9 with fail
              go_quiet (fail)
              go_wp2_with fail
              go_roundw
              case rel => exact ⟨q + 1, by omega, by go_num, hid ⟨HSN.out, bq HK.out.2 _⟩⟩
              case measure => simp [intOf]; omega
          · have e2 := lt_f hlt2
            have e2n := lt_nf hlt2
            have hqj : q = j := by omega
            have HSJ : Hid (okK l size (j + 1) = true) := hid (by rw [HST.out, show PuV.p ⟨at_, B, k, d, s⟩ = (at_, s) from rfl, H1J.out, ← hqj, HK.out.1]; rfl)
            go_wp2_with fail
            go_roundw
            case rel => exact ⟨j + 1, by omega, by go_num, hid ⟨HSJ.out, past HI.out.2 HK.out.2⟩⟩
            case measure => simp [intOf]; omega
    · have e1 := lt_f hlt
      have e1n := lt_nf hlt
      have HF : Hid (mayJ l size = (decide (1 ≤ n) && decide (n ≤ 40))) := hid (by unfold mayJ; rw [HLL.out, show n = j by omega, HI.out.1]; rfl)
      by_cases h1 : 1 ≤ n
      · have g1 : decide ((1 : Int) ≤ (n : Int)) = true := by rw [decide_eq_true_iff]; omega
        have g1n : decide (1 ≤ n) = true := by simpa using h1
        by_cases h4 : n ≤ 40
        · have g4 : decide ((n : Int) ≤ 40) = true := by rw [decide_eq_true_iff]; omega
          have g4n : decide (n ≤ 40) = true := by simpa using h4
          have HG : Hid (mayJ l size = true) := hid (by rw [HF.out, g1n, g4n]; rfl)
          go_wp2_with fail
          go_ret
          exact ⟨by rw [HG.out]; rfl, HI.out.2⟩
        · have g4 : decide ((n : Int) ≤ 40) = false := by rw [decide_eq_false_iff_not]; omega
          have g4n : decide (n ≤ 40) = false := by rw [decide_eq_false_iff_not]; exact h4
          have HG : Hid (mayJ l size = false) := hid (by rw [HF.out, g1n, g4n]; rfl)
          go_wp2_with fail
          go_ret
          exact ⟨by rw [HG.out]; rfl, HI.out.2⟩
      · have g1 : decide ((1 : Int) ≤ (n : Int)) = false := by rw [decide_eq_false_iff_not]; omega
        have g1n : decide (1 ≤ n) = false := by rw [decide_eq_false_iff_not]; exact h1
        have HG : Hid (mayJ l size = false) := hid (by rw [HF.out, g1n]; rfl)
        go_wp2_with fail
        go_ret
        exact ⟨by rw [HG.out]; rfl, HI.out.2⟩
end Go.Proofs.Ytpppmijohfjigaa
