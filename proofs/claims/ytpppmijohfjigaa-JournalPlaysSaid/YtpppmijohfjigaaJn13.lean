/-
  The document's Head. A part of the proof: see the head of the text that ends in 'Law'.
-/
import Derived.Test.YtpppmijohfjigaaJn12
namespace Go.Proofs.Ytpppmijohfjigaa
open Go.RowKit
set_option linter.unusedVariables false
set_option maxRecDepth 100000
attribute [local go_sem] Oper.semAt_some

def bodJ (l : List Iss) : List UInt8 := l.flatMap fun p => p.2
theorem bodJ_succ (l : List Iss) (j : Nat) (h : j < l.length) : bodJ (l.take (j + 1)) = bodJ (l.take j) ++ (l[j]).2 := by
  unfold bodJ
  rw [List.take_succ_eq_append_getElem h, List.flatMap_append]
  simp
def strM : Value → Nat
  | .string t => 128 - t.size
  | _ => 0
theorem strM_str (l : List UInt8) : strM (.string (str l)) = 128 - l.length := rfl
theorem rep_snoc (n : Nat) : List.replicate n (0 : UInt8) ++ [0] = List.replicate (n + 1) 0 := by rw [← List.replicate_succ']
theorem head_bytes (l : List Iss) (n s : Nat) (hn : l.length = n) (hs : sumJ l = s) (a : List UInt8) (ha : a = atsJ l) : (({ data := #[116, 110, 108, 106] } : ByteArray) ++ str (putL n 2)) ++ str (putL s 4) ++ str a = str (headB l) := by
  subst hn hs ha
  unfold headB preJ
  rw [← str_append, ← str_append, ← str_append]
  rfl
set_option maxHeartbeats 8000000 in
theorem rhead_any (A : Option Addr) (n c : Nat) (vs : List PuV) (w : World) (h : PutsIn w A n vs) (hm : mayJ (vs.map PuV.p) 2048 = true) :
    Calls Try.prog 11 #[.slice A n c] w fun e w' => e = .returned (.string (str (headL (vs.map PuV.p)))) ∧ Below w.heap.size w w' := by
  have HN := hid h.len
  have HRW := hid h.row
  have HOC := hid h.oct
  obtain ⟨l, hl⟩ : ∃ l, vs.map PuV.p = l := ⟨_, rfl⟩
  rw [hl] at hm ⊢
  have HLL : Hid (l.length = n) := hid (by rw [← hl, List.length_map, h.len])
  have HLG : Hid (∀ (j : Nat) (h1 : j < l.length) (h2 : j < vs.length), l[j]'h1 = (vs[j]'h2).p) := hid (fun j h1 h2 => by subst hl; rw [List.getElem_map])
  have hm' := mayJ_true hm
  have HM := hid hm'
  have hn40 : n ≤ 40 := by have := hm'.l40; rw [HLL.out] at this; exact this
  clear h hl hm hm'
  have I0 : Hid (w.ownsRow w.heap.size 5 1 (.slice none 0 0) 0 ((bodJ (l.take 0)).map B8) ∧ Below w.heap.size w w) := hid ⟨World.ownsRow_nil _ _ _ _, Below.refl _ _⟩
  have HP2 := hid (fun W : World => (show Calls Try.prog 42 #[.int .u64 (n : Int), .int .i64 2] W _ from of_any n 2 W (by omega) (by omega) (by omega) (Nat.div_eq_of_lt (by omega))))
  have HP3 := hid (fun (W : World) (s : Nat) (hs : s < 4294967296) => (show Calls Try.prog 42 #[.int .u64 (s : Int), .int .i64 4] W _ from of_any s 4 W (by omega) (by omega) (by omega) (Nat.div_eq_of_lt (by omega))))
  have HP4 := hid (fun (W : World) (a : Nat) (hs : a < 2048) => (show Calls Try.prog 42 #[.int .u64 (a : Int), .int .i64 2] W _ from of_any a 2 W (by omega) (by omega) (by omega) (Nat.div_eq_of_lt (by omega))))
  go_enter Try.func11, Try.ntmps11
  go_wp2_with fail
  go_loopw [3, 4, 5] (fun v3 v4 v5 wr => ∃ (j k q : Nat) (A1 : Option Addr) (c1 : Nat) (y : List UInt8), j ≤ n ∧ k = j * 128 ∧ q = j * 2 ∧ v3 = .slice A1 k c1 ∧ v4 = .string (str y) ∧ v5 = .int .i64 (j : Int) ∧ Hid (y = atsJ (l.take j)) ∧ Hid (y.length = q) ∧ Hid (wr.ownsRow w.heap.size 5 1 (.slice A1 k c1) k ((bodJ (l.take j)).map B8) ∧ Below w.heap.size w wr)) (fun v3 v4 v5 wr => n - (intOf v5).toNat)
  case atStart => exact ⟨0, 0, 0, none, 0, [], Nat.zero_le _, rfl, rfl, rfl, rfl, rfl, hid rfl, hid rfl, I0⟩
  case round =>
    clear I0
    obtain ⟨j, k, q, A1, c1, y, hj, hk, hq, rfl, rfl, rfl, HY, HYL, HI⟩ := hrel
    rename World => wr
    by_cases hlt : j < n
    · have e1 := lt_t hlt
      have e1n := lt_nt hlt
      have j0 : (0 : Int) ≤ (j : Int) := by omega
      have j1 : (j : Int) < (n : Int) := by omega
      have j2 : (j : Int).toNat = j := by omega
      have hjv : j < vs.length := by rw [HN.out]; exact hlt
      have hjl : j < l.length := by rw [HLL.out]; exact hlt
      obtain ⟨b, off, rfl, hc⟩ := pu_at HRW.out hjv
      have x0 := cells_keep HI.out.2 (hc j hjv).1
      have x1 := cells_keep HI.out.2 (hc j hjv).2
      obtain ⟨v, hv⟩ : ∃ v, vs[j] = v := ⟨_, rfl⟩
      have hvm : v ∈ vs := hv ▸ List.getElem_mem hjv
      have HO := hid (HOC.out v hvm)
      have hel := HLG.out j hjl hjv
      have x00 := (hc j hjv).1
      rw [hv] at x0 x1 hel x00
      have h41 := HM.out.one _ (List.getElem_mem hjl)
      rw [hel] at h41
      obtain ⟨at_, B, kn, d, bs⟩ := v
      obtain ⟨a, rfl⟩ := Int.eq_ofNat_of_zero_le (show 0 ≤ at_ by have h0 : 41 ≤ at_ := h41.1; omega)
      have ha : a < 2048 := by have h0 : (a : Int) < 2048 := h41.2.1; omega
      have hkn : kn = 128 := by
        have h0 : bs.length = kn := HO.out.len
        have h1 : bs.length = 128 := h41.2.2
        omega
      subst hkn
      have HST : Hid (atsJ (l.take (j + 1)) = atsJ (l.take j) ++ putL a 2 ∧ bodJ (l.take (j + 1)) = bodJ (l.take j) ++ bs) := hid (by
        rw [atsJ_succ l j hjl, bodJ_succ l j hjl, hel]
        exact ⟨rfl, rfl⟩)
      have hys : (str y).size = q := HYL.out
      have hs2 : (str (putL a 2)).size = 2 := by rw [str_size, putL_length]
      have hov : ¬ 9223372036854775807 < q + 2 := by omega
      have HE : Hid (str y ++ str (putL a 2) = str (y ++ putL a 2)) := hid (str_append _ _)
      have HKK := hid hk
      have HQQ := hid hq
      have hk5 : k ≤ 5120 := by omega
      clear hc hv hvm hjv hel hjl h41 hk hq
      dsimp only at x0 x1 x00
      have HX00 := hid x00
      clear x00
      go_wp2_with (first
        | (refine wpList_append_row _ rfl (.tmp 13) (.tmp 18) bytesT rfl w.heap.size (.slice A1 k c1) k ((bodJ (l.take j)).map B8) rfl HI.out.1 B 128 d (bs.map B8) rfl (HO.out.below HI.out.2).cells_len (HO.out.below HI.out.2).2 (one_B8 _) (by simp only [maxLen]; omega) (by omega) HI.out.2.size ?_
           intro A2 c2 w2 ho2 hg2 hh2
           have HB2 := hid (HI.out.2.grown hg2 HI.out.2.size (own_base HI.out.1))
           have HO2 := hid ho2
           have x2 := cells_keep HB2.out HX00.out
           clear ho2 hg2 hh2)
        | (go_at_call 42; refine (HP4.out _ a ha).mono ?_; rintro e w3 ⟨rfl, b3⟩; have HB3 := hid (past HB2.out b3); have HO3 := hid (own_below HO2.out b3); clear b3))
      rw [HE.out]
      go_roundw
      case rel => exact ⟨j + 1, k + 128, q + 2, A2, c2, y ++ putL a 2, by omega, by have := HKK.out; omega, by have := HQQ.out; omega, rfl, rfl, by go_num, hid (by rw [HST.out.1, HY.out]), hid (by rw [List.length_append, HYL.out, putL_length]), hid ⟨by rw [HST.out.2, List.map_append]; exact HO3.out, HB3.out⟩⟩
      case measure => simp [intOf]; omega
    · have e1 := lt_f hlt
      have e1n := lt_nf hlt
      have hjn : j = n := by omega
      have HYA : Hid (y = atsJ l) := hid (by rw [HY.out, List.take_of_length_le (by rw [HLL.out]; omega)])
      have HOA : Hid (Oct wr A1 k (bodJ l)) := hid (by
        have h := HI.out.1
        rw [List.take_of_length_le (by rw [HLL.out]; omega)] at h
        exact Oct.of_own h)
      have HBW := hid HI.out.2
      obtain ⟨s, hs⟩ : ∃ s, sumJ l = s := ⟨_, rfl⟩
      have hs32 : s < 4294967296 := by rw [← hs]; exact sumL_lt _
      have HSM := hid (fun (X : World) (hb : Below wr.heap.size wr X) => (by have := refSum_any A1 k c1 (bodJ l) X (HOA.out.below hb) (by omega); rw [show sumL (bodJ l) = s from hs] at this; exact this : Calls Try.prog 44 #[.slice A1 k c1] X fun e w' => e = .returned (.int .u32 (s : Int)) ∧ X = w'))
      have he := head_bytes l n s HLL.out hs y HYA.out
      obtain ⟨k4, hk4⟩ : ∃ k4, (headB l).length = k4 := ⟨_, rfl⟩
      have hk4e : k4 = 10 + n * 2 := by rw [← hk4, headB_len, HLL.out]
      have hs2 : (str (putL n 2)).size = 2 := by rw [str_size, putL_length]
      have hs4 : (str (putL s 4)).size = 4 := by rw [str_size, putL_length]
      have hys : (str y).size = q := HYL.out
      have hov : ¬ 9223372036854775807 < 4 + 2 + 4 + q := by omega
      have HEE := hid he
      have HK4 := hid hk4
      have hq80 : q ≤ 80 := by omega
      have hk90 : k4 ≤ 90 := by omega
      have HQ4 := hid hk4e
      clear hs he hk4 hk4e HI
      clear hlt hjn
      clear hk hq
      go_wp2_with (first
        | (go_at_call 42; (with_reducible refine (HP2.out _).mono ?_); rintro e w2 ⟨rfl, b2⟩; have HB2 := hid b2; clear b2)
        | (go_at_call 44; refine (HSM.out _ HB2.out).mono ?_; rintro e w3 ⟨rfl, rfl⟩)
        | (go_at_call 42
           (
             (with_reducible refine (HP3.out _ s hs32).mono ?_)
             rintro e w4 ⟨rfl, b4⟩
             have HB4 := hid (past (past HBW.out HB2.out) b4)
             obtain ⟨cc, hcc⟩ := run_bytes (P := Try.prog) w4 9 24 5 (headB l) Try.underlying9 Try.underlying24 Try.underlying5
             have hbw := bytesW_below w4 5 (headB l)
             have hoo := (bytesW_own w4 5 (headB l)).oct
             rw [str_size, HK4.out] at hcc
             rw [HK4.out] at hoo
             obtain ⟨W5, hW5⟩ : ∃ W5, bytesW w4 5 (headB l) = W5 := ⟨_, rfl⟩
             rw [hW5] at hcc hbw hoo
             rw [← HEE.out] at hcc
             have HB5 := hid (past HB4.out hbw)
             have HSL := hid (refSeal_any (some ⟨w4.heap.size, 0, none⟩) k4 cc (headB l) W5 hoo (by omega))
             clear b4 hbw hoo hW5))
        | (go_at_call 43; refine HSL.out.mono ?_; rintro e w6 ⟨rfl, b6⟩; have HB6 := hid (past HB5.out b6); clear b6))
      have HXL : Hid ((headB l ++ le4 (sumL (headB l))).length = k4 + 4) := hid (by rw [List.length_append, le4_length, HK4.out])
      obtain ⟨x0, hx0⟩ : ∃ x0, headB l ++ le4 (sumL (headB l)) = x0 := ⟨_, rfl⟩
      have HX0 : Hid (headL l = x0 ++ List.replicate (128 - (k4 + 4)) 0) := hid (by unfold headL padJ; rw [HXL.out, hx0])
      rw [hx0] at HXL
      rw [hx0]
      clear hx0
      go_loopw [6] (fun v6 wz => ∃ (i p : Nat) (x : List UInt8), p = k4 + 4 + i ∧ p ≤ 128 ∧ v6 = .string (str x) ∧ Hid (x.length = p) ∧ Hid (x = x0 ++ List.replicate i 0) ∧ w6 = wz) (fun v6 wz => strM v6)
      case atStart => exact ⟨0, k4 + 4, x0, by omega, by omega, rfl, HXL, hid (by simp), rfl⟩
      case round =>
        obtain ⟨i, p, x, hp, hp2, rfl, HPL, HPX, rfl⟩ := hrel
        have hsz : (str x).size = p := HPL.out
        by_cases hlt : p < 128
        · have g1 : decide ((p : Int) < 128) = true := by rw [decide_eq_true_iff]; omega
          have g1n : decide (p < 128) = true := by simpa using hlt
          have ha : str x ++ ({ data := #[0] } : ByteArray) = str (x ++ [0]) := str_append x [0]
          have HX2 : Hid ((x ++ [0]).length = p + 1) := hid (by rw [List.length_append, HPL.out]; rfl)
          have HX3 : Hid (x ++ [0] = x0 ++ List.replicate (i + 1) 0) := hid (by rw [HPX.out, List.append_assoc, rep_snoc])
          go_wp2_with fail
          go_roundw
          case rel => exact ⟨i + 1, p + 1, x ++ [0], by omega, by omega, by first | rfl | rw [ha], HX2, HX3, trivial⟩
          case measure =>
            have e1 := strM_str x
            have e2 := strM_str (x ++ [0])
            rw [HPL.out] at e1
            rw [HX2.out] at e2
            first
              | (rw [e1, e2]; omega)
              | (simp only [ha]; rw [e1, e2]; omega)
        · have g1 : decide ((p : Int) < 128) = false := by rw [decide_eq_false_iff_not]; omega
          have g1n : decide (p < 128) = false := by rw [decide_eq_false_iff_not]; exact hlt
          have HF : Hid (str x = str (headL l)) := hid (by rw [HX0.out, HPX.out, show 128 - (k4 + 4) = i by omega])
          go_wp2_with fail
          go_ret
          exact ⟨by first | (rw [HF.out]; rfl) | rw [← HF.out], HB6.out⟩
end Go.Proofs.Ytpppmijohfjigaa
