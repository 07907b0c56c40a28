/-
  HeadAdds: the walk. A part of the proof: see the head of the text that ends in 'Law'.
-/
import Derived.Test.YthlofpofcpconaaDoorHe29
namespace Go.Proofs.YthlofpofcpconaaDoor
open Go.RowKit Go.Shelf
set_option linter.unusedVariables false
set_option linter.unusedSimpArgs false
attribute [local go_sem] Oper.semAt_some

theorem rtrim_vis (s : List UInt8) (h : ∀ c ∈ s, bl c = false) : rtrim s = s := by
  rcases List.eq_nil_or_concat s with rfl | ⟨i, c, rfl⟩
  · rfl
  · rw [List.concat_eq_append] at h ⊢
    rw [rtrim_append, if_neg (by rw [h c (by simp)]; decide)]
theorem ahead_text {s b : List UInt8} (h : ∀ c ∈ s, vis c = true) : fdText (aheadL s ++ b) ⟨[81, 45, 110, 101, 119], 0, (aheadL s).length, 6⟩ = s := by
  have hv := vis_ne h
  have e1 : ((aheadL s ++ b).drop 6).take ((aheadL s).length - 6) = ([32] ++ s ++ [13]) ++ [10] := by
    have e2 : aheadL s = [81, 45, 110, 101, 119, 58] ++ (([32] ++ s ++ [13]) ++ [10]) := by unfold aheadL; simp
    have key : ∀ (p q : List UInt8), ((p ++ q ++ b).drop p.length).take ((p ++ q).length - p.length) = q := fun p q => by
      rw [List.append_assoc, List.drop_left, List.length_append, Nat.add_sub_cancel_left, List.take_left]
    rw [e2]
    exact key [81, 45, 110, 101, 119, 58] _
  have e3 : cutL (([32] ++ s ++ [13]) ++ [10]) = [([32] ++ s ++ [13]) ++ [10]] := by
    have := cut_ahead ([32] ++ s ++ [13]) [] 10 (fun d hd => by
      rcases List.mem_append.1 hd with hd | hd
      · rcases List.mem_append.1 hd with hd | hd
        · rw [List.mem_singleton] at hd; rw [hd]; decide
        · exact (hv d hd).1
      · rw [List.mem_singleton] at hd; rw [hd]; decide) rfl
    exact this
  unfold fdText textL
  dsimp only
  rw [e1, e3, List.map_cons, List.map_nil, List.flatten_cons, List.flatten_nil, List.append_nil, chop_yes _ 10 rfl, List.getLast?_concat, if_pos rfl, List.dropLast_concat, trimB_eq, ltrim_rtrim, List.singleton_append, ltrim_cons 32 s rfl]
  cases s with
  | nil => rfl
  | cons c r =>
    rw [ltrim_stop c r (hv c (List.mem_cons_self ..)).2.2]
    exact rtrim_vis _ (fun d hd => (hv d hd).2.2)
theorem ahead_find {s b : List UInt8} (h : ∀ c ∈ s, vis c = true) (hb : ∀ c r, b = c :: r → bl c = false) : findF (aheadL s ++ b) [113, 45, 78, 69, 87] (fieldsL (aheadL s ++ b)) = some s := by
  rw [(ahead_fields h hb).1]
  unfold findF
  rw [List.find?_cons]
  have : alikeL [81, 45, 110, 101, 119] [113, 45, 78, 69, 87] = true := by decide
  dsimp only
  rw [this]
  dsimp only
  rw [Option.map_some, ahead_text h]
def visF (t : List UInt8) : List UInt8 := (t.take 60).filter vis
theorem visF_vis (t : List UInt8) : ∀ c ∈ visF t, vis c = true := fun c hc => (List.mem_filter.1 hc).2
theorem visF_len (t : List UInt8) : (visF t).length ≤ 60 := by
  unfold visF
  refine Nat.le_trans (List.length_filter_le _ _) ?_
  rw [List.length_take]
  omega
theorem vis_step (t : List UInt8) (k : Nat) (hk : k < t.length) (x : UInt8) (hx : t[k] = x) : (t.take (k + 1)).filter vis = if vis x = true then (t.take k).filter vis ++ [x] else (t.take k).filter vis := by
  rw [List.take_succ_eq_append_getElem hk, hx, List.filter_append]
  by_cases h : vis x = true
  · rw [if_pos h, List.filter_cons_of_pos h]; rfl
  · rw [if_neg h, List.filter_cons_of_neg h, List.filter_nil, List.append_nil]
theorem aheadL_len (s : List UInt8) : (aheadL s).length = s.length + 9 := by
  unfold aheadL
  simp
set_option maxRecDepth 100000 in
set_option maxHeartbeats 16000000 in
theorem walkHeadAdds (A : Option Addr) (n c : Nat) (l t : List UInt8) (w : World) (ho : Oct w A n l) (hn : n ≤ c) (hc : c ≤ maxLen) (ht : t.length ≤ maxLen) :
    Calls Tryd.prog 6 #[.slice A n c, .string (str t)] w fun e w' => e = .returned (.bool true) ∧ Below w.heap.size w w' := by
  have HFW := hid (few17_any A n c w hn (Nat.le_trans hn hc))
  have HO0 := hid ho
  have HNC := hid hn
  obtain ⟨tn, htn⟩ : ∃ tn, t.length = tn := ⟨_, rfl⟩
  have hts : (str t).size = tn := htn
  have htm : tn ≤ 9223372036854775807 := by rw [← htn]; exact Nat.le_trans ht (by decide)
  have HTN := hid htn
  clear ho hn hc ht htn
  go_enter Tryd.func6, Tryd.ntmps6
  go_upto_block 0 with (go_at_call 8; refine HFW.out.mono ?_; rintro e w1 ⟨⟨k0, rfl, hk, hkn⟩, rfl⟩)
  go_cut [5] from 17 to 43 (fun s5 wx => s5 = .string (str (visF t)) ∧ w = wx)
  case first =>
    clear HFW HO0 HNC
    go_wp2_with fail
    by_cases h60 : tn ≤ 60
    · have HMM : Hid (t.take tn = t.take 60) := hid (by rw [List.take_of_length_le (by rw [HTN.out]; exact Nat.le_refl _), List.take_of_length_le (by rw [HTN.out]; exact h60)])
      go_loopw [5, 6] (fun v5 v6 wr => ∃ i : Nat, i ≤ tn ∧ v5 = .string (str ((t.take i).filter vis)) ∧ v6 = .int .i64 (i : Int) ∧ w = wr) (fun v5 v6 wr => tn - (intOf v6).toNat)
      case atStart => exact ⟨0, Nat.zero_le _, rfl, rfl, rfl⟩
      case round =>
        obtain ⟨i, hi, rfl, rfl, rfl⟩ := hrel
        by_cases hlt : i < tn
        · have d1 : decide ((i : Int) < (tn : Int)) = true := by simp; omega
          have d1' : decide (i < tn) = true := by simp; omega
          have d2 : decide ((i : Int) < 60) = true := by simp; omega
          have d2' : decide (i < 60) = true := by simp; omega
          have e0 : (0 : Int) ≤ (i : Int) := by omega
          have e1 : (i : Int) < ((str t).size : Int) := by rw [hts]; omega
          have e1' : (i : Int) + 1 ≤ ((str t).size : Int) := by rw [hts]; omega
          have e2 : (i : Int) ≤ (i : Int) + 1 := by omega
          have e3 : (i : Int).toNat = i := by omega
          have e4 : ((i : Int) + 1).toNat = i + 1 := by omega
          have hil : i < t.length := by rw [HTN.out]; omega
          have his : i < (str t).size := hil
          obtain ⟨z, hzz⟩ : ∃ z, t[i]'hil = z := ⟨_, rfl⟩
          have h1 : (str t)[i]'his = z := (str_get t i his).trans hzz
          have hex : (str t).extract i (i + 1) = str [z] := by
            rw [str_extract, show i + 1 - i = 1 by omega, List.drop_eq_getElem_cons hil, hzz]
            rfl
          have hst := vis_step t i hil z hzz
          have hal : ((t.take i).filter vis).length ≤ 60 := by
            refine Nat.le_trans (List.length_filter_le _ _) ?_
            rw [List.length_take]
            omega
          obtain ⟨q, hq⟩ : ∃ q, (t.take i).filter vis = q := ⟨_, rfl⟩
          rw [hq] at hst hal
          rw [hq]
          have HST := hid hst
          have hz : str q ++ str [z] = str (q ++ [z]) := str_append _ _
          have hno : ¬ 9223372036854775807 < (str q).size + (str [z]).size := by
            have h1 : (str q).size = q.length := rfl
            have h2 : (str [z]).size = 1 := rfl
            omega
          have hno2 : ¬ 9223372036854775807 < (str q).size + 1 := by
            have h1 : (str q).size = q.length := rfl
            omega
          obtain ⟨zn, hzn⟩ : ∃ zn, z.toNat = zn := ⟨_, rfl⟩
          clear hil hzz hst hq
          by_cases h32 : 32 < zn
          · have g1 : decide ((32 : Int) < (zn : Int)) = true := by simp; omega
            have g1' : decide (32 < zn) = true := by simpa using h32
            by_cases h127 : zn < 127
            · have g2 : decide ((zn : Int) < 127) = true := by simp; omega
              have g2' : decide (zn < 127) = true := by simpa using h127
              have HV := hid (HST.out.trans (if_pos (by unfold vis; rw [hzn, g1', g2']; rfl)))
              clear HST hal
              go_wp2_with fail
              go_roundw
              case rel => exact ⟨i + 1, by omega, by rw [HV.out], by go_num, trivial⟩
              case measure => simp [intOf]; omega
            · have g2 : decide ((zn : Int) < 127) = false := by simp; omega
              have g2' : decide (zn < 127) = false := by simpa using h127
              have HV := hid (HST.out.trans (if_neg (by unfold vis; rw [hzn, g1', g2']; decide)))
              clear HST hal
              go_wp2_with fail
              go_roundw
              case rel => exact ⟨i + 1, by omega, by rw [HV.out], by go_num, trivial⟩
              case measure => simp [intOf]; omega
          · have g1 : decide ((32 : Int) < (zn : Int)) = false := by simp; omega
            have g1' : decide (32 < zn) = false := by simpa using h32
            have HV := hid (HST.out.trans (if_neg (by unfold vis; rw [hzn, g1']; simp)))
            clear HST hal
            go_wp2_with fail
            go_roundw
            case rel => exact ⟨i + 1, by omega, by rw [HV.out], by go_num, trivial⟩
            case measure => simp [intOf]; omega
        · have him : i = tn := by omega
          have HV : Hid ((t.take i).filter vis = visF t) := hid (by unfold visF; rw [him]; first | done | exact congrArg (List.filter vis) HMM.out)
          rw [HV.out]
          have d1 : decide ((i : Int) < (tn : Int)) = false := by rw [decide_eq_false_iff_not]; omega
          have d1' : decide (i < tn) = false := by rw [decide_eq_false_iff_not]; omega
          go_wp2_with fail
          go_meet
          exact ⟨rfl, rfl⟩
    · have HMM : Hid (t.take 60 = t.take 60) := hid rfl
      go_loopw [5, 6] (fun v5 v6 wr => ∃ i : Nat, i ≤ 60 ∧ v5 = .string (str ((t.take i).filter vis)) ∧ v6 = .int .i64 (i : Int) ∧ w = wr) (fun v5 v6 wr => 60 - (intOf v6).toNat)
      case atStart => exact ⟨0, Nat.zero_le _, rfl, rfl, rfl⟩
      case round =>
        obtain ⟨i, hi, rfl, rfl, rfl⟩ := hrel
        by_cases hlt : i < 60
        · have d1 : decide ((i : Int) < (tn : Int)) = true := by simp; omega
          have d1' : decide (i < tn) = true := by simp; omega
          have d2 : decide ((i : Int) < 60) = true := by simp; omega
          have d2' : decide (i < 60) = true := by simp; omega
          have e0 : (0 : Int) ≤ (i : Int) := by omega
          have e1 : (i : Int) < ((str t).size : Int) := by rw [hts]; omega
          have e1' : (i : Int) + 1 ≤ ((str t).size : Int) := by rw [hts]; omega
          have e2 : (i : Int) ≤ (i : Int) + 1 := by omega
          have e3 : (i : Int).toNat = i := by omega
          have e4 : ((i : Int) + 1).toNat = i + 1 := by omega
          have hil : i < t.length := by rw [HTN.out]; omega
          have his : i < (str t).size := hil
          obtain ⟨z, hzz⟩ : ∃ z, t[i]'hil = z := ⟨_, rfl⟩
          have h1 : (str t)[i]'his = z := (str_get t i his).trans hzz
          have hex : (str t).extract i (i + 1) = str [z] := by
            rw [str_extract, show i + 1 - i = 1 by omega, List.drop_eq_getElem_cons hil, hzz]
            rfl
          have hst := vis_step t i hil z hzz
          have hal : ((t.take i).filter vis).length ≤ 60 := by
            refine Nat.le_trans (List.length_filter_le _ _) ?_
            rw [List.length_take]
            omega
          obtain ⟨q, hq⟩ : ∃ q, (t.take i).filter vis = q := ⟨_, rfl⟩
          rw [hq] at hst hal
          rw [hq]
          have HST := hid hst
          have hz : str q ++ str [z] = str (q ++ [z]) := str_append _ _
          have hno : ¬ 9223372036854775807 < (str q).size + (str [z]).size := by
            have h1 : (str q).size = q.length := rfl
            have h2 : (str [z]).size = 1 := rfl
            omega
          have hno2 : ¬ 9223372036854775807 < (str q).size + 1 := by
            have h1 : (str q).size = q.length := rfl
            omega
          obtain ⟨zn, hzn⟩ : ∃ zn, z.toNat = zn := ⟨_, rfl⟩
          clear hil hzz hst hq
          by_cases h32 : 32 < zn
          · have g1 : decide ((32 : Int) < (zn : Int)) = true := by simp; omega
            have g1' : decide (32 < zn) = true := by simpa using h32
            by_cases h127 : zn < 127
            · have g2 : decide ((zn : Int) < 127) = true := by simp; omega
              have g2' : decide (zn < 127) = true := by simpa using h127
              have HV := hid (HST.out.trans (if_pos (by unfold vis; rw [hzn, g1', g2']; rfl)))
              clear HST hal
              go_wp2_with fail
              go_roundw
              case rel => exact ⟨i + 1, by omega, by rw [HV.out], by go_num, trivial⟩
              case measure => simp [intOf]; omega
            · have g2 : decide ((zn : Int) < 127) = false := by simp; omega
              have g2' : decide (zn < 127) = false := by simpa using h127
              have HV := hid (HST.out.trans (if_neg (by unfold vis; rw [hzn, g1', g2']; decide)))
              clear HST hal
              go_wp2_with fail
              go_roundw
              case rel => exact ⟨i + 1, by omega, by rw [HV.out], by go_num, trivial⟩
              case measure => simp [intOf]; omega
          · have g1 : decide ((32 : Int) < (zn : Int)) = false := by simp; omega
            have g1' : decide (32 < zn) = false := by simpa using h32
            have HV := hid (HST.out.trans (if_neg (by unfold vis; rw [hzn, g1']; simp)))
            clear HST hal
            go_wp2_with fail
            go_roundw
            case rel => exact ⟨i + 1, by omega, by rw [HV.out], by go_num, trivial⟩
            case measure => simp [intOf]; omega
        · have him : i = 60 := by omega
          have HV : Hid ((t.take i).filter vis = visF t) := hid (by unfold visF; rw [him]; first | done | exact congrArg (List.filter vis) HMM.out)
          rw [HV.out]
          (have d1 : decide ((i : Int) < (tn : Int)) = true := (by rw [decide_eq_true_iff]; omega); have d1' : decide (i < tn) = true := (by rw [decide_eq_true_iff]; omega))
          (have d2 : decide ((i : Int) < 60) = false := (by rw [decide_eq_false_iff_not]; omega); have d2' : decide (i < 60) = false := (by rw [decide_eq_false_iff_not]; omega))
          go_wp2_with fail
          go_meet
          exact ⟨rfl, rfl⟩
  case rest =>
  obtain ⟨rfl, rfl⟩ := hcut
  have hsl := visF_len t
  have HVI := hid (visF_vis t)
  obtain ⟨s, hs⟩ : ∃ s, visF t = s := ⟨_, rfl⟩
  rw [hs] at hsl HVI
  rw [hs]
  clear hs
  obtain ⟨lb, hlb⟩ : ∃ lb, l.take k0 = lb := ⟨_, rfl⟩
  have HO : Hid (Oct w A k0 lb) := hid (by rw [← hlb]; exact HO0.out.take k0 hkn)
  have HLL : Hid (lb.length = k0) := hid HO.out.1
  have hkc : k0 ≤ 100000 := by omega
  have HKC : Hid (k0 ≤ c) := hid (Nat.le_trans hkn HNC.out)
  clear hlb HFW HO0
  obtain ⟨a1, ha1⟩ : ∃ a, [81, 45, 110, 101, 119, 58, 32] ++ s = a := ⟨_, rfl⟩
  obtain ⟨ah, hah⟩ : ∃ a, aheadL s = a := ⟨_, rfl⟩
  have hz1 : (⟨#[81, 45, 110, 101, 119, 58, 32]⟩ : ByteArray) ++ str s = str a1 := by rw [← ha1]; exact str_append [81, 45, 110, 101, 119, 58, 32] s
  have hz2 : str a1 ++ (⟨#[13, 10]⟩ : ByteArray) = str ah := by rw [← hah, ← ha1]; exact str_append _ [13, 10]
  have hno1 : ¬ 9223372036854775807 < 7 + (str s).size := by
    have h2 : (str s).size = s.length := rfl
    omega
  have hno2 : ¬ 9223372036854775807 < (str a1).size + 2 := by
    have h1 : (str a1).size = s.length + 7 := by rw [← ha1, str_size, List.length_append]; simp; omega
    omega
  obtain ⟨an, han⟩ : ∃ an, ah.length = an := ⟨_, rfl⟩
  have hasz : (str ah).size = an := han
  have han2 : an ≤ 69 := by rw [← han, ← hah, aheadL_len]; omega
  have HAN := hid han
  have HAH := hid hah
  clear ha1 hah han
  obtain ⟨bq, hbq⟩ : ∃ b, bl (lb.headD 1) = b := ⟨_, rfl⟩
  have HBQ := hid hbq
  go_upto_region 9 with fail
  go_cut [61] (fun s61 wx => s61 = .bool bq ∧ w = wx)
  case first =>
    clear HKC hz1 hz2 hno1 hno2
    rcases (by cases lb with | nil => exact .inl rfl | cons c r => exact .inr ⟨c, r, rfl⟩ : lb = [] ∨ ∃ c r, lb = c :: r) with h | ⟨z, r, h⟩
    · have hk0 : k0 = 0 := by rw [← HLL.out, h]; rfl
      have hf : bq = false := by rw [← hbq, h]; rfl
      clear hbq HBQ
      subst hk0 hf
      go_wp2_with fail
      go_meet
      exact ⟨rfl, rfl⟩
    · have hk0 : 0 < k0 := by rw [← HLL.out, h]; exact Nat.succ_pos _
      have d1 : decide ((0 : Int) < (k0 : Int)) = true := by rw [decide_eq_true_iff]; omega
      have d1' : decide (0 < k0) = true := by rw [decide_eq_true_iff]; omega
      obtain ⟨b, off, rfl, hcell⟩ := HO.out.at_ hk0
      have hz0 : w.cell? ⟨b, off, none⟩ = some (.int .u8 (z.toNat : Int)) := by
        subst h
        have := hcell 0 (by simp)
        rwa [Nat.add_zero] at this
      have hbz : bl z = bq := by rw [← hbq, h]; rfl
      have hk1 : (0 : Int) < (k0 : Int) := by omega
      obtain ⟨zn, hzn⟩ : ∃ zn, z.toNat = zn := ⟨_, rfl⟩
      unfold bl at hbz
      rw [hzn] at hz0 hbz
      clear hcell h hbq HBQ
      by_cases h32 : zn = 32
      · subst h32
        have hf : bq = true := by rw [← hbz]; rfl
        clear hbz
        subst hf
        go_wp2_with fail
        go_meet
        exact ⟨rfl, rfl⟩
      · have g1 : ((zn : Int) == 32) = false := ne_f h32
        have g1' := ne_n h32
        by_cases h9 : zn = 9
        · subst h9
          have hf : bq = true := by rw [← hbz]; rfl
          clear hbz
          subst hf
          go_wp2_with fail
          go_meet
          exact ⟨rfl, rfl⟩
        · have g2 : ((zn : Int) == 9) = false := ne_f h9
          have g2' := ne_n h9
          have hf : bq = false := by rw [← hbz, g1', g2']; rfl
          clear hbz
          subst hf
          go_wp2_with fail
          go_meet
          exact ⟨rfl, rfl⟩
  case rest =>
  obtain ⟨rfl, rfl⟩ := hcut
  clear hbq
  cases bq with
  | true =>
    clear hz1 hz2 hno1 hno2 HBQ
    go_wp2_with (go_at_call 14; refine (awake_any _).mono ?_; rintro e w7 ⟨rfl, b⟩; have HB := hid b; clear b)
    go_ret
    exact ⟨rfl, HB.out⟩
  | false =>
  have HHB : Hid (∀ c r, lb = c :: r → bl c = false) := hid (fun c r h => by
    have := HBQ.out
    rw [h] at this
    exact this)
  obtain ⟨AX, kx, cx, w2, hrun, hkx, hkcx, hox, hbx⟩ := append_bytes w ah lb A k0 c 22 HO.out (by rw [HAN.out]; omega) hkc
  have kcb : (convert 9 22 (.string (str ah))).run Tryd.prog w = .ok (.slice (some ⟨w.heap.size, 0, none⟩) (str ah).size (grownCap w (str ah).size 0 5)) (bytesW w 5 ah) := run_bytes_of_string w 9 22 5 (str ah) Tryd.underlying9 Tryd.underlying22 Tryd.underlying5
  obtain ⟨cap, hcap⟩ : ∃ cap, grownCap w (str ah).size 0 5 = cap := ⟨_, rfl⟩
  rw [hcap] at hrun kcb
  rw [hasz] at hrun kcb
  obtain ⟨W1, hW1⟩ : ∃ W1, bytesW w 5 ah = W1 := ⟨_, rfl⟩
  rw [hW1] at hrun kcb
  clear hW1 hcap
  obtain ⟨xl, hxl⟩ : ∃ xl, ah ++ lb = xl := ⟨_, rfl⟩
  rw [hxl] at hox
  have HXL : Hid (xl = aheadL s ++ lb) := hid (by rw [← hxl, HAH.out])
  have hkx1 : kx ≤ 100000 := by rw [hkx, HAN.out]; omega
  have HOX := hid hox
  have HBX := hid hbx
  have HKX := hid hkcx
  have hfx := (ahead_fields (s := s) (b := lb) HVI.out HHB.out).1
  have hsx := (ahead_fields (s := s) (b := lb) HVI.out HHB.out).2
  have hfnd := ahead_find (s := s) (b := lb) HVI.out HHB.out
  rw [← HXL.out] at hfx hsx hfnd
  rw [HAH.out, HAN.out] at hfx hsx
  have HFX0 := hid hfx
  have HFX := hid (fields_any AX kx cx xl w2 HOX.out HKX.out hkx1)
  have HFB := hid (fun X (hX : Below w.heap.size w X) => fields_any A k0 c lb X (HO.out.below hX) HKC.out hkc)
  have HSX := hid (fun X (hX : Below w2.heap.size w2 X) => split_any AX kx cx xl X (HOX.out.below hX) HKX.out hkx1)
  have HSB := hid (fun X (hX : Below w.heap.size w X) => split_any A k0 c lb X (HO.out.below hX) HKC.out hkc)
  obtain ⟨k, hk2⟩ : ∃ k, (fieldsL lb).length = k := ⟨_, rfl⟩
  have hk3 : (fieldsL xl).length = k + 1 := by rw [HFX0.out, List.length_cons, List.length_map, hk2]
  have hfl := fields_len lb
  rw [hk2] at HFB hfl
  rw [hk3] at HFX
  have HK := hid hk2
  have HK3 := hid hk3
  have hk4 : k ≤ 100000 := by have := HLL.out; omega
  obtain ⟨sp, hsp⟩ : ∃ sp, splitL lb = sp := ⟨_, rfl⟩
  rw [hsp] at hsx HSB
  rw [hsx] at HSX
  have hsl2 : sp ≤ 100000 := by have := split_le lb; have := HLL.out; omega
  have hcst : ((an + sp : Nat) : Int) = (an : Int) + (sp : Int) := by omega
  rw [hcst] at HSX
  have HFD := hid (fun X (hX : Below w2.heap.size w2 X) => find_any AX kx cx xl [113, 45, 78, 69, 87] X (HOX.out.below hX) HKX.out hkx1)
  rw [hfnd] at HFD
  unfold fdO at HFD
  have hlit : str [113, 45, 78, 69, 87] = ⟨#[113, 45, 78, 69, 87]⟩ := rfl
  rw [hlit] at HFD
  have q0 : ((⟨#[81, 45, 110, 101, 119]⟩ : ByteArray) != ⟨#[81, 45, 110, 101, 119]⟩) = false := by kernel_rfl
  have q1 : (str s == str s) = true := str_self _
  clear hz1 hz2 hno1 hno2 HBQ hkx hkcx hox hbx hxl hfx hsx hfnd hk2 hk3 hfl hsp hcst hlit
  go_wp2_with (first
    | (refine wpList_append_run rfl (.tmp 64) (.tmp 65) rfl rfl rfl hrun ?_; clear hrun kcb)
    | (go_at_call 17; refine HFX.out.mono ?_; rintro e w3 ⟨v, rfl, ho3, b3⟩; obtain ⟨A3, c3, rfl, -⟩ := own_slice ho3; have HR3 := hid (Row.of_own ho3); have HB3 := hid b3; clear ho3 b3 HFX)
    | (go_at_call 17; refine (HFB.out _ (past HBX.out HB3.out)).mono ?_; rintro e w4 ⟨v, rfl, ho4, b4⟩; obtain ⟨A4, c4, rfl, -⟩ := own_slice ho4; have HR4 := hid (Row.of_own ho4); have HR34 := hid (HR3.out.below b4); have HB4 := hid (past HB3.out b4)
       clear ho4 b4 HFB
       obtain ⟨b1, o1, rfl, hc1⟩ := fd_at HR34.out (k := 0) (by rw [HK3.out]; exact Nat.succ_pos _)
       have hx0 := hc1 0 (by rw [HK3.out]; exact Nat.succ_pos _)
       have hf0 : (fieldsL xl)[0]'(by rw [HK3.out]; exact Nat.succ_pos _) = ⟨[81, 45, 110, 101, 119], 0, an, 6⟩ := by
         simp only [HFX0.out, List.getElem_cons_zero]
       rw [hf0] at hx0
       dsimp only at hx0
       have HX0 : Hid (∀ X, Below w4.heap.size w4 X → X.cell? ⟨b1, o1, none⟩ = some (.string ⟨#[81, 45, 110, 101, 119]⟩) ∧ X.cell? ⟨b1, o1 + 1, none⟩ = some (.int .i64 0) ∧ X.cell? ⟨b1, o1 + 2, none⟩ = some (.int .i64 (an : Int))) := hid (fun X hX => ⟨cells_keep hX (by rw [Nat.zero_mul, Nat.add_zero] at hx0; exact hx0.1), cells_keep hX (by rw [Nat.zero_mul, Nat.add_zero] at hx0; exact hx0.2.1), cells_keep hX (by rw [Nat.zero_mul, Nat.add_zero] at hx0; exact hx0.2.2.1)⟩)
       have y0 := (HX0.out w4 (Below.refl _ _)).1
       have y1 := (HX0.out w4 (Below.refl _ _)).2.1
       have y2 := (HX0.out w4 (Below.refl _ _)).2.2
       clear hc1 hx0 hf0)
    | (go_at_call 18; refine (HSX.out _ HB4.out).mono ?_; rintro e w5 ⟨rfl, b⟩; have HB5 := hid (past HB4.out b); have HL5 := hid b; clear b HSX)
    | (go_at_call 18; refine (HSB.out _ (past HBX.out HB5.out)).mono ?_; rintro e w6 ⟨rfl, b⟩; have HB6 := hid (past HB5.out b); have HL6 := hid (past HL5.out b); clear b HSB))
  clear y0 y1 y2 HX0
  go_loopw [11] (fun v11 wr => ∃ j : Nat, j ≤ k ∧ v11 = .int .i64 (j : Int) ∧ Hid (Below w4.heap.size w4 wr)) (fun v11 wr => k - (intOf v11).toNat)
  case atStart => exact ⟨0, Nat.zero_le _, rfl, HL6⟩
  case round =>
    obtain ⟨j, hj, rfl, HBL⟩ := hrel
    rename World => wr
    by_cases hlt : j < k
    · have d1 := lt_t hlt
      have d1' := lt_nt hlt
      have e0 : (0 : Int) ≤ (j : Int) := by omega
      have e1 : (j : Int) < (k : Int) := by omega
      have e1' : (j : Int) + 1 < (k : Int) + 1 := by omega
      have e3 : (j : Int).toNat = j := by omega
      have e4 : ((j : Int) + 1).toNat = j + 1 := by omega
      have hjl : j < (fieldsL lb).length := by rw [HK.out]; exact hlt
      have hjx : j + 1 < (fieldsL xl).length := by rw [HK3.out]; omega
      obtain ⟨b2, o2, rfl, hc2⟩ := fd_at HR4.out hjl
      obtain ⟨b1', o1', hb1, hc1⟩ := fd_at HR34.out hjx
      injection hb1 with hb1
      injection hb1 with h3 h4
      subst h3 h4
      obtain ⟨x, hx⟩ : ∃ x, (fieldsL lb)[j]'hjl = x := ⟨_, rfl⟩
      have hxx : (fieldsL xl)[j + 1]'hjx = shF an x := by
        simp only [HFX0.out, List.getElem_cons_succ, List.getElem_map, hx]
      have hm1 : x ∈ fieldsL lb := hx ▸ List.getElem_mem hjl
      have hm2 : shF an x ∈ fieldsL xl := hxx ▸ List.getElem_mem hjx
      have p0 := cells_keep HBL.out (hc1 (j + 1) hjx).1
      have p1 := cells_keep HBL.out (hc1 (j + 1) hjx).2.1
      have p2 := cells_keep HBL.out (hc1 (j + 1) hjx).2.2.1
      have p3 := cells_keep HBL.out (hc1 (j + 1) hjx).2.2.2
      rw [hxx] at p0 p1 p2 p3
      unfold shF at p0 p1 p2 p3
      dsimp only at p0 p1 p2 p3
      have k1 : ((x.fr + an : Nat) : Int) = (x.fr : Int) + (an : Int) := by omega
      have k2 : ((x.te + an : Nat) : Int) = (x.te : Int) + (an : Int) := by omega
      have k3 : ((x.at_ + an : Nat) : Int) = (x.at_ : Int) + (an : Int) := by omega
      rw [k1] at p1
      rw [k2] at p2
      rw [k3] at p3
      have HTX := hid (fun X (hX : Below w2.heap.size w2 X) => Text_any AX kx cx xl (shF an x).toI X (HOX.out.below hX) HKX.out hkx1)
      have HTB := hid (fun X (hX : Below w.heap.size w X) => Text_any A k0 c lb x.toI X (HO.out.below hX) HKC.out hkc)
      have hsame : fdText xl (shF an x) = fdText lb x := by
        rw [HXL.out, ← HAN.out, ← HAH.out]
        exact sh_text s lb x
      rw [textI_mem hm2, hsame] at HTX
      rw [textI_mem hm1] at HTB
      unfold Fd.toI shF at HTX
      unfold Fd.toI at HTB
      dsimp only at HTX HTB
      rw [k1, k2, k3] at HTX
      obtain ⟨y, hy⟩ : ∃ y, fdText lb x = y := ⟨_, rfl⟩
      rw [hy] at HTX HTB
      have hfb := field_bounds hm1
      have hlb := HLL.out
      have mw1 : IntKind.i64.wrap ((x.fr : Int) + (an : Int)) = (x.fr : Int) + (an : Int) := by rw [IntKind.wrap_i64]; omega
      have mw2 : IntKind.i64.wrap ((x.te : Int) + (an : Int)) = (x.te : Int) + (an : Int) := by rw [IntKind.wrap_i64]; omega
      have qn : (str x.nm != str x.nm) = false := by rw [bne, str_self]; rfl
      have qy : (str y != str y) = false := by rw [bne, str_self]; rfl
      have c20 := cells_keep HBL.out (hc2 j hjl).1
      have c21 := cells_keep HBL.out (hc2 j hjl).2.1
      have c22 := cells_keep HBL.out (hc2 j hjl).2.2.1
      have c23 := cells_keep HBL.out (hc2 j hjl).2.2.2
      rw [hx] at c20 c21 c22 c23
      have HC2 := hid (And.intro c20 (And.intro c21 (And.intro c22 c23)))
      have HMW := hid (And.intro mw1 mw2)
      clear hc1 hc2 hx hxx hm1 hm2 hjl hjx hsame hy hfb hlb k1 k2 k3 mw1 mw2 c20 c21 c22 c23
      go_upto_region 19 with fail
      obtain ⟨g, hg⟩ : ∃ g, wr.heap.size = g := ⟨_, rfl⟩
      obtain ⟨W2, hW2⟩ : ∃ W2, wr.alloc (.cells #[.string (str x.nm), .int .i64 ((x.fr : Int) + (an : Int)), .int .i64 ((x.te : Int) + (an : Int)), .int .i64 ((x.at_ : Int) + (an : Int))] 39) = W2 := ⟨_, rfl⟩
      have hE : OwnE W2 g 39 [.string (str x.nm), .int .i64 ((x.fr : Int) + (an : Int)), .int .i64 ((x.te : Int) + (an : Int)), .int .i64 ((x.at_ : Int) + (an : Int))] := by rw [← hW2, ← hg]; exact OwnE.new_ wr _ _
      have hbW : Below wr.heap.size wr W2 := by rw [← hW2]; exact (Below.refl _ wr).alloc (Nat.le_refl _) _
      rw [hW2, hg]
      have HBW := hid (past HBL.out hbW)
      have hS : ((W2.drew.cell? ⟨g, 0, none⟩ = some (.string (str x.nm)) ∧ W2.drew.cell? ⟨g, 1, none⟩ = some (.int .i64 ((x.fr : Int) + (an : Int))) ∧ W2.drew.cell? ⟨g, 2, none⟩ = some (.int .i64 ((x.te : Int) + (an : Int))) ∧ W2.drew.cell? ⟨g, 3, none⟩ = some (.int .i64 ((x.at_ : Int) + (an : Int)))) ∧ W2.drew.cell? ⟨b2, o2 + j * 4, none⟩ = some (.string (str x.nm)) ∧ W2.drew.cell? ⟨b2, o2 + j * 4 + 1, none⟩ = some (.int .i64 (x.fr : Int)) ∧ W2.drew.cell? ⟨b2, o2 + j * 4 + 2, none⟩ = some (.int .i64 (x.te : Int)) ∧ W2.drew.cell? ⟨b2, o2 + j * 4 + 3, none⟩ = some (.int .i64 (x.at_ : Int))) ∧ Hid (Below w4.heap.size w4 W2.drew) := ⟨⟨⟨hE.cell (j := 0) rfl, hE.cell (j := 1) rfl, hE.cell (j := 2) rfl, hE.cell (j := 3) rfl⟩, cells_keep hbW HC2.out.1, cells_keep hbW HC2.out.2.1, cells_keep hbW HC2.out.2.2.1, cells_keep hbW HC2.out.2.2.2⟩, hid (bq HBW.out 1)⟩
      clear hW2 hE hbW p0 p1 p2 p3
      have mw1 := HMW.out.1
      have mw2 := HMW.out.2
      refine wp_region_noPanic ?_
      refine wp_region_held_drew (S := (fun W => ((W.cell? ⟨g, 0, none⟩ = some (.string (str x.nm)) ∧ W.cell? ⟨g, 1, none⟩ = some (.int .i64 ((x.fr : Int) + (an : Int))) ∧ W.cell? ⟨g, 2, none⟩ = some (.int .i64 ((x.te : Int) + (an : Int))) ∧ W.cell? ⟨g, 3, none⟩ = some (.int .i64 ((x.at_ : Int) + (an : Int)))) ∧ W.cell? ⟨b2, o2 + j * 4, none⟩ = some (.string (str x.nm)) ∧ W.cell? ⟨b2, o2 + j * 4 + 1, none⟩ = some (.int .i64 (x.fr : Int)) ∧ W.cell? ⟨b2, o2 + j * 4 + 2, none⟩ = some (.int .i64 (x.te : Int)) ∧ W.cell? ⟨b2, o2 + j * 4 + 3, none⟩ = some (.int .i64 (x.at_ : Int))) ∧ Hid (Below w4.heap.size w4 W))) (by kernel_rfl) (by first | assumption | trivial) (fun hHeld => ?_)
      refine wpAnyH_take (i := 0) (v := ?_) rfl (by kernel_rfl) (by kernel_rfl) (by kernel_rfl) (fun _ _ _ h => h) (Or.inl ⟨by kernel_rfl, ?_⟩) (by first | assumption | trivial) ?_
      rotate_left
      · (intro wS hSw; (try dsimp only at hSw); go_simp; try with_reducible rfl)
      (try simp only [List.append_eq, List.cons_append, List.nil_append, List.getElem_toArray, List.getElem_cons_succ, List.getElem_cons_zero, Act.put, List.setIfInBounds_toArray, List.set_cons_zero, List.set_cons_succ])
      refine wpAnyH_take (i := 1) (v := ?_) rfl (by kernel_rfl) (by kernel_rfl) (by kernel_rfl) (fun _ _ _ h => h) (Or.inl ⟨by kernel_rfl, ?_⟩) (by first | assumption | trivial) ?_
      rotate_left
      · (intro wS hSw; (try dsimp only at hSw); go_simp; try with_reducible rfl)
      (try simp only [List.append_eq, List.cons_append, List.nil_append, List.getElem_toArray, List.getElem_cons_succ, List.getElem_cons_zero, Act.put, List.setIfInBounds_toArray, List.set_cons_zero, List.set_cons_succ])
      refine wpAnyH_take (i := 2) (v := ?_) rfl (by kernel_rfl) (by kernel_rfl) (by kernel_rfl) (fun _ _ _ h => h) (Or.inl ⟨by kernel_rfl, ?_⟩) (by first | assumption | trivial) ?_
      rotate_left
      · (intro wS hSw; (try dsimp only at hSw); go_simp; try with_reducible rfl)
      (try simp only [List.append_eq, List.cons_append, List.nil_append, List.getElem_toArray, List.getElem_cons_succ, List.getElem_cons_zero, Act.put, List.setIfInBounds_toArray, List.set_cons_zero, List.set_cons_succ])
      refine wpAnyH_take (i := 3) (v := ?_) rfl (by kernel_rfl) (by kernel_rfl) (by kernel_rfl) (fun _ _ _ h => h) (Or.inl ⟨by kernel_rfl, ?_⟩) (by first | assumption | trivial) ?_
      rotate_left
      · (intro wS hSw; (try dsimp only at hSw); go_simp; try with_reducible rfl)
      (try simp only [List.append_eq, List.cons_append, List.nil_append, List.getElem_toArray, List.getElem_cons_succ, List.getElem_cons_zero, Act.put, List.setIfInBounds_toArray, List.set_cons_zero, List.set_cons_succ])
      refine wpAnyH_take (i := 4) (v := ?_) rfl (by kernel_rfl) (by kernel_rfl) (by kernel_rfl) (fun _ _ _ h => h) (Or.inl ⟨by kernel_rfl, ?_⟩) (by first | assumption | trivial) ?_
      rotate_left
      · (intro wS hSw; (try dsimp only at hSw); go_simp; try with_reducible rfl)
      (try simp only [List.append_eq, List.cons_append, List.nil_append, List.getElem_toArray, List.getElem_cons_succ, List.getElem_cons_zero, Act.put, List.setIfInBounds_toArray, List.set_cons_zero, List.set_cons_succ])
      refine wpAnyH_take (i := 5) (v := ?_) rfl (by kernel_rfl) (by kernel_rfl) (by kernel_rfl) (fun _ _ _ h => h) (Or.inl ⟨by kernel_rfl, ?_⟩) (by first | assumption | trivial) ?_
      rotate_left
      · (intro wS hSw; (try dsimp only at hSw); go_simp; try with_reducible rfl)
      (try simp only [List.append_eq, List.cons_append, List.nil_append, List.getElem_toArray, List.getElem_cons_succ, List.getElem_cons_zero, Act.put, List.setIfInBounds_toArray, List.set_cons_zero, List.set_cons_succ])
      refine wpAnyH_take (i := 6) (v := ?_) rfl (by kernel_rfl) (by kernel_rfl) (by kernel_rfl) (fun _ _ _ h => h) (Or.inl ⟨by kernel_rfl, ?_⟩) (by first | assumption | trivial) ?_
      rotate_left
      · (intro wS hSw; (try dsimp only at hSw); go_simp; try with_reducible rfl)
      (try simp only [List.append_eq, List.cons_append, List.nil_append, List.getElem_toArray, List.getElem_cons_succ, List.getElem_cons_zero, Act.put, List.setIfInBounds_toArray, List.set_cons_zero, List.set_cons_succ])
      refine wpAnyH_take (i := 7) (v := ?_) rfl (by kernel_rfl) (by kernel_rfl) (by kernel_rfl) (fun _ _ _ h => h) (Or.inl ⟨by kernel_rfl, ?_⟩) (by first | assumption | trivial) ?_
      rotate_left
      · (intro wS hSw; (try dsimp only at hSw); go_simp; try with_reducible rfl)
      (try simp only [List.append_eq, List.cons_append, List.nil_append, List.getElem_toArray, List.getElem_cons_succ, List.getElem_cons_zero, Act.put, List.setIfInBounds_toArray, List.set_cons_zero, List.set_cons_succ])
      refine wpAnyH_take (i := 8) (v := ?_) rfl (by kernel_rfl) (by kernel_rfl) (by kernel_rfl) (fun _ _ _ h => h) (Or.inl ⟨by kernel_rfl, ?_⟩) (by first | assumption | trivial) ?_
      rotate_left
      · (intro wS hSw; (try dsimp only at hSw); go_simp; try with_reducible rfl)
      (try simp only [List.append_eq, List.cons_append, List.nil_append, List.getElem_toArray, List.getElem_cons_succ, List.getElem_cons_zero, Act.put, List.setIfInBounds_toArray, List.set_cons_zero, List.set_cons_succ])
      refine wpAnyH_take (i := 9) (v := ?_) rfl (by kernel_rfl) (by kernel_rfl) (by kernel_rfl) (fun _ _ _ h => h) (Or.inl ⟨by kernel_rfl, ?_⟩) (by first | assumption | trivial) ?_
      rotate_left
      · (intro wS hSw; (try dsimp only at hSw); go_simp; try with_reducible rfl)
      (try simp only [List.append_eq, List.cons_append, List.nil_append, List.getElem_toArray, List.getElem_cons_succ, List.getElem_cons_zero, Act.put, List.setIfInBounds_toArray, List.set_cons_zero, List.set_cons_succ])
      refine wpAnyH_take (i := 10) (v := ?_) rfl (by kernel_rfl) (by kernel_rfl) (by kernel_rfl) (fun _ _ _ h => h) (Or.inl ⟨by kernel_rfl, ?_⟩) (by first | assumption | trivial) ?_
      rotate_left
      · (intro wS hSw; (try dsimp only at hSw); go_simp; try with_reducible rfl)
      (try simp only [List.append_eq, List.cons_append, List.nil_append, List.getElem_toArray, List.getElem_cons_succ, List.getElem_cons_zero, Act.put, List.setIfInBounds_toArray, List.set_cons_zero, List.set_cons_succ])
      refine wpAnyH_take (i := 11) (v := ?_) rfl (by kernel_rfl) (by kernel_rfl) (by kernel_rfl) (fun _ _ _ h => h) (Or.inl ⟨by kernel_rfl, ?_⟩) (by first | assumption | trivial) ?_
      rotate_left
      · (intro wS hSw; (try dsimp only at hSw); go_simp; try with_reducible rfl)
      (try simp only [List.append_eq, List.cons_append, List.nil_append, List.getElem_toArray, List.getElem_cons_succ, List.getElem_cons_zero, Act.put, List.setIfInBounds_toArray, List.set_cons_zero, List.set_cons_succ])
      refine wpAnyH_take (i := 12) (v := ?_) rfl (by kernel_rfl) (by kernel_rfl) (by kernel_rfl) (fun _ _ _ h => h) (Or.inl ⟨by kernel_rfl, ?_⟩) (by first | assumption | trivial) ?_
      rotate_left
      · (intro wS hSw; (try dsimp only at hSw); go_simp; try with_reducible rfl)
      (try simp only [List.append_eq, List.cons_append, List.nil_append, List.getElem_toArray, List.getElem_cons_succ, List.getElem_cons_zero, Act.put, List.setIfInBounds_toArray, List.set_cons_zero, List.set_cons_succ])
      refine wpAnyH_take (i := 13) (v := ?_) rfl (by kernel_rfl) (by kernel_rfl) (by kernel_rfl) (fun _ _ _ h => h) (Or.inl ⟨by kernel_rfl, ?_⟩) (by first | assumption | trivial) ?_
      rotate_left
      · (intro wS hSw; (try dsimp only at hSw); go_simp; try with_reducible rfl)
      (try simp only [List.append_eq, List.cons_append, List.nil_append, List.getElem_toArray, List.getElem_cons_succ, List.getElem_cons_zero, Act.put, List.setIfInBounds_toArray, List.set_cons_zero, List.set_cons_succ])
      refine wpAnyH_take (i := 14) (v := ?_) rfl (by kernel_rfl) (by kernel_rfl) (by kernel_rfl) (fun _ _ _ h => h) (Or.inl ⟨by kernel_rfl, ?_⟩) (by first | assumption | trivial) ?_
      rotate_left
      · (intro wS hSw; (try dsimp only at hSw); go_simp; try with_reducible rfl)
      (try simp only [List.append_eq, List.cons_append, List.nil_append, List.getElem_toArray, List.getElem_cons_succ, List.getElem_cons_zero, Act.put, List.setIfInBounds_toArray, List.set_cons_zero, List.set_cons_succ])
      refine wpAnyH_take (i := 15) (v := ?_) rfl (by kernel_rfl) (by kernel_rfl) (by kernel_rfl) (fun _ _ _ h => h) (Or.inl ⟨by kernel_rfl, ?_⟩) (by first | assumption | trivial) ?_
      rotate_left
      · (intro wS hSw; (try dsimp only at hSw); go_simp; try with_reducible rfl)
      (try simp only [List.append_eq, List.cons_append, List.nil_append, List.getElem_toArray, List.getElem_cons_succ, List.getElem_cons_zero, Act.put, List.setIfInBounds_toArray, List.set_cons_zero, List.set_cons_succ])
      refine wpAnyH_take (i := 16) (v := ?_) rfl (by kernel_rfl) (by kernel_rfl) (by kernel_rfl) (fun _ _ _ h => h) (Or.inl ⟨by kernel_rfl, ?_⟩) (by first | assumption | trivial) ?_
      rotate_left
      · (intro wS hSw; (try dsimp only at hSw); go_simp; try with_reducible rfl)
      (try simp only [List.append_eq, List.cons_append, List.nil_append, List.getElem_toArray, List.getElem_cons_succ, List.getElem_cons_zero, Act.put, List.setIfInBounds_toArray, List.set_cons_zero, List.set_cons_succ])
      refine wpAnyH_ready (rs := [17]) (by kernel_rfl) (by simp) ?_
      refine AllReadyH.cons rfl (fun K hK => ?_) AllReadyH.nil
      go_simp
      skip
      go_wp2_with fail
      refine hK.out _ _ (by first | assumption | trivial) (fun hHeld => ?_)
      clear hK K
      (try simp only [List.append_eq, List.cons_append, List.nil_append, List.getElem_toArray, List.getElem_cons_succ, List.getElem_cons_zero, Act.put, List.setIfInBounds_toArray, List.set_cons_zero, List.set_cons_succ])
      refine wpAnyH_take (i := 18) (v := ?_) rfl (by kernel_rfl) (by kernel_rfl) (by kernel_rfl) (fun _ _ _ h => h) (Or.inl ⟨by kernel_rfl, ?_⟩) (by first | assumption | trivial) ?_
      rotate_left
      · (intro wS hSw; (try dsimp only at hSw); go_simp; try with_reducible rfl)
      (try simp only [List.append_eq, List.cons_append, List.nil_append, List.getElem_toArray, List.getElem_cons_succ, List.getElem_cons_zero, Act.put, List.setIfInBounds_toArray, List.set_cons_zero, List.set_cons_succ])
      refine wpAnyH_take (i := 19) (v := ?_) rfl (by kernel_rfl) (by kernel_rfl) (by kernel_rfl) (fun _ _ _ h => h) (Or.inl ⟨by kernel_rfl, ?_⟩) (by first | assumption | trivial) ?_
      rotate_left
      · (intro wS hSw; (try dsimp only at hSw); go_simp; try with_reducible rfl)
      (try simp only [List.append_eq, List.cons_append, List.nil_append, List.getElem_toArray, List.getElem_cons_succ, List.getElem_cons_zero, Act.put, List.setIfInBounds_toArray, List.set_cons_zero, List.set_cons_succ])
      refine wpAnyH_take (i := 20) (v := ?_) rfl (by kernel_rfl) (by kernel_rfl) (by kernel_rfl) (fun _ _ _ h => h) (Or.inl ⟨by kernel_rfl, ?_⟩) (by first | assumption | trivial) ?_
      rotate_left
      · (intro wS hSw; (try dsimp only at hSw); go_simp; try with_reducible rfl)
      (try simp only [List.append_eq, List.cons_append, List.nil_append, List.getElem_toArray, List.getElem_cons_succ, List.getElem_cons_zero, Act.put, List.setIfInBounds_toArray, List.set_cons_zero, List.set_cons_succ])
      refine wpAnyH_take (i := 21) (v := ?_) rfl (by kernel_rfl) (by kernel_rfl) (by kernel_rfl) (fun _ _ _ h => h) (Or.inl ⟨by kernel_rfl, ?_⟩) (by first | assumption | trivial) ?_
      rotate_left
      · (intro wS hSw; (try dsimp only at hSw); go_simp; try with_reducible rfl)
      (try simp only [List.append_eq, List.cons_append, List.nil_append, List.getElem_toArray, List.getElem_cons_succ, List.getElem_cons_zero, Act.put, List.setIfInBounds_toArray, List.set_cons_zero, List.set_cons_succ])
      refine wpAnyH_take (i := 22) (v := ?_) rfl (by kernel_rfl) (by kernel_rfl) (by kernel_rfl) (fun _ _ _ h => h) (Or.inl ⟨by kernel_rfl, ?_⟩) (by first | assumption | trivial) ?_
      rotate_left
      · (intro wS hSw; (try dsimp only at hSw); go_simp; try with_reducible rfl)
      (try simp only [List.append_eq, List.cons_append, List.nil_append, List.getElem_toArray, List.getElem_cons_succ, List.getElem_cons_zero, Act.put, List.setIfInBounds_toArray, List.set_cons_zero, List.set_cons_succ])
      refine wpAnyH_take (i := 23) (v := ?_) rfl (by kernel_rfl) (by kernel_rfl) (by kernel_rfl) (fun _ _ _ h => h) (Or.inl ⟨by kernel_rfl, ?_⟩) (by first | assumption | trivial) ?_
      rotate_left
      · (intro wS hSw; (try dsimp only at hSw); go_simp; try with_reducible rfl)
      (try simp only [List.append_eq, List.cons_append, List.nil_append, List.getElem_toArray, List.getElem_cons_succ, List.getElem_cons_zero, Act.put, List.setIfInBounds_toArray, List.set_cons_zero, List.set_cons_succ])
      refine wpAnyH_take (i := 24) (v := ?_) rfl (by kernel_rfl) (by kernel_rfl) (by kernel_rfl) (fun _ _ _ h => h) (Or.inl ⟨by kernel_rfl, ?_⟩) (by first | assumption | trivial) ?_
      rotate_left
      · (intro wS hSw; (try dsimp only at hSw); go_simp; try with_reducible rfl)
      (try simp only [List.append_eq, List.cons_append, List.nil_append, List.getElem_toArray, List.getElem_cons_succ, List.getElem_cons_zero, Act.put, List.setIfInBounds_toArray, List.set_cons_zero, List.set_cons_succ])
      refine wpAnyH_take (i := 25) (v := ?_) rfl (by kernel_rfl) (by kernel_rfl) (by kernel_rfl) (fun _ _ _ h => h) (Or.inl ⟨by kernel_rfl, ?_⟩) (by first | assumption | trivial) ?_
      rotate_left
      · (intro wS hSw; (try dsimp only at hSw); go_simp; try with_reducible rfl)
      (try simp only [List.append_eq, List.cons_append, List.nil_append, List.getElem_toArray, List.getElem_cons_succ, List.getElem_cons_zero, Act.put, List.setIfInBounds_toArray, List.set_cons_zero, List.set_cons_succ])
      refine wpAnyH_take (i := 26) (v := ?_) rfl (by kernel_rfl) (by kernel_rfl) (by kernel_rfl) (fun _ _ _ h => h) (Or.inl ⟨by kernel_rfl, ?_⟩) (by first | assumption | trivial) ?_
      rotate_left
      · (intro wS hSw; (try dsimp only at hSw); go_simp; try with_reducible rfl)
      (try simp only [List.append_eq, List.cons_append, List.nil_append, List.getElem_toArray, List.getElem_cons_succ, List.getElem_cons_zero, Act.put, List.setIfInBounds_toArray, List.set_cons_zero, List.set_cons_succ])
      refine wpAnyH_take (i := 27) (v := ?_) rfl (by kernel_rfl) (by kernel_rfl) (by kernel_rfl) (fun _ _ _ h => h) (Or.inl ⟨by kernel_rfl, ?_⟩) (by first | assumption | trivial) ?_
      rotate_left
      · (intro wS hSw; (try dsimp only at hSw); go_simp; try with_reducible rfl)
      (try simp only [List.append_eq, List.cons_append, List.nil_append, List.getElem_toArray, List.getElem_cons_succ, List.getElem_cons_zero, Act.put, List.setIfInBounds_toArray, List.set_cons_zero, List.set_cons_succ])
      refine wpAnyH_take (i := 28) (v := ?_) rfl (by kernel_rfl) (by kernel_rfl) (by kernel_rfl) (fun _ _ _ h => h) (Or.inl ⟨by kernel_rfl, ?_⟩) (by first | assumption | trivial) ?_
      rotate_left
      · (intro wS hSw; (try dsimp only at hSw); go_simp; try with_reducible rfl)
      (try simp only [List.append_eq, List.cons_append, List.nil_append, List.getElem_toArray, List.getElem_cons_succ, List.getElem_cons_zero, Act.put, List.setIfInBounds_toArray, List.set_cons_zero, List.set_cons_succ])
      refine wpAnyH_take (i := 29) (v := ?_) rfl (by kernel_rfl) (by kernel_rfl) (by kernel_rfl) (fun _ _ _ h => h) (Or.inl ⟨by kernel_rfl, ?_⟩) (by first | assumption | trivial) ?_
      rotate_left
      · (intro wS hSw; (try dsimp only at hSw); go_simp; try with_reducible rfl)
      (try simp only [List.append_eq, List.cons_append, List.nil_append, List.getElem_toArray, List.getElem_cons_succ, List.getElem_cons_zero, Act.put, List.setIfInBounds_toArray, List.set_cons_zero, List.set_cons_succ])
      refine wpAnyH_ready (rs := [30]) (by kernel_rfl) (by simp) ?_
      refine AllReadyH.cons rfl (fun K hK => ?_) AllReadyH.nil
      go_simp
      skip
      go_wp2_with fail
      refine hK.out _ _ (by first | assumption | trivial) (fun hHeld => ?_)
      clear hK K
      (try simp only [List.append_eq, List.cons_append, List.nil_append, List.getElem_toArray, List.getElem_cons_succ, List.getElem_cons_zero, Act.put, List.setIfInBounds_toArray, List.set_cons_zero, List.set_cons_succ])
      refine wpAnyH_take (i := 31) (v := ?_) rfl (by kernel_rfl) (by kernel_rfl) (by kernel_rfl) (fun _ _ _ h => h) (Or.inl ⟨by kernel_rfl, ?_⟩) (by first | assumption | trivial) ?_
      rotate_left
      · (intro wS hSw; (try dsimp only at hSw); go_simp; try with_reducible rfl)
      (try simp only [List.append_eq, List.cons_append, List.nil_append, List.getElem_toArray, List.getElem_cons_succ, List.getElem_cons_zero, Act.put, List.setIfInBounds_toArray, List.set_cons_zero, List.set_cons_succ])
      refine wpAnyH_take (i := 32) (v := ?_) rfl (by kernel_rfl) (by kernel_rfl) (by kernel_rfl) (fun _ _ _ h => h) (Or.inl ⟨by kernel_rfl, ?_⟩) (by first | assumption | trivial) ?_
      rotate_left
      · (intro wS hSw; (try dsimp only at hSw); go_simp; try with_reducible rfl)
      (try simp only [List.append_eq, List.cons_append, List.nil_append, List.getElem_toArray, List.getElem_cons_succ, List.getElem_cons_zero, Act.put, List.setIfInBounds_toArray, List.set_cons_zero, List.set_cons_succ])
      refine wpAnyH_take (i := 33) (v := ?_) rfl (by kernel_rfl) (by kernel_rfl) (by kernel_rfl) (fun _ _ _ h => h) (Or.inl ⟨by kernel_rfl, ?_⟩) (by first | assumption | trivial) ?_
      rotate_left
      · (intro wS hSw; (try dsimp only at hSw); go_simp; try with_reducible rfl)
      (try simp only [List.append_eq, List.cons_append, List.nil_append, List.getElem_toArray, List.getElem_cons_succ, List.getElem_cons_zero, Act.put, List.setIfInBounds_toArray, List.set_cons_zero, List.set_cons_succ])
      refine wpAnyH_take (i := 34) (v := ?_) rfl (by kernel_rfl) (by kernel_rfl) (by kernel_rfl) (fun _ _ _ h => h) (Or.inl ⟨by kernel_rfl, ?_⟩) (by first | assumption | trivial) ?_
      rotate_left
      · (intro wS hSw; (try dsimp only at hSw); go_simp; try with_reducible rfl)
      (try simp only [List.append_eq, List.cons_append, List.nil_append, List.getElem_toArray, List.getElem_cons_succ, List.getElem_cons_zero, Act.put, List.setIfInBounds_toArray, List.set_cons_zero, List.set_cons_succ])
      refine wpAnyH_take (i := 35) (v := ?_) rfl (by kernel_rfl) (by kernel_rfl) (by kernel_rfl) (fun _ _ _ h => h) (Or.inl ⟨by kernel_rfl, ?_⟩) (by first | assumption | trivial) ?_
      rotate_left
      · (intro wS hSw; (try dsimp only at hSw); go_simp; try with_reducible rfl)
      (try simp only [List.append_eq, List.cons_append, List.nil_append, List.getElem_toArray, List.getElem_cons_succ, List.getElem_cons_zero, Act.put, List.setIfInBounds_toArray, List.set_cons_zero, List.set_cons_succ])
      refine wpAnyH_take (i := 36) (v := ?_) rfl (by kernel_rfl) (by kernel_rfl) (by kernel_rfl) (fun _ _ _ h => h) (Or.inl ⟨by kernel_rfl, ?_⟩) (by first | assumption | trivial) ?_
      rotate_left
      · (intro wS hSw; (try dsimp only at hSw); go_simp; try with_reducible rfl)
      (try simp only [List.append_eq, List.cons_append, List.nil_append, List.getElem_toArray, List.getElem_cons_succ, List.getElem_cons_zero, Act.put, List.setIfInBounds_toArray, List.set_cons_zero, List.set_cons_succ])
      refine wpAnyH_take (i := 38) (v := ?_) rfl (by kernel_rfl) (by kernel_rfl) (by kernel_rfl) (fun _ _ _ h => h) (Or.inl ⟨by kernel_rfl, ?_⟩) (by first | assumption | trivial) ?_
      rotate_left
      · (intro wS hSw; (try dsimp only at hSw); go_simp; try with_reducible rfl)
      (try simp only [List.append_eq, List.cons_append, List.nil_append, List.getElem_toArray, List.getElem_cons_succ, List.getElem_cons_zero, Act.put, List.setIfInBounds_toArray, List.set_cons_zero, List.set_cons_succ])
      refine wpAnyH_take (i := 39) (v := ?_) rfl (by kernel_rfl) (by kernel_rfl) (by kernel_rfl) (fun _ _ _ h => h) (Or.inl ⟨by kernel_rfl, ?_⟩) (by first | assumption | trivial) ?_
      rotate_left
      · (intro wS hSw; (try dsimp only at hSw); go_simp; try with_reducible rfl)
      (try simp only [List.append_eq, List.cons_append, List.nil_append, List.getElem_toArray, List.getElem_cons_succ, List.getElem_cons_zero, Act.put, List.setIfInBounds_toArray, List.set_cons_zero, List.set_cons_succ])
      refine wpAnyH_take (i := 40) (v := ?_) rfl (by kernel_rfl) (by kernel_rfl) (by kernel_rfl) (fun _ _ _ h => h) (Or.inl ⟨by kernel_rfl, ?_⟩) (by first | assumption | trivial) ?_
      rotate_left
      · (intro wS hSw; (try dsimp only at hSw); go_simp; try with_reducible rfl)
      (try simp only [List.append_eq, List.cons_append, List.nil_append, List.getElem_toArray, List.getElem_cons_succ, List.getElem_cons_zero, Act.put, List.setIfInBounds_toArray, List.set_cons_zero, List.set_cons_succ])
      refine wpAnyH_take (i := 41) (v := ?_) rfl (by kernel_rfl) (by kernel_rfl) (by kernel_rfl) (fun _ _ _ h => h) (Or.inl ⟨by kernel_rfl, ?_⟩) (by first | assumption | trivial) ?_
      rotate_left
      · (intro wS hSw; (try dsimp only at hSw); go_simp; try with_reducible rfl)
      (try simp only [List.append_eq, List.cons_append, List.nil_append, List.getElem_toArray, List.getElem_cons_succ, List.getElem_cons_zero, Act.put, List.setIfInBounds_toArray, List.set_cons_zero, List.set_cons_succ])
      refine wpAnyH_take (i := 42) (v := ?_) rfl (by kernel_rfl) (by kernel_rfl) (by kernel_rfl) (fun _ _ _ h => h) (Or.inl ⟨by kernel_rfl, ?_⟩) (by first | assumption | trivial) ?_
      rotate_left
      · (intro wS hSw; (try dsimp only at hSw); go_simp; try with_reducible rfl)
      (try simp only [List.append_eq, List.cons_append, List.nil_append, List.getElem_toArray, List.getElem_cons_succ, List.getElem_cons_zero, Act.put, List.setIfInBounds_toArray, List.set_cons_zero, List.set_cons_succ])
      clear mw1 mw2
      refine wpAnyH_ready (rs := [37]) (by kernel_rfl) (by simp) ?_
      refine AllReadyH.cons rfl (fun K hK => ?_) AllReadyH.nil
      go_simp
      (go_at_call 20; refine (HTX.out _ (past HB4.out hHeld.2.out)).mono ?_; rintro e w7 ⟨rfl, b⟩; have hS7 : ((w7.cell? ⟨g, 0, none⟩ = some (.string (str x.nm)) ∧ w7.cell? ⟨g, 1, none⟩ = some (.int .i64 ((x.fr : Int) + (an : Int))) ∧ w7.cell? ⟨g, 2, none⟩ = some (.int .i64 ((x.te : Int) + (an : Int))) ∧ w7.cell? ⟨g, 3, none⟩ = some (.int .i64 ((x.at_ : Int) + (an : Int)))) ∧ w7.cell? ⟨b2, o2 + j * 4, none⟩ = some (.string (str x.nm)) ∧ w7.cell? ⟨b2, o2 + j * 4 + 1, none⟩ = some (.int .i64 (x.fr : Int)) ∧ w7.cell? ⟨b2, o2 + j * 4 + 2, none⟩ = some (.int .i64 (x.te : Int)) ∧ w7.cell? ⟨b2, o2 + j * 4 + 3, none⟩ = some (.int .i64 (x.at_ : Int))) ∧ Hid (Below w4.heap.size w4 w7) := ⟨⟨⟨cells_keep b hHeld.1.1.1, cells_keep b hHeld.1.1.2.1, cells_keep b hHeld.1.1.2.2.1, cells_keep b hHeld.1.1.2.2.2⟩, cells_keep b hHeld.1.2.1, cells_keep b hHeld.1.2.2.1, cells_keep b hHeld.1.2.2.2.1, cells_keep b hHeld.1.2.2.2.2⟩, hid (past hHeld.2.out b)⟩; clear b hHeld HTX)
      go_wp2_with fail
      refine hK.out _ _ (by first | assumption | trivial) (fun hHeld => ?_)
      clear hK K
      (try simp only [List.append_eq, List.cons_append, List.nil_append, List.getElem_toArray, List.getElem_cons_succ, List.getElem_cons_zero, Act.put, List.setIfInBounds_toArray, List.set_cons_zero, List.set_cons_succ])
      refine wpAnyH_ready (rs := [43]) (by kernel_rfl) (by simp) ?_
      refine AllReadyH.cons rfl (fun K hK => ?_) AllReadyH.nil
      go_simp
      (go_at_call 20; refine (HTB.out _ (past HBX.out (past HB4.out hHeld.2.out))).mono ?_; rintro e w8 ⟨rfl, b⟩; have hS8 : ((w8.cell? ⟨g, 0, none⟩ = some (.string (str x.nm)) ∧ w8.cell? ⟨g, 1, none⟩ = some (.int .i64 ((x.fr : Int) + (an : Int))) ∧ w8.cell? ⟨g, 2, none⟩ = some (.int .i64 ((x.te : Int) + (an : Int))) ∧ w8.cell? ⟨g, 3, none⟩ = some (.int .i64 ((x.at_ : Int) + (an : Int)))) ∧ w8.cell? ⟨b2, o2 + j * 4, none⟩ = some (.string (str x.nm)) ∧ w8.cell? ⟨b2, o2 + j * 4 + 1, none⟩ = some (.int .i64 (x.fr : Int)) ∧ w8.cell? ⟨b2, o2 + j * 4 + 2, none⟩ = some (.int .i64 (x.te : Int)) ∧ w8.cell? ⟨b2, o2 + j * 4 + 3, none⟩ = some (.int .i64 (x.at_ : Int))) ∧ Hid (Below w4.heap.size w4 w8) := ⟨⟨⟨cells_keep b hHeld.1.1.1, cells_keep b hHeld.1.1.2.1, cells_keep b hHeld.1.1.2.2.1, cells_keep b hHeld.1.1.2.2.2⟩, cells_keep b hHeld.1.2.1, cells_keep b hHeld.1.2.2.1, cells_keep b hHeld.1.2.2.2.1, cells_keep b hHeld.1.2.2.2.2⟩, hid (past hHeld.2.out b)⟩; clear b hHeld HTB)
      go_wp2_with fail
      refine hK.out _ _ (by first | assumption | trivial) (fun hHeld => ?_)
      clear hK K
      (try simp only [List.append_eq, List.cons_append, List.nil_append, List.getElem_toArray, List.getElem_cons_succ, List.getElem_cons_zero, Act.put, List.setIfInBounds_toArray, List.set_cons_zero, List.set_cons_succ])
      refine wpAnyH_take (i := 44) (v := ?_) rfl (by kernel_rfl) (by kernel_rfl) (by kernel_rfl) (fun _ _ _ h => h) (Or.inl ⟨by kernel_rfl, ?_⟩) (by first | assumption | trivial) ?_
      rotate_left
      · (intro wS hSw; (try dsimp only at hSw); go_simp; try with_reducible rfl)
      (try simp only [List.append_eq, List.cons_append, List.nil_append, List.getElem_toArray, List.getElem_cons_succ, List.getElem_cons_zero, Act.put, List.setIfInBounds_toArray, List.set_cons_zero, List.set_cons_succ])
      refine wpAnyH_take (i := 45) (v := ?_) rfl (by kernel_rfl) (by kernel_rfl) (by kernel_rfl) (fun _ _ _ h => h) (Or.inl ⟨by kernel_rfl, ?_⟩) (by first | assumption | trivial) ?_
      rotate_left
      · (intro wS hSw; (try dsimp only at hSw); go_simp; try with_reducible rfl)
      (try simp only [List.append_eq, List.cons_append, List.nil_append, List.getElem_toArray, List.getElem_cons_succ, List.getElem_cons_zero, Act.put, List.setIfInBounds_toArray, List.set_cons_zero, List.set_cons_succ])
      refine wpAnyH_done (by kernel_rfl) ?_ _
      refine NoPanic.normal ?_
      have HBN := hid hHeld.2.out
      clear hHeld hS hS7 hS8
      go_wp2_with fail
      go_roundw
      case rel => exact ⟨j + 1, by omega, by go_num, HBN⟩
      case measure => simp [intOf]; omega
    · have d1 := lt_f hlt
      have d1' := lt_nf hlt
      have hjk : j = k := by omega
      have HBR := hid (past HB4.out HBL.out)
      subst hjk
      go_wp2_with (first
        | (go_at_call 10; refine (HFD.out _ HBR.out).mono ?_; rintro e w7 ⟨rfl, b⟩; have HB7 := hid (past HBX.out (past HBR.out b)); clear b)
        | (go_at_call 14; refine (awake_any _).mono ?_; rintro e w8 ⟨rfl, b⟩; have HB8 := hid (past HB7.out b); clear b))
      go_ret
      exact ⟨rfl, HB8.out⟩
end Go.Proofs.YthlofpofcpconaaDoor
