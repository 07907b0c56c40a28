/-
  journal.told: what a disk's first sectors tell. A part of the proof: see the head of the text that ends in 'Law'.
-/
import Derived.Test.YtpppmijohfjigaaJn9
namespace Go.Proofs.Ytpppmijohfjigaa
open Go.RowKit
set_option linter.unusedVariables false
set_option maxRecDepth 100000
attribute [local go_sem] Oper.semAt_some

def cntJ (hd : List UInt8) : Nat := valL (cutL hd 4 2)
def entJ (D : Dsk) (hd : List UInt8) (i : Nat) : Iss := ((valL (cutL hd (10 + 2 * i) 2) : Nat), readD D (1 + i))
def tellK (D : Dsk) (hd : List UInt8) (k : Nat) : List Iss := (List.range k).map (entJ D hd)
theorem tellK_succ (D : Dsk) (hd : List UInt8) (k : Nat) : tellK D hd (k + 1) = tellK D hd k ++ [entJ D hd k] := by
  unfold tellK
  rw [List.range_succ, List.map_append]
  rfl
theorem tellK_len (D : Dsk) (hd : List UInt8) (k : Nat) : (tellK D hd k).length = k := by unfold tellK; rw [List.length_map, List.length_range]
/-- The transaction that a disk's first sectors tell. -/
def toldD (D : Dsk) : Option (List Iss) :=
  if cntJ (readD D 0) < 1 ∨ 40 < cntJ (readD D 0) then none
  else if mayJ (tellK D (readD D 0) (cntJ (readD D 0))) (D.has.length : Int) = true ∧ headL (tellK D (readD D 0) (cntJ (readD D 0))) = readD D 0 then some (tellK D (readD D 0) (cntJ (readD D 0))) else none
theorem putT : SliceT Try.prog 22 47 (.agg #[.int .i64 0, .slice none 0 0]) 2 32 := ⟨Try.underlying22, by kernel_rfl, rfl, by decide⟩
/-- A sector that was read. -/
structure SecV (hb : Nat) (W : World) (v : PuV) : Prop where
  rd : ∃ g, v.A = some ⟨g, 0, none⟩ ∧ OwnE W g 99 (v.l.map B8) ∧ g ≠ hb
  n : v.n = 128
  c : v.c = 128
  l : v.l.length = 128
  i : W64 v.at_
theorem SecV.below {hb : Nat} {W W' : World} {v : PuV} (h : SecV hb W v) (hb' : Below W.heap.size W W') : SecV hb W' v := by
  obtain ⟨g, h1, h2, h3⟩ := h.rd
  exact ⟨⟨g, h1, h2.below hb', h3⟩, h.n, h.c, h.l, h.i⟩
theorem SecV.grown {hb : Nat} {W W' : World} {v : PuV} {b0 s n : Nat} {u : Value} {xs : List Value} (h : SecV hb W v) (hr : W.ownsRow b0 47 s u n xs) (hg : W.grownBy W' u.ownBlock) : SecV hb W' v := by
  obtain ⟨g, h1, h2, h3⟩ := h.rd
  exact ⟨⟨g, h1, h2.grown hg (h2.row_ne hr (by decide)), h3⟩, h.n, h.c, h.l, h.i⟩
theorem SecV.octD {w0 W : World} {d hb : Nat} {D : Dsk} {v : PuV} (h : SecV hb W v) (hS : St w0 W d hb D) : OctD d hb W v.A v.n v.l := by
  obtain ⟨g, h1, h2, h3⟩ := h.rd
  have := OctD.of_own (d := d) (hb := hb) h2 (hS.ty_d h2 (by decide)) h3 ⟨by decide, by decide⟩
  rw [h1, h.n]
  rw [h.l] at this
  exact this
theorem putsD_sec {w0 W : World} {d hb n c b0 : Nat} {D : Dsk} {A : Option Addr} {vs : List PuV} (hS : St w0 W d hb D) (hr : W.ownsRow b0 47 2 (.slice A n c) n (vs.flatMap puC)) (hl : vs.length = n) (hv : ∀ v ∈ vs, SecV hb W v) : PutsD d hb W A n vs :=
  ⟨⟨hl, Row.of_own hr, fun v h => ((hv v h).octD hS).oct, fun v h => (hv v h).i, fun v h => by rw [(hv v h).n, (hv v h).c]; exact Nat.le_refl _⟩, fun v h => (hv v h).octD hS⟩
/-- What is told, as it is handed back. -/
def ToldP (d hb : Nat) (W : World) (D : Dsk) (e : Ending) (w' : World) : Prop :=
  Below W.heap.size W w' ∧ ((toldD D = none ∧ ∃ x, e = .returned (.tuple #[x, .bool false])) ∨
    (∃ l A n c vs, toldD D = some l ∧ e = .returned (.tuple #[.slice A n c, .bool true]) ∧ PutsD d hb w' A n vs ∧ vs.map PuV.p = l ∧ n ≤ 40 ∧ 1 ≤ n))
theorem val2 (l : List UInt8) (a : Nat) (h : a + 2 ≤ l.length) : valL (cutL l a 2) < 65536 := by
  have h1 := valL_lt (cutL l a 2)
  rw [cutL_length l a 2 h] at h1
  exact h1
set_option maxHeartbeats 16000000 in
theorem told_any {w0 W : World} {d hb : Nat} {D : Dsk} (h : St w0 W d hb D) (g0 : Nat) (hg0 : OwnE W g0 99 ((readD D 0).map B8)) (hlen : (readD D 0).length = 128) (h41 : 41 < D.has.length) (hoff : D.off = false) (hw : D.waits.length ≤ 90000) :
    Calls Try.prog 55 #[.pointer (some ⟨d, 0, none⟩), .slice (some ⟨g0, 0, none⟩) 128 128] W (ToldP d hb W D) := by
  have HST := hid h
  have HTD := hid (rfl : toldD D = toldD D)
  obtain ⟨hd, hhd⟩ : ∃ hd, readD D 0 = hd := ⟨_, rfl⟩
  have HHD := hid hhd
  rw [hhd] at hg0 hlen
  obtain ⟨q, hq⟩ : ∃ q, cntJ hd = q := ⟨_, rfl⟩
  have hq6 : q < 65536 := by rw [← hq]; exact val2 hd 4 (by omega)
  have ho0 : Oct W (some ⟨g0, 0, none⟩) 128 hd := ⟨hlen, hg0.row⟩
  have HNUM := hid (fun (X : World) (a : Nat) (hb' : Below W.heap.size W X) (ha : a + 2 ≤ 128) => num_any (some ⟨g0, 0, none⟩) 128 128 a 2 hd X (ho0.below hb') (by omega) (by omega) ha (by omega))
  have HN4 := hid (fun (X : World) (hb' : Below W.heap.size W X) => (show Calls Try.prog 76 #[.slice (some ⟨g0, 0, none⟩) 128 128, .int .i64 4, .int .i64 2] X (fun e w' => e = .returned (.tuple #[.int .u64 (q : Int), .int .i64 0]) ∧ X = w') from by rw [← hq]; exact HNUM.out X 4 hb' (by omega)))
  have HQ := hid hq
  have HO0 := hid ho0
  have HLN := hid hlen
  have HLS := hid (readD_len h)
  clear h hhd hg0 hlen hq ho0
  by_cases hbad : q < 1 ∨ 40 < q
  · have HF : Hid (toldD D = none) := hid (by
      unfold toldD
      rw [HHD.out, HQ.out, if_pos hbad])
    have hcases : (decide ((q : Int) < 1) = true ∧ decide (q < 1) = true) ∨ (decide ((q : Int) < 1) = false ∧ decide (q < 1) = false ∧ decide ((40 : Int) < (q : Int)) = true ∧ decide (40 < q) = true) := by
      by_cases h1 : q < 1
      · exact .inl ⟨by rw [decide_eq_true_iff]; omega, by simpa using h1⟩
      · exact .inr ⟨by rw [decide_eq_false_iff_not]; omega, by rw [decide_eq_false_iff_not]; exact h1, by rw [decide_eq_true_iff]; omega, by rw [decide_eq_true_iff]; omega⟩
    clear hbad
    rcases hcases with ⟨g1, g1n⟩ | ⟨g1, g1n, g2, g2n⟩
    · go_enter Try.func55, Try.ntmps55
      go_wp2_with (go_at_call 76; refine (HN4.out _ (Below.refl _ _)).mono ?_; rintro e w1 ⟨rfl, rfl⟩)
      go_ret2
      exact ⟨Below.refl _ _, .inl ⟨HF.out, _, rfl⟩⟩
    · go_enter Try.func55, Try.ntmps55
      go_wp2_with (go_at_call 76; refine (HN4.out _ (Below.refl _ _)).mono ?_; rintro e w1 ⟨rfl, rfl⟩)
      go_ret2
      exact ⟨Below.refl _ _, .inl ⟨HF.out, _, rfl⟩⟩
  · have hq1 : 1 ≤ q := by omega
    have hq40 : q ≤ 40 := by omega
    have g1 : decide ((q : Int) < 1) = false := by rw [decide_eq_false_iff_not]; omega
    have g1n : decide (q < 1) = false := by rw [decide_eq_false_iff_not]; omega
    have g2 : decide ((40 : Int) < (q : Int)) = false := by rw [decide_eq_false_iff_not]; omega
    have g2n : decide (40 < q) = false := by rw [decide_eq_false_iff_not]; omega
    have HTL : Hid (toldD D = if mayJ (tellK D hd q) (D.has.length : Int) = true ∧ headL (tellK D hd q) = hd then some (tellK D hd q) else none) := hid (by
      unfold toldD
      rw [HHD.out, HQ.out, if_neg hbad])
    have I0 : Hid (∃ vs : List PuV, W.ownsRow W.heap.size 47 2 (.slice none 0 0) 0 (vs.flatMap puC) ∧ vs.length = 0 ∧ vs.map PuV.p = tellK D hd 0 ∧ (∀ v ∈ vs, SecV hb W v) ∧ Below W.heap.size W W) := hid ⟨[], World.ownsRow_nil _ _ _ _, rfl, rfl, fun v hv => (by cases hv), Below.refl _ _⟩
    clear hbad
    go_enter Try.func55, Try.ntmps55
    go_wp2_with (go_at_call 76; refine (HN4.out _ (Below.refl _ _)).mono ?_; rintro e w1 ⟨rfl, rfl⟩)
    go_loopw [8, 32] (fun v8 v32 wr => ∃ (j : Nat) (A1 : Option Addr) (c1 : Nat), j ≤ q ∧ v8 = .slice A1 j c1 ∧ v32 = .int .i64 (j : Int) ∧ Hid (∃ vs : List PuV, wr.ownsRow W.heap.size 47 2 (.slice A1 j c1) j (vs.flatMap puC) ∧ vs.length = j ∧ vs.map PuV.p = tellK D hd j ∧ (∀ v ∈ vs, SecV hb wr v) ∧ Below W.heap.size W wr)) (fun v8 v32 wr => q - (intOf v32).toNat)
    case atStart => exact ⟨0, none, 0, Nat.zero_le _, rfl, rfl, I0⟩
    case round =>
      clear I0
      obtain ⟨j, A1, c1, hj, rfl, rfl, HI0⟩ := hrel
      rename World => wr
      obtain ⟨vs, ho, hvl, hvp, hvs, hbw⟩ := HI0.out
      have HO := hid ho
      have HVL := hid hvl
      have HVP := hid hvp
      have HVS := hid hvs
      have HBW := hid hbw
      clear ho hvl hvp hvs hbw HI0
      by_cases hlt : j < q
      · have e1 := lt_t hlt
        have e1n := lt_nt hlt
        obtain ⟨a, ha⟩ : ∃ a, 10 + 2 * j = a := ⟨_, rfl⟩
        have haI : (10 : Int) + 2 * (j : Int) = (a : Int) := by omega
        have haw : IntKind.i64.wrap ((10 : Int) + 2 * (j : Int)) = (a : Int) := by rw [haI, IntKind.wrap_i64]; omega
        have ha2 : a + 2 ≤ 128 := by omega
        obtain ⟨m, hm⟩ : ∃ m, 1 + j = m := ⟨_, rfl⟩
        have hmI : (1 : Int) + (j : Int) = (m : Int) := by omega
        have hmh : m < D.has.length := by omega
        have hm41 : m ≤ 41 := by omega
        obtain ⟨u, hu⟩ : ∃ u, valL (cutL hd a 2) = u := ⟨_, rfl⟩
        have hu6 : u < 65536 := by rw [← hu]; exact val2 hd a (by rw [HLN.out]; exact ha2)
        have HAT := hid (fun (X : World) (hb' : Below W.heap.size W X) => (show Calls Try.prog 76 #[.slice (some ⟨g0, 0, none⟩) 128 128, .int .i64 (a : Int), .int .i64 2] X (fun e w' => e = .returned (.tuple #[.int .u64 (u : Int), .int .i64 0]) ∧ X = w') from by rw [← hu]; exact HNUM.out X a hb' ha2))
        obtain ⟨s, hs⟩ : ∃ s, readD D m = s := ⟨_, rfl⟩
        have HRD := hid (fun (X : World) (hS : St w0 X d hb D) => (by have := read_st hS m hmh hoff (by omega); rw [hs] at this; exact this : Calls Try.prog 14 #[.pointer (some ⟨d, 0, none⟩), .int .i64 (m : Int)] X fun e w' => ∃ g, e = .returned (.tuple #[.slice (some ⟨g, 0, none⟩) 128 128, .int .i64 0]) ∧ OwnE w' g 99 (s.map B8) ∧ g ≠ hb ∧ St w0 w' d hb D ∧ Below X.heap.size X w'))
        have HSL : Hid (s.length = 128) := hid (by rw [← hs]; exact HLS.out m hmh)
        have HEN : Hid (entJ D hd j = ((u : Int), s)) := hid (by unfold entJ; rw [ha, hu, hm, hs])
        have uw : IntKind.i64.wrap (u : Int) = (u : Int) := by rw [IntKind.wrap_i64]; omega
        have jw : IntKind.i64.wrap ((1 : Int) + (j : Int)) = (m : Int) := by rw [hmI, IntKind.wrap_i64]; omega
        have j2w : IntKind.i64.wrap (2 * (j : Int)) = 2 * (j : Int) := by rw [IntKind.wrap_i64]; omega
        clear ha haI hm hu hs hmh
        go_wp2_with (first
          | (go_at_call 76; refine (HAT.out _ HBW.out).mono ?_; rintro e w2 ⟨rfl, rfl⟩)
          | (go_at_call 14
             (
               refine (HRD.out _ (HST.out.below HBW.out)).mono ?_
               rintro e w3 ⟨g3, rfl, o3, hn3, -, b3⟩
               have HB3 := hid (past HBW.out b3)
               have hx := (Below.refl w3.heap.size w3).alloc (Nat.le_refl _) (.cells #[.int .i64 (u : Int), .slice (some ⟨g3, 0, none⟩) 128 128] 47)
               have HX := hid (past HB3.out hx)
               have HO3 := hid (own_below (own_below HO.out b3) hx)
               have HVS3 := hid (fun v hv => ((HVS.out v hv).below b3).below hx)
               have HNEW : Hid (SecV hb (w3.alloc (.cells #[.int .i64 (u : Int), .slice (some ⟨g3, 0, none⟩) 128 128] 47)) ⟨(u : Int), some ⟨g3, 0, none⟩, 128, 128, s⟩) := hid ⟨⟨g3, rfl, o3.below hx, hn3⟩, rfl, rfl, HSL.out, ⟨by show -9223372036854775808 ≤ (u : Int); omega, by show (u : Int) ≤ 9223372036854775807; omega⟩⟩
               clear o3 hn3 b3 hx))
          | (refine wpList_append_row _ rfl (.tmp 52) (.tmp 57) putT rfl W.heap.size (.slice A1 j c1) j (vs.flatMap puC) rfl HO3.out (some ⟨w3.heap.size, 0, none⟩) 1 1 [.int .i64 (u : Int), .slice (some ⟨g3, 0, none⟩) 128 128] rfl rfl (Row.of_block (heap_alloc_new w3 (Obj.cells #[.int .i64 (u : Int), .slice (some ⟨g3, 0, none⟩) 128 128] 47))) (by simp [Value.oneCell']) (by simp only [maxLen]; omega) (by omega) HX.out.size ?_
             intro A5 c5 w5 ho5 hg5 hh5
             have HFI : Hid (∃ vs : List PuV, w5.ownsRow W.heap.size 47 2 (.slice A5 (j + 1) c5) (j + 1) (vs.flatMap puC) ∧ vs.length = j + 1 ∧ vs.map PuV.p = tellK D hd (j + 1) ∧ (∀ v ∈ vs, SecV hb w5 v) ∧ Below W.heap.size W w5) := hid (by
               refine ⟨vs ++ [⟨(u : Int), some ⟨g3, 0, none⟩, 128, 128, s⟩], ?_, by rw [List.length_append, HVL.out]; rfl, ?_, fun v hv => ?_, HX.out.grown hg5 HX.out.size (own_base HO3.out)⟩
               · rw [List.flatMap_append]
                 exact ho5
               · rw [List.map_append, HVP.out, tellK_succ, HEN.out]
                 rfl
               · rcases List.mem_append.1 hv with hv | hv
                 · exact (HVS3.out v hv).grown HO3.out hg5
                 · rw [List.mem_singleton.1 hv]
                   exact HNEW.out.grown HO3.out hg5)
             clear ho5 hg5 hh5))
        go_roundw
        case rel => exact ⟨j + 1, A5, c5, by omega, rfl, by go_num, HFI⟩
        case measure => simp [intOf]; omega
      · have e1 := lt_f hlt
        have e1n := lt_nf hlt
        have hjq : j = q := by omega
        subst hjq
        obtain ⟨l, hl⟩ : ∃ l, tellK D hd j = l := ⟨_, rfl⟩
        rw [hl] at HVP HTL
        have HPD := hid (fun (X : World) (hb' : Below wr.heap.size wr X) => putsD_sec (HST.out.below (past HBW.out hb')) (own_below HO.out hb') HVL.out (fun v hv => (HVS.out v hv).below hb'))
        have HHD2 := hid (by have := head_any A1 j c1 vs wr (HPD.out wr (Below.refl _ _)).put (by omega); rw [HVP.out] at this; exact this : Calls Try.prog 8 #[.slice A1 j c1] wr (HdPost wr l))
        clear hl hlt
        cases hmb : mayJ l 2048 with
        | false =>
          have HMB := hid hmb
          have HF : Hid (toldD D = none) := hid (by
            rw [HTL.out, if_neg]
            rintro ⟨h1, -⟩
            have := mayJ_2048 l _ (by have := HST.out.len.2.2.1; omega) h1
            rw [HMB.out] at this
            cases this)
          clear hmb
          go_wp2_with (first
            | (go_at_call 8
               (
                 refine HHD2.out.mono ?_
                 rintro e w2 ⟨b2, ⟨-, rfl⟩ | ⟨hf, -⟩⟩
                 rotate_left
                 · exact absurd hf (by rw [HMB.out]; decide)
                 have HB2 := hid (past HBW.out b2)
                 clear b2)))
          go_ret2
          exact ⟨HB2.out, .inl ⟨HF.out, _, rfl⟩⟩
        | true =>
          have HMB := hid hmb
          obtain ⟨N, hN⟩ : ∃ N, D.has.length = N := ⟨_, rfl⟩
          have HSZ := hid (fun (X : World) (hS : St w0 X d hb D) => (by have := size_st hS; rw [hN] at this; exact this : Calls Try.prog 46 #[.pointer (some ⟨d, 0, none⟩)] X fun e w' => e = .returned (.int .i64 (N : Int)) ∧ X = w'))
          have HMY := hid (fun (X : World) (hp : PutsIn X A1 j vs) => (by have := may_any A1 j c1 vs (N : Int) X hp (by omega); rw [HVP.out] at this; exact this : Calls Try.prog 34 #[.slice A1 j c1, .int .i64 (N : Int)] X fun e w' => e = .returned (.bool (mayJ l (N : Int))) ∧ Below X.heap.size X w'))
          rw [hN] at HTL
          have hlj : l.length = j := by rw [← HVP.out, List.length_map, HVL.out]
          have HHL := hid (headL_len l (by rw [hlj]; omega))
          clear hmb hN hlj
          cases hmn : mayJ l (N : Int) with
          | false =>
            have HF : Hid (toldD D = none) := hid (by
              rw [HTL.out, if_neg]
              rintro ⟨h1, -⟩
              rw [hmn] at h1
              cases h1)
            rw [hmn] at HMY
            clear hmn
            go_wp2_with (first
              | (go_at_call 8
                 (
                   refine HHD2.out.mono ?_
                   rintro e w2 ⟨b2, ⟨hf, -⟩ | ⟨-, g2, rfl, o2, hg2⟩⟩
                   · exact absurd hf (by rw [HMB.out]; decide)
                   have HB2 := hid b2
                   clear b2 o2 hg2))
              | (go_at_call 46; refine (HSZ.out _ (HST.out.below (past HBW.out HB2.out))).mono ?_; rintro e w3 ⟨rfl, rfl⟩)
              | (go_at_call 34; refine (HMY.out _ (HPD.out _ HB2.out).put).mono ?_; rintro e w4 ⟨rfl, b4⟩; have HB4 := hid (past (past HBW.out HB2.out) b4); clear b4))
            go_ret2
            exact ⟨HB4.out, .inl ⟨HF.out, _, rfl⟩⟩
          | true =>
            have HT2 : Hid (toldD D = if headL l = hd then some l else none) := hid (by rw [HTL.out, hmn]; simp)
            rw [hmn] at HMY
            clear hmn
            go_wp2_with (first
              | (go_at_call 8
                 (
                   refine HHD2.out.mono ?_
                   rintro e w2 ⟨b2, ⟨hf, -⟩ | ⟨-, g2, rfl, o2, hg2⟩⟩
                   · exact absurd hf (by rw [HMB.out]; decide)
                   have HB2 := hid b2
                   have HO2 := hid o2
                   clear b2 o2 hg2))
              | (go_at_call 46; refine (HSZ.out _ (HST.out.below (past HBW.out HB2.out))).mono ?_; rintro e w3 ⟨rfl, rfl⟩)
              | (go_at_call 34
                 (
                   refine (HMY.out _ (HPD.out _ HB2.out).put).mono ?_
                   rintro e w4 ⟨rfl, b4⟩
                   have HB4 := hid (past HB2.out b4)
                   have HEQ := hid (Try.bytes_Equal_strs (.slice (some ⟨g2, 0, none⟩) 128 128) (.slice (some ⟨g0, 0, none⟩) 128 128) (str (headL l)) (str hd) w4 (strP 128 ⟨HHL.out, (HO2.out.below b4).row⟩) (strP 128 (HO0.out.below (past HBW.out HB4.out))))
                   clear b4))
              | (go_at_call 56; refine HEQ.out.mono ?_; rintro e w5 ⟨rfl, rfl⟩))
            go_ret2
            refine ⟨past HBW.out HB4.out, ?_⟩
            by_cases he : headL l = hd
            · refine .inr ⟨l, A1, j, c1, vs, by rw [HT2.out, if_pos he], ?_, HPD.out _ HB4.out, HVP.out, hq40, hq1⟩
              have : (headL l == hd) = true := by rw [beq_iff_eq]; exact he
              first
                | (rw [← this]; rfl)
                | (simp [this])
            · refine .inl ⟨by rw [HT2.out, if_neg he], .slice A1 j c1, ?_⟩
              have : (headL l == hd) = false := by rw [beq_eq_false_iff_ne]; exact he
              first
                | (rw [← this]; rfl)
                | (simp [this])
end Go.Proofs.Ytpppmijohfjigaa
