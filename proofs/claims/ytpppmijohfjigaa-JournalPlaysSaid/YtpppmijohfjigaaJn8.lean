/-
  journal.settle, Format: the steps from where a head stands on. A part of the proof: see the head of the text that ends in 'Law'.
-/
import Derived.Test.YtpppmijohfjigaaJn7
namespace Go.Proofs.Ytpppmijohfjigaa
open Go.RowKit
set_option linter.unusedVariables false
set_option maxRecDepth 100000
attribute [local go_sem] Oper.semAt_some

def zer : List UInt8 := List.replicate 128 0
theorem zer_len : zer.length = 128 := List.length_replicate
theorem funT : SliceT Try.prog 86 54 .nilFunc 1 8 := ⟨Try.underlying86, by kernel_rfl, rfl, by decide⟩
theorem empty_any (W : World) : Calls Try.prog 57 #[] W fun e w' => ∃ g, e = .returned (.slice (some ⟨g, 0, none⟩) 128 128) ∧ OwnE w' g 5 (zer.map B8) ∧ W.heap.size ≤ g ∧ Below W.heap.size W w' := by
  obtain ⟨i0, hi0, hz0, hz1, hz2⟩ := info_parts u8S.info
  have Hz1 := hid hz1
  have Hz2 := hid hz2
  have Hi0 := hid hi0
  have Hz0 := hid hz0
  clear hz1 hz2 hi0 hz0
  go_enter Try.func57, Try.ntmps57
  go_wp2_with (
    refine wpList_make_full _ rfl (.const (.int .i64 128)) (.const (.int .i64 128)) 24 rfl W.heap.size 5 i0 (.int .u8 0) 1 Try.underlying24 Hi0.out Hz0.out Hz1.out .i64 .i64 128 128 128 rfl rfl rfl rfl (by rw [Hz2.out]; omega) (by unfold maxLen; omega) (Nat.le_refl _) ?_
    intro w1 ho1 hg1
    have hb1 := (Below.refl W.heap.size W).grown hg1 (Nat.le_refl _) (fun k hk => by cases hk)
    rw [made_one _ rfl 128] at ho1
    have HO1 := hid ho1
    have HB1 := hid hb1
    clear hg1 ho1 hb1)
  go_ret
  refine ⟨_, rfl, ?_, Nat.le_refl _, HB1.out⟩
  rw [show zer.map B8 = List.replicate 128 (Value.int .u8 0) by unfold zer; rw [List.map_replicate]; rfl]
  exact OwnE.made HO1.out
theorem zer_octD {d hb g : Nat} {W : World} (h : OwnE W g 5 (zer.map B8)) (h1 : g ≠ d) (h2 : g ≠ hb) : OctD d hb W (some ⟨g, 0, none⟩) 128 zer := by
  have := OctD.of_own (d := d) (hb := hb) h h1 h2 ⟨by decide, by decide⟩
  rwa [zer_len] at this
theorem small_any {w0 W : World} {d hb : Nat} {D : Dsk} (h : St w0 W d hb D) :
    Calls Try.prog 45 #[.pointer (some ⟨d, 0, none⟩)] W fun e w' => e = .returned (.bool (decide (D.has.length ≤ 41))) ∧ W = w' := by
  have HS := hid (size_st h)
  obtain ⟨n, hn⟩ : ∃ n, D.has.length = n := ⟨_, rfl⟩
  rw [hn] at HS ⊢
  clear h hn
  by_cases h41 : n ≤ 41
  · have g1 : decide ((n : Int) ≤ 41) = true := by rw [decide_eq_true_iff]; omega
    have g1n : decide (n ≤ 41) = true := by simpa using h41
    go_enter Try.func45, Try.ntmps45
    go_wp2_with (go_at_call 46; refine HS.out.mono ?_; rintro e w1 ⟨rfl, rfl⟩)
    go_ret
    exact ⟨by rw [g1n]; rfl, rfl⟩
  · have g1 : decide ((n : Int) ≤ 41) = false := by rw [decide_eq_false_iff_not]; omega
    have g1n : decide (n ≤ 41) = false := by rw [decide_eq_false_iff_not]; exact h41
    go_enter Try.func45, Try.ntmps45
    go_wp2_with (go_at_call 46; refine HS.out.mono ?_; rintro e w1 ⟨rfl, rfl⟩)
    go_ret
    exact ⟨by rw [g1n]; rfl, rfl⟩
/-- A transaction whose octets no word about the disk changes. -/
structure PutsD (d hb : Nat) (W : World) (A : Option Addr) (n : Nat) (vs : List PuV) : Prop where
  put : PutsIn W A n vs
  oct : ∀ v ∈ vs, OctD d hb W v.A v.n v.l
theorem PutsD.below {d hb : Nat} {W W' : World} {A : Option Addr} {n : Nat} {vs : List PuV} (h : PutsD d hb W A n vs) (hb' : Below W.heap.size W W') : PutsD d hb W' A n vs := ⟨h.put.below hb', fun v hv => (h.oct v hv).below hb'⟩
def homeS (l : List Iss) : List Stp := l.map fun p => .wr p.1 p.2
def tailS : List Stp := [.fl, .wr 0 zer, .fl]
def settleS (l : List Iss) : List Stp := homeS l ++ tailS
theorem stepV_new {d hb : Nat} {W : World} {b1 b2 b3 c : Nat} {i : Int} {A : Option Addr} {s : List UInt8} (hs : s.length = 128) (h1 : OwnE W b1 33 [.pointer (some ⟨d, 0, none⟩)]) (h2 : OwnE W b2 3 [.int .i64 i]) (h3 : OwnE W b3 24 [.slice A 128 c]) (hc : 128 ≤ c) (ho : OctD d hb W A 128 s) : StepV d hb W (wrF b1 b2 b3) (.wr i s) :=
  ⟨hs, b1, b2, b3, A, c, rfl, h1, h2, h3, hc, ho⟩
theorem wrF_one (b1 b2 b3 : Nat) : (wrF b1 b2 b3).oneCell' = true := rfl
theorem flF_one (d : Nat) : (flF d).oneCell' = true := rfl
/-- The three steps behind. -/
theorem tail_steps {d hb : Nat} {W : World} {b1 b2 b3 : Nat} (i : Int) (s : List UInt8) (h : StepV d hb W (wrF b1 b2 b3) (.wr i s)) : StepsV d hb W [flF d, wrF b1 b2 b3, flF d] [.fl, .wr i s, .fl] := by
  refine ⟨rfl, fun j h1 h2 => ?_⟩
  match j, h1, h2 with
  | 0, _, _ => exact (rfl : flF d = flF d)
  | 1, _, _ => exact h
  | 2, _, _ => exact (rfl : flF d = flF d)
  | j + 3, h1, _ => simp at h1; omega
set_option maxHeartbeats 8000000 in
theorem settle_any (d hb : Nat) (A : Option Addr) (n c : Nat) (vs : List PuV) (W : World) (h : PutsD d hb W A n vs) (hn : n ≤ 1000) (h128 : ∀ v ∈ vs, v.n = 128) (hd : d < W.heap.size) (hh : hb < W.heap.size) :
    Calls Try.prog 49 #[.pointer (some ⟨d, 0, none⟩), .slice A n c] W fun e w' => ∃ A' c' us, e = .returned (.slice A' (n + 3) c') ∧ w'.ownsRow W.heap.size 54 1 (.slice A' (n + 3) c') (n + 3) us ∧ StepsV d hb w' us (settleS (vs.map PuV.p)) ∧ Below W.heap.size W w' := by
  have HN := hid h.put.len
  have HRW := hid h.put.row
  have HOD := hid h.oct
  have HCP := hid h.put.cap
  have H128 := hid h128
  obtain ⟨l, hl⟩ : ∃ l, vs.map PuV.p = l := ⟨_, rfl⟩
  rw [hl]
  have HLL : Hid (l.length = n) := hid (by rw [← hl, List.length_map, h.put.len])
  have HLG : Hid (∀ (j : Nat) (h1 : j < l.length) (h2 : j < vs.length), l[j]'h1 = (vs[j]'h2).p) := hid (fun j h1 h2 => by subst hl; rw [List.getElem_map])
  have I0 : Hid (∃ us, W.ownsRow W.heap.size 54 1 (.slice none 0 0) 0 us ∧ StepsV d hb W us (homeS (l.take 0)) ∧ Below W.heap.size W W) := hid ⟨[], World.ownsRow_nil _ _ _ _, StepsV.nil _ _ _, Below.refl _ _⟩
  clear h hl h128
  go_enter Try.func49, Try.ntmps49
  go_wp2_with fail
  go_loopw [5, 10] (fun v5 v10 wr => ∃ (j : Nat) (A1 : Option Addr) (c1 : Nat), j ≤ n ∧ v5 = .slice A1 j c1 ∧ v10 = .int .i64 (j : Int) ∧ Hid (∃ us, wr.ownsRow W.heap.size 54 1 (.slice A1 j c1) j us ∧ StepsV d hb wr us (homeS (l.take j)) ∧ Below W.heap.size W wr)) (fun v5 v10 wr => n - (intOf v10).toNat)
  case atStart => exact ⟨0, none, 0, Nat.zero_le _, rfl, rfl, I0⟩
  case round =>
    clear I0
    obtain ⟨j, A1, c1, hj, rfl, rfl, HI0⟩ := hrel
    rename World => wr
    obtain ⟨us, ho, hsv, hbw⟩ := HI0.out
    have HO := hid ho
    have HSV := hid hsv
    have HBW := hid hbw
    clear ho hsv hbw HI0
    by_cases hlt : j < n
    · have e1 := lt_t hlt
      have e1n := lt_nt hlt
      have j0 : (0 : Int) ≤ (j : Int) := by omega
      have j1 : (j : Int) < (n : Int) := by omega
      have j2 : (j : Int).toNat = j := by omega
      have hjv : j < vs.length := by rw [HN.out]; exact hlt
      have hjl : j < l.length := by rw [HLL.out]; exact hlt
      obtain ⟨b, off, rfl, hc⟩ := pu_at HRW.out hjv
      have x0 := cells_keep HBW.out (hc j hjv).1
      have x1 := cells_keep HBW.out (hc j hjv).2
      obtain ⟨v, hv⟩ : ∃ v, vs[j] = v := ⟨_, rfl⟩
      have hvm : v ∈ vs := hv ▸ List.getElem_mem hjv
      have HO8 := hid (HOD.out v hvm)
      have hcp := HCP.out v hvm
      have h128 := H128.out v hvm
      have hel := HLG.out j hjl hjv
      rw [hv] at x0 x1 hel
      have HST : Hid (homeS (l.take (j + 1)) = homeS (l.take j) ++ [.wr v.at_ v.l]) := hid (by
        unfold homeS
        rw [List.take_succ_eq_append_getElem hjl, List.map_append, hel]
        rfl)
      clear hc hv hvm hjv hel hjl
      obtain ⟨at_, B, k, dd, bs⟩ := v
      dsimp only at x0 x1 hcp h128
      subst h128
      have HB2 : Hid (Below wr.heap.size wr (wr.alloc (.cells #[.int .i64 at_, .slice B 128 dd] 47))) := hid ((Below.refl _ wr).alloc (Nat.le_refl _) _)
      have hbox : OwnE (wr.alloc (.cells #[.int .i64 at_, .slice B 128 dd] 47)) wr.heap.size 47 [.int .i64 at_, .slice B 128 dd] := OwnE.new_ wr _ _
      have y0 := hbox.cell (j := 0) rfl
      have y1 := hbox.cell (j := 1) rfl
      clear hbox
      go_wp2_with (first
        | (go_at_call 47; refine (jwrite_any d at_ B 128 dd _).mono ?_; rintro e w2 ⟨a1, a2, a3, rfl, o1, o2, o3, b2⟩
           have HB3 := hid (past HB2.out b2)
           have HX := hid ((Below.refl w2.heap.size w2).alloc (Nat.le_refl _) (.cells #[wrF a1 a2 a3] 54))
           have HSP := hid (stepV_new (d := d) (hb := hb) (i := at_) (s := bs) HO8.out.1 o1 o2 o3 hcp (HO8.out.below (past HBW.out HB3.out)))
           have HO3 := hid (own_below (own_below HO.out HB3.out) HX.out)
           have HBX := hid (past (past HBW.out HB3.out) HX.out)
           unfold wrF
           clear o1 o2 o3 b2)
        | (refine wpList_append_row _ rfl (.tmp 14) (.tmp 21) funT rfl W.heap.size (.slice A1 j c1) j us rfl HO3.out (some ⟨w2.heap.size, 0, none⟩) 1 1 [wrF a1 a2 a3] rfl rfl (Row.of_block (heap_alloc_new w2 (Obj.cells #[wrF a1 a2 a3] 54))) (by simp [wrF_one]) (by simp only [maxLen]; omega) (by omega) HBX.out.size ?_
           intro A5 c5 w5 ho5 hg5 hh5
           have HFI : Hid (∃ us, w5.ownsRow W.heap.size 54 1 (.slice A5 (j + 1) c5) (j + 1) us ∧ StepsV d hb w5 us (homeS (l.take (j + 1))) ∧ Below W.heap.size W w5) := hid (by
             have hk := KeepF.grown HO3.out hg5
             refine ⟨_, ho5, ?_, HBX.out.grown hg5 HBX.out.size (own_base HO3.out)⟩
             rw [HST.out]
             exact ((((HSV.out.below HB3.out).below HX.out).append (StepsV.single (HSP.out.below HX.out))).keepF hk))
           clear ho5 hg5 hh5))
      go_roundw
      case rel => exact ⟨j + 1, A5, c5, by omega, rfl, by go_num, HFI⟩
      case measure => simp [intOf]; omega
    · have e1 := lt_f hlt
      have e1n := lt_nf hlt
      have hjn : j = n := by omega
      have HHL : Hid (homeS (l.take j) = homeS l) := hid (by rw [List.take_of_length_le (by rw [HLL.out]; omega)])
      subst hjn
      clear hlt
      go_wp2_with (first
        | (go_at_call 57; refine (empty_any _).mono ?_; rintro e w2 ⟨g2, rfl, o2, hg2, b2⟩; have HB2 := hid b2; have HO2 := hid o2; have HG2 := hid hg2; clear b2 o2 hg2)
        | (go_at_call 47
           (
             refine (jwrite_any d 0 (some ⟨g2, 0, none⟩) 128 128 _).mono ?_
             rintro e w3 ⟨a1, a2, a3, rfl, o1, o2, o3, b3⟩
             have HB3 := hid (past HB2.out b3)
             have HX := hid ((Below.refl w3.heap.size w3).alloc (Nat.le_refl _) (.cells #[flF d, wrF a1 a2 a3, flF d] 54))
             have hg1 := HG2.out
             have hg3 := HBW.out.size
             have hgd : g2 ≠ d := by omega
             have hgh : g2 ≠ hb := by omega
             have hoz := zer_octD (HO2.out.below b3) hgd hgh
             have HSP := hid (tail_steps 0 zer (stepV_new (d := d) (hb := hb) (i := 0) (s := zer) zer_len o1 o2 o3 (Nat.le_refl _) hoz))
             have HO3 := hid (own_below (own_below HO.out HB3.out) HX.out)
             have HBX := hid (past (past HBW.out HB3.out) HX.out)
             unfold wrF
             clear o1 o2 o3 b3 hoz))
        | (refine wpList_append_row _ rfl (.tmp 24) (.tmp 32) funT rfl W.heap.size (.slice A1 j c1) j us rfl HO3.out (some ⟨w3.heap.size, 0, none⟩) 3 3 [flF d, wrF a1 a2 a3, flF d] rfl rfl (Row.of_block (heap_alloc_new w3 (Obj.cells #[flF d, wrF a1 a2 a3, flF d] 54))) (by simp [wrF_one, flF_one]) (by simp only [maxLen]; omega) (by omega) HBX.out.size ?_
           intro A5 c5 w5 ho5 hg5 hh5
           have HFI : Hid (∃ us, w5.ownsRow W.heap.size 54 1 (.slice A5 (j + 3) c5) (j + 3) us ∧ StepsV d hb w5 us (settleS l) ∧ Below W.heap.size W w5) := hid (by
             have hk := KeepF.grown HO3.out hg5
             refine ⟨_, ho5, ?_, HBX.out.grown hg5 HBX.out.size (own_base HO3.out)⟩
             unfold settleS
             rw [← HHL.out]
             exact ((((HSV.out.below HB3.out).below HX.out).append (HSP.out.below HX.out)).keepF hk))
           clear ho5 hg5 hh5))
      go_ret
      obtain ⟨us2, h1, h2, h3⟩ := HFI.out
      exact ⟨A5, c5, us2, rfl, h1, h2, h3⟩
end Go.Proofs.Ytpppmijohfjigaa
