/-
  The document's Told. A part of the proof: see the head of the text that ends in 'Law'.
-/
import Derived.Test.YtpppmijohfjigaaJn16
namespace Go.Proofs.Ytpppmijohfjigaa
open Go.RowKit
set_option linter.unusedVariables false
set_option maxRecDepth 100000
attribute [local go_sem] Oper.semAt_some

/-- A sector's octets, copied out of a text. -/
structure BytV (W : World) (v : PuV) : Prop where
  n : v.n = 128
  c : 128 ≤ v.c
  l : v.l.length = 128
  i : W64 v.at_
  oc : CellsT 5 W v.A (v.l.map B8)
theorem BytV.below {W W' : World} {v : PuV} (h : BytV W v) (hb : Below W.heap.size W W') : BytV W' v := ⟨h.n, h.c, h.l, h.i, h.oc.below hb⟩
theorem BytV.grown {W W' : World} {v : PuV} {b0 s n : Nat} {u : Value} {xs : List Value} (h : BytV W v) (hr : W.ownsRow b0 47 s u n xs) (hg : W.grownBy W' u.ownBlock) : BytV W' v :=
  ⟨h.n, h.c, h.l, h.i, h.oc.keep fun g cur fr hh => (hg.block g (lt_of_heap hh) (fun e => by
    obtain ⟨c2, hc⟩ := own_type hr g e.symm
    rw [hh] at hc
    injection hc with hc
    injection hc with _ ht
    exact absurd ht (by decide))).trans hh⟩
theorem putsT_byt {W : World} {n c b0 : Nat} {A : Option Addr} {vs : List PuV} (hr : W.ownsRow b0 47 2 (.slice A n c) n (vs.flatMap puC)) (hl : vs.length = n) (hv : ∀ v ∈ vs, BytV W v) : PutsT W A n vs :=
  ⟨hl, CellsT.of_own hr, fun v h => by rw [(hv v h).l, (hv v h).n], fun v h => (hv v h).oc, fun v h => (hv v h).i, fun v h => by rw [(hv v h).n]; exact (hv v h).c⟩
/-- What is told, as it is handed back. -/
def ToldR (W : World) (D : Dsk) (e : Ending) (w' : World) : Prop :=
  Below W.heap.size W w' ∧ ((toldD D = none ∧ e = .returned (.tuple #[.slice none 0 0, .bool false])) ∨
    (∃ l A n c vs, toldD D = some l ∧ e = .returned (.tuple #[.slice A n c, .bool true]) ∧ PutsT w' A n vs ∧ vs.map PuV.p = l ∧ n ≤ 40 ∧ 1 ≤ n))
theorem rread_d {w0 W : World} {m : Nat} {D : Dsk} (h : RSt w0 W m D) (hs : w0.heap.size ≤ W.heap.size) (k : Nat) (hk : k < D.has.length) (hoff : D.off = false) (hw : D.waits.length ≤ 100000) :
    Calls Try.prog 62 #[.pointer (some ⟨m, 0, none⟩), .int .i64 (k : Int)] W fun e w' => e = .returned (.tuple #[.string (str (readD D k)), .int .i64 0]) ∧ W = w' := by
  have := rread_any h hs (k : Int) hw
  rw [show readR D (k : Int) = (readD D k, 0) by unfold readR; rw [if_pos ⟨by omega, by omega⟩, if_neg (by rw [hoff]; decide), Int.toNat_natCast]] at this
  exact this
theorem RSt.lenD {w0 W : World} {m : Nat} {D : Dsk} (h : RSt w0 W m D) : D.has.length ≤ 2048 := by
  obtain ⟨VH, VL, h⟩ := h
  exact h.nb
theorem RSt.hasC {w0 W : World} {m : Nat} {D : Dsk} (h : RSt w0 W m D) : ∃ A c, W.cell? ⟨m, 0, none⟩ = some (.slice A D.has.length c) := by
  obtain ⟨VH, VL, h⟩ := h
  obtain ⟨A, c, rfl, -⟩ := own_slice h.hs
  exact ⟨A, c, h.cells.cell (j := 0) rfl⟩
set_option maxHeartbeats 16000000 in
theorem rtold_any {w0 W : World} {m : Nat} {D : Dsk} (h : RSt w0 W m D) (hs : w0.heap.size ≤ W.heap.size) (hl128 : ∀ k, k < D.has.length → (readD D k).length = 128) (h41 : 41 < D.has.length) (hoff : D.off = false) (hw : D.waits.length ≤ 90000) :
    Calls Try.prog 63 #[.pointer (some ⟨m, 0, none⟩)] W (ToldR W D) := by
  have HST := hid h
  have HSZ := hid hs
  have HLS := hid hl128
  obtain ⟨hd, hhd⟩ : ∃ hd, readD D 0 = hd := ⟨_, rfl⟩
  have HHD := hid hhd
  have hlen : hd.length = 128 := by rw [← hhd]; exact hl128 0 (by omega)
  have HR0 := hid (by have := rread_d h hs 0 (by omega) hoff (by omega); rw [hhd] at this; exact this : Calls Try.prog 62 #[.pointer (some ⟨m, 0, none⟩), .int .i64 0] W fun e w' => e = .returned (.tuple #[.string (str hd), .int .i64 0]) ∧ W = w')
  obtain ⟨q, hq⟩ : ∃ q, cntJ hd = q := ⟨_, rfl⟩
  have hq6 : q < 65536 := by rw [← hq]; exact val2 hd 4 (by omega)
  have HNUM := hid (fun (X : World) (a : Nat) (ha : a + 2 ≤ 128) => refNum_any hd a 2 X (by omega) (by omega) (by omega) (by omega))
  have HN4 := hid (fun (X : World) => (show Calls Try.prog 77 #[.string (str hd), .int .i64 4, .int .i64 2] X (fun e w' => e = .returned (.tuple #[.int .u64 (q : Int), .int .i64 0]) ∧ X = w') from by rw [← hq]; exact HNUM.out X 4 (by omega)))
  have HQ := hid hq
  have HLN := hid hlen
  clear h hs hhd hlen hq hl128
  by_cases hbad : q < 1 ∨ 40 < q
  · have HF : Hid (toldD D = none) := hid (by
      unfold toldD
      rw [HHD.out, HQ.out, if_pos hbad])
    have hcases : (decide ((q : Int) < 1) = true ∧ decide (q < 1) = true) ∨ (decide ((q : Int) < 1) = false ∧ decide (q < 1) = false ∧ decide ((40 : Int) < (q : Int)) = true ∧ decide (40 < q) = true) := by
      by_cases h1 : q < 1
      · exact .inl ⟨by rw [decide_eq_true_iff]; omega, by simpa using h1⟩
      · exact .inr ⟨by rw [decide_eq_false_iff_not]; omega, by rw [decide_eq_false_iff_not]; exact h1, by rw [decide_eq_true_iff]; omega, by rw [decide_eq_true_iff]; omega⟩
    clear hbad
    rcases hcases with ⟨g1, g1n⟩ | ⟨g1, g1n, g2, g2n⟩
    · go_enter Try.func63, Try.ntmps63
      go_wp2_with (first
        | (go_at_call 62; refine HR0.out.mono ?_; rintro e w1 ⟨rfl, rfl⟩)
        | (go_at_call 77; refine (HN4.out _).mono ?_; rintro e w1 ⟨rfl, rfl⟩))
      go_ret2
      exact ⟨Below.refl _ _, .inl ⟨HF.out, rfl⟩⟩
    · go_enter Try.func63, Try.ntmps63
      go_wp2_with (first
        | (go_at_call 62; refine HR0.out.mono ?_; rintro e w1 ⟨rfl, rfl⟩)
        | (go_at_call 77; refine (HN4.out _).mono ?_; rintro e w1 ⟨rfl, rfl⟩))
      go_ret2
      exact ⟨Below.refl _ _, .inl ⟨HF.out, rfl⟩⟩
  · have hq1 : 1 ≤ q := by omega
    have hq40 : q ≤ 40 := by omega
    have g1 : decide ((q : Int) < 1) = false := by rw [decide_eq_false_iff_not]; omega
    have g1n : decide (q < 1) = false := by rw [decide_eq_false_iff_not]; omega
    have g2 : decide ((40 : Int) < (q : Int)) = false := by rw [decide_eq_false_iff_not]; omega
    have g2n : decide (40 < q) = false := by rw [decide_eq_false_iff_not]; omega
    have HTL : Hid (toldD D = if mayJ (tellK D hd q) (D.has.length : Int) = true ∧ headL (tellK D hd q) = hd then some (tellK D hd q) else none) := hid (by
      unfold toldD
      rw [HHD.out, HQ.out, if_neg hbad])
    have I0 : Hid (∃ vs : List PuV, W.ownsRow W.heap.size 47 2 (.slice none 0 0) 0 (vs.flatMap puC) ∧ vs.length = 0 ∧ vs.map PuV.p = tellK D hd 0 ∧ (∀ v ∈ vs, BytV W v) ∧ Below W.heap.size W W) := hid ⟨[], World.ownsRow_nil _ _ _ _, rfl, rfl, fun v hv => (by cases hv), Below.refl _ _⟩
    clear hbad
    go_enter Try.func63, Try.ntmps63
    go_wp2_with (first
      | (go_at_call 62; refine HR0.out.mono ?_; rintro e w1 ⟨rfl, rfl⟩)
      | (go_at_call 77; refine (HN4.out _).mono ?_; rintro e w1 ⟨rfl, rfl⟩))
    go_loopw [8, 9] (fun v8 v9 wr => ∃ (j : Nat) (A1 : Option Addr) (c1 : Nat), j ≤ q ∧ v8 = .slice A1 j c1 ∧ v9 = .int .i64 (j : Int) ∧ Hid (∃ vs : List PuV, wr.ownsRow W.heap.size 47 2 (.slice A1 j c1) j (vs.flatMap puC) ∧ vs.length = j ∧ vs.map PuV.p = tellK D hd j ∧ (∀ v ∈ vs, BytV wr v) ∧ Below W.heap.size W wr)) (fun v8 v9 wr => q - (intOf v9).toNat)
    case atStart => exact ⟨0, none, 0, Nat.zero_le _, rfl, rfl, I0⟩
    case round =>
      clear I0
      obtain ⟨j, A1, c1, hj, rfl, rfl, HI0⟩ := hrel
      rename World => wr
      obtain ⟨vs, ho, hvl, hvp, hvs, hbw⟩ := HI0.out
      have HO := hid ho
      have HVL := hid hvl
      have HVP := hid hvp
      have HVS := hid hvs
      have HBW := hid hbw
      clear ho hvl hvp hvs hbw HI0
      have qw : IntKind.i64.wrap (q : Int) = (q : Int) := by rw [IntKind.wrap_i64]; omega
      by_cases hlt : j < q
      · have e1 := lt_t hlt
        have e1n := lt_nt hlt
        obtain ⟨a, ha⟩ : ∃ a, 10 + 2 * j = a := ⟨_, rfl⟩
        have haI : (10 : Int) + 2 * (j : Int) = (a : Int) := by omega
        have haw : IntKind.i64.wrap ((10 : Int) + 2 * (j : Int)) = (a : Int) := by rw [haI, IntKind.wrap_i64]; omega
        have ha2 : a + 2 ≤ 128 := by omega
        obtain ⟨mm, hm⟩ : ∃ mm, 1 + j = mm := ⟨_, rfl⟩
        have hmI : (1 : Int) + (j : Int) = (mm : Int) := by omega
        have hmh : mm < D.has.length := by omega
        have hm41 : mm ≤ 41 := by omega
        obtain ⟨u, hu⟩ : ∃ u, valL (cutL hd a 2) = u := ⟨_, rfl⟩
        have hu6 : u < 65536 := by rw [← hu]; exact val2 hd a (by rw [HLN.out]; exact ha2)
        have HAT := hid (fun (X : World) => (show Calls Try.prog 77 #[.string (str hd), .int .i64 (a : Int), .int .i64 2] X (fun e w' => e = .returned (.tuple #[.int .u64 (u : Int), .int .i64 0]) ∧ X = w') from by rw [← hu]; exact HNUM.out X a ha2))
        obtain ⟨s, hs⟩ : ∃ s, readD D mm = s := ⟨_, rfl⟩
        have HRD := hid (by have := rread_d (HST.out.below HBW.out) (Nat.le_trans HSZ.out HBW.out.size) mm hmh hoff (by omega); rw [hs] at this; exact this : Calls Try.prog 62 #[.pointer (some ⟨m, 0, none⟩), .int .i64 (mm : Int)] wr fun e w' => e = .returned (.tuple #[.string (str s), .int .i64 0]) ∧ wr = w')
        have hsl : s.length = 128 := by rw [← hs]; exact HLS.out mm hmh
        have HSL := hid hsl
        have HEN : Hid (entJ D hd j = ((u : Int), s)) := hid (by unfold entJ; rw [ha, hu, hm, hs])
        have uw : IntKind.i64.wrap (u : Int) = (u : Int) := by rw [IntKind.wrap_i64]; omega
        have jw : IntKind.i64.wrap ((1 : Int) + (j : Int)) = (mm : Int) := by rw [hmI, IntKind.wrap_i64]; omega
        have j2w : IntKind.i64.wrap (2 * (j : Int)) = 2 * (j : Int) := by rw [IntKind.wrap_i64]; omega
        have hcc := run_bytes_of_string (P := Try.prog) wr 9 24 5 (str s) Try.underlying9 Try.underlying24 Try.underlying5
        have hge := grownCap_ge wr (str s).size 0 5
        have hbw := bytesW_below wr 5 s
        have hoo := bytesW_own wr 5 s
        rw [show wr.drew.alloc (.cells (bytesRow (str s) (grownCap wr (str s).size 0 5)) 5 ((bytesRow (str s) (grownCap wr (str s).size 0 5)).size, (bytesRow (str s) (grownCap wr (str s).size 0 5)).size + 1)) = bytesW wr 5 s from rfl] at hcc
        obtain ⟨W1, hW1⟩ : ∃ W1, bytesW wr 5 s = W1 := ⟨_, rfl⟩
        obtain ⟨cc, hcce⟩ : ∃ cc, grownCap wr (str s).size 0 5 = cc := ⟨_, rfl⟩
        rw [hW1, hcce, str_size, hsl] at hcc
        rw [hcce, str_size, hsl] at hge
        rw [hW1] at hbw hoo
        have hx := (Below.refl W1.heap.size W1).alloc (Nat.le_refl _) (.cells #[.int .i64 (u : Int), .slice (some ⟨wr.heap.size, 0, none⟩) 128 cc] 47)
        have HX := hid (past (past HBW.out hbw) hx)
        have HO3 := hid (own_below (own_below HO.out hbw) hx)
        have HVS3 := hid (fun v hv => ((HVS.out v hv).below hbw).below hx)
        have HNEW : Hid (BytV (W1.alloc (.cells #[.int .i64 (u : Int), .slice (some ⟨wr.heap.size, 0, none⟩) 128 cc] 47)) ⟨(u : Int), some ⟨wr.heap.size, 0, none⟩, 128, cc, s⟩) := hid (by
          obtain ⟨cur, fr, k1, -, k2⟩ := hoo
          refine ⟨rfl, hge, hsl, ⟨by show -9223372036854775808 ≤ (u : Int); omega, by show (u : Int) ≤ 9223372036854775807; omega⟩, CellsT.below (fun _ => ⟨wr.heap.size, 0, cur, fr, rfl, k1, fun j u hu => by rw [Nat.zero_add]; exact k2 j u hu⟩) hx⟩)
        clear ha haI hm hu hs hmh hsl hge hbw hoo hW1 hcce hx
        go_wp2_with (first
          | (go_at_call 77; refine (HAT.out _).mono ?_; rintro e w2 ⟨rfl, rfl⟩)
          | (go_at_call 62; refine HRD.out.mono ?_; rintro e w3 ⟨rfl, rfl⟩)
          | (refine wpList_append_row _ rfl (.tmp 53) (.tmp 59) putT rfl W.heap.size (.slice A1 j c1) j (vs.flatMap puC) rfl HO3.out (some ⟨W1.heap.size, 0, none⟩) 1 1 [.int .i64 (u : Int), .slice (some ⟨wr.heap.size, 0, none⟩) 128 cc] rfl rfl (Row.of_block (heap_alloc_new W1 (Obj.cells #[.int .i64 (u : Int), .slice (some ⟨wr.heap.size, 0, none⟩) 128 cc] 47))) (by simp [Value.oneCell']) (by simp only [maxLen]; omega) (by omega) HX.out.size ?_
             intro A5 c5 w5 ho5 hg5 hh5
             have HFI : Hid (∃ vs : List PuV, w5.ownsRow W.heap.size 47 2 (.slice A5 (j + 1) c5) (j + 1) (vs.flatMap puC) ∧ vs.length = j + 1 ∧ vs.map PuV.p = tellK D hd (j + 1) ∧ (∀ v ∈ vs, BytV w5 v) ∧ Below W.heap.size W w5) := hid (by
               refine ⟨vs ++ [⟨(u : Int), some ⟨wr.heap.size, 0, none⟩, 128, cc, s⟩], ?_, by rw [List.length_append, HVL.out]; rfl, ?_, fun v hv => ?_, HX.out.grown hg5 HX.out.size (own_base HO3.out)⟩
               · rw [List.flatMap_append]
                 exact ho5
               · rw [List.map_append, HVP.out, tellK_succ, HEN.out]
                 rfl
               · rcases List.mem_append.1 hv with hv | hv
                 · exact (HVS3.out v hv).grown HO3.out hg5
                 · rw [List.mem_singleton.1 hv]
                   exact HNEW.out.grown HO3.out hg5)
             clear ho5 hg5 hh5))
        go_roundw
        case rel => exact ⟨j + 1, A5, c5, by omega, rfl, by go_num, HFI⟩
        case measure => simp [intOf]; omega
      · have e1 := lt_f hlt
        have e1n := lt_nf hlt
        have hjq : j = q := by omega
        subst hjq
        obtain ⟨l, hl⟩ : ∃ l, tellK D hd j = l := ⟨_, rfl⟩
        rw [hl] at HVP HTL
        have HPT := hid (putsT_byt HO.out HVL.out HVS.out)
        obtain ⟨N, hN⟩ : ∃ N, D.has.length = N := ⟨_, rfl⟩
        have hNN : N ≤ 2048 := by rw [← hN]; exact HST.out.lenD
        have hrs := HST.out.below HBW.out
        obtain ⟨AH, cH, hcell⟩ := hrs.hasC
        rw [hN] at hcell HTL
        have HMY := hid (by have := rmay_any A1 j c1 vs (N : Int) wr HPT.out.puts (by omega); rw [HVP.out] at this; exact this : Calls Try.prog 9 #[.slice A1 j c1, .int .i64 (N : Int)] wr fun e w' => e = .returned (.bool (mayJ l (N : Int))) ∧ Below wr.heap.size wr w')
        clear hl hlt hN hrs
        cases hmn : mayJ l (N : Int) with
        | false =>
          have HF : Hid (toldD D = none) := hid (by
            rw [HTL.out, if_neg]
            rintro ⟨h1, -⟩
            rw [hmn] at h1
            cases h1)
          rw [hmn] at HMY
          clear hmn
          go_wp2_with (go_at_call 9; refine HMY.out.mono ?_; rintro e w4 ⟨rfl, b4⟩; have HB4 := hid (past HBW.out b4); clear b4)
          go_ret2
          exact ⟨HB4.out, .inl ⟨HF.out, rfl⟩⟩
        | true =>
          have HHE := hid (fun (X : World) (hb : Below wr.heap.size wr X) => (by have := rhead_any A1 j c1 vs X (HPT.out.below hb).puts (by rw [HVP.out]; exact mayJ_2048 l _ (by omega) hmn); rw [HVP.out] at this; exact this : Calls Try.prog 11 #[.slice A1 j c1] X fun e w' => e = .returned (.string (str (headL l))) ∧ Below X.heap.size X w'))
          have HT2 : Hid (toldD D = if headL l = hd then some l else none) := hid (by rw [HTL.out, hmn]; simp)
          rw [hmn] at HMY
          clear hmn
          by_cases he : headL l = hd
          · have HF : Hid (toldD D = some l) := hid (by rw [HT2.out, if_pos he])
            have h1 := str_ne he
            have h2 : (headL l == hd) = true := by rw [beq_iff_eq]; exact he
            clear he
            go_wp2_with (first
              | (go_at_call 9; refine HMY.out.mono ?_; rintro e w4 ⟨rfl, b4⟩; have HB4 := hid b4; clear b4)
              | (go_at_call 11; refine (HHE.out _ HB4.out).mono ?_; rintro e w5 ⟨rfl, b5⟩; have HB5 := hid (past HB4.out b5); clear b5))
            go_ret2
            exact ⟨past HBW.out HB5.out, .inr ⟨l, A1, j, c1, vs, HF.out, rfl, HPT.out.below HB5.out, HVP.out, hq40, hq1⟩⟩
          · have HF : Hid (toldD D = none) := hid (by rw [HT2.out, if_neg he])
            have h1 : (str (headL l) != str hd) = true := by rw [bne, str_eqv, decide_eq_false he]; rfl
            have h2 : (headL l == hd) = false := by rw [beq_eq_false_iff_ne]; exact he
            clear he
            go_wp2_with (first
              | (go_at_call 9; refine HMY.out.mono ?_; rintro e w4 ⟨rfl, b4⟩; have HB4 := hid b4; clear b4)
              | (go_at_call 11; refine (HHE.out _ HB4.out).mono ?_; rintro e w5 ⟨rfl, b5⟩; have HB5 := hid (past HB4.out b5); clear b5))
            go_ret2
            exact ⟨past HBW.out HB5.out, .inl ⟨HF.out, rfl⟩⟩
end Go.Proofs.Ytpppmijohfjigaa
