/-
  HeadFields: the walk. A part of the proof: see the head of the text that ends in 'Law'.
-/
import Derived.Test.YthlofpofcpconaaDoorHe24
namespace Go.Proofs.YthlofpofcpconaaDoor
open Go.RowKit Go.Shelf
set_option linter.unusedVariables false
set_option linter.unusedSimpArgs false
attribute [local go_sem] Oper.semAt_some

theorem feeds_step (l : List UInt8) (k : Nat) (hk : k < l.length) (x : UInt8) (hx : l[k] = x) : feedsL (l.take (k + 1)) = if x.toNat = 10 then feedsL (l.take k) + 1 else feedsL (l.take k) := by
  unfold feedsL
  rw [List.take_succ_eq_append_getElem hk, hx, List.count_append]
  by_cases h : x.toNat = 10
  · rw [if_pos h, UInt8.toNat_inj.1 (show x.toNat = (10 : UInt8).toNat from h)]
    rfl
  · rw [if_neg h, List.count_cons, List.count_nil, if_neg]
    · rfl
    · intro e
      rw [beq_iff_eq] at e
      rw [e] at h
      exact h rfl
theorem inF_take (fs : List Fd) (g : FI) (k : Nat) (hk : k < fs.length) : inF (fs.take (k + 1)) g = (inF (fs.take k) g || decide (g = fs[k].toI)) := by
  unfold inF
  rw [List.take_succ_eq_append_getElem hk, List.any_append, List.any_cons, List.any_nil, Bool.or_false]
def gF (g : FI) : Fd := ⟨g.nm, g.fr.toNat, g.te.toNat, g.at_.toNat⟩
def textT (l : List UInt8) (g : FI) (j : Nat) : List UInt8 := if inF ((fieldsL l).take j) g = true then fdText l (gF g) else []
theorem textT_zero (l : List UInt8) (g : FI) : textT l g 0 = [] := rfl
theorem textT_all (l : List UInt8) (g : FI) (k : Nat) (h : (fieldsL l).length = k) : textT l g k = textI l g := by
  unfold textT textI
  rw [← h, List.take_length]
  rfl
theorem textT_yes (l : List UInt8) (g : FI) (k : Nat) (hk : k < (fieldsL l).length) (x : Fd) (hx : (fieldsL l)[k] = x) (hg : g = x.toI) : textT l g (k + 1) = fdText l x := by
  unfold textT
  rw [inF_take _ _ _ hk, hx, decide_eq_true hg, Bool.or_true, if_pos rfl, hg]
  rfl
theorem textT_no (l : List UInt8) (g : FI) (k : Nat) (hk : k < (fieldsL l).length) (x : Fd) (hx : (fieldsL l)[k] = x) (hg : ¬ g = x.toI) : textT l g (k + 1) = textT l g k := by
  unfold textT
  rw [inF_take _ _ _ hk, hx, decide_eq_false hg, Bool.or_false]
/-- The cells of a field at o in block b. -/
abbrev FdAt (W : World) (b o : Nat) (x : Fd) : Prop := W.cell? ⟨b, o, none⟩ = some (.string (str x.nm)) ∧ W.cell? ⟨b, o + 1, none⟩ = some (.int .i64 (x.fr : Int)) ∧ W.cell? ⟨b, o + 2, none⟩ = some (.int .i64 (x.te : Int)) ∧ W.cell? ⟨b, o + 3, none⟩ = some (.int .i64 (x.at_ : Int))
theorem FdAt.keep {W W' : World} {b o : Nat} {x : Fd} (h : FdAt W b o x) (hb : Below W.heap.size W W') : FdAt W' b o x := ⟨cells_keep hb h.1, cells_keep hb h.2.1, cells_keep hb h.2.2.1, cells_keep hb h.2.2.2⟩
set_option maxRecDepth 100000 in
set_option maxHeartbeats 16000000 in
theorem walkHeadFields (A : Option Addr) (n c : Nat) (l : List UInt8) (g : FI) (w : World) (ho : Oct w A n l) (hn : n ≤ c) (hc : c ≤ maxLen) (hA : A = none → c = 0) :
    Calls Tryd.prog 7 #[.slice A n c, .agg #[.string (str g.nm), .int .i64 g.fr, .int .i64 g.te, .int .i64 g.at_]] w fun e w' => e = .returned (.bool true) ∧ Below w.heap.size w w' := by
  obtain ⟨w0, hw0⟩ : ∃ w0, w.alloc (.cells #[.string (str g.nm), .int .i64 g.fr, .int .i64 g.te, .int .i64 g.at_] 39) = w0 := ⟨_, rfl⟩
  have B0 : Below w.heap.size w w0 := by rw [← hw0]; exact (Below.refl _ w).alloc (Nat.le_refl _) _
  have X0 : OwnE w0 w.heap.size 39 [.string (str g.nm), .int .i64 g.fr, .int .i64 g.te, .int .i64 g.at_] := by rw [← hw0]; exact OwnE.new_ w _ _
  have HFW := hid (few17_any A n c w0 hn (Nat.le_trans hn hc))
  have HO0 := hid (ho.below B0)
  have HNC := hid hn
  have HA := hid hA
  have HB0 := hid B0
  have HX0 := hid X0
  clear ho hn hc hA B0 X0
  go_enter Tryd.func7, Tryd.ntmps7
  go_upto_region 2 with (go_at_call 8; refine HFW.out.mono ?_; rintro e w1 ⟨⟨k0, rfl, hk, hkn⟩, rfl⟩)
  clear hw0
  obtain ⟨lb, hlb⟩ : ∃ lb, l.take k0 = lb := ⟨_, rfl⟩
  have HO : Hid (Oct w0 A k0 lb) := hid (by rw [← hlb]; exact HO0.out.take k0 hkn)
  have HLL : Hid (lb.length = k0) := hid HO.out.1
  have HLB : Hid (lb.length ≤ 100000) := hid (by have := HO.out.1; omega)
  have hkc : k0 ≤ 100000 := by omega
  have HKC : Hid (k0 ≤ c) := hid (Nat.le_trans hkn HNC.out)
  have kcv : ∀ W, Oct W A k0 lb → (convert 22 9 (.slice A k0 c)).run Tryd.prog W = .ok (.string (str lb)) W := fun W h => run_string_oct c h Tryd.underlying22 Tryd.underlying5 Tryd.underlying9
  have kc0 := kcv w0 HO.out
  have HKCV := hid kcv
  have HFA := hid (fields_any A k0 c lb w0 HO.out HKC.out hkc)
  have HFR := hid (fun X => rfields_any lb X HLB.out)
  have HSP := hid (fun X hX => split_any A k0 c lb X (HO.out.below hX) HKC.out hkc)
  have HSR := hid (fun X => rsplit_any lb X HLB.out)
  have hfl := fields_len lb
  obtain ⟨k, hk⟩ : ∃ k, (fieldsL lb).length = k := ⟨_, rfl⟩
  rw [hk] at HFA hfl
  have HK := hid hk
  have hk1 : k ≤ 100000 := by have := HLB.out; omega
  obtain ⟨sp, hsp⟩ : ∃ sp, splitL lb = sp := ⟨_, rfl⟩
  rw [hsp] at HSP HSR
  clear hlb kcv hk hfl hsp HFW
  go_wp2_with (first
    | (go_at_call 17; refine HFA.out.mono ?_; rintro e w2 ⟨v, rfl, ho2, b2⟩; obtain ⟨A1, c1, rfl, -⟩ := own_slice ho2; have HR1 := hid (Row.of_own ho2); have HB2 := hid b2; clear ho2 b2)
    | (go_at_call 21; refine (HFR.out _).mono ?_; rintro e w3 ⟨A2, k2, c2, rfl, hk2, hkc2, ho3, b3⟩; obtain rfl : k2 = k := hk2.symm.trans HK.out; have HR1 := hid (HR1.out.below b3); have HR2 := hid (Row.of_own ho3); have HB3 := hid (past HB2.out b3); clear ho3 b3 hk2)
    | (go_at_call 18; refine (HSP.out _ HB3.out).mono ?_; rintro e w4 ⟨rfl, b⟩; have HB4 := hid (past HB3.out b); have HR1 := hid (HR1.out.below b); have HR2 := hid (HR2.out.below b); clear b)
    | (go_at_call 22; refine (HSR.out _).mono ?_; rintro e w5 ⟨rfl, b⟩; have HB5 := hid (past HB4.out b); have HR1 := hid (HR1.out.below b); have HR2 := hid (HR2.out.below b); clear b))
  have HC1 : Hid (∀ j (hj : j < (fieldsL lb).length) X, Below w5.heap.size w5 X → ∃ b off, A1 = some ⟨b, off, none⟩ ∧ FdAt X b (off + j * 4) ((fieldsL lb)[j]'hj)) := hid (fun j hj X hX => by
    obtain ⟨b, off, hA1, hc⟩ := fd_at HR1.out hj
    exact ⟨b, off, hA1, FdAt.keep (hc j hj) hX⟩)
  have HC2 : Hid (∀ j (hj : j < (fieldsL lb).length) X, Below w5.heap.size w5 X → ∃ b off, A2 = some ⟨b, off, none⟩ ∧ FdAt X b (off + j * 4) ((fieldsL lb)[j]'hj)) := hid (fun j hj X hX => by
    obtain ⟨b, off, hA1, hc⟩ := fd_at HR2.out hj
    exact ⟨b, off, hA1, FdAt.keep (hc j hj) hX⟩)
  clear HR1 HR2 HFA HFR HSR HSP HB2 HB3 HB4 kc0
  have hsz : (str lb).size = k0 := HLL.out
  go_loopw [9, 10] (fun v9 v10 wr => ∃ i : Nat, i ≤ k0 ∧ v9 = .int .i64 (feedsL (lb.take i) : Int) ∧ v10 = .int .i64 (i : Int) ∧ w5 = wr) (fun v9 v10 wr => k0 - (intOf v10).toNat)
  case atStart => exact ⟨0, Nat.zero_le _, rfl, rfl, rfl⟩
  case round =>
    obtain ⟨i, hi, rfl, rfl, rfl⟩ := hrel
    by_cases hlt : i < k0
    · have d1 := lt_t hlt
      have d1' := lt_nt hlt
      have e0 : (0 : Int) ≤ (i : Int) := by omega
      have e1 : (i : Int) < ((str lb).size : Int) := by rw [hsz]; omega
      have e3 : (i : Int).toNat = i := by omega
      have hil : i < lb.length := by rw [HLL.out]; exact hlt
      have his : i < (str lb).size := hil
      obtain ⟨z, hzz⟩ : ∃ z, lb[i]'hil = z := ⟨_, rfl⟩
      have h1 : (str lb)[i]'his = z := (str_get lb i his).trans hzz
      have hst := feeds_step lb i hil z hzz
      obtain ⟨fe, hfe⟩ : ∃ fe, feedsL (lb.take i) = fe := ⟨_, rfl⟩
      rw [hfe] at hst
      have hfl : fe ≤ i := by
        rw [← hfe]
        unfold feedsL
        refine Nat.le_trans List.count_le_length ?_
        rw [List.length_take]
        omega
      rw [hfe]
      have HST := hid hst
      clear hil hzz hst hfe
      by_cases hz : z.toNat = 10
      · have q1 : ((z.toNat : Int) == 10) = true := by rw [hz]; rfl
        have q1' : (z.toNat == 10) = true := by rw [hz]; rfl
        have HST2 := hid (HST.out.trans (if_pos hz))
        clear HST hz
        go_wp2_with fail
        go_roundw
        case rel => exact ⟨i + 1, by omega, by rw [HST2.out]; go_num, by go_num, trivial⟩
        case measure => simp [intOf]; omega
      · have q1 : ((z.toNat : Int) == 10) = false := ne_f hz
        have q1' := ne_n hz
        have HST2 := hid (HST.out.trans (if_neg hz))
        clear HST hz
        go_wp2_with fail
        go_roundw
        case rel => exact ⟨i + 1, by omega, by rw [HST2.out], by go_num, trivial⟩
        case measure => simp [intOf]; omega
    · have d1 := lt_f hlt
      have d1' := lt_nf hlt
      have hfe : feedsL (lb.take i) = feedsL lb := by rw [List.take_of_length_le (by rw [HLL.out]; omega)]
      rw [hfe]
      obtain ⟨fe, hfe2⟩ : ∃ fe, feedsL lb = fe := ⟨_, rfl⟩
      rw [hfe2]
      have HFE := hid hfe2
      have HT0 : Hid (textT lb g 0 = []) := hid (textT_zero lb g)
      clear hfe hfe2
      go_wp2_with fail
      go_loopw [8, 11] (fun v8 v11 wr => ∃ (j : Nat) (tx : List UInt8), j ≤ k2 ∧ v8 = .string (str tx) ∧ v11 = .int .i64 (j : Int) ∧ Hid (textT lb g j = tx) ∧ Hid (Below w5.heap.size w5 wr)) (fun v8 v11 wr => k2 - (intOf v11).toNat)
      case atStart => exact ⟨0, [], Nat.zero_le _, rfl, rfl, HT0, hid (Below.refl _ _)⟩
      case round =>
        clear HT0
        obtain ⟨j, tx, hj, rfl, rfl, HT, HBL⟩ := hrel
        rename World => wr
        by_cases hlt2 : j < k2
        · have g1 := lt_t hlt2
          have g1' := lt_nt hlt2
          have j0 : (0 : Int) ≤ (j : Int) := by omega
          have j1 : (j : Int) < (k2 : Int) := by omega
          have j3 : (j : Int).toNat = j := by omega
          have hjl : j < (fieldsL lb).length := by rw [HK.out]; exact hlt2
          obtain ⟨b1, o1, rfl, hc1⟩ := HC1.out j hjl wr HBL.out
          obtain ⟨b2, o2, rfl, hc2⟩ := HC2.out j hjl wr HBL.out
          have hmem : (fieldsL lb)[j]'hjl ∈ fieldsL lb := List.getElem_mem hjl
          obtain ⟨x, hx⟩ : ∃ x, (fieldsL lb)[j]'hjl = x := ⟨_, rfl⟩
          have HTY := hid (textT_yes lb g j hjl x hx)
          have HTN := hid (textT_no lb g j hjl x hx)
          rw [hx] at hc1 hc2 hmem
          have hb := field_bounds hmem
          have HTX := hid (fun X (hX : Below w0.heap.size w0 X) => Text_any A k0 c lb x.toI X (HO.out.below hX) HKC.out hkc)
          rw [textI_mem hmem] at HTX
          have HRX := hid (fun X => rtext_any lb x X HLB.out hb.1 hb.2.1)
          obtain ⟨y, hy⟩ : ∃ y, fdText lb x = y := ⟨_, rfl⟩
          rw [hy] at HTX HRX HTY
          unfold Fd.toI at HTX
          dsimp only at HTX
          have hq := fun W => run_equal_fd W x.toI x.toI
          have hd : decide (x.toI = x.toI) = true := by simp
          rw [hd] at hq
          unfold Fd.toI at hq
          dsimp only at hq
          have hq2 := fun W => run_equal_fd W g x.toI
          unfold Fd.toI at hq2
          dsimp only at hq2
          have HTI : Hid ((⟨x.nm, (x.fr : Int), (x.te : Int), (x.at_ : Int)⟩ : FI) = x.toI) := hid rfl
          obtain ⟨t, ht⟩ : ∃ t, decide (g = x.toI) = t := ⟨_, rfl⟩
          rw [HTI.out, ht] at hq2
          have HTT := hid ht
          have hg : Tryd.prog.eqGuardType Tryd.prog.depth 39 = false := by kernel_rfl
          have q0 : (str y != str y) = false := by rw [bne, str_self]; rfl
          have HC := hid hc1
          have hBW := hid (past HB5.out HBL.out)
          have HHB := hid hb
          clear hjl hx hmem hb hy hd ht
          go_upto_region 16 with fail
          have hS : (FdAt wr.drew b1 (o1 + j * 4) x ∧ FdAt wr.drew b2 (o2 + j * 4) x) ∧ Hid (Below w0.heap.size w0 wr.drew) ∧ Hid (Below w5.heap.size w5 wr.drew) := ⟨⟨hc1, hc2⟩, hid (bq hBW.out 1), hid (bq HBL.out 1)⟩
          clear hc1 hc2
          unfold FdAt at hS
          refine wp_region_noPanic ?_
          refine wp_region_held_drew (S := (fun W => ((W.cell? ⟨b1, o1 + j * 4, none⟩ = some (.string (str x.nm)) ∧ W.cell? ⟨b1, o1 + j * 4 + 1, none⟩ = some (.int .i64 (x.fr : Int)) ∧ W.cell? ⟨b1, o1 + j * 4 + 2, none⟩ = some (.int .i64 (x.te : Int)) ∧ W.cell? ⟨b1, o1 + j * 4 + 3, none⟩ = some (.int .i64 (x.at_ : Int))) ∧ W.cell? ⟨b2, o2 + j * 4, none⟩ = some (.string (str x.nm)) ∧ W.cell? ⟨b2, o2 + j * 4 + 1, none⟩ = some (.int .i64 (x.fr : Int)) ∧ W.cell? ⟨b2, o2 + j * 4 + 2, none⟩ = some (.int .i64 (x.te : Int)) ∧ W.cell? ⟨b2, o2 + j * 4 + 3, none⟩ = some (.int .i64 (x.at_ : Int))) ∧ Hid (Below w0.heap.size w0 W) ∧ Hid (Below w5.heap.size w5 W))) (by kernel_rfl) (by first | assumption | trivial) (fun hHeld => ?_)
          refine wpAnyH_take (i := 0) (v := ?_) rfl (by kernel_rfl) (by kernel_rfl) (by kernel_rfl) (fun _ _ _ h => h) (Or.inl ⟨by kernel_rfl, ?_⟩) (by first | assumption | trivial) ?_
          rotate_left
          · (intro wS hSw; (try dsimp only at hSw); go_simp; try with_reducible rfl)
          (try simp only [List.append_eq, List.cons_append, List.nil_append, List.getElem_toArray, List.getElem_cons_succ, List.getElem_cons_zero, Act.put, List.setIfInBounds_toArray, List.set_cons_zero, List.set_cons_succ])
          refine wpAnyH_take (i := 1) (v := ?_) rfl (by kernel_rfl) (by kernel_rfl) (by kernel_rfl) (fun _ _ _ h => h) (Or.inl ⟨by kernel_rfl, ?_⟩) (by first | assumption | trivial) ?_
          rotate_left
          · (intro wS hSw; (try dsimp only at hSw); go_simp; try with_reducible rfl)
          (try simp only [List.append_eq, List.cons_append, List.nil_append, List.getElem_toArray, List.getElem_cons_succ, List.getElem_cons_zero, Act.put, List.setIfInBounds_toArray, List.set_cons_zero, List.set_cons_succ])
          refine wpAnyH_take (i := 2) (v := ?_) rfl (by kernel_rfl) (by kernel_rfl) (by kernel_rfl) (fun _ _ _ h => h) (Or.inl ⟨by kernel_rfl, ?_⟩) (by first | assumption | trivial) ?_
          rotate_left
          · (intro wS hSw; (try dsimp only at hSw); go_simp; try with_reducible rfl)
          (try simp only [List.append_eq, List.cons_append, List.nil_append, List.getElem_toArray, List.getElem_cons_succ, List.getElem_cons_zero, Act.put, List.setIfInBounds_toArray, List.set_cons_zero, List.set_cons_succ])
          refine wpAnyH_take (i := 3) (v := ?_) rfl (by kernel_rfl) (by kernel_rfl) (by kernel_rfl) (fun _ _ _ h => h) (Or.inl ⟨by kernel_rfl, ?_⟩) (by first | assumption | trivial) ?_
          rotate_left
          · (intro wS hSw; (try dsimp only at hSw); go_simp; try with_reducible rfl)
          (try simp only [List.append_eq, List.cons_append, List.nil_append, List.getElem_toArray, List.getElem_cons_succ, List.getElem_cons_zero, Act.put, List.setIfInBounds_toArray, List.set_cons_zero, List.set_cons_succ])
          refine wpAnyH_take (i := 4) (v := ?_) rfl (by kernel_rfl) (by kernel_rfl) (by kernel_rfl) (fun _ _ _ h => h) (Or.inl ⟨by kernel_rfl, ?_⟩) (by first | assumption | trivial) ?_
          rotate_left
          · (intro wS hSw; (try dsimp only at hSw); go_simp; try with_reducible rfl)
          (try simp only [List.append_eq, List.cons_append, List.nil_append, List.getElem_toArray, List.getElem_cons_succ, List.getElem_cons_zero, Act.put, List.setIfInBounds_toArray, List.set_cons_zero, List.set_cons_succ])
          refine wpAnyH_take (i := 5) (v := ?_) rfl (by kernel_rfl) (by kernel_rfl) (by kernel_rfl) (fun _ _ _ h => h) (Or.inl ⟨by kernel_rfl, ?_⟩) (by first | assumption | trivial) ?_
          rotate_left
          · (intro wS hSw; (try dsimp only at hSw); go_simp; try with_reducible rfl)
          (try simp only [List.append_eq, List.cons_append, List.nil_append, List.getElem_toArray, List.getElem_cons_succ, List.getElem_cons_zero, Act.put, List.setIfInBounds_toArray, List.set_cons_zero, List.set_cons_succ])
          refine wpAnyH_take (i := 6) (v := ?_) rfl (by kernel_rfl) (by kernel_rfl) (by kernel_rfl) (fun _ _ _ h => h) (Or.inl ⟨by kernel_rfl, ?_⟩) (by first | assumption | trivial) ?_
          rotate_left
          · (intro wS hSw; (try dsimp only at hSw); go_simp; try with_reducible rfl)
          (try simp only [List.append_eq, List.cons_append, List.nil_append, List.getElem_toArray, List.getElem_cons_succ, List.getElem_cons_zero, Act.put, List.setIfInBounds_toArray, List.set_cons_zero, List.set_cons_succ])
          refine wpAnyH_take (i := 7) (v := ?_) rfl (by kernel_rfl) (by kernel_rfl) (by kernel_rfl) (fun _ _ _ h => h) (Or.inl ⟨by kernel_rfl, ?_⟩) (by first | assumption | trivial) ?_
          rotate_left
          · (intro wS hSw; (try dsimp only at hSw); go_simp; try with_reducible rfl)
          (try simp only [List.append_eq, List.cons_append, List.nil_append, List.getElem_toArray, List.getElem_cons_succ, List.getElem_cons_zero, Act.put, List.setIfInBounds_toArray, List.set_cons_zero, List.set_cons_succ])
          refine wpAnyH_take (i := 8) (v := ?_) rfl (by kernel_rfl) (by kernel_rfl) (by kernel_rfl) (fun _ _ _ h => h) (Or.inl ⟨by kernel_rfl, ?_⟩) (by first | assumption | trivial) ?_
          rotate_left
          · (intro wS hSw; (try dsimp only at hSw); go_simp; try with_reducible rfl)
          (try simp only [List.append_eq, List.cons_append, List.nil_append, List.getElem_toArray, List.getElem_cons_succ, List.getElem_cons_zero, Act.put, List.setIfInBounds_toArray, List.set_cons_zero, List.set_cons_succ])
          refine wpAnyH_take (i := 9) (v := ?_) rfl (by kernel_rfl) (by kernel_rfl) (by kernel_rfl) (fun _ _ _ h => h) (Or.inl ⟨by kernel_rfl, ?_⟩) (by first | assumption | trivial) ?_
          rotate_left
          · (intro wS hSw; (try dsimp only at hSw); go_simp; try with_reducible rfl)
          (try simp only [List.append_eq, List.cons_append, List.nil_append, List.getElem_toArray, List.getElem_cons_succ, List.getElem_cons_zero, Act.put, List.setIfInBounds_toArray, List.set_cons_zero, List.set_cons_succ])
          refine wpAnyH_take (i := 10) (v := ?_) rfl (by kernel_rfl) (by kernel_rfl) (by kernel_rfl) (fun _ _ _ h => h) (Or.inl ⟨by kernel_rfl, ?_⟩) (by first | assumption | trivial) ?_
          rotate_left
          · (intro wS hSw; (try dsimp only at hSw); go_simp; try with_reducible rfl)
          (try simp only [List.append_eq, List.cons_append, List.nil_append, List.getElem_toArray, List.getElem_cons_succ, List.getElem_cons_zero, Act.put, List.setIfInBounds_toArray, List.set_cons_zero, List.set_cons_succ])
          refine wpAnyH_take (i := 11) (v := ?_) rfl (by kernel_rfl) (by kernel_rfl) (by kernel_rfl) (fun _ _ _ h => h) (Or.inl ⟨by kernel_rfl, ?_⟩) (by first | assumption | trivial) ?_
          rotate_left
          · (intro wS hSw; (try dsimp only at hSw); go_simp; try with_reducible rfl)
          (try simp only [List.append_eq, List.cons_append, List.nil_append, List.getElem_toArray, List.getElem_cons_succ, List.getElem_cons_zero, Act.put, List.setIfInBounds_toArray, List.set_cons_zero, List.set_cons_succ])
          refine wpAnyH_take (i := 12) (v := ?_) rfl (by kernel_rfl) (by kernel_rfl) (by kernel_rfl) (fun _ _ _ h => h) (Or.inl ⟨by kernel_rfl, ?_⟩) (by first | assumption | trivial) ?_
          rotate_left
          · (intro wS hSw; (try dsimp only at hSw); go_simp; try with_reducible rfl)
          (try simp only [List.append_eq, List.cons_append, List.nil_append, List.getElem_toArray, List.getElem_cons_succ, List.getElem_cons_zero, Act.put, List.setIfInBounds_toArray, List.set_cons_zero, List.set_cons_succ])
          refine wpAnyH_take (i := 13) (v := ?_) rfl (by kernel_rfl) (by kernel_rfl) (by kernel_rfl) (fun _ _ _ h => h) (Or.inl ⟨by kernel_rfl, ?_⟩) (by first | assumption | trivial) ?_
          rotate_left
          · (intro wS hSw; (try dsimp only at hSw); go_simp; try with_reducible rfl)
          (try simp only [List.append_eq, List.cons_append, List.nil_append, List.getElem_toArray, List.getElem_cons_succ, List.getElem_cons_zero, Act.put, List.setIfInBounds_toArray, List.set_cons_zero, List.set_cons_succ])
          refine wpAnyH_take (i := 14) (v := ?_) rfl (by kernel_rfl) (by kernel_rfl) (by kernel_rfl) (fun _ _ _ h => h) (Or.inl ⟨by kernel_rfl, ?_⟩) (by first | assumption | trivial) ?_
          rotate_left
          · (intro wS hSw; (try dsimp only at hSw); go_simp; try with_reducible rfl)
          (try simp only [List.append_eq, List.cons_append, List.nil_append, List.getElem_toArray, List.getElem_cons_succ, List.getElem_cons_zero, Act.put, List.setIfInBounds_toArray, List.set_cons_zero, List.set_cons_succ])
          refine wpAnyH_take (i := 16) (v := ?_) rfl (by kernel_rfl) (by kernel_rfl) (by kernel_rfl) (fun _ _ _ h => h) (Or.inl ⟨by kernel_rfl, ?_⟩) (by first | assumption | trivial) ?_
          rotate_left
          · (intro wS hSw; (try dsimp only at hSw); go_simp; try with_reducible rfl)
          (try simp only [List.append_eq, List.cons_append, List.nil_append, List.getElem_toArray, List.getElem_cons_succ, List.getElem_cons_zero, Act.put, List.setIfInBounds_toArray, List.set_cons_zero, List.set_cons_succ])
          refine wpAnyH_take (i := 17) (v := ?_) rfl (by kernel_rfl) (by kernel_rfl) (by kernel_rfl) (fun _ _ _ h => h) (Or.inl ⟨by kernel_rfl, ?_⟩) (by first | assumption | trivial) ?_
          rotate_left
          · (intro wS hSw; (try dsimp only at hSw); go_simp; try with_reducible rfl)
          (try simp only [List.append_eq, List.cons_append, List.nil_append, List.getElem_toArray, List.getElem_cons_succ, List.getElem_cons_zero, Act.put, List.setIfInBounds_toArray, List.set_cons_zero, List.set_cons_succ])
          refine wpAnyH_take (i := 18) (v := ?_) rfl (by kernel_rfl) (by kernel_rfl) (by kernel_rfl) (fun _ _ _ h => h) (Or.inl ⟨by kernel_rfl, ?_⟩) (by first | assumption | trivial) ?_
          rotate_left
          · (intro wS hSw; (try dsimp only at hSw); go_simp; try with_reducible rfl)
          (try simp only [List.append_eq, List.cons_append, List.nil_append, List.getElem_toArray, List.getElem_cons_succ, List.getElem_cons_zero, Act.put, List.setIfInBounds_toArray, List.set_cons_zero, List.set_cons_succ])
          refine wpAnyH_take (i := 19) (v := ?_) rfl (by kernel_rfl) (by kernel_rfl) (by kernel_rfl) (fun _ _ _ h => h) (Or.inl ⟨by kernel_rfl, ?_⟩) (by first | assumption | trivial) ?_
          rotate_left
          · (intro wS hSw; (try dsimp only at hSw); go_simp; try with_reducible rfl)
          (try simp only [List.append_eq, List.cons_append, List.nil_append, List.getElem_toArray, List.getElem_cons_succ, List.getElem_cons_zero, Act.put, List.setIfInBounds_toArray, List.set_cons_zero, List.set_cons_succ])
          refine wpAnyH_take (i := 20) (v := ?_) rfl (by kernel_rfl) (by kernel_rfl) (by kernel_rfl) (fun _ _ _ h => h) (Or.inl ⟨by kernel_rfl, ?_⟩) (by first | assumption | trivial) ?_
          rotate_left
          · (intro wS hSw; (try dsimp only at hSw); go_simp; try with_reducible rfl)
          (try simp only [List.append_eq, List.cons_append, List.nil_append, List.getElem_toArray, List.getElem_cons_succ, List.getElem_cons_zero, Act.put, List.setIfInBounds_toArray, List.set_cons_zero, List.set_cons_succ])
          refine wpAnyH_ready (rs := [15]) (by kernel_rfl) (by simp) ?_
          refine AllReadyH.cons rfl (fun K hK => ?_) AllReadyH.nil
          go_simp
          (go_at_call 20; refine (HTX.out _ hHeld.2.1.out).mono ?_; rintro e w6 ⟨rfl, b⟩; have hS6 : (FdAt w6 b1 (o1 + j * 4) x ∧ FdAt w6 b2 (o2 + j * 4) x) ∧ Hid (Below w0.heap.size w0 w6) ∧ Hid (Below w5.heap.size w5 w6) := ⟨⟨FdAt.keep hHeld.1.1 b, FdAt.keep hHeld.1.2 b⟩, hid (past hHeld.2.1.out b), hid (past hHeld.2.2.out b)⟩; unfold FdAt at hS6; clear b hHeld)
          go_wp2_with fail
          refine hK.out _ _ (by first | assumption | trivial) (fun hHeld => ?_)
          clear hK K
          (try simp only [List.append_eq, List.cons_append, List.nil_append, List.getElem_toArray, List.getElem_cons_succ, List.getElem_cons_zero, Act.put, List.setIfInBounds_toArray, List.set_cons_zero, List.set_cons_succ])
          refine wpAnyH_ready (rs := [21]) (by kernel_rfl) (by simp) ?_
          refine AllReadyH.cons rfl (fun K hK => ?_) AllReadyH.nil
          go_simp
          (go_at_call 23; refine (HRX.out _).mono ?_; rintro e w7 ⟨rfl, b⟩; have hS7 : (FdAt w7 b1 (o1 + j * 4) x ∧ FdAt w7 b2 (o2 + j * 4) x) ∧ Hid (Below w0.heap.size w0 w7) ∧ Hid (Below w5.heap.size w5 w7) := ⟨⟨FdAt.keep hHeld.1.1 b, FdAt.keep hHeld.1.2 b⟩, hid (past hHeld.2.1.out b), hid (past hHeld.2.2.out b)⟩; unfold FdAt at hS7; clear b hHeld)
          go_wp2_with fail
          refine hK.out _ _ (by first | assumption | trivial) (fun hHeld => ?_)
          clear hK K
          (try simp only [List.append_eq, List.cons_append, List.nil_append, List.getElem_toArray, List.getElem_cons_succ, List.getElem_cons_zero, Act.put, List.setIfInBounds_toArray, List.set_cons_zero, List.set_cons_succ])
          refine wpAnyH_take (i := 22) (v := ?_) rfl (by kernel_rfl) (by kernel_rfl) (by kernel_rfl) (fun _ _ _ h => h) (Or.inl ⟨by kernel_rfl, ?_⟩) (by first | assumption | trivial) ?_
          rotate_left
          · (intro wS hSw; (try dsimp only at hSw); go_simp; try with_reducible rfl)
          (try simp only [List.append_eq, List.cons_append, List.nil_append, List.getElem_toArray, List.getElem_cons_succ, List.getElem_cons_zero, Act.put, List.setIfInBounds_toArray, List.set_cons_zero, List.set_cons_succ])
          refine wpAnyH_take (i := 23) (v := ?_) rfl (by kernel_rfl) (by kernel_rfl) (by kernel_rfl) (fun _ _ _ h => h) (Or.inl ⟨by kernel_rfl, ?_⟩) (by first | assumption | trivial) ?_
          rotate_left
          · (intro wS hSw; (try dsimp only at hSw); go_simp; try with_reducible rfl)
          (try simp only [List.append_eq, List.cons_append, List.nil_append, List.getElem_toArray, List.getElem_cons_succ, List.getElem_cons_zero, Act.put, List.setIfInBounds_toArray, List.set_cons_zero, List.set_cons_succ])
          refine wpAnyH_done (by kernel_rfl) ?_ _
          refine NoPanic.normal ?_
          have HB7 := hid hHeld.2.1.out
          have HBM := hid hHeld.2.2.out
          have z0 := (HX0.out.below HB7.out).cell (j := 0) rfl
          have z1 := (HX0.out.below HB7.out).cell (j := 1) rfl
          have z2 := (HX0.out.below HB7.out).cell (j := 2) rfl
          have z3 := (HX0.out.below HB7.out).cell (j := 3) rfl
          have y0 := hHeld.1.2.1
          have y1 := hHeld.1.2.2.1
          have y2 := hHeld.1.2.2.2.1
          have y3 := hHeld.1.2.2.2.2
          clear hHeld hS hS6 hS7 hq HTX hBW HC HHB
          have HQ2 := hid hq2
          cases t with
          | true =>
            have HGX : Hid (g = x.toI) := hid (of_decide_eq_true HTT.out)
            have HRG : Hid (∀ X, Calls Tryd.prog 23 #[.string (str lb), .agg #[.string (str g.nm), .int .i64 g.fr, .int .i64 g.te, .int .i64 g.at_]] X fun e w' => e = .returned (.string (str y)) ∧ Below X.heap.size X w') := hid (by
              intro X
              rw [HGX.out]
              exact HRX.out X)
            have HF := hid (HTY.out HGX.out)
            clear HTY HTN HT HTT HTI
            go_upto_region 18 with fail
            go_quiet (fail)
            have HBN := hid (bq HBM.out nq)
            clear hq2
            go_wp2_with (go_at_call 23; refine (HRG.out _).mono ?_; rintro e w8 ⟨rfl, b⟩; have HB8 := hid (past HBN.out b); clear b)
            go_roundw
            case rel => exact ⟨j + 1, y, by omega, rfl, by go_num, HF, HB8⟩
            case measure => simp [intOf]; omega
          | false =>
            have HF : Hid (textT lb g (j + 1) = tx) := hid ((HTN.out (of_decide_eq_false HTT.out)).trans HT.out)
            clear HTY HTN HT HTT HTI
            go_upto_region 18 with fail
            go_quiet (fail)
            have HBN := hid (bq HBM.out nq)
            clear hq2
            go_wp2_with fail
            go_roundw
            case rel => exact ⟨j + 1, tx, by omega, rfl, by go_num, HF, HBN⟩
            case measure => simp [intOf]; omega
        · have g1 := lt_f hlt2
          have g1' := lt_nf hlt2
          have hjk : j = k2 := by omega
          have hBW := hid (past HB5.out HBL.out)
          have HTX := hid (Text_any A k0 c lb g wr (HO.out.below hBW.out) HKC.out hkc)
          rw [← textT_all lb g k2 HK.out, ← hjk, HT.out] at HTX
          have HLN := hid (fun X (hX : Below w0.heap.size w0 X) => lines_count A k0 c lb X (HO.out.below hX) HA.out hkc)
          rw [HFE.out] at HLN
          have z0 := (HX0.out.below hBW.out).cell (j := 0) rfl
          have z1 := (HX0.out.below hBW.out).cell (j := 1) rfl
          have z2 := (HX0.out.below hBW.out).cell (j := 2) rfl
          have z3 := (HX0.out.below hBW.out).cell (j := 3) rfl
          have q0 : (str tx == str tx) = true := str_self _
          have q1 : (str lb == str lb) = true := str_self _
          clear HT HC1 HC2
          subst hjk
          go_wp2_with (first
            | (go_at_call 20; refine HTX.out.mono ?_; rintro e w6 ⟨rfl, b⟩; have HB6 := hid (past hBW.out b); clear b)
            | (go_at_call 24; refine (HLN.out _ HB6.out).mono ?_; rintro e w7 ⟨rfl, b⟩; have HB7 := hid (past HB6.out b); have kc7 := HKCV.out w7 (HO.out.below HB7.out); clear b)
            | (go_at_call 14; refine (awake_any _).mono ?_; rintro e w8 ⟨rfl, b⟩; have HB8 := hid (past HB7.out b); clear b))
          go_ret
          exact ⟨rfl, past HB0.out HB8.out⟩
end Go.Proofs.YthlofpofcpconaaDoor
