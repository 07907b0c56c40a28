/-
  Take, where pages are taken. A part of the proof: see the head of the text that ends in 'Law'.
-/
import Derived.Test.YtccdgfacdohknaaSp18
namespace Go.Proofs.Ytccdgfacdohknaa
open Go.RowKit Go.Shelf
set_option linter.unusedVariables false
attribute [local go_sem] Oper.semAt_some

/-- A block of cells lies as it was laid. -/
def Laid (W : World) (B : Nat) (cs : Array Value) (t : TypeId) : Prop := W.heap[B]? = some (.cells cs t (0, 0))
theorem Laid.lt {W : World} {B : Nat} {cs : Array Value} {t : TypeId} (h : Laid W B cs t) : B < W.heap.size := lt_of_heap h
theorem Laid.kept {W W' : World} {row : Option Nat} {B : Nat} {cs : Array Value} {t : TypeId} (h : Laid W B cs t) (hg : W.grownBy W' row) (hne : some B ≠ row) : Laid W' B cs t := (hg.block B h.lt hne).trans h
theorem laid_own {β : Type} (B : Nat) (cs : Array Value) (t : TypeId) : Own (fun (_ : β) W => Laid W B cs t) := fun s X Y row hs hg hr =>
  hs.kept hg (fun e => by
    obtain ⟨o, ho, hc⟩ := hr B e.symm
    rw [show X.heap[B]? = _ from hs] at ho
    cases ho
    cases hc)
theorem Row.obj {W : World} {A : Option Addr} {xs : List Value} (h : Row W A xs) {D : Nat} {o : Obj} (o' : Obj) (hD : W.heap[D]? = some o) (ho : o.isCells = false) : Row (W.putObj D o') A xs := fun hn => by
  obtain ⟨b, off, hA, hc⟩ := h hn
  exact ⟨b, off, hA, fun j v hj => cell_kept (hc j v hj) (grownBy_putObj' W D o') (fun r e => by cases e; exact ⟨_, hD, ho⟩)⟩
theorem takeL_nodup (l : List Bool) (k : Nat) : (takeL l k).Nodup := (freeL_nodup l _).sublist (List.take_sublist _ _)
theorem takeL_free (l : List Bool) (k : Nat) : ∀ j ∈ takeL l k, j < l.length ∧ l.getD j false = false := fun j hj => freeL_lt l _ j (List.mem_of_mem_take hj)
theorem takeL_pre {l : List Bool} {k x : Nat} {q : List Nat} (h : q ++ [x] <+: freeL l l.length) (hq : q.length = k) : takeL l k = q := by
  obtain ⟨t, ht⟩ := h
  unfold takeL
  rw [← ht, ← hq, List.append_assoc, List.take_left']
  rfl


set_option maxRecDepth 100000 in
set_option maxHeartbeats 2000000 in
theorem take_good (l : List Bool) (A : Option Addr) (n c : Nat) (k : Nat) (w : World) (ho : Oct w A n (packL l)) (hl : l.length ≤ 2048) (hk : k ≤ (freeL l l.length).length) :
    Calls Try.prog 8 #[.agg #[.int .i64 l.length, .slice A n c], .int .i64 k] w (TakePost w (markF l (takeL l k), 0) (takeL l k)) := by
  have hn : n ≤ 4096 := by have := ho.len; rw [packL_length] at this; omega
  have HO := hid ho
  have K0 := hid (TkC.start w k l.length A n c)
  have H1 := hid (mayB_ok (N := l.length) (bits := packL l) ⟨rfl, hl, rfl⟩)
  have hpop := pop_all l
  have hd0 : decide ((k : Int) < 0) = false := by simp
  generalize hP : popL (packL l) = P at hpop
  have HP := hid hP
  have hd1 : decide (IntKind.i64.wrap ((l.length : Int) - (P : Int)) < (k : Int)) = false := by rw [IntKind.wrap_i64, decide_eq_false_iff_not]; omega
  clear ho hP
  refine (callsIn_wide (n := 8)).1 (callsIn_of_wp_marks Try.func8 rfl trivial ?_ rfl)
  simp only [Try.ntmps8, List.size_toArray, List.length_cons, List.length_nil, Nat.reduceAdd, Nat.reduceSub, Array.replicate_succ, Array.replicate_zero, List.push_toArray, List.append_toArray, List.nil_append, List.cons_append]
  refine wpIn_wide.2 ?_
  go_wp2_with (go_at_call 21; refine (may_any l.length A n c (packL l) _ (HO.out.below K0.out.b) (by omega) (by omega)).mono ?_; rw [H1.out]; rintro e w1 ⟨rfl, hb1⟩; have K1 := hid (K0.out.keep hb1); have kk := K1.out.k0; have ks0 := K1.out.s0; have ks1 := K1.out.s1)
  clear hb1
  have KD := K1.out.drew.all
  go_region_held3 (fun W => W.cell? ⟨w.heap.size, 0, none⟩ = some (.int .i64 l.length) ∧ W.cell? ⟨w.heap.size, 1, none⟩ = some (.slice A n c) ∧ W.cell? ⟨w.heap.size + 1, 0, none⟩ = some (.int .i64 k) ∧ Hid (TkC w W k l.length A n c)) (assumption) (
    (go_at_call 19; refine (count_any l.length A n c (packL l) _ (HO.out.below (TkC.bel (by assumption))) (by omega) (by omega)).mono ?_; rw [if_pos H1.out, HP.out]; rintro e w2 ⟨rfl, hb2⟩; have hS := TkC.keepS (by assumption) hb2; clear hb2))
  have K2 := hS.2.2.2
  clear K0 K1 kk ks0 ks1 KD
  have K3 := hid (K2.out.keep ((Below.refl w2.heap.size w2).alloc (Nat.le_refl _) (Obj.cells #[.slice none 0 0] 25)))
  have hs0 := K3.out.s0
  have hs1 := K3.out.s1
  clear hS
  have BL := hid (Boxed.new w2 25 (.slice none 0 0))
  go_wp2_with (go_at_call 23; refine (free_any l.length A n c (w2.alloc (.cells #[.slice none 0 0] 25))).mono ?_; rintro e w3 ⟨rfl, rfl⟩; have BF := hid (Bx.new_ (w2.alloc (.cells #[.slice none 0 0] 25)) l.length A n c 24))
  have hw2 : w.heap.size + 1 + 1 < w2.heap.size := K2.out.r.lt
  rw [show IntKind.i64.wrap ((l.length : Int) - (P : Int)) = (l.length : Int) - (P : Int) by rw [IntKind.wrap_i64]; omega]
  refine (wpIn_wide (n := 8)).1 ?_
  refine wpIn_rangeFunc_ownG rfl (by omega) (gf := 30) (lb := #[.pointer (some ⟨w2.heap.size + 1, 0, none⟩)]) rfl trivial (enters_of Try.func30 (by kernel_rfl) rfl)
    (free_stops (8 - 1) (by omega) (w2.heap.size + 1) l A n c w HO.out hl _ (K3.out.b.alloc (by simp; omega) _) (by have := BF.out.1; rwa [World.size_alloc] at this) (by have := BF.out.2; rwa [World.size_alloc] at this) (by simp)) kpf_t (kpf_b (by simp; omega) (by simp)) (Below.refl _ _) (fun _ => rfl)
    (fun (pre : List Nat) W => ((∃ v, Boxed W w2.heap.size 25 v ∧ W.ownsRow w2.heap.size 3 1 v pre.length (pre.map I8) ∧ True) ∧ Laid W (w2.heap.size + 1) #[.int .i64 l.length, .slice A n c] 24) ∧ (Below w2.heap.size w2 W ∧ pre.length ≤ k))
    (fun c' (pre : List Nat) W => c' = .exit 1 ∧ ∃ q x, pre = q ++ [x] ∧ q.length = k ∧ ((∃ v, Boxed W w2.heap.size 25 v ∧ W.ownsRow w2.heap.size 3 1 v q.length (q.map I8) ∧ True) ∧ Below w2.heap.size w2 W))
    (OwnFrom.and (OwnFrom.and (Own.from (holdsRow_own w2.heap.size w2.heap.size 25 3 1 (fun (pre : List Nat) => pre.length) (fun pre => pre.map I8) (fun pre v => True)) _) (Own.from (laid_own _ _ _) _)) (OwnFrom.and (ownFrom_below (Nat.le_refl _) (by simp; omega)) (ownFrom_pure _ (fun (pre : List Nat) => pre.length ≤ k))))
    (fun c' s X Y row hs hg hr => by
      obtain ⟨h1, q, x, h2, h3, h4, h5⟩ := hs
      exact ⟨h1, q, x, h2, h3, Own.from (holdsRow_own w2.heap.size w2.heap.size 25 3 1 (fun (pre : List Nat) => pre.length) (fun pre => pre.map I8) (fun pre v => True)) _ q X Y row h4 hg hr, ownFrom_below (β := Unit) (Nat.le_refl _) (by simp; omega) () X Y row h5 hg hr⟩)
    ⟨⟨⟨_, BL.out.alloc _, World.ownsRow_nil _ _ _ _, trivial⟩, by have := World.alloc_heap_new (w2.alloc (.cells #[.slice none 0 0] 25)) (.cells #[.int .i64 l.length, .slice A n c] 24); rwa [World.size_alloc] at this⟩, ((Below.refl _ w2).alloc (Nat.le_refl _) _).alloc (by simp) _, Nat.zero_le _⟩
    ?a1 ?assign ?body ?done ?stop
  case a1 => exact (fun x => { tmps := #[.agg #[.int .i64 l.length, .slice A n c], .int .i64 k, .pointer (some ⟨w.heap.size, 0, none⟩), .pointer (some ⟨w.heap.size + 1, 0, none⟩), .pointer (some ⟨w.heap.size + 1 + 1, 0, none⟩), .slice none 0 0, .int .i64 0, .pointer (some ⟨w2.heap.size, 0, none⟩), I8 x, .bool false, .agg #[.int .i64 l.length, .slice A n c], .bool true, .bool false, .bool false, .int .i64 k, .bool false, .bool false, undef, .bool false, .int .i64 k, .pointer (some ⟨w.heap.size, 0, none⟩), .int .i64 l.length, .agg #[.int .i64 l.length, .slice A n c], .int .i64 P, .int .i64 ((l.length : Int) - P), .bool false, undef, .agg #[.int .i64 l.length, .slice A n c], .func (.func 30) #[] #[.pointer (some ⟨w2.heap.size + 1, 0, none⟩)], I8 x, undef, undef, undef, undef, undef, undef, undef, undef, undef, undef, undef, undef, undef, undef, undef, undef], defers := [] })
  case assign =>
    intro lq x W K hK
    dsimp only [I8] at hK ⊢
    gi_wp2
    exact hK
  case body =>
    rintro lq pre x W ⟨⟨⟨v, hv, hrow, _⟩, hBf⟩, hBW, hpk⟩ hlt
    have hc := hv.cell
    have hkc : W.cell? ⟨w.heap.size + 1, 0, none⟩ = some (.int .i64 k) := (hBW.cell (p := ⟨w.heap.size + 1, 0, none⟩) (by simp; omega)).trans K2.out.k0
    have hml : 4096 ≤ maxLen := by decide
    have hN : (freeL l l.length).length ≤ 2048 := Nat.le_trans (freeL_len l l.length) hl
    obtain ⟨A2, c2, rfl⟩ := slice_of_own hrow
    obtain ⟨i0, hi, hz0, hz1, hz2⟩ := info_parts intsT.info
    dsimp only [I8]
    by_cases hpk2 : pre.length = k
    · have hq : ((pre.length : Int) == (k : Int)) = true := by simp; omega
      gi_wp2
      exact ⟨KeepsFrom.refl _ _, rfl, pre, x, rfl, hpk2, ⟨_, hv, hrow, trivial⟩, hBW⟩
    · have hq : ((pre.length : Int) == (k : Int)) = false := by simp; omega
      have hnb := own_ne hrow (T := 24) (ys := [.int .i64 l.length, .slice A n c]) (g := w2.heap.size + 1) ⟨_, hBf, fun j u hu => by simpa using hu⟩ (by decide)
      gi_wp2_with (gi_at_builtin; refine wpListIn_append_own _ rfl _ _ 25 rfl w2.heap.size 3 i0 (.int .i64 0) 1 8 Try.underlying25 hi hz0 hz1 hz2 rfl (by decide) _ _ _ rfl (hrow.alloc _) ⟨W.heap.size, 0, none⟩ 1 1 [.int .i64 x] rfl rfl (cell_one_new _ _ _) (by simp [Value.oneCell']) (by omega) (by omega) (by have := hBW.size; simp; omega) ?_; intro v' w1 hown' hgrow _; obtain ⟨g', cap', rfl⟩ := ownsRow_succ hown'; obtain ⟨hv1, hv2, hr2, hk2, hb2⟩ := hv.appended (by decide) hrow hBW.size (Nat.le_refl _) hown' hgrow; have hc1 := hv1.cell; have hf1 := hv1.frozen)
      have hL2 : Laid (w1.setCell ⟨w2.heap.size, 0, none⟩ (.slice (some ⟨g', 0, none⟩) (pre.length + 1) cap')) (w2.heap.size + 1) #[.int .i64 l.length, .slice A n c] 24 :=
        (heap_setCell_other w1 ⟨w2.heap.size, 0, none⟩ (w2.heap.size + 1) _ (by simp)).trans (Laid.kept (Laid.kept (row := none) hBf (World.grownBy_alloc W _ none) (by simp)) hgrow (Ne.symm hnb))
      exact ⟨hk2.from _, kpf_of (hb2.mono (by omega)) (hL2.trans (Eq.symm hBf)), ⟨⟨_, hv2, by rw [List.map_append]; simpa [I8] using hr2, trivial⟩, hL2⟩, hBW.trans hb2, by simp; omega⟩
  case done =>
    rintro D q W hD hys ⟨⟨⟨v, hv, hrow, _⟩, _⟩, hBW, hpk⟩ hK
    have hq : takeL l k = q := by rw [hys] at hpk ⊢; exact takeL_all l k hpk
    have hqk : q.length ≤ 2048 := by rw [hys]; exact Nat.le_trans (freeL_len l l.length) hl
    clear hys
    have HK := hid hK
    have hqn := takeL_nodup l k
    have hqf := takeL_free l k
    rw [hq] at hqn hqf
    obtain ⟨A2, c2, rfl⟩ := slice_of_own hrow
    have hTK := hid (K2.out.keep hBW)
    have hs0 := hTK.out.s0
    have hs1 := hTK.out.s1
    have hc := hv.cell
    have hM := hid (mark_of l.length A n c (packL l) W A2 q.length c2 _ (markF l q, 0) (HO.out.below hTK.out.b) (irow_nat rfl (Row.of_own hrow)).2 (fun W' ho' hB' => by
      have := turn_good l A n c W' A2 q.length c2 (q.map Int.ofNat) false 15 ho' hl hB' (by simp) (by omega)
      rwa [turn_mark 15 q l hqn hqf] at this))
    have HQ := hid hq
    clear hqn hqf hq
    go_wp2_with (go_at_call 10; refine hM.out.mono ?_; rintro e w4 ⟨A4, c4, rfl, o4, hb4⟩; have T4 := hid (hTK.out.keep hb4); have hc4 := cells_keep hb4 hc; have s40 := T4.out.s0; have s41 := T4.out.s1; have sf0 := T4.out.s.frozen 0; have sf1 := T4.out.s.frozen 1; have r40 := T4.out.r.cell (j := 0) (u := .int .i64 0) rfl; have r41 := T4.out.r.cell (j := 1) (u := .slice none 0 0) rfl; have rf0 := T4.out.r.frozen 0; have rf1 := T4.out.r.frozen 1)
    have hLs : (w.heap.size : Nat) ≠ w2.heap.size := by omega
    have hLr : (w.heap.size + 1 + 1 : Nat) ≠ w2.heap.size := by omega
    obtain ⟨W5, hW5⟩ : ∃ W5, (w4.setCell ⟨w.heap.size, 0, none⟩ (.int .i64 (markF l q).length)).setCell ⟨w.heap.size, 1, none⟩ (.slice A4 (((markF l q).length + 7) / 8 : Nat) c4) = W5 := ⟨_, rfl⟩
    have zs := (T4.out.s.set 0 (.int .i64 (markF l q).length)).set 1 (.slice A4 (((markF l q).length + 7) / 8 : Nat) c4)
    have zr := ((T4.out.r.far (b := w.heap.size) (i := 0) (by omega) (.int .i64 (markF l q).length)).far (b := w.heap.size) (i := 1) (by omega) (.slice A4 (((markF l q).length + 7) / 8 : Nat) c4))
    have zL : OwnC W5 w2.heap.size 25 [.slice A2 q.length c2] := by
      have h0 : OwnC W w2.heap.size 25 [.slice A2 q.length c2] := ⟨_, hv, fun j u hu => by simpa using hu⟩
      rw [← hW5]
      exact ((h0.below hb4).far (Ne.symm hLs) _).far (Ne.symm hLs) _
    have zo : Oct W5 A4 (((markF l q).length + 7) / 8) (packL (markF l q)) := by
      rw [← hW5]
      exact (o4.poke s40 (by intro x; simp [B8]) _).poke ((T4.out.s.set 0 (.int .i64 (markF l q).length)).cell (j := 1) (u := .slice A n c) rfl) (by intro x; simp [B8]) _
    have zw : W5.ownsRow w2.heap.size 3 1 (.slice A2 q.length c2) q.length (q.map I8) := by
      rw [← hW5]
      exact own_far (own_far (own_below hrow hb4) (by omega) _) (by omega) _
    have zK : W5.heap[D]? = some (.deferred (some [])) := by
      have h1 : w4.heap[D]? = some (.deferred (some [])) := (hb4.block D (lt_of_heap HK.out)).trans HK.out
      rw [← hW5]
      exact ((KeepsOthers.setCell w4 _ _).trans (KeepsOthers.setCell _ _ _)).same D _ h1 rfl
    have zB : Below w.heap.size w W5 := by
      rw [← hW5]
      exact (T4.out.b.setCell (Nat.le_refl _) _).setCell (Nat.le_refl _) _
    rw [hW5] at zs zr ⊢
    have e0 := zs.cell (j := 0) (u := .int .i64 (markF l q).length) rfl
    have e1 := zs.cell (j := 1) (u := .slice A4 (((markF l q).length + 7) / 8 : Nat) c4) rfl
    have eL := zL.cell (j := 0) (u := .slice A2 q.length c2) rfl
    have r0 := zr.cell (j := 0) (u := .int .i64 0) rfl
    have r1 := zr.cell (j := 1) (u := .slice none 0 0) rfl
    have f0 := zr.frozen 0
    have f1 := zr.frozen 1
    have ZR := hid zr
    have ZO := hid zo
    have ZW := hid zw
    have ZK := hid zK
    have ZB := hid zB
    clear zs zr zL zo zw zK zB rf0 rf1 r40 r41 sf0 sf1 s40 s41 hc4 hW5 hc hs0 hs1
    go_region
    go_wp2
    obtain ⟨W6, hW6⟩ : ∃ W6, ((W5.setCell ⟨w.heap.size + 1 + 1, 0, none⟩ (.int .i64 (markF l q).length)).setCell ⟨w.heap.size + 1 + 1, 1, none⟩ (.slice A4 (((markF l q).length + 7) / 8 : Nat) c4)).drew = W6 := ⟨_, rfl⟩
    have zr := ((ZR.out.set 0 (.int .i64 (markF l q).length)).set 1 (.slice A4 (((markF l q).length + 7) / 8 : Nat) c4)).drew
    have zo : Oct W6 A4 (((markF l q).length + 7) / 8) (packL (markF l q)) := by
      rw [← hW6]
      exact ((ZO.out.poke r0 (by intro x; simp [B8]) _).poke ((ZR.out.set 0 (.int .i64 (markF l q).length)).cell (j := 1) (u := .slice none 0 0) rfl) (by intro x; simp [B8]) _).drew
    have zw : W6.ownsRow w2.heap.size 3 1 (.slice A2 q.length c2) q.length (q.map I8) := by
      rw [← hW6]
      exact own_far (own_far ZW.out (by omega) _) (by omega) _
    have zK : W6.heap[D]? = some (.deferred (some [])) := by
      rw [← hW6]
      exact ((KeepsOthers.setCell W5 _ _).trans (KeepsOthers.setCell _ _ _)).same D _ ZK.out rfl
    have zB : Below w.heap.size w W6 := by
      rw [← hW6]
      exact bq ((ZB.out.setCell (by simp; omega) _).setCell (by simp; omega) _) 1
    rw [hW6] at zr ⊢
    have c0 := cell_kept (zr.cell (j := 0) (u := .int .i64 (markF l q).length) rfl) (grownBy_putObj' W6 D (.deferred none)) (fun r e => by cases e; exact ⟨_, zK, rfl⟩)
    have c1 := cell_kept (zr.cell (j := 1) (u := .slice A4 (((markF l q).length + 7) / 8 : Nat) c4) rfl) (grownBy_putObj' W6 D (.deferred none)) (fun r e => by cases e; exact ⟨_, zK, rfl⟩)
    refine ⟨by simp, .inl ⟨_, _, rfl, run_takeDeferred zK, ?_⟩⟩
    refine ⟨.tuple #[.agg #[.int .i64 (markF l q).length, .slice A4 (((markF l q).length + 7) / 8 : Nat) c4], .slice A2 q.length c2, .int .i64 0], by simp [results, Try.results8, go_sem, c0, c1], ?_⟩
    rw [HQ.out]
    exact ⟨A4, c4, A2, c2, rfl, ⟨zo.1, zo.2.obj _ zK rfl⟩, irow_nat rfl (Row.of_own (ownsRow_putObj zw _ zK rfl)), zB.trans (belowK_b (w := w) (Nat.le_refl _) W6 D _ _ (by simp at hD; omega) zK rfl rfl)⟩
  case stop =>
    rintro D c' pre W hD hSp ⟨rfl, q, x, rfl, hqk', ⟨v, hv, hrow, _⟩, hBW⟩ hK
    have hq : takeL l k = q := takeL_pre hSp hqk'
    have hqk : q.length ≤ 2048 := by have := Nat.le_trans (freeL_len l l.length) hl; omega
    clear hSp hqk'
    refine wpIn_wide.2 ?_
    have HK := hid hK
    have hqn := takeL_nodup l k
    have hqf := takeL_free l k
    rw [hq] at hqn hqf
    obtain ⟨A2, c2, rfl⟩ := slice_of_own hrow
    have hTK := hid (K2.out.keep hBW)
    have hs0 := hTK.out.s0
    have hs1 := hTK.out.s1
    have hc := hv.cell
    have hM := hid (mark_of l.length A n c (packL l) W A2 q.length c2 _ (markF l q, 0) (HO.out.below hTK.out.b) (irow_nat rfl (Row.of_own hrow)).2 (fun W' ho' hB' => by
      have := turn_good l A n c W' A2 q.length c2 (q.map Int.ofNat) false 15 ho' hl hB' (by simp) (by omega)
      rwa [turn_mark 15 q l hqn hqf] at this))
    have HQ := hid hq
    clear hqn hqf hq
    go_wp2_with (go_at_call 10; refine hM.out.mono ?_; rintro e w4 ⟨A4, c4, rfl, o4, hb4⟩; have T4 := hid (hTK.out.keep hb4); have hc4 := cells_keep hb4 hc; have s40 := T4.out.s0; have s41 := T4.out.s1; have sf0 := T4.out.s.frozen 0; have sf1 := T4.out.s.frozen 1; have r40 := T4.out.r.cell (j := 0) (u := .int .i64 0) rfl; have r41 := T4.out.r.cell (j := 1) (u := .slice none 0 0) rfl; have rf0 := T4.out.r.frozen 0; have rf1 := T4.out.r.frozen 1)
    have hLs : (w.heap.size : Nat) ≠ w2.heap.size := by omega
    have hLr : (w.heap.size + 1 + 1 : Nat) ≠ w2.heap.size := by omega
    obtain ⟨W5, hW5⟩ : ∃ W5, (w4.setCell ⟨w.heap.size, 0, none⟩ (.int .i64 (markF l q).length)).setCell ⟨w.heap.size, 1, none⟩ (.slice A4 (((markF l q).length + 7) / 8 : Nat) c4) = W5 := ⟨_, rfl⟩
    have zs := (T4.out.s.set 0 (.int .i64 (markF l q).length)).set 1 (.slice A4 (((markF l q).length + 7) / 8 : Nat) c4)
    have zr := ((T4.out.r.far (b := w.heap.size) (i := 0) (by omega) (.int .i64 (markF l q).length)).far (b := w.heap.size) (i := 1) (by omega) (.slice A4 (((markF l q).length + 7) / 8 : Nat) c4))
    have zL : OwnC W5 w2.heap.size 25 [.slice A2 q.length c2] := by
      have h0 : OwnC W w2.heap.size 25 [.slice A2 q.length c2] := ⟨_, hv, fun j u hu => by simpa using hu⟩
      rw [← hW5]
      exact ((h0.below hb4).far (Ne.symm hLs) _).far (Ne.symm hLs) _
    have zo : Oct W5 A4 (((markF l q).length + 7) / 8) (packL (markF l q)) := by
      rw [← hW5]
      exact (o4.poke s40 (by intro x; simp [B8]) _).poke ((T4.out.s.set 0 (.int .i64 (markF l q).length)).cell (j := 1) (u := .slice A n c) rfl) (by intro x; simp [B8]) _
    have zw : W5.ownsRow w2.heap.size 3 1 (.slice A2 q.length c2) q.length (q.map I8) := by
      rw [← hW5]
      exact own_far (own_far (own_below hrow hb4) (by omega) _) (by omega) _
    have zK : W5.heap[D]? = some (.deferred (some [])) := by
      have h1 : w4.heap[D]? = some (.deferred (some [])) := (hb4.block D (lt_of_heap HK.out)).trans HK.out
      rw [← hW5]
      exact ((KeepsOthers.setCell w4 _ _).trans (KeepsOthers.setCell _ _ _)).same D _ h1 rfl
    have zB : Below w.heap.size w W5 := by
      rw [← hW5]
      exact (T4.out.b.setCell (Nat.le_refl _) _).setCell (Nat.le_refl _) _
    rw [hW5] at zs zr ⊢
    have e0 := zs.cell (j := 0) (u := .int .i64 (markF l q).length) rfl
    have e1 := zs.cell (j := 1) (u := .slice A4 (((markF l q).length + 7) / 8 : Nat) c4) rfl
    have eL := zL.cell (j := 0) (u := .slice A2 q.length c2) rfl
    have r0 := zr.cell (j := 0) (u := .int .i64 0) rfl
    have r1 := zr.cell (j := 1) (u := .slice none 0 0) rfl
    have f0 := zr.frozen 0
    have f1 := zr.frozen 1
    have ZR := hid zr
    have ZO := hid zo
    have ZW := hid zw
    have ZK := hid zK
    have ZB := hid zB
    clear zs zr zL zo zw zK zB rf0 rf1 r40 r41 sf0 sf1 s40 s41 hc4 hW5 hc hs0 hs1
    go_region
    go_wp2
    obtain ⟨W6, hW6⟩ : ∃ W6, ((W5.setCell ⟨w.heap.size + 1 + 1, 0, none⟩ (.int .i64 (markF l q).length)).setCell ⟨w.heap.size + 1 + 1, 1, none⟩ (.slice A4 (((markF l q).length + 7) / 8 : Nat) c4)).drew = W6 := ⟨_, rfl⟩
    have zr := ((ZR.out.set 0 (.int .i64 (markF l q).length)).set 1 (.slice A4 (((markF l q).length + 7) / 8 : Nat) c4)).drew
    have zo : Oct W6 A4 (((markF l q).length + 7) / 8) (packL (markF l q)) := by
      rw [← hW6]
      exact ((ZO.out.poke r0 (by intro x; simp [B8]) _).poke ((ZR.out.set 0 (.int .i64 (markF l q).length)).cell (j := 1) (u := .slice none 0 0) rfl) (by intro x; simp [B8]) _).drew
    have zw : W6.ownsRow w2.heap.size 3 1 (.slice A2 q.length c2) q.length (q.map I8) := by
      rw [← hW6]
      exact own_far (own_far ZW.out (by omega) _) (by omega) _
    have zK : W6.heap[D]? = some (.deferred (some [])) := by
      rw [← hW6]
      exact ((KeepsOthers.setCell W5 _ _).trans (KeepsOthers.setCell _ _ _)).same D _ ZK.out rfl
    have zB : Below w.heap.size w W6 := by
      rw [← hW6]
      exact bq ((ZB.out.setCell (by simp; omega) _).setCell (by simp; omega) _) 1
    rw [hW6] at zr ⊢
    have c0 := cell_kept (zr.cell (j := 0) (u := .int .i64 (markF l q).length) rfl) (grownBy_putObj' W6 D (.deferred none)) (fun r e => by cases e; exact ⟨_, zK, rfl⟩)
    have c1 := cell_kept (zr.cell (j := 1) (u := .slice A4 (((markF l q).length + 7) / 8 : Nat) c4) rfl) (grownBy_putObj' W6 D (.deferred none)) (fun r e => by cases e; exact ⟨_, zK, rfl⟩)
    refine ⟨by simp, .inl ⟨_, _, rfl, run_takeDeferred zK, ?_⟩⟩
    refine ⟨.tuple #[.agg #[.int .i64 (markF l q).length, .slice A4 (((markF l q).length + 7) / 8 : Nat) c4], .slice A2 q.length c2, .int .i64 0], by simp [results, Try.results8, go_sem, c0, c1], ?_⟩
    rw [HQ.out]
    exact ⟨A4, c4, A2, c2, rfl, ⟨zo.1, zo.2.obj _ zK rfl⟩, irow_nat rfl (Row.of_own (ownsRow_putObj zw _ zK rfl)), zB.trans (belowK_b (w := w) (Nat.le_refl _) W6 D _ _ (by simp at hD; omega) zK rfl rfl)⟩
end Go.Proofs.Ytccdgfacdohknaa
