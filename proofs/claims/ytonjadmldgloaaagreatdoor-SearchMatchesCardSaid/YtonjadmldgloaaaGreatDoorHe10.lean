/-
  A header's fields: the program's walk. A part of the proof: see the head of the text that ends in 'Law'.
-/
import Derived.Test.YtonjadmldgloaaaGreatDoorHe9
namespace Go.Proofs.YtonjadmldgloaaaGreatDoor.D17
open Go.RowKit Go.Shelf
set_option linter.unusedVariables false
set_option linter.unusedSimpArgs false
attribute [local go_sem] Oper.semAt_some

theorem boxed_below {W W' : World} {B : Nat} {t : TypeId} {v : Value} (h : Boxed W B t v) (hb : Below W.heap.size W W') : Boxed W' B t v := (hb.block B h.lt).trans h
theorem boxed_set {W : World} {B g j : Nat} {t : TypeId} {v : Value} (h : Boxed W B t v) (hne : B ≠ g) (u : Value) : Boxed (W.setCell ⟨g, j, none⟩ u) B t v := (heap_setCell_other W ⟨g, j, none⟩ B u hne).trans h
theorem cells_new (W : World) (cs : List Value) (T : TypeId) : ∀ j u, cs[j]? = some u → (W.alloc (.cells cs.toArray T)).cell? ((⟨W.heap.size, 0, none⟩ : Addr).add j) = some u := fun j u h => by
  have := (OwnC.new_ W cs.toArray T).cell (j := j) (u := u) (by simpa using h)
  rwa [Addr.add_mid, Nat.zero_add]
theorem rev_ind {α : Type} {P : List α → Prop} (h0 : P []) (h1 : ∀ l x, P l → P (l ++ [x])) (l : List α) : P l := by
  have h : ∀ (r : List α), P r.reverse := fun r => by
    induction r with
    | nil => exact h0
    | cons x r ih => rw [List.reverse_cons]; exact h1 _ _ ih
  have := h l.reverse
  rwa [List.reverse_reverse] at this
theorem fdFold_last (l : List UInt8) (pre : List (Nat × Nat)) : (fdFold l pre).2 = true → ∃ ini f, (fdFold l pre).1 = ini ++ [f] := by
  induction pre using rev_ind with
  | h0 => intro h; cases h
  | h1 pre p ih =>
    rw [fdFold_snoc]
    unfold fdStep
    split
    · intro h
      obtain ⟨ini, f, e⟩ := ih h
      dsimp only at h ⊢
      rw [if_pos h, e, setTo_snoc]
      exact ⟨_, _, rfl⟩
    · split
      · intro h; cases h
      · intro h; exact ⟨_, _, rfl⟩
theorem fdFold_len (l : List UInt8) (pre : List (Nat × Nat)) : (fdFold l pre).1.length ≤ pre.length := by
  induction pre using rev_ind with
  | h0 => exact Nat.le_refl _
  | h1 pre p ih =>
    rw [fdFold_snoc]
    unfold fdStep
    have hs : ∀ (o : List Fd) (t : Nat), (setTo o t).length = o.length := fun o t => by
      rcases List.eq_nil_or_concat o with rfl | ⟨i, f, rfl⟩
      · rfl
      · rw [List.concat_eq_append, setTo_snoc, List.length_append, List.length_append]; rfl
    split
    · dsimp only
      split
      · rw [hs, List.length_append]; omega
      · rw [List.length_append]; omega
    · split <;> (simp <;> omega)
set_option maxRecDepth 100000 in
set_option maxHeartbeats 8000000 in
theorem fields_any (A : Option Addr) (n c : Nat) (l : List UInt8) (w : World) (ho : Oct w A n l) (hnc : n ≤ c) (hl : n ≤ 100000) :
    Calls Tryz.prog 69 #[.slice A n c] w fun e w' => ∃ v, e = .returned v ∧ w'.ownsRow w.heap.size 67 4 v (fieldsL l).length ((fieldsL l).flatMap fdC) ∧ Below w.heap.size w w' := by
  have HO := hid ho
  have HN : Hid (l.length = n) := hid ho.1
  have HNC := hid hnc
  have HHL := hid hl
  obtain ⟨m, hm⟩ : ∃ m, splitL l = m := ⟨_, rfl⟩
  have hmn : m ≤ n := by rw [← hm, ← HN.out]; exact split_le l
  have HSP := hid (fun W (hW : Below w.heap.size w W) => split_any A n c l W (HO.out.below hW) HNC.out HHL.out)
  rw [hm] at HSP
  obtain ⟨l2, hl2⟩ : ∃ l2, l.take m = l2 := ⟨_, rfl⟩
  have HOM : Hid (Oct w A m l2) := hid (by rw [← hl2]; exact ho.take m hmn)
  have HFL : Hid (fieldsL l2 = fieldsL l) := hid (by rw [← hl2, ← hm]; exact fields_head l)
  clear ho hnc hm hl2
  refine (callsIn_wide (n := 8)).1 (callsIn_of_wp_marks Tryz.func69 rfl trivial ?_ rfl)
  simp only [Tryz.ntmps69, List.size_toArray, List.length_cons, List.length_nil, Nat.reduceAdd, Nat.reduceSub, Array.replicate_succ, Array.replicate_zero, List.push_toArray, List.append_toArray, List.nil_append, List.cons_append]
  refine wpIn_wide.2 ?_
  go_upto_region 3 with fail
  obtain ⟨wa, hwa⟩ : ∃ wa, (((w.alloc (.cells #[.slice A n c] 28)).alloc (.cells #[.slice none 0 0] 64)).alloc (.cells #[.slice none 0 0] 64)).alloc (.cells #[.bool false] 4) = wa := ⟨_, rfl⟩
  have hsa : wa.heap.size = w.heap.size + 1 + 1 + 1 + 1 := by rw [← hwa]; simp
  have BA : Below w.heap.size w wa := by rw [← hwa]; exact ((((Below.refl _ w).alloc (Nat.le_refl _) _).alloc (by simp) _).alloc (by simp; omega) _).alloc (by simp; omega) _
  have X0 : Boxed wa w.heap.size 28 (.slice A n c) := by rw [← hwa]; exact (((Boxed.new w _ _).alloc _).alloc _).alloc _
  have X1 : Boxed wa (w.heap.size + 1) 64 (.slice none 0 0) := by
    rw [← hwa]
    have := ((Boxed.new (w.alloc (.cells #[.slice A n c] 28)) 64 (.slice none 0 0)).alloc (.cells #[.slice none 0 0] 64)).alloc (.cells #[.bool false] 4)
    rwa [World.size_alloc] at this
  have X2 : Boxed wa (w.heap.size + 1 + 1) 64 (.slice none 0 0) := by
    rw [← hwa]
    have := (Boxed.new ((w.alloc (.cells #[.slice A n c] 28)).alloc (.cells #[.slice none 0 0] 64)) 64 (.slice none 0 0)).alloc (.cells #[.bool false] 4)
    rwa [World.size_alloc, World.size_alloc] at this
  have X3 : Boxed wa (w.heap.size + 1 + 1 + 1) 4 (.bool false) := by
    rw [← hwa]
    have := Boxed.new (((w.alloc (.cells #[.slice A n c] 28)).alloc (.cells #[.slice none 0 0] 64)).alloc (.cells #[.slice none 0 0] 64)) 4 (.bool false)
    rwa [World.size_alloc, World.size_alloc, World.size_alloc] at this
  rw [hwa]
  clear hwa
  have hS : wa.drew.cell? ⟨w.heap.size, 0, none⟩ = some (.slice A n c) ∧ Hid (Below wa.heap.size wa wa.drew) := ⟨X0.cell, hid (bq (Below.refl _ wa) 1)⟩
  have m0 : (0 : Int) ≤ (m : Int) := by omega
  have m1 : (m : Int) ≤ (n : Int) := by omega
  have m2 : (m : Int).toNat = m := by omega
  have m3 : m ≤ c := by have := HNC.out; omega
  have m4 : (m : Int) ≤ (c : Int) := by omega
  refine wp_region_noPanic ?_
  refine wp_region_held_drew (S := (fun W => W.cell? ⟨w.heap.size, 0, none⟩ = some (.slice A n c) ∧ Hid (Below wa.heap.size wa W))) (by kernel_rfl) (by first | assumption | trivial) (fun hHeld => ?_)
  refine wpAnyH_take (i := 0) (v := ?_) rfl (by kernel_rfl) (by kernel_rfl) (by kernel_rfl) (fun _ _ _ h => h) (Or.inl ⟨by kernel_rfl, ?_⟩) (by first | assumption | trivial) ?_
  rotate_left
  · (intro wS hSw; (try dsimp only at hSw); go_simp; try with_reducible rfl)
  (try simp only [List.append_eq, List.cons_append, List.nil_append, List.getElem_toArray, List.getElem_cons_succ, List.getElem_cons_zero, Act.put, List.setIfInBounds_toArray, List.set_cons_zero, List.set_cons_succ])
  refine wpAnyH_take (i := 1) (v := ?_) rfl (by kernel_rfl) (by kernel_rfl) (by kernel_rfl) (fun _ _ _ h => h) (Or.inl ⟨by kernel_rfl, ?_⟩) (by first | assumption | trivial) ?_
  rotate_left
  · (intro wS hSw; (try dsimp only at hSw); go_simp; try with_reducible rfl)
  (try simp only [List.append_eq, List.cons_append, List.nil_append, List.getElem_toArray, List.getElem_cons_succ, List.getElem_cons_zero, Act.put, List.setIfInBounds_toArray, List.set_cons_zero, List.set_cons_succ])
  refine wpAnyH_ready (rs := [2]) (by kernel_rfl) (by simp) ?_
  refine AllReadyH.cons rfl (fun K hK => ?_) AllReadyH.nil
  go_simp
  (go_at_call 43; refine (HSP.out _ (past BA hHeld.2.out)).mono ?_; rintro e w5 ⟨rfl, b5⟩; have hS5 : w5.cell? ⟨w.heap.size, 0, none⟩ = some (.slice A n c) ∧ Hid (Below wa.heap.size wa w5) := ⟨cells_keep b5 hHeld.1, hid (past hHeld.2.out b5)⟩; clear b5 hHeld)
  go_wp2_with fail
  refine hK.out _ _ (by first | assumption | trivial) (fun hHeld => ?_)
  clear hK K
  (try simp only [List.append_eq, List.cons_append, List.nil_append, List.getElem_toArray, List.getElem_cons_succ, List.getElem_cons_zero, Act.put, List.setIfInBounds_toArray, List.set_cons_zero, List.set_cons_succ])
  refine wpAnyH_take (i := 3) (v := ?_) rfl (by kernel_rfl) (by kernel_rfl) (by kernel_rfl) (fun _ _ _ h => h) (Or.inl ⟨by kernel_rfl, ?_⟩) (by first | assumption | trivial) ?_
  rotate_left
  · (intro wS hSw; (try dsimp only at hSw); go_simp; try with_reducible rfl)
  (try simp only [List.append_eq, List.cons_append, List.nil_append, List.getElem_toArray, List.getElem_cons_succ, List.getElem_cons_zero, Act.put, List.setIfInBounds_toArray, List.set_cons_zero, List.set_cons_succ])
  refine wpAnyH_ready (rs := [4]) (by kernel_rfl) (by simp) ?_
  refine AllReadyH.cons rfl (fun K hK => ?_) AllReadyH.nil
  go_simp
  (go_at_call 75; refine (lines_any A m c _).mono ?_; rintro e w6 ⟨rfl, rfl⟩; have hS6 : (w5.alloc (.cells #[.slice A m c] 28)).cell? ⟨w.heap.size, 0, none⟩ = some (.slice A n c) ∧ Hid (Below wa.heap.size wa (w5.alloc (.cells #[.slice A m c] 28))) := ⟨cells_keep ((Below.refl _ w5).alloc (Nat.le_refl _) _) hHeld.1, hid (hHeld.2.out.alloc hHeld.2.out.size _)⟩; have HB5 := hid hHeld.2.out; clear hHeld)
  go_wp2_with fail
  refine hK.out _ _ (by first | assumption | trivial) (fun hHeld => ?_)
  clear hK K
  (try simp only [List.append_eq, List.cons_append, List.nil_append, List.getElem_toArray, List.getElem_cons_succ, List.getElem_cons_zero, Act.put, List.setIfInBounds_toArray, List.set_cons_zero, List.set_cons_succ])
  refine wpAnyH_done (by kernel_rfl) ?_ _
  refine NoPanic.normal ?_
  go_wp2_with fail
  have Y0 := boxed_below X0 HB5.out
  have Y1 := boxed_below X1 HB5.out
  have Y2 := boxed_below X2 HB5.out
  have Y3 := boxed_below X3 HB5.out
  have B5 := past BA HB5.out
  have hs5 : w.heap.size + 1 + 1 + 1 + 1 ≤ w5.heap.size := by have := HB5.out.size; omega
  have B6 := B5.alloc B5.size (.cells #[.slice A m c] 28)
  clear hS hS5 hS6 hHeld X0 X1 X2 X3
  refine (wpIn_wide (n := 8)).1 ?_
  refine wpIn_rangeFunc_ownG rfl (by omega) (gf := 102) (lb := #[.pointer (some ⟨w5.heap.size, 0, none⟩)]) rfl trivial (enters_of Tryz.func102 (by kernel_rfl) rfl)
    (lines_stops (8 - 1) (by omega) w5.heap.size l2 A m c w HOM.out m3 (by omega) _ B6 (Boxed.new w5 28 (.slice A m c)).cell (by simp)) kpf_t (kpf_b (by simp; omega) (by simp)) (Below.refl _ _) (fun _ => rfl)
    (fun (pre : List (Pr m)) W => (((Boxed W w.heap.size 28 (.slice A n c) ∧ Boxed W (w.heap.size + 1) 64 (.slice none 0 0)) ∧ (Boxed W w5.heap.size 28 (.slice A m c) ∧ Boxed W (w.heap.size + 1 + 1 + 1) 4 (.bool (fdFold l2 (pre.map (·.val))).2)))
      ∧ (∃ v, Boxed W (w.heap.size + 1 + 1) 64 v ∧ W.ownsRow w.heap.size 67 4 v (fdFold l2 (pre.map (·.val))).1.length ((fdFold l2 (pre.map (·.val))).1.flatMap fdC) ∧ True)) ∧ (Below w.heap.size w W ∧ (∀ x ∈ pre, emptyB (lineL l2 x.val) = false)))
    (fun c' (pre : List (Pr m)) W => c' = .ret ∧ ∃ q x, pre = q ++ [x] ∧ ((∀ y ∈ q, emptyB (lineL l2 y.val) = false) ∧ emptyB (lineL l2 x.val) = true) ∧ ((∃ v, Boxed W (w.heap.size + 1) 64 v ∧ W.ownsRow w.heap.size 67 4 v (fdFold l2 (q.map (·.val))).1.length ((fdFold l2 (q.map (·.val))).1.flatMap fdC) ∧ True) ∧ Below w.heap.size w W))
    (OwnFrom.and (OwnFrom.and (OwnFrom.and (OwnFrom.and (Own.from (boxed_own _ _ (fun _ => .slice A n c)) _) (Own.from (boxed_own _ _ (fun _ => .slice none 0 0)) _)) (OwnFrom.and (Own.from (boxed_own _ _ (fun _ => .slice A m c)) _) (Own.from (boxed_own _ _ (fun (pre : List (Pr m)) => .bool (fdFold l2 (pre.map (·.val))).2)) _))) (Own.from (holdsRow_own w.heap.size (w.heap.size + 1 + 1) 64 67 4 (fun (pre : List (Pr m)) => (fdFold l2 (pre.map (·.val))).1.length) (fun pre => (fdFold l2 (pre.map (·.val))).1.flatMap fdC) (fun pre v => True)) _)) (OwnFrom.and (ownFrom_below (Nat.le_refl _) (by simp; omega)) (ownFrom_pure _ (fun (pre : List (Pr m)) => ∀ x ∈ pre, emptyB (lineL l2 x.val) = false))))
    (fun c' s X Y row hs hg hr => by
      obtain ⟨h1, q, x, h2, h3, h4, h5⟩ := hs
      exact ⟨h1, q, x, h2, h3, Own.from (holdsRow_own w.heap.size (w.heap.size + 1) 64 67 4 (fun (pre : List (Pr m)) => (fdFold l2 (pre.map (·.val))).1.length) (fun pre => (fdFold l2 (pre.map (·.val))).1.flatMap fdC) (fun pre v => True)) _ q X Y row h4 hg hr, ownFrom_below (β := Unit) (Nat.le_refl _) (by simp; omega) () X Y row h5 hg hr⟩)
    ⟨⟨⟨⟨Y0.alloc _, Y1.alloc _⟩, Boxed.new _ _ _, Y3.alloc _⟩, ⟨_, Y2.alloc _, World.ownsRow_nil _ _ _ _, trivial⟩⟩, B6, fun x hx => by cases hx⟩
    ?a1 ?assign ?body ?done ?stop
  case a1 => exact (fun x => { tmps := #[.slice A n c, .pointer (some ⟨w.heap.size, 0, none⟩), .pointer (some ⟨w.heap.size + 1, 0, none⟩), .pointer (some ⟨w.heap.size + 1 + 1, 0, none⟩), .pointer (some ⟨w.heap.size + 1 + 1 + 1, 0, none⟩), I64 x.val.1, I64 x.val.2, undef, undef, undef, undef, .slice A n c, .slice A n c, .int .i64 (m : Int), .slice A m c, .func (.func 102) #[] #[.pointer (some ⟨w5.heap.size, 0, none⟩)], I64 x.val.1, I64 x.val.2, undef, undef, undef, undef, undef, undef, undef, undef, undef, undef, undef, undef, undef, undef, undef, undef, undef, undef, undef, undef, undef, undef, undef, undef, undef, undef, undef, undef, undef, undef, undef, undef, undef, undef, undef, undef, undef, undef, undef, undef], defers := [] })
  case assign =>
    intro lq x W K hK
    dsimp only [I64, prV] at hK ⊢
    gi_wp2
    exact hK
  case body =>
    rintro lq pre ⟨⟨i, j⟩, hij⟩ W ⟨⟨⟨⟨x0, x1⟩, x4, x3⟩, v, x2, hro, -⟩, hB, hpre⟩ hlt
    obtain ⟨st, hst⟩ : ∃ st, fdFold l2 (pre.map (·.val)) = st := ⟨_, rfl⟩
    have HST : Hid (fdFold l2 ((pre ++ [(⟨(i, j), hij⟩ : Pr m)]).map (·.val)) = fdStep (lineL l2) st (i, j)) := hid (by rw [List.map_append, List.map_cons, List.map_nil, fdFold_snoc, hst])
    have HLA : Hid (st.2 = true → ∃ ini f, st.1 = ini ++ [f]) := hid (by rw [← hst]; exact fdFold_last l2 _)
    have hlen : st.1.length ≤ pre.length := by rw [← hst]; have := fdFold_len l2 (pre.map (·.val)); rwa [List.length_map] at this
    have hpl : pre.length ≤ 100000 := by
      have h1 := cutL_len l2
      have h2 : (posL l2).length = (cutL l2).length := by rw [← lines_of, List.length_map]
      have h3 : l2.length = m := HOM.out.1
      omega
    rw [hst] at x3 hro
    obtain ⟨out, o⟩ := st
    dsimp only at x3 hro HLA hlen
    obtain ⟨p, hp⟩ : ∃ p, out.length = p := ⟨_, rfl⟩
    rw [hp] at hro hlen
    obtain ⟨A2, cc, hv, -⟩ := own_slice hro
    subst hv
    dsimp only [I64]
    have c0 := x0.cell
    have c1 := x1.cell
    have f1 := x1.frozen
    have c2 := x2.cell
    have f2 := x2.frozen
    have c3 := x3.cell
    have f3 := x3.frozen
    obtain ⟨b, off, rfl, -⟩ := (HOM.out.below hB).at_ (by omega)
    have HM := hid (oct_mid (HOM.out.below hB) i j hij.1 hij.2)
    have e0 : (0 : Int) ≤ (i : Int) := by omega
    have e1 : (i : Int) ≤ (j : Int) := by omega
    have e2 : (j : Int) ≤ (n : Int) := by omega
    have e2' : (j : Int) ≤ (c : Int) := by omega
    have e3 : (i : Int).toNat = i := by omega
    have e4 : (j : Int).toNat = j := by omega
    have e5 : ¬ c = i := by omega
    have e6 : j ≤ c := by omega
    have e7 : i ≤ j := by omega
    obtain ⟨x, hx⟩ : ∃ x, lineL l2 (i, j) = x := ⟨_, rfl⟩
    rw [hx] at HM
    have hxl : x.length = j - i := HM.out.1
    have HE := hid (fun dd => empty_any (some ⟨b, off + i, none⟩) (j - i) dd x W HM.out)
    have HBG := hid (begin_any (some ⟨b, off + i, none⟩) (j - i) (c - i) x W HM.out (by omega) (by omega))
    obtain ⟨t, ht⟩ : ∃ t, emptyB x = t := ⟨_, rfl⟩
    rw [ht] at HE
    have hro1 := hro.kept (grownBy_setCell' W (w.heap.size + 1) (.slice A2 p cc)) (.inr (x1.not_row (by decide) hro).symm)
    cases t with
    | true =>
      gi_wp2_with (refine ⟨trivial, ?_⟩; gi_at_call 76; refine (callsIn_wide.2 (HE.out _)).mono ?_; rintro e w3 ⟨rfl, rfl⟩)
      refine ⟨(KeepsOthers.setCell _ _ _).from _, rfl, pre, _, rfl, ⟨hpre, by rw [hx]; exact ht⟩, ⟨_, x1.set _, ?_, trivial⟩, hB.setCell (p := ⟨w.heap.size + 1, 0, none⟩) (by simp) _⟩
      rw [hst, hp]
      exact hro1
    | false =>
      have hpre2 : ∀ y ∈ pre ++ [(⟨(i, j), hij⟩ : Pr m)], emptyB (lineL l2 y.val) = false := fun y hy => by
        rcases List.mem_append.1 hy with hy | hy
        · exact hpre y hy
        · rw [List.mem_singleton] at hy
          rw [hy, hx]
          exact ht
      obtain ⟨z, r, hzr⟩ := head_cons x (by intro h; rw [h] at hxl; simp at hxl; omega)
      have hz0 : W.cell? ⟨b, off + i, none⟩ = some (.int .u8 (z.toNat : Int)) := by
        obtain ⟨b', off', h1, h2⟩ := HM.out.at_ (by omega)
        injection h1 with h1
        injection h1 with h3 h4
        subst h3 h4
        subst hzr
        have := h2 0 (by simp)
        rwa [Nat.add_zero] at this
      have hhd : x.headD 0 = z := by rw [hzr]; rfl
      have HBL := hid (fun X => blank17_any z X)
      unfold B8 at HBL
      obtain ⟨q, hq⟩ : ∃ q, bl z = q := ⟨_, rfl⟩
      rw [hq] at HBL
      have e8 : (0 : Int) < ((j - i : Nat) : Int) := by omega
      have e9 : 0 < j - i := by omega
      have HSTEP : Hid (fdStep (lineL l2) (out, o) (i, j) = if q = true then (if o = true then setTo out j else out, o) else match nameL x with | none => (out, false) | some (mm, k) => (out ++ [⟨mm, i, j, i + k⟩], true)) := hid (by unfold fdStep; rw [hx, hhd, hq]; rfl)
      clear hzr hhd hq ht
      cases q with
      | true =>
        cases o with
        | false =>
          have HN2 : Hid (fdFold l2 ((pre ++ [(⟨(i, j), hij⟩ : Pr m)]).map (·.val)) = (out, false)) := hid (by rw [HST.out, HSTEP.out]; rfl)
          gi_wp2_with (first
            | (refine ⟨trivial, ?_⟩; gi_at_call 76; refine (callsIn_wide.2 (HE.out _)).mono ?_; rintro e w3 ⟨rfl, rfl⟩)
            | (refine ⟨trivial, ?_⟩; gi_at_call 97; refine (callsIn_wide.2 (HBL.out _)).mono ?_; rintro e w4 ⟨rfl, rfl⟩)
            | (refine ⟨trivial, ?_⟩; gi_at_call 98; refine (callsIn_wide.2 HBG.out).mono ?_; rintro e w5 ⟨rfl, rfl⟩))
          refine ⟨KeepsFrom.refl _ _, ⟨Below.refl _ _, fun _ => rfl⟩, ?_⟩
          dsimp only
          rw [HN2.out]
          exact ⟨⟨⟨⟨x0, x1⟩, x4, x3⟩, _, x2, by rw [hp]; exact hro, trivial⟩, hB, hpre2⟩
        | true =>
          obtain ⟨ini, f, hof⟩ := HLA.out rfl
          obtain ⟨p', rfl⟩ : ∃ p', p = p' + 1 := ⟨ini.length, by rw [← hp, hof, List.length_append]; rfl⟩
          have hil : ini.length = p' := by rw [hof, List.length_append] at hp; simpa using hp
          have HN2 : Hid (fdFold l2 ((pre ++ [(⟨(i, j), hij⟩ : Pr m)]).map (·.val)) = (ini ++ [{ f with te := j }], true)) := hid (by rw [HST.out, HSTEP.out, if_pos rfl, if_pos rfl, hof, setTo_snoc])
          obtain ⟨g, hg0, hg1, og⟩ := own_rowN hro (Nat.succ_pos _)
          subst hg0
          have hgf := og.frozen (p' * 4 + 2)
          obtain ⟨uu, huu⟩ : ∃ uu, W.cell? ⟨g, p' * 4 + 2, none⟩ = some uu := ⟨_, og.cell (by rw [fdC_get out p' (by omega) 2 (by omega)]; rfl)⟩
          have hst2 := (hro.stored (p' * 4 + 2) (.int .i64 (j : Int))).1
          have hse : (out.flatMap fdC).set (p' * 4 + 2) (.int .i64 (j : Int)) = (ini ++ [{ f with te := j }]).flatMap fdC := by
            rw [hof, ← hil]
            exact fdC_set ini f j
          rw [hse] at hst2
          have ng : ∀ {B : Nat} {T : TypeId} {u : Value}, Boxed W B T u → T ≠ 67 → B ≠ g := fun h ht e => h.not_row ht hro (by rw [e]; rfl)
          have k0 : (0 : Int) ≤ (p' : Int) := by omega
          have k1 : (p' : Int) < (p' : Int) + 1 := by omega
          have k2 : (p' : Int).toNat = p' := by omega
          clear og hse
          gi_wp2_with (first
            | (refine ⟨trivial, ?_⟩; gi_at_call 76; refine (callsIn_wide.2 (HE.out _)).mono ?_; rintro e w3 ⟨rfl, rfl⟩)
            | (refine ⟨trivial, ?_⟩; gi_at_call 97; refine (callsIn_wide.2 (HBL.out _)).mono ?_; rintro e w4 ⟨rfl, rfl⟩)
            | (refine ⟨trivial, ?_⟩; gi_at_call 98; refine (callsIn_wide.2 HBG.out).mono ?_; rintro e w5 ⟨rfl, rfl⟩))
          refine ⟨(KeepsOthers.setCell _ _ _).from _, kpf_of ((Below.refl w.heap.size W).setCell (p := ⟨g, p' * 4 + 2, none⟩) hg1 _) (heap_setCell_other W ⟨g, p' * 4 + 2, none⟩ w5.heap.size _ (ng x4 (by decide))), ?_⟩
          dsimp only
          rw [HN2.out]
          exact ⟨⟨⟨⟨boxed_set x0 (ng x0 (by decide)) _, boxed_set x1 (ng x1 (by decide)) _⟩, boxed_set x4 (ng x4 (by decide)) _, boxed_set x3 (ng x3 (by decide)) _⟩, _, boxed_set x2 (ng x2 (by decide)) _, by rw [show (ini ++ [({ f with te := j } : Fd)]).length = p' + 1 from by rw [List.length_append, hil]; rfl]; exact hst2, trivial⟩, hB.setCell (p := ⟨g, p' * 4 + 2, none⟩) hg1 _, hpre2⟩
      | false =>
        have hro3 := hro.kept (grownBy_setCell' W (w.heap.size + 1 + 1 + 1) (.bool false)) (.inr (x3.not_row (by decide) hro).symm)
        have hro4 := hro.kept (grownBy_setCell' W (w.heap.size + 1 + 1 + 1) (.bool true)) (.inr (x3.not_row (by decide) hro).symm)
        obtain ⟨nm, hnm⟩ : ∃ nm, nameL x = nm := ⟨_, rfl⟩
        rw [hnm] at HBG HSTEP
        cases nm with
        | none =>
          unfold nmV at HBG
          have HN2 : Hid (fdFold l2 ((pre ++ [(⟨(i, j), hij⟩ : Pr m)]).map (·.val)) = (out, false)) := hid (by rw [HST.out, HSTEP.out]; rfl)
          gi_wp2_with (first
            | (refine ⟨trivial, ?_⟩; gi_at_call 76; refine (callsIn_wide.2 (HE.out _)).mono ?_; rintro e w3 ⟨rfl, rfl⟩)
            | (refine ⟨trivial, ?_⟩; gi_at_call 97; refine (callsIn_wide.2 (HBL.out _)).mono ?_; rintro e w4 ⟨rfl, rfl⟩)
            | (refine ⟨trivial, ?_⟩; gi_at_call 98; refine (callsIn_wide.2 HBG.out).mono ?_; rintro e w5 ⟨rfl, rfl⟩))
          refine ⟨(KeepsOthers.setCell _ _ _).from _, kpf_of ((Below.refl w.heap.size W).setCell (p := ⟨w.heap.size + 1 + 1 + 1, 0, none⟩) (by simp; omega) _) (heap_setCell_other W ⟨w.heap.size + 1 + 1 + 1, 0, none⟩ w5.heap.size _ (by simp; omega)), ?_⟩
          dsimp only
          rw [HN2.out]
          exact ⟨⟨⟨⟨x0.other (by omega) _, x1.other (by omega) _⟩, x4.other (by omega) _, x3.set _⟩, _, x2.other (by omega) _, by rw [hp]; exact hro3, trivial⟩, hB.setCell (p := ⟨w.heap.size + 1 + 1 + 1, 0, none⟩) (by simp; omega) _, hpre2⟩
        | some nk =>
          obtain ⟨mm, k⟩ := nk
          unfold nmV at HBG
          have hkb := (nameL_bounds hnm).2.2.1
          have HN2 : Hid (fdFold l2 ((pre ++ [(⟨(i, j), hij⟩ : Pr m)]).map (·.val)) = (out ++ [(⟨mm, i, j, i + k⟩ : Fd)], true)) := hid (by rw [HST.out, HSTEP.out]; rfl)
          obtain ⟨i0, hi, hz0', hz1, hz2⟩ := info_parts fdS.info
          have x21 := x2.other (B' := w.heap.size + 1 + 1 + 1) (by omega) (.bool true)
          have hsz : (W.setCell ⟨w.heap.size + 1 + 1 + 1, 0, none⟩ (.bool true)).heap.size = W.heap.size := by simp
          have hml : 100001 ≤ maxLen := by decide
          have hcn := cells_new (W.setCell ⟨w.heap.size + 1 + 1 + 1, 0, none⟩ (.bool true)) [.string (str mm), .int .i64 (i : Int), .int .i64 (j : Int), .int .i64 ((i : Int) + (k : Int))] 67
          rw [hsz] at hcn
          gi_wp2_with (first
            | (refine ⟨trivial, ?_⟩; gi_at_call 76; refine (callsIn_wide.2 (HE.out _)).mono ?_; rintro e w3 ⟨rfl, rfl⟩)
            | (refine ⟨trivial, ?_⟩; gi_at_call 97; refine (callsIn_wide.2 (HBL.out _)).mono ?_; rintro e w4 ⟨rfl, rfl⟩)
            | (refine ⟨trivial, ?_⟩; gi_at_call 98; refine (callsIn_wide.2 HBG.out).mono ?_; rintro e w5 ⟨rfl, rfl⟩)
            | (gi_at_builtin; refine wpListIn_append_own _ rfl _ _ 64 rfl w.heap.size 67 i0 (.agg #[.string ⟨#[]⟩, .int .i64 0, .int .i64 0, .int .i64 0]) 4 40 Tryz.underlying64 hi hz0' hz1 hz2 rfl (by decide) _ _ _ rfl (hro4.alloc _) ⟨W.heap.size, 0, none⟩ 1 1 [.string (str mm), .int .i64 (i : Int), .int .i64 (j : Int), .int .i64 ((i : Int) + (k : Int))] rfl rfl hcn (by simp [Value.oneCell']) (by omega) (by omega) (by have := hB.size; simp; omega) ?_; intro v' w1 hown' hgrow _; obtain ⟨g', cap', rfl⟩ := ownsRow_succ hown'; obtain ⟨hv1, hv2, hr2, hk2, hb2⟩ := x21.appended (by decide) hro4 (by rw [hsz]; exact hB.size) (by omega) hown' hgrow; have hc1 := hv1.cell; have hf1 := hv1.frozen))
          have up : ∀ {B : Nat} {T : TypeId} {u : Value}, Boxed (W.setCell ⟨w.heap.size + 1 + 1 + 1, 0, none⟩ (.bool true)) B T u → T ≠ 67 → B ≠ w.heap.size + 1 + 1 → Boxed (w1.setCell ⟨w.heap.size + 1 + 1, 0, none⟩ (.slice (some ⟨g', 0, none⟩) (p + 1) cap')) B T u := fun h ht nn => ((h.alloc _).kept hgrow (h.not_row ht hro4)).other nn _
          have y4 := up (x4.other (B' := w.heap.size + 1 + 1 + 1) (by omega) _) (by decide) (by omega)
          refine ⟨((KeepsOthers.setCell _ _ _).trans hk2).from _, kpf_of (((Below.refl w.heap.size W).setCell (p := ⟨w.heap.size + 1 + 1 + 1, 0, none⟩) (by simp; omega) _).trans hb2) (y4.trans (Eq.symm x4)), ?_⟩
          dsimp only
          rw [HN2.out]
          exact ⟨⟨⟨⟨up (x0.other (B' := w.heap.size + 1 + 1 + 1) (by omega) _) (by decide) (by omega), up (x1.other (B' := w.heap.size + 1 + 1 + 1) (by omega) _) (by decide) (by omega)⟩, y4, up (x3.set _) (by decide) (by omega)⟩, _, hv2, by rw [show (out ++ [(⟨mm, i, j, i + k⟩ : Fd)]).length = p + 1 from by rw [List.length_append, hp]; rfl, List.flatMap_append]; exact hr2, trivial⟩, (hB.setCell (p := ⟨w.heap.size + 1 + 1 + 1, 0, none⟩) (by simp; omega) _).trans hb2, hpre2⟩
  case done =>
    rintro D q W hD hys ⟨⟨⟨⟨x0, x1⟩, x4, x3⟩, v, x2, ho, -⟩, hB, hpre⟩ hK
    obtain ⟨A2, cc, hv, -⟩ := own_slice ho
    subst hv
    obtain ⟨k, hk⟩ : ∃ k, (fdFold l2 (q.map (·.val))).1.length = k := ⟨_, rfl⟩
    rw [hk] at x2 ho
    have c1 := x1.cell
    have f1 := x1.frozen
    have c2 := x2.cell
    have HF : Hid (fieldsL l = (fdFold l2 (q.map (·.val))).1) := hid (by
      rw [← HFL.out, hys]
      refine fields_done (fun y hy => ?_)
      rw [← hys] at hy
      obtain ⟨z, hz, rfl⟩ := List.mem_map.1 hy
      exact hpre z hz)
    go_wp2
    have hDs : D ≠ w.heap.size + 1 := by simp at hD; omega
    have hB2 := hB.setCell (p := ⟨w.heap.size + 1, 0, none⟩) (by simp) (.slice A2 k cc)
    have hK2 := (heap_setCell_other W ⟨w.heap.size + 1, 0, none⟩ D (.slice A2 k cc) hDs).trans hK
    have z1 := x1.set (.slice A2 k cc)
    have c3 := cell_kept z1.cell (grownBy_putObj' _ D (.deferred none)) (fun r e => by cases e; exact ⟨_, hK2, rfl⟩)
    have ho2 := ho.kept (grownBy_setCell' W (w.heap.size + 1) (.slice A2 k cc)) (.inr (x1.not_row (by decide) ho).symm)
    refine ⟨by simp, .inl ⟨_, _, rfl, run_takeDeferred hK2, ?_⟩⟩
    refine ⟨.slice A2 k cc, by simp [results, Tryz.results69, go_sem, c3], ?_⟩
    rw [HF.out, hk]
    exact ⟨_, rfl, ownsRow_putObj ho2 _ hK2 rfl, hB2.trans (belowK_b (w := w) (Nat.le_refl _) _ D _ _ (by simp at hD; omega) hK2 rfl rfl)⟩
  case stop =>
    rintro D c' pre W hD hSp ⟨rfl, q, x, rfl, ⟨hq, hx⟩, ⟨v, x1, ho, -⟩, hB⟩ hK
    have HF : Hid (fieldsL l = (fdFold l2 (q.map (·.val))).1) := hid (by
      rw [← HFL.out]
      rw [List.map_append] at hSp
      refine fields_stop hSp (fun y hy => ?_) hx
      obtain ⟨z, hz, rfl⟩ := List.mem_map.1 hy
      exact hq z hz)
    have c3 := cell_kept x1.cell (grownBy_putObj' _ D (.deferred none)) (fun r e => by cases e; exact ⟨_, hK, rfl⟩)
    gi_wp2
    refine ⟨by simp, .inl ⟨_, _, rfl, run_takeDeferred hK, ?_⟩⟩
    refine ⟨v, by simp [results, Tryz.results69, go_sem, c3], ?_⟩
    rw [HF.out]
    exact ⟨v, rfl, ownsRow_putObj ho _ hK rfl, hB.trans (belowK_b (w := w) (Nat.le_refl _) _ D _ _ (by simp at hD; omega) hK rfl rfl)⟩
end Go.Proofs.YtonjadmldgloaaaGreatDoor.D17
