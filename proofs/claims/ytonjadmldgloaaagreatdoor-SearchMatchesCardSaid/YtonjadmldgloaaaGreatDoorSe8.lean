/-
  Is a message meant: the program's side. A part of the proof: see the head of the text that ends in 'Law'.
-/
import Derived.Test.YtonjadmldgloaaaGreatDoorSe7
namespace Go.Proofs.YtonjadmldgloaaaGreatDoor
open Go.RowKit Go.Shelf
set_option linter.unusedVariables false
set_option linter.unusedSimpArgs false
set_option maxRecDepth 100000
attribute [local go_sem] Oper.semAt_some

theorem yieldsIf_build {P : Program} {ops : Array Oper} {S : World → Prop} {op : Oper} {a : Act} (hw : Region.wanted op (yielded ops a.tmps) = true) (t : TypeId) (parts : Array (Nat × Operand)) (ho : op.op = .build t parts) (vs : List (Nat × Value)) (hv' : (parts.toList.map fun x => (x.1, a.eval x.2)) = vs) (cells : Array Value)
    (hb : P.built t vs = some cells) : YieldsIf P ops S op (.agg cells) a :=
  .inl ⟨hw, fun w _ => by
    have hv : (parts.map fun (i, x) => (i, a.eval x)).toList = vs := by rw [Array.toList_map]; exact hv'
    unfold execOp
    simp only [ho, Sem.run_bind, run_build w t _ cells (by rw [hv]; exact hb), Result.andThen_ok]
    rfl⟩
theorem wpList_build_to {P : Program} {ops : Array Oper} {rest : List Oper} {o : Oper} {a : Act} {w : World} {Q : Exit → Act → World → Prop} (hg : o.guard = none) (t : TypeId) (parts : Array (Nat × Operand)) (ho : o.op = .build t parts) (vs : List (Nat × Value)) (hv' : (parts.toList.map fun x => (x.1, a.eval x.2)) = vs) (cells : Array Value)
    (hb : P.built t vs = some cells) (h : wpList P ops Q rest (a.put o.dst (.agg cells)) w) : wpList P ops Q (o :: rest) a w := by
  have hv : (parts.map fun (i, x) => (i, a.eval x)).toList = vs := by rw [Array.toList_map]; exact hv'
  refine wpList_build hg t parts ho (by rw [hv, hb]; rfl) ?_
  rw [hv, hb]
  exact h
theorem asked_fill (ps : List (Nat × Value)) : Tryz.prog.built 46 ps = Instr.fill (fun i => (#[(0, 6)] : Array (Nat × Nat))[i]?) #[.int .i64 0, .string ⟨#[]⟩, .string ⟨#[]⟩, .int .i64 0, .slice none 0 0, .slice none 0 0] ps := by kernel_rfl
theorem asked_built (k n : Int) (s t : List UInt8) (A : Option Addr) (m c : Nat) (B : Option Addr) (p q : Nat) : Tryz.prog.built 46 [(0, .agg #[.int .i64 k, .string (str s), .string (str t), .int .i64 n, .slice A m c, .slice B p q])] = some #[.int .i64 k, .string (str s), .string (str t), .int .i64 n, .slice A m c, .slice B p q] := by
  rw [asked_fill]
  kernel_rfl
/-- What lies in memory while a key is held against a message. -/
structure MnS (w W : World) (k : KeyT) (h : HitV) (bh bk : Nat) : Prop where
  key : OwnE W bk 37 (keyC k)
  hit : OwnE W bh 30 (hitC h)
  ki : KeyIn W 100 k
  hi : HitIn W h
  t : Tabs W
  b : Below w.heap.size w W
theorem MnS.below {w W X : World} {k : KeyT} {h : HitV} {bh bk : Nat} (m : MnS w W k h bh bk) (b : Below W.heap.size W X) : MnS w X k h bh bk :=
  ⟨m.key.below b, m.hit.below b, m.ki.on b, m.hi.below b, m.t.below b, past m.b b⟩
theorem mn_start (w : World) (k : KeyT) (h : HitV) (o : Obj) (hk : KeyIn w 100 k) (hh : HitIn w h) (ht : Tabs w) :
    MnS w (((w.alloc o).alloc (.cells (hitC h).toArray 30)).alloc (.cells (keyC k).toArray 37)) k h (w.heap.size + 1) (w.heap.size + 1 + 1) := by
  have a1 : Below w.heap.size w (w.alloc o) := (Below.refl _ _).alloc (Nat.le_refl _) _
  have a2 : Below w.heap.size w ((w.alloc o).alloc (.cells (hitC h).toArray 30)) := a1.alloc a1.size _
  have a3 : Below w.heap.size w (((w.alloc o).alloc (.cells (hitC h).toArray 30)).alloc (.cells (keyC k).toArray 37)) := a2.alloc a2.size _
  have k2 : Below ((w.alloc o).alloc (.cells (hitC h).toArray 30)).heap.size ((w.alloc o).alloc (.cells (hitC h).toArray 30)) (((w.alloc o).alloc (.cells (hitC h).toArray 30)).alloc (.cells (keyC k).toArray 37)) := (Below.refl _ _).alloc (Nat.le_refl _) _
  refine ⟨?_, ?_, hk.on a3, hh.below a3, ht.below a3, a3⟩
  · have := OwnE.new_ ((w.alloc o).alloc (.cells (hitC h).toArray 30)) (keyC k) 37
    rw [World.size_alloc, World.size_alloc] at this
    exact this
  · have := (OwnE.new_ (w.alloc o) (hitC h) 30).below k2
    rw [World.size_alloc] at this
    exact this
/-- What is asked of a key that may be, so deep. -/
def Asks (f : Nat) : Prop := ∀ (k : KeyT) (h : HitV) (w : World), KeyIn w 100 k → MayD f k → HitIn w h → Tabs w →
  Calls Tryz.prog 19 #[.agg (keyC k).toArray, .agg (hitC h).toArray] w fun e w' => e = .returned (.bool (meansF f h k)) ∧ Below w.heap.size w w'
theorem oct_tail {W : World} {A A3 : Option Addr} {n c k : Nat} {l : List UInt8} (h : Oct W A n l) (hk : k ≤ n) (hnc : n ≤ c) (hA : (if c = k then A else A.map (fun x => x.add k)) = A3) : Oct W A3 (n - k) (l.drop k) := by
  by_cases hn : k < n
  · obtain ⟨b, off, rfl, -⟩ := h.at_ (by omega)
    rw [if_neg (by omega), Option.map_some, Addr.add_mid] at hA
    rcases D17.oct_drop h k c hk with h1 | h1
    · rw [if_neg (by omega), hA] at h1
      exact h1
    · omega
  · have e : n - k = 0 := by omega
    have e2 : l.drop k = [] := List.drop_of_length_le (by rw [h.len]; omega)
    rw [e, e2]
    exact Oct.nil _ _
theorem mn15 (f : Nat) (h : HitV) (k : KeyT) (e : k.kind = 15) : meansF (f + 1) h k = !(k.l.all (meansF f h)) := by
  rw [meansF, e]
  rfl
theorem mn16 (f : Nat) (h : HitV) (k : KeyT) (e : k.kind = 16) : meansF (f + 1) h k = k.l.any (meansF f h) := by
  rw [meansF, e]
  rfl
theorem mn17 (f : Nat) (h : HitV) (k : KeyT) (e : k.kind = 17) : meansF (f + 1) h k = k.l.all (meansF f h) := by
  rw [meansF, e]
  rfl
theorem mn0 (f : Nat) (h : HitV) (k : KeyT) (e : k.kind = 0) : meansF (f + 1) h k = true := by unfold meansF; rw [e]; rfl
set_option maxHeartbeats 32000000 in
theorem means_step (f : Nat) (ih : Asks f) : Asks (f + 1) := by
  intro k h w hk hm hh ht
  have IH := hid ih
  have hmx := hm.2
  have hbad := hm.1
  have hks : 0 ≤ k.kind ∧ k.kind ≤ 17 := by
    unfold badK at hbad
    simp only [Bool.or_eq_false_iff, decide_eq_false_iff_not] at hbad
    omega
  obtain ⟨r, hr⟩ : ∃ r, meansF (f + 1) h k = r := ⟨_, rfl⟩
  rw [hr]
  have HR := hid hr
  clear hr ih
  have HM := hid (mn_start w k h (.cells (keyC k).toArray 46) hk hh ht)
  obtain ⟨kind, s, t, n, SA, sn, sc, sp, LA, ln, lc, l⟩ := k
  obtain ⟨uid, sec, zone, size, blob, FA, fn, fc, fl, place, many, great, BA, bn, bc, b⟩ := h
  obtain ⟨W3, hW3⟩ : ∃ W3, (((w.alloc (.cells #[.int .i64 kind, .string (str s), .string (str t), .int .i64 n, .slice SA sn sc, .slice LA ln lc] 46)).alloc (.cells #[.int .i64 uid, .int .i64 sec, .int .i64 zone, .int .i64 size, .int .u64 (blob : Int), .slice FA fn fc, .int .i64 place, .int .i64 many, .int .i64 great, .slice BA bn bc] 30)).alloc (.cells #[.int .i64 kind, .string (str s), .string (str t), .int .i64 n, .slice SA sn sc, .slice LA ln lc] 37)) = W3 := ⟨_, rfl⟩
  have M : Hid (MnS w W3 ⟨kind, s, t, n, SA, sn, sc, sp, LA, ln, lc, l⟩ ⟨uid, sec, zone, size, blob, FA, fn, fc, fl, place, many, great, BA, bn, bc, b⟩ (w.heap.size + 1) (w.heap.size + 1 + 1)) := hid (by rw [← hW3]; exact HM.out)
  have HH := hid hh
  have HMX := hid hmx
  have HBAD := hid hbad
  dsimp only at hks
  clear HM hk hm hh ht hmx hbad
  show Calls Tryz.prog 19 #[.agg #[.int .i64 kind, .string (str s), .string (str t), .int .i64 n, .slice SA sn sc, .slice LA ln lc], .agg #[.int .i64 uid, .int .i64 sec, .int .i64 zone, .int .i64 size, .int .u64 (blob : Int), .slice FA fn fc, .int .i64 place, .int .i64 many, .int .i64 great, .slice BA bn bc]] w fun e w' => e = .returned (.bool r) ∧ Below w.heap.size w w'
  go_enter Tryz.func19, Tryz.ntmps19
  go_upto_region 2 with fail
  have y0 := M.out.key.cell (j := 0) rfl
  have y1 := M.out.key.cell (j := 1) rfl
  have y2 := M.out.key.cell (j := 2) rfl
  have y3 := M.out.key.cell (j := 3) rfl
  have y4 := M.out.key.cell (j := 4) rfl
  have y5 := M.out.key.cell (j := 5) rfl
  clear hW3
  have hc : kind = 0 ∨ kind = 1 ∨ kind = 2 ∨ kind = 3 ∨ kind = 4 ∨ kind = 5 ∨ kind = 6 ∨ kind = 7 ∨ kind = 8 ∨ kind = 9 ∨ kind = 10 ∨ kind = 11 ∨ kind = 12 ∨ kind = 13 ∨ kind = 14 ∨ kind = 15 ∨ kind = 16 ∨ kind = 17 := by omega
  clear hks
  rcases hc with rfl | rfl | rfl | rfl | rfl | rfl | rfl | rfl | rfl | rfl | rfl | rfl | rfl | rfl | rfl | rfl | rfl | rfl
  · as_aux_lemma =>
      go_wp2_with fail
      go_ret
      exact ⟨by rw [← HR.out]; rfl, M.out.b⟩
  · as_aux_lemma =>
      have z5 := M.out.hit.cell (j := 5) rfl
      have hr : flagF fl s = r := by rw [← HR.out]; unfold meansF; rfl
      have HFL := hid (fhas_any FA fn fc fl s W3 M.out.hi.fl M.out.hi.fm M.out.hi.fr (Nat.le_trans M.out.ki.ok.s (by omega)))
      rw [hr] at HFL
      clear hr
      go_wp2_with (go_at_call 37; (with_reducible refine HFL.out.mono ?_); rintro e w1 ⟨rfl, b1⟩; have B1 := hid (past M.out.b b1); clear b1)
      go_ret
      exact ⟨rfl, B1.out⟩
  · as_aux_lemma =>
      obtain ⟨dn, hdn⟩ : ∃ d, dayN ⟨uid, sec, zone, size, blob, FA, fn, fc, fl, place, many, great, BA, bn, bc, b⟩ = d := ⟨_, rfl⟩
      have hr : dayF 0 dn n = r := by rw [← hdn, ← HR.out]; unfold meansF; rfl
      have HDD := hid (fun X => (by have := D16.dday_any sec zone X M.out.hi.i64.2.1 M.out.hi.i64.2.2.1; rw [show (if D16.mayD sec zone = true then (sec + 60 * zone) / 86400 else 0) = dn from hdn] at this; exact this : Calls Tryz.prog 39 #[.agg #[.int .i64 sec, .int .i64 zone]] X fun e w' => e = .returned (.int .i64 dn) ∧ Below X.heap.size X w'))
      have HDY := hid (fun X => day_any 0 dn n X)
      rw [hr] at HDY
      have jw : IntKind.i64.wrap (0 : Int) = 0 := rfl
      have HSF := hid (fun (X : World) (m : MnS w X ⟨2, s, t, n, SA, sn, sc, sp, LA, ln, lc, l⟩ ⟨uid, sec, zone, size, blob, FA, fn, fc, fl, place, many, great, BA, bn, bc, b⟩ (w.heap.size + 1) (w.heap.size + 1 + 1)) => And.intro (m.key.cell (j := 0) rfl) (And.intro (m.key.cell (j := 3) rfl) (And.intro (m.hit.cell (j := 1) rfl) (m.hit.cell (j := 2) rfl))))
      clear hr hdn
      go_upto_region 10 with fail
      have M := hid (M.out.below (drew_below _))
      have hS := HSF.out _ M.out
      clear y0 y1 y2 y3 y4 y5
      refine wp_region_noPanic ?_
      refine wp_region_held_drew (S := (fun X => X.cell? ⟨w.heap.size + 1 + 1, 0, none⟩ = some (.int .i64 2) ∧ X.cell? ⟨w.heap.size + 1 + 1, 3, none⟩ = some (.int .i64 n) ∧ X.cell? ⟨w.heap.size + 1, 1, none⟩ = some (.int .i64 sec) ∧ X.cell? ⟨w.heap.size + 1, 2, none⟩ = some (.int .i64 zone))) (by kernel_rfl) (by first | assumption | trivial) (fun hHeld => ?_)
      refine wpAnyH_take (i := 0) (v := ?_) rfl (by kernel_rfl) (by kernel_rfl) (by kernel_rfl) (fun _ _ _ h => h) (Or.inl ⟨by kernel_rfl, ?_⟩) (by first | assumption | trivial) ?_
      rotate_left
      · (intro wS hSw; (try dsimp only at hSw); go_simp; try with_reducible rfl)
      (try simp only [List.append_eq, List.cons_append, List.nil_append, List.getElem_toArray, List.getElem_cons_succ, List.getElem_cons_zero, Act.put, List.setIfInBounds_toArray, List.set_cons_zero, List.set_cons_succ])
      refine wpAnyH_take (i := 1) (v := ?_) rfl (by kernel_rfl) (by kernel_rfl) (by kernel_rfl) (fun _ _ _ h => h) (Or.inl ⟨by kernel_rfl, ?_⟩) (by first | assumption | trivial) ?_
      rotate_left
      · (intro wS hSw; (try dsimp only at hSw); go_simp; try with_reducible rfl)
      (try simp only [List.append_eq, List.cons_append, List.nil_append, List.getElem_toArray, List.getElem_cons_succ, List.getElem_cons_zero, Act.put, List.setIfInBounds_toArray, List.set_cons_zero, List.set_cons_succ])
      refine wpAnyH_take (i := 2) (v := ?_) rfl (by kernel_rfl) (by kernel_rfl) (by kernel_rfl) (fun _ _ _ h => h) (Or.inl ⟨by kernel_rfl, ?_⟩) (by first | assumption | trivial) ?_
      rotate_left
      · (intro wS hSw; (try dsimp only at hSw); go_simp; try with_reducible rfl)
      (try simp only [List.append_eq, List.cons_append, List.nil_append, List.getElem_toArray, List.getElem_cons_succ, List.getElem_cons_zero, Act.put, List.setIfInBounds_toArray, List.set_cons_zero, List.set_cons_succ])
      refine wpAnyH_take (i := 3) (v := ?_) rfl (by kernel_rfl) (by kernel_rfl) (by kernel_rfl) (fun _ _ _ h => h) (Or.inl ⟨by kernel_rfl, ?_⟩) (by first | assumption | trivial) ?_
      rotate_left
      · (intro wS hSw; (try dsimp only at hSw); go_simp; try with_reducible rfl)
      (try simp only [List.append_eq, List.cons_append, List.nil_append, List.getElem_toArray, List.getElem_cons_succ, List.getElem_cons_zero, Act.put, List.setIfInBounds_toArray, List.set_cons_zero, List.set_cons_succ])
      refine wpAnyH_take (i := 4) (v := ?_) rfl (by kernel_rfl) (by kernel_rfl) (by kernel_rfl) (fun _ _ _ h => h) (Or.inl ⟨by kernel_rfl, ?_⟩) (by first | assumption | trivial) ?_
      rotate_left
      · (intro wS hSw; (try dsimp only at hSw); go_simp; try with_reducible rfl)
      (try simp only [List.append_eq, List.cons_append, List.nil_append, List.getElem_toArray, List.getElem_cons_succ, List.getElem_cons_zero, Act.put, List.setIfInBounds_toArray, List.set_cons_zero, List.set_cons_succ])
      refine wpAnyH_take (i := 5) (v := ?_) rfl (by kernel_rfl) (by kernel_rfl) (by kernel_rfl) (fun _ _ _ h => h) (Or.inl ⟨by kernel_rfl, ?_⟩) (by first | assumption | trivial) ?_
      rotate_left
      · (intro wS hSw; (try dsimp only at hSw); go_simp; try with_reducible rfl)
      (try simp only [List.append_eq, List.cons_append, List.nil_append, List.getElem_toArray, List.getElem_cons_succ, List.getElem_cons_zero, Act.put, List.setIfInBounds_toArray, List.set_cons_zero, List.set_cons_succ])
      refine wpAnyH_take (i := 7) (v := ?_) rfl (by kernel_rfl) (by kernel_rfl) (by kernel_rfl) (fun _ _ _ h => h) (Or.inl ⟨by kernel_rfl, ?_⟩) (by first | assumption | trivial) ?_
      rotate_left
      · (intro wS hSw; (try dsimp only at hSw); go_simp; try with_reducible rfl)
      (try simp only [List.append_eq, List.cons_append, List.nil_append, List.getElem_toArray, List.getElem_cons_succ, List.getElem_cons_zero, Act.put, List.setIfInBounds_toArray, List.set_cons_zero, List.set_cons_succ])
      refine wpAnyH_take (i := 8) (v := ?_) rfl (by kernel_rfl) (by kernel_rfl) (by kernel_rfl) (fun _ _ _ h => h) (Or.inl ⟨by kernel_rfl, ?_⟩) (by first | assumption | trivial) ?_
      rotate_left
      · (intro wS hSw; (try dsimp only at hSw); go_simp; try with_reducible rfl)
      (try simp only [List.append_eq, List.cons_append, List.nil_append, List.getElem_toArray, List.getElem_cons_succ, List.getElem_cons_zero, Act.put, List.setIfInBounds_toArray, List.set_cons_zero, List.set_cons_succ])
      refine wpAnyH_ready (rs := [6]) (by kernel_rfl) (by simp) ?_
      refine AllReadyH.cons rfl (fun K hK => ?_) AllReadyH.nil
      go_simp
      (go_at_call 39; (with_reducible refine (HDD.out _).mono ?_); rintro e w4 ⟨rfl, b4⟩; have M := hid (M.out.below b4); have hS := HSF.out _ M.out; clear b4 hHeld)
      go_wp2_with fail
      refine hK.out _ _ (by first | assumption | trivial) (fun hHeld => ?_)
      clear hK K
      (try simp only [List.append_eq, List.cons_append, List.nil_append, List.getElem_toArray, List.getElem_cons_succ, List.getElem_cons_zero, Act.put, List.setIfInBounds_toArray, List.set_cons_zero, List.set_cons_succ])
      refine wpAnyH_ready (rs := [9]) (by kernel_rfl) (by simp) ?_
      refine AllReadyH.cons rfl (fun K hK => ?_) AllReadyH.nil
      go_simp
      (go_at_call 38; (with_reducible refine (HDY.out _).mono ?_); rintro e w5 ⟨rfl, rfl⟩)
      go_wp2_with fail
      refine hK.out _ _ (by first | assumption | trivial) (fun hHeld => ?_)
      clear hK K
      (try simp only [List.append_eq, List.cons_append, List.nil_append, List.getElem_toArray, List.getElem_cons_succ, List.getElem_cons_zero, Act.put, List.setIfInBounds_toArray, List.set_cons_zero, List.set_cons_succ])
      refine wpAnyH_take (i := 10) (v := ?_) rfl (by kernel_rfl) (by kernel_rfl) (by kernel_rfl) (fun _ _ _ h => h) (Or.inl ⟨by kernel_rfl, ?_⟩) (by first | assumption | trivial) ?_
      rotate_left
      · (intro wS hSw; (try dsimp only at hSw); go_simp; try with_reducible rfl)
      (try simp only [List.append_eq, List.cons_append, List.nil_append, List.getElem_toArray, List.getElem_cons_succ, List.getElem_cons_zero, Act.put, List.setIfInBounds_toArray, List.set_cons_zero, List.set_cons_succ])
      refine wpAnyH_done (by kernel_rfl) ?_ _
      refine NoPanic.normal ?_
      clear hS hHeld
      go_wp2_with fail
      go_ret
      exact ⟨rfl, M.out.b⟩
  · as_aux_lemma =>
      obtain ⟨dn, hdn⟩ : ∃ d, dayN ⟨uid, sec, zone, size, blob, FA, fn, fc, fl, place, many, great, BA, bn, bc, b⟩ = d := ⟨_, rfl⟩
      have hr : dayF 1 dn n = r := by rw [← hdn, ← HR.out]; unfold meansF; rfl
      have HDD := hid (fun X => (by have := D16.dday_any sec zone X M.out.hi.i64.2.1 M.out.hi.i64.2.2.1; rw [show (if D16.mayD sec zone = true then (sec + 60 * zone) / 86400 else 0) = dn from hdn] at this; exact this : Calls Tryz.prog 39 #[.agg #[.int .i64 sec, .int .i64 zone]] X fun e w' => e = .returned (.int .i64 dn) ∧ Below X.heap.size X w'))
      have HDY := hid (fun X => day_any 1 dn n X)
      rw [hr] at HDY
      have jw : IntKind.i64.wrap (1 : Int) = 1 := rfl
      have HSF := hid (fun (X : World) (m : MnS w X ⟨3, s, t, n, SA, sn, sc, sp, LA, ln, lc, l⟩ ⟨uid, sec, zone, size, blob, FA, fn, fc, fl, place, many, great, BA, bn, bc, b⟩ (w.heap.size + 1) (w.heap.size + 1 + 1)) => And.intro (m.key.cell (j := 0) rfl) (And.intro (m.key.cell (j := 3) rfl) (And.intro (m.hit.cell (j := 1) rfl) (m.hit.cell (j := 2) rfl))))
      clear hr hdn
      go_upto_region 10 with fail
      have M := hid (M.out.below (drew_below _))
      have hS := HSF.out _ M.out
      clear y0 y1 y2 y3 y4 y5
      refine wp_region_noPanic ?_
      refine wp_region_held_drew (S := (fun X => X.cell? ⟨w.heap.size + 1 + 1, 0, none⟩ = some (.int .i64 3) ∧ X.cell? ⟨w.heap.size + 1 + 1, 3, none⟩ = some (.int .i64 n) ∧ X.cell? ⟨w.heap.size + 1, 1, none⟩ = some (.int .i64 sec) ∧ X.cell? ⟨w.heap.size + 1, 2, none⟩ = some (.int .i64 zone))) (by kernel_rfl) (by first | assumption | trivial) (fun hHeld => ?_)
      refine wpAnyH_take (i := 0) (v := ?_) rfl (by kernel_rfl) (by kernel_rfl) (by kernel_rfl) (fun _ _ _ h => h) (Or.inl ⟨by kernel_rfl, ?_⟩) (by first | assumption | trivial) ?_
      rotate_left
      · (intro wS hSw; (try dsimp only at hSw); go_simp; try with_reducible rfl)
      (try simp only [List.append_eq, List.cons_append, List.nil_append, List.getElem_toArray, List.getElem_cons_succ, List.getElem_cons_zero, Act.put, List.setIfInBounds_toArray, List.set_cons_zero, List.set_cons_succ])
      refine wpAnyH_take (i := 1) (v := ?_) rfl (by kernel_rfl) (by kernel_rfl) (by kernel_rfl) (fun _ _ _ h => h) (Or.inl ⟨by kernel_rfl, ?_⟩) (by first | assumption | trivial) ?_
      rotate_left
      · (intro wS hSw; (try dsimp only at hSw); go_simp; try with_reducible rfl)
      (try simp only [List.append_eq, List.cons_append, List.nil_append, List.getElem_toArray, List.getElem_cons_succ, List.getElem_cons_zero, Act.put, List.setIfInBounds_toArray, List.set_cons_zero, List.set_cons_succ])
      refine wpAnyH_take (i := 2) (v := ?_) rfl (by kernel_rfl) (by kernel_rfl) (by kernel_rfl) (fun _ _ _ h => h) (Or.inl ⟨by kernel_rfl, ?_⟩) (by first | assumption | trivial) ?_
      rotate_left
      · (intro wS hSw; (try dsimp only at hSw); go_simp; try with_reducible rfl)
      (try simp only [List.append_eq, List.cons_append, List.nil_append, List.getElem_toArray, List.getElem_cons_succ, List.getElem_cons_zero, Act.put, List.setIfInBounds_toArray, List.set_cons_zero, List.set_cons_succ])
      refine wpAnyH_take (i := 3) (v := ?_) rfl (by kernel_rfl) (by kernel_rfl) (by kernel_rfl) (fun _ _ _ h => h) (Or.inl ⟨by kernel_rfl, ?_⟩) (by first | assumption | trivial) ?_
      rotate_left
      · (intro wS hSw; (try dsimp only at hSw); go_simp; try with_reducible rfl)
      (try simp only [List.append_eq, List.cons_append, List.nil_append, List.getElem_toArray, List.getElem_cons_succ, List.getElem_cons_zero, Act.put, List.setIfInBounds_toArray, List.set_cons_zero, List.set_cons_succ])
      refine wpAnyH_take (i := 4) (v := ?_) rfl (by kernel_rfl) (by kernel_rfl) (by kernel_rfl) (fun _ _ _ h => h) (Or.inl ⟨by kernel_rfl, ?_⟩) (by first | assumption | trivial) ?_
      rotate_left
      · (intro wS hSw; (try dsimp only at hSw); go_simp; try with_reducible rfl)
      (try simp only [List.append_eq, List.cons_append, List.nil_append, List.getElem_toArray, List.getElem_cons_succ, List.getElem_cons_zero, Act.put, List.setIfInBounds_toArray, List.set_cons_zero, List.set_cons_succ])
      refine wpAnyH_take (i := 5) (v := ?_) rfl (by kernel_rfl) (by kernel_rfl) (by kernel_rfl) (fun _ _ _ h => h) (Or.inl ⟨by kernel_rfl, ?_⟩) (by first | assumption | trivial) ?_
      rotate_left
      · (intro wS hSw; (try dsimp only at hSw); go_simp; try with_reducible rfl)
      (try simp only [List.append_eq, List.cons_append, List.nil_append, List.getElem_toArray, List.getElem_cons_succ, List.getElem_cons_zero, Act.put, List.setIfInBounds_toArray, List.set_cons_zero, List.set_cons_succ])
      refine wpAnyH_take (i := 7) (v := ?_) rfl (by kernel_rfl) (by kernel_rfl) (by kernel_rfl) (fun _ _ _ h => h) (Or.inl ⟨by kernel_rfl, ?_⟩) (by first | assumption | trivial) ?_
      rotate_left
      · (intro wS hSw; (try dsimp only at hSw); go_simp; try with_reducible rfl)
      (try simp only [List.append_eq, List.cons_append, List.nil_append, List.getElem_toArray, List.getElem_cons_succ, List.getElem_cons_zero, Act.put, List.setIfInBounds_toArray, List.set_cons_zero, List.set_cons_succ])
      refine wpAnyH_take (i := 8) (v := ?_) rfl (by kernel_rfl) (by kernel_rfl) (by kernel_rfl) (fun _ _ _ h => h) (Or.inl ⟨by kernel_rfl, ?_⟩) (by first | assumption | trivial) ?_
      rotate_left
      · (intro wS hSw; (try dsimp only at hSw); go_simp; try with_reducible rfl)
      (try simp only [List.append_eq, List.cons_append, List.nil_append, List.getElem_toArray, List.getElem_cons_succ, List.getElem_cons_zero, Act.put, List.setIfInBounds_toArray, List.set_cons_zero, List.set_cons_succ])
      refine wpAnyH_ready (rs := [6]) (by kernel_rfl) (by simp) ?_
      refine AllReadyH.cons rfl (fun K hK => ?_) AllReadyH.nil
      go_simp
      (go_at_call 39; (with_reducible refine (HDD.out _).mono ?_); rintro e w4 ⟨rfl, b4⟩; have M := hid (M.out.below b4); have hS := HSF.out _ M.out; clear b4 hHeld)
      go_wp2_with fail
      refine hK.out _ _ (by first | assumption | trivial) (fun hHeld => ?_)
      clear hK K
      (try simp only [List.append_eq, List.cons_append, List.nil_append, List.getElem_toArray, List.getElem_cons_succ, List.getElem_cons_zero, Act.put, List.setIfInBounds_toArray, List.set_cons_zero, List.set_cons_succ])
      refine wpAnyH_ready (rs := [9]) (by kernel_rfl) (by simp) ?_
      refine AllReadyH.cons rfl (fun K hK => ?_) AllReadyH.nil
      go_simp
      (go_at_call 38; (with_reducible refine (HDY.out _).mono ?_); rintro e w5 ⟨rfl, rfl⟩)
      go_wp2_with fail
      refine hK.out _ _ (by first | assumption | trivial) (fun hHeld => ?_)
      clear hK K
      (try simp only [List.append_eq, List.cons_append, List.nil_append, List.getElem_toArray, List.getElem_cons_succ, List.getElem_cons_zero, Act.put, List.setIfInBounds_toArray, List.set_cons_zero, List.set_cons_succ])
      refine wpAnyH_take (i := 10) (v := ?_) rfl (by kernel_rfl) (by kernel_rfl) (by kernel_rfl) (fun _ _ _ h => h) (Or.inl ⟨by kernel_rfl, ?_⟩) (by first | assumption | trivial) ?_
      rotate_left
      · (intro wS hSw; (try dsimp only at hSw); go_simp; try with_reducible rfl)
      (try simp only [List.append_eq, List.cons_append, List.nil_append, List.getElem_toArray, List.getElem_cons_succ, List.getElem_cons_zero, Act.put, List.setIfInBounds_toArray, List.set_cons_zero, List.set_cons_succ])
      refine wpAnyH_done (by kernel_rfl) ?_ _
      refine NoPanic.normal ?_
      clear hS hHeld
      go_wp2_with fail
      go_ret
      exact ⟨rfl, M.out.b⟩
  · as_aux_lemma =>
      obtain ⟨dn, hdn⟩ : ∃ d, dayN ⟨uid, sec, zone, size, blob, FA, fn, fc, fl, place, many, great, BA, bn, bc, b⟩ = d := ⟨_, rfl⟩
      have hr : dayF 2 dn n = r := by rw [← hdn, ← HR.out]; unfold meansF; rfl
      have HDD := hid (fun X => (by have := D16.dday_any sec zone X M.out.hi.i64.2.1 M.out.hi.i64.2.2.1; rw [show (if D16.mayD sec zone = true then (sec + 60 * zone) / 86400 else 0) = dn from hdn] at this; exact this : Calls Tryz.prog 39 #[.agg #[.int .i64 sec, .int .i64 zone]] X fun e w' => e = .returned (.int .i64 dn) ∧ Below X.heap.size X w'))
      have HDY := hid (fun X => day_any 2 dn n X)
      rw [hr] at HDY
      have jw : IntKind.i64.wrap (2 : Int) = 2 := rfl
      have HSF := hid (fun (X : World) (m : MnS w X ⟨4, s, t, n, SA, sn, sc, sp, LA, ln, lc, l⟩ ⟨uid, sec, zone, size, blob, FA, fn, fc, fl, place, many, great, BA, bn, bc, b⟩ (w.heap.size + 1) (w.heap.size + 1 + 1)) => And.intro (m.key.cell (j := 0) rfl) (And.intro (m.key.cell (j := 3) rfl) (And.intro (m.hit.cell (j := 1) rfl) (m.hit.cell (j := 2) rfl))))
      clear hr hdn
      go_upto_region 10 with fail
      have M := hid (M.out.below (drew_below _))
      have hS := HSF.out _ M.out
      clear y0 y1 y2 y3 y4 y5
      refine wp_region_noPanic ?_
      refine wp_region_held_drew (S := (fun X => X.cell? ⟨w.heap.size + 1 + 1, 0, none⟩ = some (.int .i64 4) ∧ X.cell? ⟨w.heap.size + 1 + 1, 3, none⟩ = some (.int .i64 n) ∧ X.cell? ⟨w.heap.size + 1, 1, none⟩ = some (.int .i64 sec) ∧ X.cell? ⟨w.heap.size + 1, 2, none⟩ = some (.int .i64 zone))) (by kernel_rfl) (by first | assumption | trivial) (fun hHeld => ?_)
      refine wpAnyH_take (i := 0) (v := ?_) rfl (by kernel_rfl) (by kernel_rfl) (by kernel_rfl) (fun _ _ _ h => h) (Or.inl ⟨by kernel_rfl, ?_⟩) (by first | assumption | trivial) ?_
      rotate_left
      · (intro wS hSw; (try dsimp only at hSw); go_simp; try with_reducible rfl)
      (try simp only [List.append_eq, List.cons_append, List.nil_append, List.getElem_toArray, List.getElem_cons_succ, List.getElem_cons_zero, Act.put, List.setIfInBounds_toArray, List.set_cons_zero, List.set_cons_succ])
      refine wpAnyH_take (i := 1) (v := ?_) rfl (by kernel_rfl) (by kernel_rfl) (by kernel_rfl) (fun _ _ _ h => h) (Or.inl ⟨by kernel_rfl, ?_⟩) (by first | assumption | trivial) ?_
      rotate_left
      · (intro wS hSw; (try dsimp only at hSw); go_simp; try with_reducible rfl)
      (try simp only [List.append_eq, List.cons_append, List.nil_append, List.getElem_toArray, List.getElem_cons_succ, List.getElem_cons_zero, Act.put, List.setIfInBounds_toArray, List.set_cons_zero, List.set_cons_succ])
      refine wpAnyH_take (i := 2) (v := ?_) rfl (by kernel_rfl) (by kernel_rfl) (by kernel_rfl) (fun _ _ _ h => h) (Or.inl ⟨by kernel_rfl, ?_⟩) (by first | assumption | trivial) ?_
      rotate_left
      · (intro wS hSw; (try dsimp only at hSw); go_simp; try with_reducible rfl)
      (try simp only [List.append_eq, List.cons_append, List.nil_append, List.getElem_toArray, List.getElem_cons_succ, List.getElem_cons_zero, Act.put, List.setIfInBounds_toArray, List.set_cons_zero, List.set_cons_succ])
      refine wpAnyH_take (i := 3) (v := ?_) rfl (by kernel_rfl) (by kernel_rfl) (by kernel_rfl) (fun _ _ _ h => h) (Or.inl ⟨by kernel_rfl, ?_⟩) (by first | assumption | trivial) ?_
      rotate_left
      · (intro wS hSw; (try dsimp only at hSw); go_simp; try with_reducible rfl)
      (try simp only [List.append_eq, List.cons_append, List.nil_append, List.getElem_toArray, List.getElem_cons_succ, List.getElem_cons_zero, Act.put, List.setIfInBounds_toArray, List.set_cons_zero, List.set_cons_succ])
      refine wpAnyH_take (i := 4) (v := ?_) rfl (by kernel_rfl) (by kernel_rfl) (by kernel_rfl) (fun _ _ _ h => h) (Or.inl ⟨by kernel_rfl, ?_⟩) (by first | assumption | trivial) ?_
      rotate_left
      · (intro wS hSw; (try dsimp only at hSw); go_simp; try with_reducible rfl)
      (try simp only [List.append_eq, List.cons_append, List.nil_append, List.getElem_toArray, List.getElem_cons_succ, List.getElem_cons_zero, Act.put, List.setIfInBounds_toArray, List.set_cons_zero, List.set_cons_succ])
      refine wpAnyH_take (i := 5) (v := ?_) rfl (by kernel_rfl) (by kernel_rfl) (by kernel_rfl) (fun _ _ _ h => h) (Or.inl ⟨by kernel_rfl, ?_⟩) (by first | assumption | trivial) ?_
      rotate_left
      · (intro wS hSw; (try dsimp only at hSw); go_simp; try with_reducible rfl)
      (try simp only [List.append_eq, List.cons_append, List.nil_append, List.getElem_toArray, List.getElem_cons_succ, List.getElem_cons_zero, Act.put, List.setIfInBounds_toArray, List.set_cons_zero, List.set_cons_succ])
      refine wpAnyH_take (i := 7) (v := ?_) rfl (by kernel_rfl) (by kernel_rfl) (by kernel_rfl) (fun _ _ _ h => h) (Or.inl ⟨by kernel_rfl, ?_⟩) (by first | assumption | trivial) ?_
      rotate_left
      · (intro wS hSw; (try dsimp only at hSw); go_simp; try with_reducible rfl)
      (try simp only [List.append_eq, List.cons_append, List.nil_append, List.getElem_toArray, List.getElem_cons_succ, List.getElem_cons_zero, Act.put, List.setIfInBounds_toArray, List.set_cons_zero, List.set_cons_succ])
      refine wpAnyH_take (i := 8) (v := ?_) rfl (by kernel_rfl) (by kernel_rfl) (by kernel_rfl) (fun _ _ _ h => h) (Or.inl ⟨by kernel_rfl, ?_⟩) (by first | assumption | trivial) ?_
      rotate_left
      · (intro wS hSw; (try dsimp only at hSw); go_simp; try with_reducible rfl)
      (try simp only [List.append_eq, List.cons_append, List.nil_append, List.getElem_toArray, List.getElem_cons_succ, List.getElem_cons_zero, Act.put, List.setIfInBounds_toArray, List.set_cons_zero, List.set_cons_succ])
      refine wpAnyH_ready (rs := [6]) (by kernel_rfl) (by simp) ?_
      refine AllReadyH.cons rfl (fun K hK => ?_) AllReadyH.nil
      go_simp
      (go_at_call 39; (with_reducible refine (HDD.out _).mono ?_); rintro e w4 ⟨rfl, b4⟩; have M := hid (M.out.below b4); have hS := HSF.out _ M.out; clear b4 hHeld)
      go_wp2_with fail
      refine hK.out _ _ (by first | assumption | trivial) (fun hHeld => ?_)
      clear hK K
      (try simp only [List.append_eq, List.cons_append, List.nil_append, List.getElem_toArray, List.getElem_cons_succ, List.getElem_cons_zero, Act.put, List.setIfInBounds_toArray, List.set_cons_zero, List.set_cons_succ])
      refine wpAnyH_ready (rs := [9]) (by kernel_rfl) (by simp) ?_
      refine AllReadyH.cons rfl (fun K hK => ?_) AllReadyH.nil
      go_simp
      (go_at_call 38; (with_reducible refine (HDY.out _).mono ?_); rintro e w5 ⟨rfl, rfl⟩)
      go_wp2_with fail
      refine hK.out _ _ (by first | assumption | trivial) (fun hHeld => ?_)
      clear hK K
      (try simp only [List.append_eq, List.cons_append, List.nil_append, List.getElem_toArray, List.getElem_cons_succ, List.getElem_cons_zero, Act.put, List.setIfInBounds_toArray, List.set_cons_zero, List.set_cons_succ])
      refine wpAnyH_take (i := 10) (v := ?_) rfl (by kernel_rfl) (by kernel_rfl) (by kernel_rfl) (fun _ _ _ h => h) (Or.inl ⟨by kernel_rfl, ?_⟩) (by first | assumption | trivial) ?_
      rotate_left
      · (intro wS hSw; (try dsimp only at hSw); go_simp; try with_reducible rfl)
      (try simp only [List.append_eq, List.cons_append, List.nil_append, List.getElem_toArray, List.getElem_cons_succ, List.getElem_cons_zero, Act.put, List.setIfInBounds_toArray, List.set_cons_zero, List.set_cons_succ])
      refine wpAnyH_done (by kernel_rfl) ?_ _
      refine NoPanic.normal ?_
      clear hS hHeld
      go_wp2_with fail
      go_ret
      exact ⟨rfl, M.out.b⟩
  · as_aux_lemma =>
      have z9 := M.out.hit.cell (j := 9) rfl
      have hr : sentB 0 b n = r := by rw [← HR.out]; unfold meansF; rfl
      have HSN := hid (sent_any BA bn bc b W3 M.out.t M.out.hi.bl M.out.hi.bc M.out.hi.bm)
      have HRR := hid hr
      clear hr
      go_upto_region 15 with (go_at_call 40; (with_reducible refine HSN.out.mono ?_); rintro e w1 ⟨⟨d, ok, rfl, hs⟩, b1⟩; have B1 := hid (past M.out.b b1); have HSS := hid hs; have x0 := cells_keep b1 y0; have x3 := cells_keep b1 y3; clear b1 hs y0 y1 y2 y3 y4 y5 z9)
      cases ok with
      | true =>
        have hr2 : dayF 0 d n = r := by rw [← HRR.out]; unfold sentB; rw [HSS.out]; rfl
        have HDY := hid (fun X => day_any 0 d n X)
        rw [hr2] at HDY
        clear hr2
        go_wp2_with (go_at_call 38; (with_reducible refine (HDY.out _).mono ?_); rintro e w5 ⟨rfl, rfl⟩)
        go_ret
        exact ⟨rfl, B1.out⟩
      | false =>
        have hr2 : r = false := by rw [← HRR.out]; unfold sentB; rw [HSS.out]; rfl
        have HR2 := hid hr2
        clear hr2
        go_wp2_with fail
        go_ret
        exact ⟨by rw [HR2.out]; rfl, B1.out⟩
  · as_aux_lemma =>
      have z9 := M.out.hit.cell (j := 9) rfl
      have hr : sentB 1 b n = r := by rw [← HR.out]; unfold meansF; rfl
      have HSN := hid (sent_any BA bn bc b W3 M.out.t M.out.hi.bl M.out.hi.bc M.out.hi.bm)
      have HRR := hid hr
      clear hr
      go_upto_region 15 with (go_at_call 40; (with_reducible refine HSN.out.mono ?_); rintro e w1 ⟨⟨d, ok, rfl, hs⟩, b1⟩; have B1 := hid (past M.out.b b1); have HSS := hid hs; have x0 := cells_keep b1 y0; have x3 := cells_keep b1 y3; clear b1 hs y0 y1 y2 y3 y4 y5 z9)
      cases ok with
      | true =>
        have hr2 : dayF 1 d n = r := by rw [← HRR.out]; unfold sentB; rw [HSS.out]; rfl
        have HDY := hid (fun X => day_any 1 d n X)
        rw [hr2] at HDY
        clear hr2
        go_wp2_with (go_at_call 38; (with_reducible refine (HDY.out _).mono ?_); rintro e w5 ⟨rfl, rfl⟩)
        go_ret
        exact ⟨rfl, B1.out⟩
      | false =>
        have hr2 : r = false := by rw [← HRR.out]; unfold sentB; rw [HSS.out]; rfl
        have HR2 := hid hr2
        clear hr2
        go_wp2_with fail
        go_ret
        exact ⟨by rw [HR2.out]; rfl, B1.out⟩
  · as_aux_lemma =>
      have z9 := M.out.hit.cell (j := 9) rfl
      have hr : sentB 2 b n = r := by rw [← HR.out]; unfold meansF; rfl
      have HSN := hid (sent_any BA bn bc b W3 M.out.t M.out.hi.bl M.out.hi.bc M.out.hi.bm)
      have HRR := hid hr
      clear hr
      go_upto_region 15 with (go_at_call 40; (with_reducible refine HSN.out.mono ?_); rintro e w1 ⟨⟨d, ok, rfl, hs⟩, b1⟩; have B1 := hid (past M.out.b b1); have HSS := hid hs; have x0 := cells_keep b1 y0; have x3 := cells_keep b1 y3; clear b1 hs y0 y1 y2 y3 y4 y5 z9)
      cases ok with
      | true =>
        have hr2 : dayF 2 d n = r := by rw [← HRR.out]; unfold sentB; rw [HSS.out]; rfl
        have HDY := hid (fun X => day_any 2 d n X)
        rw [hr2] at HDY
        clear hr2
        go_wp2_with (go_at_call 38; (with_reducible refine (HDY.out _).mono ?_); rintro e w5 ⟨rfl, rfl⟩)
        go_ret
        exact ⟨rfl, B1.out⟩
      | false =>
        have hr2 : r = false := by rw [← HRR.out]; unfold sentB; rw [HSS.out]; rfl
        have HR2 := hid hr2
        clear hr2
        go_wp2_with fail
        go_ret
        exact ⟨by rw [HR2.out]; rfl, B1.out⟩
  · as_aux_lemma =>
      have z3 := M.out.hit.cell (j := 3) rfl
      go_wp2_with fail
      go_ret
      exact ⟨by rw [← HR.out]; unfold meansF; rfl, M.out.b⟩
  · as_aux_lemma =>
      have z3 := M.out.hit.cell (j := 3) rfl
      go_wp2_with fail
      go_ret
      exact ⟨by rw [← HR.out]; unfold meansF; rfl, M.out.b⟩
  · as_aux_lemma =>
      have z9 := M.out.hit.cell (j := 9) rfl
      have hr : fieldF b s t = r := by rw [← HR.out]; unfold meansF; rfl
      have HFD := hid (field_any BA bn bc b s t W3 M.out.t M.out.hi.bl M.out.hi.bc M.out.hi.bm (Nat.le_trans M.out.ki.ok.s (by omega)) (Nat.le_trans M.out.ki.ok.t (by omega)))
      rw [hr] at HFD
      clear hr
      go_wp2_with (go_at_call 41; (with_reducible refine HFD.out.mono ?_); rintro e w1 ⟨rfl, b1⟩; have B1 := hid (past M.out.b b1); clear b1)
      go_ret
      exact ⟨rfl, B1.out⟩
  · as_aux_lemma =>
      have hr : hasL (b.drop (D17.splitL b)) s = r := by rw [← HR.out]; unfold meansF; rfl
      have hle := D17.split_le b
      rw [M.out.hi.bl.len] at hle
      have hbm := M.out.hi.bm
      have hbc := M.out.hi.bc
      dsimp only at hle hbm hbc
      have HSP := hid (fun (X : World) (m : MnS w X ⟨11, s, t, n, SA, sn, sc, sp, LA, ln, lc, l⟩ ⟨uid, sec, zone, size, blob, FA, fn, fc, fl, place, many, great, BA, bn, bc, b⟩ (w.heap.size + 1) (w.heap.size + 1 + 1)) => D17.split_any BA bn bc b X m.hi.bl m.hi.bc (by omega))
      obtain ⟨k, hk⟩ : ∃ k, D17.splitL b = k := ⟨_, rfl⟩
      rw [hk] at HSP hr hle
      obtain ⟨A3, hA3⟩ : ∃ A3, (if bc = k then BA else BA.map (fun x => x.add k)) = A3 := ⟨_, rfl⟩
      have HO3 := hid (fun (X : World) (m : MnS w X ⟨11, s, t, n, SA, sn, sc, sp, LA, ln, lc, l⟩ ⟨uid, sec, zone, size, blob, FA, fn, fc, fl, place, many, great, BA, bn, bc, b⟩ (w.heap.size + 1) (w.heap.size + 1 + 1)) => D16.strP (bc - k) (oct_tail m.hi.bl hle hbc hA3))
      have HHS := hid (fun (X : World) (m : MnS w X ⟨11, s, t, n, SA, sn, sc, sp, LA, ln, lc, l⟩ ⟨uid, sec, zone, size, blob, FA, fn, fc, fl, place, many, great, BA, bn, bc, b⟩ (w.heap.size + 1) (w.heap.size + 1 + 1)) => has_any (b.drop k) s X m.t (by rw [List.length_drop]; have := m.hi.len; dsimp only at this; omega) (Nat.le_trans m.ki.ok.s (by omega)))
      rw [hr] at HHS
      have HSF := hid (fun (X : World) (m : MnS w X ⟨11, s, t, n, SA, sn, sc, sp, LA, ln, lc, l⟩ ⟨uid, sec, zone, size, blob, FA, fn, fc, fl, place, many, great, BA, bn, bc, b⟩ (w.heap.size + 1) (w.heap.size + 1 + 1)) => And.intro (m.key.cell (j := 1) rfl) (m.hit.cell (j := 9) rfl))
      have a0 : (0 : Int) ≤ (k : Int) := by omega
      have a1 : (k : Int) ≤ (bn : Int) := by omega
      have a2 : (bn : Int) ≤ (bc : Int) := by omega
      have a3 : (k : Int).toNat = k := by omega
      have a4 : (bn : Int).toNat = bn := by omega
      have a5 : k ≤ bn := hle
      have a6 : bn ≤ bc := hbc
      clear hr hk hle hbm hbc
      go_upto_region 23 with fail
      have M := hid (M.out.below (drew_below _))
      have hS := HSF.out _ M.out
      clear y0 y1 y2 y3 y4 y5
      refine wp_region_noPanic ?_
      refine wp_region_held_drew (S := (fun X => X.cell? ⟨w.heap.size + 1 + 1, 1, none⟩ = some (.string (str s)) ∧ X.cell? ⟨w.heap.size + 1, 9, none⟩ = some (.slice BA bn bc))) (by kernel_rfl) (by first | assumption | trivial) (fun hHeld => ?_)
      refine wpAnyH_take (i := 0) (v := ?_) rfl (by kernel_rfl) (by kernel_rfl) (by kernel_rfl) (fun _ _ _ h => h) (Or.inl ⟨by kernel_rfl, ?_⟩) (by first | assumption | trivial) ?_
      rotate_left
      · (intro wS hSw; (try dsimp only at hSw); go_simp; try with_reducible rfl)
      (try simp only [List.append_eq, List.cons_append, List.nil_append, List.getElem_toArray, List.getElem_cons_succ, List.getElem_cons_zero, Act.put, List.setIfInBounds_toArray, List.set_cons_zero, List.set_cons_succ])
      refine wpAnyH_take (i := 1) (v := ?_) rfl (by kernel_rfl) (by kernel_rfl) (by kernel_rfl) (fun _ _ _ h => h) (Or.inl ⟨by kernel_rfl, ?_⟩) (by first | assumption | trivial) ?_
      rotate_left
      · (intro wS hSw; (try dsimp only at hSw); go_simp; try with_reducible rfl)
      (try simp only [List.append_eq, List.cons_append, List.nil_append, List.getElem_toArray, List.getElem_cons_succ, List.getElem_cons_zero, Act.put, List.setIfInBounds_toArray, List.set_cons_zero, List.set_cons_succ])
      refine wpAnyH_take (i := 2) (v := ?_) rfl (by kernel_rfl) (by kernel_rfl) (by kernel_rfl) (fun _ _ _ h => h) (Or.inl ⟨by kernel_rfl, ?_⟩) (by first | assumption | trivial) ?_
      rotate_left
      · (intro wS hSw; (try dsimp only at hSw); go_simp; try with_reducible rfl)
      (try simp only [List.append_eq, List.cons_append, List.nil_append, List.getElem_toArray, List.getElem_cons_succ, List.getElem_cons_zero, Act.put, List.setIfInBounds_toArray, List.set_cons_zero, List.set_cons_succ])
      refine wpAnyH_take (i := 3) (v := ?_) rfl (by kernel_rfl) (by kernel_rfl) (by kernel_rfl) (fun _ _ _ h => h) (Or.inl ⟨by kernel_rfl, ?_⟩) (by first | assumption | trivial) ?_
      rotate_left
      · (intro wS hSw; (try dsimp only at hSw); go_simp; try with_reducible rfl)
      (try simp only [List.append_eq, List.cons_append, List.nil_append, List.getElem_toArray, List.getElem_cons_succ, List.getElem_cons_zero, Act.put, List.setIfInBounds_toArray, List.set_cons_zero, List.set_cons_succ])
      refine wpAnyH_take (i := 7) (v := ?_) rfl (by kernel_rfl) (by kernel_rfl) (by kernel_rfl) (fun _ _ _ h => h) (Or.inl ⟨by kernel_rfl, ?_⟩) (by first | assumption | trivial) ?_
      rotate_left
      · (intro wS hSw; (try dsimp only at hSw); go_simp; try with_reducible rfl)
      (try simp only [List.append_eq, List.cons_append, List.nil_append, List.getElem_toArray, List.getElem_cons_succ, List.getElem_cons_zero, Act.put, List.setIfInBounds_toArray, List.set_cons_zero, List.set_cons_succ])
      refine wpAnyH_take (i := 8) (v := ?_) rfl (by kernel_rfl) (by kernel_rfl) (by kernel_rfl) (fun _ _ _ h => h) (Or.inl ⟨by kernel_rfl, ?_⟩) (by first | assumption | trivial) ?_
      rotate_left
      · (intro wS hSw; (try dsimp only at hSw); go_simp; try with_reducible rfl)
      (try simp only [List.append_eq, List.cons_append, List.nil_append, List.getElem_toArray, List.getElem_cons_succ, List.getElem_cons_zero, Act.put, List.setIfInBounds_toArray, List.set_cons_zero, List.set_cons_succ])
      refine wpAnyH_ready (rs := [4]) (by kernel_rfl) (by simp) ?_
      refine AllReadyH.cons rfl (fun K hK => ?_) AllReadyH.nil
      go_simp
      (go_at_call 43; (with_reducible refine (HSP.out _ M.out).mono ?_); rintro e w4 ⟨rfl, b4⟩; have M := hid (M.out.below b4); have hS := HSF.out _ M.out; clear b4 hHeld)
      go_wp2_with fail
      refine hK.out _ _ (by first | assumption | trivial) (fun hHeld => ?_)
      clear hK K
      (try simp only [List.append_eq, List.cons_append, List.nil_append, List.getElem_toArray, List.getElem_cons_succ, List.getElem_cons_zero, Act.put, List.setIfInBounds_toArray, List.set_cons_zero, List.set_cons_succ])
      have hcv := HO3.out _ M.out
      refine wpAnyH_take (i := 5) (v := ?_) rfl (by kernel_rfl) (by kernel_rfl) (by kernel_rfl) (fun _ _ _ h => h) (Or.inl ⟨by kernel_rfl, ?_⟩) (by first | assumption | trivial) ?_
      rotate_left
      · (intro wS hSw; (try dsimp only at hSw); go_simp; try with_reducible rfl)
      (try simp only [List.append_eq, List.cons_append, List.nil_append, List.getElem_toArray, List.getElem_cons_succ, List.getElem_cons_zero, Act.put, List.setIfInBounds_toArray, List.set_cons_zero, List.set_cons_succ])
      refine wpAnyH_ready (rs := [6]) (by kernel_rfl) (by simp) ?_
      refine AllReadyH.cons rfl (fun K hK => ?_) AllReadyH.nil
      go_simp
      skip
      go_wp2_with fail
      refine hK.out _ _ (by first | assumption | trivial) (fun hHeld => ?_)
      clear hK K
      (try simp only [List.append_eq, List.cons_append, List.nil_append, List.getElem_toArray, List.getElem_cons_succ, List.getElem_cons_zero, Act.put, List.setIfInBounds_toArray, List.set_cons_zero, List.set_cons_succ])
      clear hcv
      refine wpAnyH_ready (rs := [9]) (by kernel_rfl) (by simp) ?_
      refine AllReadyH.cons rfl (fun K hK => ?_) AllReadyH.nil
      go_simp
      (go_at_call 42; (with_reducible refine (HHS.out _ M.out).mono ?_); rintro e w5 ⟨rfl, b5⟩; have M := hid (M.out.below b5); have hS := HSF.out _ M.out; clear b5 hHeld)
      go_wp2_with fail
      refine hK.out _ _ (by first | assumption | trivial) (fun hHeld => ?_)
      clear hK K
      (try simp only [List.append_eq, List.cons_append, List.nil_append, List.getElem_toArray, List.getElem_cons_succ, List.getElem_cons_zero, Act.put, List.setIfInBounds_toArray, List.set_cons_zero, List.set_cons_succ])
      refine wpAnyH_take (i := 10) (v := ?_) rfl (by kernel_rfl) (by kernel_rfl) (by kernel_rfl) (fun _ _ _ h => h) (Or.inl ⟨by kernel_rfl, ?_⟩) (by first | assumption | trivial) ?_
      rotate_left
      · (intro wS hSw; (try dsimp only at hSw); go_simp; try with_reducible rfl)
      (try simp only [List.append_eq, List.cons_append, List.nil_append, List.getElem_toArray, List.getElem_cons_succ, List.getElem_cons_zero, Act.put, List.setIfInBounds_toArray, List.set_cons_zero, List.set_cons_succ])
      refine wpAnyH_done (by kernel_rfl) ?_ _
      refine NoPanic.normal ?_
      clear hS hHeld
      go_wp2_with fail
      go_ret
      exact ⟨rfl, M.out.b⟩
  · as_aux_lemma =>
      have z9 := M.out.hit.cell (j := 9) rfl
      have hr : hasL b s = r := by rw [← HR.out]; unfold meansF; rfl
      have hcv := D16.strP bc M.out.hi.bl
      have HHS := hid (has_any b s W3 M.out.t (Nat.le_trans M.out.hi.len (by omega)) (Nat.le_trans M.out.ki.ok.s (by omega)))
      rw [hr] at HHS
      clear hr
      go_wp2_with (go_at_call 42; (with_reducible refine HHS.out.mono ?_); rintro e w1 ⟨rfl, b1⟩; have B1 := hid (past M.out.b b1); clear b1)
      go_ret
      exact ⟨rfl, B1.out⟩
  · as_aux_lemma =>
      have za := M.out.hit.cell (j := 0) rfl
      have zb := M.out.hit.cell (j := 8) rfl
      have hr : seqF sp uid great = r := by rw [← HR.out]; unfold meansF; rfl
      have HSQ := hid (shas_any SA sn sc sp uid great W3 M.out.ki.ok.sl (Nat.le_trans M.out.ki.ok.sm (by omega)) M.out.ki.ok.sr)
      rw [hr] at HSQ
      clear hr
      go_wp2_with (go_at_call 44; (with_reducible refine HSQ.out.mono ?_); rintro e w1 ⟨rfl, b1⟩; have B1 := hid (past M.out.b b1); clear b1)
      go_ret
      exact ⟨rfl, B1.out⟩
  · as_aux_lemma =>
      have za := M.out.hit.cell (j := 6) rfl
      have zb := M.out.hit.cell (j := 7) rfl
      have hr : seqF sp place many = r := by rw [← HR.out]; unfold meansF; rfl
      have HSQ := hid (shas_any SA sn sc sp place many W3 M.out.ki.ok.sl (Nat.le_trans M.out.ki.ok.sm (by omega)) M.out.ki.ok.sr)
      rw [hr] at HSQ
      clear hr
      go_wp2_with (go_at_call 44; (with_reducible refine HSQ.out.mono ?_); rintro e w1 ⟨rfl, b1⟩; have B1 := hid (past M.out.b b1); clear b1)
      go_ret
      exact ⟨rfl, B1.out⟩
  · as_aux_lemma =>
      have hl1 : l.length = 1 := by
        have := HBAD.out
        unfold badK at this
        simpa using this
      obtain ⟨x, rfl⟩ : ∃ x, l = [x] := by
        cases l with
        | nil => cases hl1
        | cons x r2 => cases r2 with | nil => exact ⟨x, rfl⟩ | cons y r3 => simp at hl1
      have hln : ln = 1 := M.out.ki.ok.ll.symm
      have hmx := HMX.out (Int.le_refl 15) x (List.mem_singleton.2 rfl)
      have hr : (!(meansF f ⟨uid, sec, zone, size, blob, FA, fn, fc, fl, place, many, great, BA, bn, bc, b⟩ x)) = r := by rw [← HR.out, mn15 f _ _ rfl]; dsimp only; rw [List.all_cons, List.all_nil, Bool.and_true]
      obtain ⟨cb, off, hLA, hcc⟩ := key_at M.out.ki.ok.lr (k := 0) (by simp)
      have hIH := fun (X : World) (m : MnS w X ⟨15, s, t, n, SA, sn, sc, sp, LA, ln, lc, [x]⟩ ⟨uid, sec, zone, size, blob, FA, fn, fc, fl, place, many, great, BA, bn, bc, b⟩ (w.heap.size + 1) (w.heap.size + 1 + 1)) => IH.out x ⟨uid, sec, zone, size, blob, FA, fn, fc, fl, place, many, great, BA, bn, bc, b⟩ X (m.ki.ch x (List.mem_singleton.2 rfl)) hmx m.hi m.t
      have hce := fun (X : World) (m : MnS w X ⟨15, s, t, n, SA, sn, sc, sp, LA, ln, lc, [x]⟩ ⟨uid, sec, zone, size, blob, FA, fn, fc, fl, place, many, great, BA, bn, bc, b⟩ (w.heap.size + 1) (w.heap.size + 1 + 1)) => (by
        obtain ⟨cb2, off2, hLA2, hcc2⟩ := key_at m.ki.ok.lr (k := 0) (by simp)
        have e := hLA.symm.trans hLA2
        injection e with e
        injection e with e1 e2
        subst e1 e2
        have := hcc2 0 (by simp)
        rw [Nat.zero_mul, Nat.add_zero] at this
        exact this : X.cell? ⟨cb, off, none⟩ = some (.int .i64 x.kind) ∧ X.cell? ⟨cb, off + 1, none⟩ = some (.string (str x.s)) ∧ X.cell? ⟨cb, off + 2, none⟩ = some (.string (str x.t)) ∧ X.cell? ⟨cb, off + 3, none⟩ = some (.int .i64 x.n) ∧ X.cell? ⟨cb, off + 4, none⟩ = some (.slice x.SA x.sn x.sc) ∧ X.cell? ⟨cb, off + 5, none⟩ = some (.slice x.LA x.ln x.lc))
      dsimp only at hLA
      obtain ⟨q, hq⟩ : ∃ q, meansF f ⟨uid, sec, zone, size, blob, FA, fn, fc, fl, place, many, great, BA, bn, bc, b⟩ x = q := ⟨_, rfl⟩
      rw [hq] at hIH hr
      obtain ⟨xk, xs, xt, xn, xA, xm, xc, xl, xB, xp, xq, xr⟩ := x
      have HIH := hid (fun X m => (by exact hIH X m : Calls Tryz.prog 19 #[.agg #[.int .i64 xk, .string (str xs), .string (str xt), .int .i64 xn, .slice xA xm xc, .slice xB xp xq], .agg #[.int .i64 uid, .int .i64 sec, .int .i64 zone, .int .i64 size, .int .u64 (blob : Int), .slice FA fn fc, .int .i64 place, .int .i64 many, .int .i64 great, .slice BA bn bc]] X fun e w' => e = .returned (.bool q) ∧ Below X.heap.size X w'))
      have HSF := hid (fun (X : World) (m : MnS w X ⟨15, s, t, n, SA, sn, sc, sp, LA, ln, lc, [⟨xk, xs, xt, xn, xA, xm, xc, xl, xB, xp, xq, xr⟩]⟩ ⟨uid, sec, zone, size, blob, FA, fn, fc, fl, place, many, great, BA, bn, bc, b⟩ (w.heap.size + 1) (w.heap.size + 1 + 1)) => And.intro (m.key.cell (j := 5) rfl) (And.intro (hce X m).1 (And.intro (hce X m).2.1 (And.intro (hce X m).2.2.1 (And.intro (hce X m).2.2.2.1 (And.intro (hce X m).2.2.2.2.1 (And.intro (hce X m).2.2.2.2.2 (And.intro (m.hit.cell (j := 0) rfl) (And.intro (m.hit.cell (j := 1) rfl) (And.intro (m.hit.cell (j := 2) rfl) (And.intro (m.hit.cell (j := 3) rfl) (And.intro (m.hit.cell (j := 4) rfl) (And.intro (m.hit.cell (j := 5) rfl) (And.intro (m.hit.cell (j := 6) rfl) (And.intro (m.hit.cell (j := 7) rfl) (And.intro (m.hit.cell (j := 8) rfl) (m.hit.cell (j := 9) rfl)))))))))))))))))
      dsimp only at HSF
      have HRR := hid hr
      subst hLA hln
      clear hl1 hmx hr hcc hIH hce hq
      go_upto_region 31 with fail
      have M := hid (M.out.below (drew_below _))
      have hS := HSF.out _ M.out
      clear y0 y1 y2 y3 y4 y5
      refine wp_region_noPanic ?_
      refine wp_region_held_drew (S := (fun X => X.cell? ⟨w.heap.size + 1 + 1, 5, none⟩ = some (.slice (some ⟨cb, off, none⟩) 1 lc) ∧ X.cell? ⟨cb, off, none⟩ = some (.int .i64 xk) ∧ X.cell? ⟨cb, off + 1, none⟩ = some (.string (str xs)) ∧ X.cell? ⟨cb, off + 2, none⟩ = some (.string (str xt)) ∧ X.cell? ⟨cb, off + 3, none⟩ = some (.int .i64 xn) ∧ X.cell? ⟨cb, off + 4, none⟩ = some (.slice xA xm xc) ∧ X.cell? ⟨cb, off + 5, none⟩ = some (.slice xB xp xq) ∧ X.cell? ⟨w.heap.size + 1, 0, none⟩ = some (.int .i64 uid) ∧ X.cell? ⟨w.heap.size + 1, 1, none⟩ = some (.int .i64 sec) ∧ X.cell? ⟨w.heap.size + 1, 2, none⟩ = some (.int .i64 zone) ∧ X.cell? ⟨w.heap.size + 1, 3, none⟩ = some (.int .i64 size) ∧ X.cell? ⟨w.heap.size + 1, 4, none⟩ = some (.int .u64 (blob : Int)) ∧ X.cell? ⟨w.heap.size + 1, 5, none⟩ = some (.slice FA fn fc) ∧ X.cell? ⟨w.heap.size + 1, 6, none⟩ = some (.int .i64 place) ∧ X.cell? ⟨w.heap.size + 1, 7, none⟩ = some (.int .i64 many) ∧ X.cell? ⟨w.heap.size + 1, 8, none⟩ = some (.int .i64 great) ∧ X.cell? ⟨w.heap.size + 1, 9, none⟩ = some (.slice BA bn bc))) (by kernel_rfl) (by first | assumption | trivial) (fun hHeld => ?_)
      refine wpAnyH_take (i := 0) (v := ?_) rfl (by kernel_rfl) (by kernel_rfl) (by kernel_rfl) (fun _ _ _ h => h) (Or.inl ⟨by kernel_rfl, ?_⟩) (by first | assumption | trivial) ?_
      rotate_left
      · (intro wS hSw; (try dsimp only at hSw); go_simp; try with_reducible rfl)
      (try simp only [List.append_eq, List.cons_append, List.nil_append, List.getElem_toArray, List.getElem_cons_succ, List.getElem_cons_zero, Act.put, List.setIfInBounds_toArray, List.set_cons_zero, List.set_cons_succ])
      refine wpAnyH_take (i := 1) (v := ?_) rfl (by kernel_rfl) (by kernel_rfl) (by kernel_rfl) (fun _ _ _ h => h) (Or.inl ⟨by kernel_rfl, ?_⟩) (by first | assumption | trivial) ?_
      rotate_left
      · (intro wS hSw; (try dsimp only at hSw); go_simp; try with_reducible rfl)
      (try simp only [List.append_eq, List.cons_append, List.nil_append, List.getElem_toArray, List.getElem_cons_succ, List.getElem_cons_zero, Act.put, List.setIfInBounds_toArray, List.set_cons_zero, List.set_cons_succ])
      refine wpAnyH_take (i := 2) (v := ?_) rfl (by kernel_rfl) (by kernel_rfl) (by kernel_rfl) (fun _ _ _ h => h) (Or.inl ⟨by kernel_rfl, ?_⟩) (by first | assumption | trivial) ?_
      rotate_left
      · (intro wS hSw; (try dsimp only at hSw); go_simp; try with_reducible rfl)
      (try simp only [List.append_eq, List.cons_append, List.nil_append, List.getElem_toArray, List.getElem_cons_succ, List.getElem_cons_zero, Act.put, List.setIfInBounds_toArray, List.set_cons_zero, List.set_cons_succ])
      refine wpAnyH_take (i := 3) (v := ?_) rfl (by kernel_rfl) (by kernel_rfl) (by kernel_rfl) (fun _ _ _ h => h) (Or.inl ⟨by kernel_rfl, ?_⟩) (by first | assumption | trivial) ?_
      rotate_left
      · (intro wS hSw; (try dsimp only at hSw); go_simp; try with_reducible rfl)
      (try simp only [List.append_eq, List.cons_append, List.nil_append, List.getElem_toArray, List.getElem_cons_succ, List.getElem_cons_zero, Act.put, List.setIfInBounds_toArray, List.set_cons_zero, List.set_cons_succ])
      refine wpAnyH_take (i := 4) (v := .agg #[.int .i64 xk, .string (str xs), .string (str xt), .int .i64 xn, .slice xA xm xc, .slice xB xp xq]) rfl (by kernel_rfl) (by kernel_rfl) (by kernel_rfl) (fun _ _ _ h => h) (yieldsIf_build (by kernel_rfl) 46 _ rfl [(0, .agg #[.int .i64 xk, .string (str xs), .string (str xt), .int .i64 xn, .slice xA xm xc, .slice xB xp xq])] rfl #[.int .i64 xk, .string (str xs), .string (str xt), .int .i64 xn, .slice xA xm xc, .slice xB xp xq] (asked_built ..)) (by first | assumption | trivial) ?_
      (try simp only [List.append_eq, List.cons_append, List.nil_append, List.getElem_toArray, List.getElem_cons_succ, List.getElem_cons_zero, Act.put, List.setIfInBounds_toArray, List.set_cons_zero, List.set_cons_succ])
      refine wpAnyH_take (i := 5) (v := ?_) rfl (by kernel_rfl) (by kernel_rfl) (by kernel_rfl) (fun _ _ _ h => h) (Or.inl ⟨by kernel_rfl, ?_⟩) (by first | assumption | trivial) ?_
      rotate_left
      · (intro wS hSw; (try dsimp only at hSw); go_simp; try with_reducible rfl)
      (try simp only [List.append_eq, List.cons_append, List.nil_append, List.getElem_toArray, List.getElem_cons_succ, List.getElem_cons_zero, Act.put, List.setIfInBounds_toArray, List.set_cons_zero, List.set_cons_succ])
      refine wpAnyH_ready (rs := [6]) (by kernel_rfl) (by simp) ?_
      refine AllReadyH.cons rfl (fun K hK => ?_) AllReadyH.nil
      go_simp
      (go_at_call 19; (with_reducible refine (HIH.out _ M.out).mono ?_); rintro e w4 ⟨rfl, b4⟩; have M := hid (M.out.below b4); have hS := HSF.out _ M.out; clear b4 hHeld)
      go_wp2_with fail
      refine hK.out _ _ (by first | assumption | trivial) (fun hHeld => ?_)
      clear hK K
      (try simp only [List.append_eq, List.cons_append, List.nil_append, List.getElem_toArray, List.getElem_cons_succ, List.getElem_cons_zero, Act.put, List.setIfInBounds_toArray, List.set_cons_zero, List.set_cons_succ])
      refine wpAnyH_take (i := 7) (v := ?_) rfl (by kernel_rfl) (by kernel_rfl) (by kernel_rfl) (fun _ _ _ h => h) (Or.inl ⟨by kernel_rfl, ?_⟩) (by first | assumption | trivial) ?_
      rotate_left
      · (intro wS hSw; (try dsimp only at hSw); go_simp; try with_reducible rfl)
      (try simp only [List.append_eq, List.cons_append, List.nil_append, List.getElem_toArray, List.getElem_cons_succ, List.getElem_cons_zero, Act.put, List.setIfInBounds_toArray, List.set_cons_zero, List.set_cons_succ])
      refine wpAnyH_take (i := 8) (v := ?_) rfl (by kernel_rfl) (by kernel_rfl) (by kernel_rfl) (fun _ _ _ h => h) (Or.inl ⟨by kernel_rfl, ?_⟩) (by first | assumption | trivial) ?_
      rotate_left
      · (intro wS hSw; (try dsimp only at hSw); go_simp; try with_reducible rfl)
      (try simp only [List.append_eq, List.cons_append, List.nil_append, List.getElem_toArray, List.getElem_cons_succ, List.getElem_cons_zero, Act.put, List.setIfInBounds_toArray, List.set_cons_zero, List.set_cons_succ])
      refine wpAnyH_done (by kernel_rfl) ?_ _
      refine NoPanic.normal ?_
      clear hS hHeld
      go_wp2_with fail
      go_ret
      exact ⟨by rw [← HRR.out]; rfl, M.out.b⟩
  · as_aux_lemma =>
      have hl2 : l.length = 2 := by
        have := HBAD.out
        unfold badK at this
        simpa using this
      obtain ⟨x, y, rfl⟩ : ∃ x y, l = [x, y] := by
        match l, hl2 with
        | [x, y], _ => exact ⟨x, y, rfl⟩
      have hln : ln = 2 := M.out.ki.ok.ll.symm
      have mx : x ∈ [x, y] := List.mem_cons_self ..
      have my : y ∈ [x, y] := List.mem_cons_of_mem _ (List.mem_cons_self ..)
      have hmx := HMX.out (show (15 : Int) ≤ 16 by decide) x mx
      have hmy := HMX.out (show (15 : Int) ≤ 16 by decide) y my
      have hr : (meansF f ⟨uid, sec, zone, size, blob, FA, fn, fc, fl, place, many, great, BA, bn, bc, b⟩ x || meansF f ⟨uid, sec, zone, size, blob, FA, fn, fc, fl, place, many, great, BA, bn, bc, b⟩ y) = r := by rw [← HR.out, mn16 f _ _ rfl]; dsimp only; rw [List.any_cons, List.any_cons, List.any_nil, Bool.or_false]
      obtain ⟨cb, off, hLA, hcc⟩ := key_at M.out.ki.ok.lr (k := 0) (show 0 < 2 by decide)
      have hIX := fun (X : World) (m : MnS w X ⟨16, s, t, n, SA, sn, sc, sp, LA, ln, lc, [x, y]⟩ ⟨uid, sec, zone, size, blob, FA, fn, fc, fl, place, many, great, BA, bn, bc, b⟩ (w.heap.size + 1) (w.heap.size + 1 + 1)) => IH.out x ⟨uid, sec, zone, size, blob, FA, fn, fc, fl, place, many, great, BA, bn, bc, b⟩ X (m.ki.ch x mx) hmx m.hi m.t
      have hIY := fun (X : World) (m : MnS w X ⟨16, s, t, n, SA, sn, sc, sp, LA, ln, lc, [x, y]⟩ ⟨uid, sec, zone, size, blob, FA, fn, fc, fl, place, many, great, BA, bn, bc, b⟩ (w.heap.size + 1) (w.heap.size + 1 + 1)) => IH.out y ⟨uid, sec, zone, size, blob, FA, fn, fc, fl, place, many, great, BA, bn, bc, b⟩ X (m.ki.ch y my) hmy m.hi m.t
      have hce := fun (X : World) (m : MnS w X ⟨16, s, t, n, SA, sn, sc, sp, LA, ln, lc, [x, y]⟩ ⟨uid, sec, zone, size, blob, FA, fn, fc, fl, place, many, great, BA, bn, bc, b⟩ (w.heap.size + 1) (w.heap.size + 1 + 1)) => (by
        obtain ⟨cb2, off2, hLA2, hcc2⟩ := key_at m.ki.ok.lr (k := 0) (show 0 < 2 by decide)
        have e := hLA.symm.trans hLA2
        injection e with e
        injection e with e1 e2
        subst e1 e2
        have h0 := hcc2 0 (show 0 < 2 by decide)
        have h1 := hcc2 1 (show 1 < 2 by decide)
        rw [Nat.zero_mul, Nat.add_zero] at h0
        rw [Nat.one_mul] at h1
        exact ⟨h0, h1⟩ : (X.cell? ⟨cb, off, none⟩ = some (.int .i64 x.kind) ∧ X.cell? ⟨cb, off + 1, none⟩ = some (.string (str x.s)) ∧ X.cell? ⟨cb, off + 2, none⟩ = some (.string (str x.t)) ∧ X.cell? ⟨cb, off + 3, none⟩ = some (.int .i64 x.n) ∧ X.cell? ⟨cb, off + 4, none⟩ = some (.slice x.SA x.sn x.sc) ∧ X.cell? ⟨cb, off + 5, none⟩ = some (.slice x.LA x.ln x.lc)) ∧ (X.cell? ⟨cb, off + 6, none⟩ = some (.int .i64 y.kind) ∧ X.cell? ⟨cb, off + 6 + 1, none⟩ = some (.string (str y.s)) ∧ X.cell? ⟨cb, off + 6 + 2, none⟩ = some (.string (str y.t)) ∧ X.cell? ⟨cb, off + 6 + 3, none⟩ = some (.int .i64 y.n) ∧ X.cell? ⟨cb, off + 6 + 4, none⟩ = some (.slice y.SA y.sn y.sc) ∧ X.cell? ⟨cb, off + 6 + 5, none⟩ = some (.slice y.LA y.ln y.lc)))
      dsimp only at hLA
      obtain ⟨q1, hq1⟩ : ∃ q, meansF f ⟨uid, sec, zone, size, blob, FA, fn, fc, fl, place, many, great, BA, bn, bc, b⟩ x = q := ⟨_, rfl⟩
      obtain ⟨q2, hq2⟩ : ∃ q, meansF f ⟨uid, sec, zone, size, blob, FA, fn, fc, fl, place, many, great, BA, bn, bc, b⟩ y = q := ⟨_, rfl⟩
      rw [hq1] at hIX
      rw [hq2] at hIY
      rw [hq1, hq2] at hr
      obtain ⟨xk, xs, xt, xn, xA, xm, xc, xl, xB, xp, xq, xr⟩ := x
      obtain ⟨yk, ys, yt, yn, yA, ym, yc, yl, yB, yp, yq, yr⟩ := y
      have HIX := hid (fun X m => (by exact hIX X m : Calls Tryz.prog 19 #[.agg #[.int .i64 xk, .string (str xs), .string (str xt), .int .i64 xn, .slice xA xm xc, .slice xB xp xq], .agg #[.int .i64 uid, .int .i64 sec, .int .i64 zone, .int .i64 size, .int .u64 (blob : Int), .slice FA fn fc, .int .i64 place, .int .i64 many, .int .i64 great, .slice BA bn bc]] X fun e w' => e = .returned (.bool q1) ∧ Below X.heap.size X w'))
      have HIY := hid (fun X m => (by exact hIY X m : Calls Tryz.prog 19 #[.agg #[.int .i64 yk, .string (str ys), .string (str yt), .int .i64 yn, .slice yA ym yc, .slice yB yp yq], .agg #[.int .i64 uid, .int .i64 sec, .int .i64 zone, .int .i64 size, .int .u64 (blob : Int), .slice FA fn fc, .int .i64 place, .int .i64 many, .int .i64 great, .slice BA bn bc]] X fun e w' => e = .returned (.bool q2) ∧ Below X.heap.size X w'))
      have HSF := hid (fun (X : World) (m : MnS w X ⟨16, s, t, n, SA, sn, sc, sp, LA, ln, lc, [⟨xk, xs, xt, xn, xA, xm, xc, xl, xB, xp, xq, xr⟩, ⟨yk, ys, yt, yn, yA, ym, yc, yl, yB, yp, yq, yr⟩]⟩ ⟨uid, sec, zone, size, blob, FA, fn, fc, fl, place, many, great, BA, bn, bc, b⟩ (w.heap.size + 1) (w.heap.size + 1 + 1)) => And.intro (m.key.cell (j := 5) rfl) (And.intro (hce X m).1.1 (And.intro (hce X m).1.2.1 (And.intro (hce X m).1.2.2.1 (And.intro (hce X m).1.2.2.2.1 (And.intro (hce X m).1.2.2.2.2.1 (And.intro (hce X m).1.2.2.2.2.2 (And.intro (hce X m).2.1 (And.intro (hce X m).2.2.1 (And.intro (hce X m).2.2.2.1 (And.intro (hce X m).2.2.2.2.1 (And.intro (hce X m).2.2.2.2.2.1 (And.intro (hce X m).2.2.2.2.2.2 (And.intro (m.hit.cell (j := 0) rfl) (And.intro (m.hit.cell (j := 1) rfl) (And.intro (m.hit.cell (j := 2) rfl) (And.intro (m.hit.cell (j := 3) rfl) (And.intro (m.hit.cell (j := 4) rfl) (And.intro (m.hit.cell (j := 5) rfl) (And.intro (m.hit.cell (j := 6) rfl) (And.intro (m.hit.cell (j := 7) rfl) (And.intro (m.hit.cell (j := 8) rfl) (m.hit.cell (j := 9) rfl)))))))))))))))))))))))
      dsimp only at HSF
      have HRR := hid hr
      subst hLA hln
      clear hl2 hmx hmy mx my hr hcc hIX hIY hce hq1 hq2
      go_upto_region 33 with fail
      have M := hid (M.out.below (drew_below _))
      have hS := HSF.out _ M.out
      clear y0 y1 y2 y3 y4 y5
      cases q1 with
      | true =>
        refine wp_region_noPanic ?_
        refine wp_region_held_drew (S := (fun X => X.cell? ⟨w.heap.size + 1 + 1, 5, none⟩ = some (.slice (some ⟨cb, off, none⟩) 2 lc) ∧ X.cell? ⟨cb, off, none⟩ = some (.int .i64 xk) ∧ X.cell? ⟨cb, off + 1, none⟩ = some (.string (str xs)) ∧ X.cell? ⟨cb, off + 2, none⟩ = some (.string (str xt)) ∧ X.cell? ⟨cb, off + 3, none⟩ = some (.int .i64 xn) ∧ X.cell? ⟨cb, off + 4, none⟩ = some (.slice xA xm xc) ∧ X.cell? ⟨cb, off + 5, none⟩ = some (.slice xB xp xq) ∧ X.cell? ⟨cb, off + 6, none⟩ = some (.int .i64 yk) ∧ X.cell? ⟨cb, off + 6 + 1, none⟩ = some (.string (str ys)) ∧ X.cell? ⟨cb, off + 6 + 2, none⟩ = some (.string (str yt)) ∧ X.cell? ⟨cb, off + 6 + 3, none⟩ = some (.int .i64 yn) ∧ X.cell? ⟨cb, off + 6 + 4, none⟩ = some (.slice yA ym yc) ∧ X.cell? ⟨cb, off + 6 + 5, none⟩ = some (.slice yB yp yq) ∧ X.cell? ⟨w.heap.size + 1, 0, none⟩ = some (.int .i64 uid) ∧ X.cell? ⟨w.heap.size + 1, 1, none⟩ = some (.int .i64 sec) ∧ X.cell? ⟨w.heap.size + 1, 2, none⟩ = some (.int .i64 zone) ∧ X.cell? ⟨w.heap.size + 1, 3, none⟩ = some (.int .i64 size) ∧ X.cell? ⟨w.heap.size + 1, 4, none⟩ = some (.int .u64 (blob : Int)) ∧ X.cell? ⟨w.heap.size + 1, 5, none⟩ = some (.slice FA fn fc) ∧ X.cell? ⟨w.heap.size + 1, 6, none⟩ = some (.int .i64 place) ∧ X.cell? ⟨w.heap.size + 1, 7, none⟩ = some (.int .i64 many) ∧ X.cell? ⟨w.heap.size + 1, 8, none⟩ = some (.int .i64 great) ∧ X.cell? ⟨w.heap.size + 1, 9, none⟩ = some (.slice BA bn bc))) (by kernel_rfl) (by first | assumption | trivial) (fun hHeld => ?_)
        refine wpAnyH_take (i := 0) (v := ?_) rfl (by kernel_rfl) (by kernel_rfl) (by kernel_rfl) (fun _ _ _ h => h) (Or.inl ⟨by kernel_rfl, ?_⟩) (by first | assumption | trivial) ?_
        rotate_left
        · (intro wS hSw; (try dsimp only at hSw); go_simp; try with_reducible rfl)
        (try simp only [List.append_eq, List.cons_append, List.nil_append, List.getElem_toArray, List.getElem_cons_succ, List.getElem_cons_zero, Act.put, List.setIfInBounds_toArray, List.set_cons_zero, List.set_cons_succ])
        refine wpAnyH_take (i := 1) (v := ?_) rfl (by kernel_rfl) (by kernel_rfl) (by kernel_rfl) (fun _ _ _ h => h) (Or.inl ⟨by kernel_rfl, ?_⟩) (by first | assumption | trivial) ?_
        rotate_left
        · (intro wS hSw; (try dsimp only at hSw); go_simp; try with_reducible rfl)
        (try simp only [List.append_eq, List.cons_append, List.nil_append, List.getElem_toArray, List.getElem_cons_succ, List.getElem_cons_zero, Act.put, List.setIfInBounds_toArray, List.set_cons_zero, List.set_cons_succ])
        refine wpAnyH_take (i := 2) (v := ?_) rfl (by kernel_rfl) (by kernel_rfl) (by kernel_rfl) (fun _ _ _ h => h) (Or.inl ⟨by kernel_rfl, ?_⟩) (by first | assumption | trivial) ?_
        rotate_left
        · (intro wS hSw; (try dsimp only at hSw); go_simp; try with_reducible rfl)
        (try simp only [List.append_eq, List.cons_append, List.nil_append, List.getElem_toArray, List.getElem_cons_succ, List.getElem_cons_zero, Act.put, List.setIfInBounds_toArray, List.set_cons_zero, List.set_cons_succ])
        refine wpAnyH_take (i := 3) (v := ?_) rfl (by kernel_rfl) (by kernel_rfl) (by kernel_rfl) (fun _ _ _ h => h) (Or.inl ⟨by kernel_rfl, ?_⟩) (by first | assumption | trivial) ?_
        rotate_left
        · (intro wS hSw; (try dsimp only at hSw); go_simp; try with_reducible rfl)
        (try simp only [List.append_eq, List.cons_append, List.nil_append, List.getElem_toArray, List.getElem_cons_succ, List.getElem_cons_zero, Act.put, List.setIfInBounds_toArray, List.set_cons_zero, List.set_cons_succ])
        refine wpAnyH_take (i := 4) (v := .agg #[.int .i64 xk, .string (str xs), .string (str xt), .int .i64 xn, .slice xA xm xc, .slice xB xp xq]) rfl (by kernel_rfl) (by kernel_rfl) (by kernel_rfl) (fun _ _ _ h => h) (yieldsIf_build (by kernel_rfl) 46 _ rfl [(0, .agg #[.int .i64 xk, .string (str xs), .string (str xt), .int .i64 xn, .slice xA xm xc, .slice xB xp xq])] rfl #[.int .i64 xk, .string (str xs), .string (str xt), .int .i64 xn, .slice xA xm xc, .slice xB xp xq] (asked_built ..)) (by first | assumption | trivial) ?_
        (try simp only [List.append_eq, List.cons_append, List.nil_append, List.getElem_toArray, List.getElem_cons_succ, List.getElem_cons_zero, Act.put, List.setIfInBounds_toArray, List.set_cons_zero, List.set_cons_succ])
        refine wpAnyH_take (i := 5) (v := ?_) rfl (by kernel_rfl) (by kernel_rfl) (by kernel_rfl) (fun _ _ _ h => h) (Or.inl ⟨by kernel_rfl, ?_⟩) (by first | assumption | trivial) ?_
        rotate_left
        · (intro wS hSw; (try dsimp only at hSw); go_simp; try with_reducible rfl)
        (try simp only [List.append_eq, List.cons_append, List.nil_append, List.getElem_toArray, List.getElem_cons_succ, List.getElem_cons_zero, Act.put, List.setIfInBounds_toArray, List.set_cons_zero, List.set_cons_succ])
        refine wpAnyH_ready (rs := [6]) (by kernel_rfl) (by simp) ?_
        refine AllReadyH.cons rfl (fun K hK => ?_) AllReadyH.nil
        go_simp
        (go_at_call 19; (with_reducible refine (HIX.out _ M.out).mono ?_); rintro e w4 ⟨rfl, b4⟩; have M := hid (M.out.below b4); have hS := HSF.out _ M.out; clear b4 hHeld)
        go_wp2_with fail
        refine hK.out _ _ (by first | assumption | trivial) (fun hHeld => ?_)
        clear hK K
        (try simp only [List.append_eq, List.cons_append, List.nil_append, List.getElem_toArray, List.getElem_cons_succ, List.getElem_cons_zero, Act.put, List.setIfInBounds_toArray, List.set_cons_zero, List.set_cons_succ])
        refine wpAnyH_take (i := 7) (v := ?_) rfl (by kernel_rfl) (by kernel_rfl) (by kernel_rfl) (fun _ _ _ h => h) (Or.inl ⟨by kernel_rfl, ?_⟩) (by first | assumption | trivial) ?_
        rotate_left
        · (intro wS hSw; (try dsimp only at hSw); go_simp; try with_reducible rfl)
        (try simp only [List.append_eq, List.cons_append, List.nil_append, List.getElem_toArray, List.getElem_cons_succ, List.getElem_cons_zero, Act.put, List.setIfInBounds_toArray, List.set_cons_zero, List.set_cons_succ])
        refine wpAnyH_take (i := 8) (v := undef) rfl (by kernel_rfl) (by kernel_rfl) (by kernel_rfl) (fun _ _ _ h => h) (Or.inr ⟨by kernel_rfl, rfl⟩) (by first | assumption | trivial) ?_
        (try simp only [List.append_eq, List.cons_append, List.nil_append, List.getElem_toArray, List.getElem_cons_succ, List.getElem_cons_zero, Act.put, List.setIfInBounds_toArray, List.set_cons_zero, List.set_cons_succ])
        refine wpAnyH_take (i := 9) (v := undef) rfl (by kernel_rfl) (by kernel_rfl) (by kernel_rfl) (fun _ _ _ h => h) (Or.inr ⟨by kernel_rfl, rfl⟩) (by first | assumption | trivial) ?_
        (try simp only [List.append_eq, List.cons_append, List.nil_append, List.getElem_toArray, List.getElem_cons_succ, List.getElem_cons_zero, Act.put, List.setIfInBounds_toArray, List.set_cons_zero, List.set_cons_succ])
        refine wpAnyH_take (i := 10) (v := undef) rfl (by kernel_rfl) (by kernel_rfl) (by kernel_rfl) (fun _ _ _ h => h) (Or.inr ⟨by kernel_rfl, rfl⟩) (by first | assumption | trivial) ?_
        (try simp only [List.append_eq, List.cons_append, List.nil_append, List.getElem_toArray, List.getElem_cons_succ, List.getElem_cons_zero, Act.put, List.setIfInBounds_toArray, List.set_cons_zero, List.set_cons_succ])
        refine wpAnyH_take (i := 11) (v := undef) rfl (by kernel_rfl) (by kernel_rfl) (by kernel_rfl) (fun _ _ _ h => h) (Or.inr ⟨by kernel_rfl, rfl⟩) (by first | assumption | trivial) ?_
        (try simp only [List.append_eq, List.cons_append, List.nil_append, List.getElem_toArray, List.getElem_cons_succ, List.getElem_cons_zero, Act.put, List.setIfInBounds_toArray, List.set_cons_zero, List.set_cons_succ])
        refine wpAnyH_take (i := 12) (v := undef) rfl (by kernel_rfl) (by kernel_rfl) (by kernel_rfl) (fun _ _ _ h => h) (Or.inr ⟨by kernel_rfl, rfl⟩) (by first | assumption | trivial) ?_
        (try simp only [List.append_eq, List.cons_append, List.nil_append, List.getElem_toArray, List.getElem_cons_succ, List.getElem_cons_zero, Act.put, List.setIfInBounds_toArray, List.set_cons_zero, List.set_cons_succ])
        refine wpAnyH_take (i := 13) (v := undef) rfl (by kernel_rfl) (by kernel_rfl) (by kernel_rfl) (fun _ _ _ h => h) (Or.inr ⟨by kernel_rfl, rfl⟩) (by first | assumption | trivial) ?_
        (try simp only [List.append_eq, List.cons_append, List.nil_append, List.getElem_toArray, List.getElem_cons_succ, List.getElem_cons_zero, Act.put, List.setIfInBounds_toArray, List.set_cons_zero, List.set_cons_succ])
        refine wpAnyH_take (i := 14) (v := undef) rfl (by kernel_rfl) (by kernel_rfl) (by kernel_rfl) (fun _ _ _ h => h) (Or.inr ⟨by kernel_rfl, rfl⟩) (by first | assumption | trivial) ?_
        (try simp only [List.append_eq, List.cons_append, List.nil_append, List.getElem_toArray, List.getElem_cons_succ, List.getElem_cons_zero, Act.put, List.setIfInBounds_toArray, List.set_cons_zero, List.set_cons_succ])
        refine wpAnyH_take (i := 15) (v := ?_) rfl (by kernel_rfl) (by kernel_rfl) (by kernel_rfl) (fun _ _ _ h => h) (Or.inl ⟨by kernel_rfl, ?_⟩) (by first | assumption | trivial) ?_
        rotate_left
        · (intro wS hSw; (try dsimp only at hSw); go_simp; try with_reducible rfl)
        (try simp only [List.append_eq, List.cons_append, List.nil_append, List.getElem_toArray, List.getElem_cons_succ, List.getElem_cons_zero, Act.put, List.setIfInBounds_toArray, List.set_cons_zero, List.set_cons_succ])
        refine wpAnyH_take (i := 16) (v := ?_) rfl (by kernel_rfl) (by kernel_rfl) (by kernel_rfl) (fun _ _ _ h => h) (Or.inl ⟨by kernel_rfl, ?_⟩) (by first | assumption | trivial) ?_
        rotate_left
        · (intro wS hSw; (try dsimp only at hSw); go_simp; try with_reducible rfl)
        (try simp only [List.append_eq, List.cons_append, List.nil_append, List.getElem_toArray, List.getElem_cons_succ, List.getElem_cons_zero, Act.put, List.setIfInBounds_toArray, List.set_cons_zero, List.set_cons_succ])
        refine wpAnyH_done (by kernel_rfl) ?_ _
        refine NoPanic.normal ?_
        clear hS hHeld
        go_wp2_with fail
        go_ret
        exact ⟨by rw [← HRR.out]; rfl, M.out.b⟩
      | false =>
        refine wp_region_noPanic ?_
        refine wp_region_held_drew (S := (fun X => X.cell? ⟨w.heap.size + 1 + 1, 5, none⟩ = some (.slice (some ⟨cb, off, none⟩) 2 lc) ∧ X.cell? ⟨cb, off, none⟩ = some (.int .i64 xk) ∧ X.cell? ⟨cb, off + 1, none⟩ = some (.string (str xs)) ∧ X.cell? ⟨cb, off + 2, none⟩ = some (.string (str xt)) ∧ X.cell? ⟨cb, off + 3, none⟩ = some (.int .i64 xn) ∧ X.cell? ⟨cb, off + 4, none⟩ = some (.slice xA xm xc) ∧ X.cell? ⟨cb, off + 5, none⟩ = some (.slice xB xp xq) ∧ X.cell? ⟨cb, off + 6, none⟩ = some (.int .i64 yk) ∧ X.cell? ⟨cb, off + 6 + 1, none⟩ = some (.string (str ys)) ∧ X.cell? ⟨cb, off + 6 + 2, none⟩ = some (.string (str yt)) ∧ X.cell? ⟨cb, off + 6 + 3, none⟩ = some (.int .i64 yn) ∧ X.cell? ⟨cb, off + 6 + 4, none⟩ = some (.slice yA ym yc) ∧ X.cell? ⟨cb, off + 6 + 5, none⟩ = some (.slice yB yp yq) ∧ X.cell? ⟨w.heap.size + 1, 0, none⟩ = some (.int .i64 uid) ∧ X.cell? ⟨w.heap.size + 1, 1, none⟩ = some (.int .i64 sec) ∧ X.cell? ⟨w.heap.size + 1, 2, none⟩ = some (.int .i64 zone) ∧ X.cell? ⟨w.heap.size + 1, 3, none⟩ = some (.int .i64 size) ∧ X.cell? ⟨w.heap.size + 1, 4, none⟩ = some (.int .u64 (blob : Int)) ∧ X.cell? ⟨w.heap.size + 1, 5, none⟩ = some (.slice FA fn fc) ∧ X.cell? ⟨w.heap.size + 1, 6, none⟩ = some (.int .i64 place) ∧ X.cell? ⟨w.heap.size + 1, 7, none⟩ = some (.int .i64 many) ∧ X.cell? ⟨w.heap.size + 1, 8, none⟩ = some (.int .i64 great) ∧ X.cell? ⟨w.heap.size + 1, 9, none⟩ = some (.slice BA bn bc))) (by kernel_rfl) (by first | assumption | trivial) (fun hHeld => ?_)
        refine wpAnyH_take (i := 0) (v := ?_) rfl (by kernel_rfl) (by kernel_rfl) (by kernel_rfl) (fun _ _ _ h => h) (Or.inl ⟨by kernel_rfl, ?_⟩) (by first | assumption | trivial) ?_
        rotate_left
        · (intro wS hSw; (try dsimp only at hSw); go_simp; try with_reducible rfl)
        (try simp only [List.append_eq, List.cons_append, List.nil_append, List.getElem_toArray, List.getElem_cons_succ, List.getElem_cons_zero, Act.put, List.setIfInBounds_toArray, List.set_cons_zero, List.set_cons_succ])
        refine wpAnyH_take (i := 1) (v := ?_) rfl (by kernel_rfl) (by kernel_rfl) (by kernel_rfl) (fun _ _ _ h => h) (Or.inl ⟨by kernel_rfl, ?_⟩) (by first | assumption | trivial) ?_
        rotate_left
        · (intro wS hSw; (try dsimp only at hSw); go_simp; try with_reducible rfl)
        (try simp only [List.append_eq, List.cons_append, List.nil_append, List.getElem_toArray, List.getElem_cons_succ, List.getElem_cons_zero, Act.put, List.setIfInBounds_toArray, List.set_cons_zero, List.set_cons_succ])
        refine wpAnyH_take (i := 2) (v := ?_) rfl (by kernel_rfl) (by kernel_rfl) (by kernel_rfl) (fun _ _ _ h => h) (Or.inl ⟨by kernel_rfl, ?_⟩) (by first | assumption | trivial) ?_
        rotate_left
        · (intro wS hSw; (try dsimp only at hSw); go_simp; try with_reducible rfl)
        (try simp only [List.append_eq, List.cons_append, List.nil_append, List.getElem_toArray, List.getElem_cons_succ, List.getElem_cons_zero, Act.put, List.setIfInBounds_toArray, List.set_cons_zero, List.set_cons_succ])
        refine wpAnyH_take (i := 3) (v := ?_) rfl (by kernel_rfl) (by kernel_rfl) (by kernel_rfl) (fun _ _ _ h => h) (Or.inl ⟨by kernel_rfl, ?_⟩) (by first | assumption | trivial) ?_
        rotate_left
        · (intro wS hSw; (try dsimp only at hSw); go_simp; try with_reducible rfl)
        (try simp only [List.append_eq, List.cons_append, List.nil_append, List.getElem_toArray, List.getElem_cons_succ, List.getElem_cons_zero, Act.put, List.setIfInBounds_toArray, List.set_cons_zero, List.set_cons_succ])
        refine wpAnyH_take (i := 4) (v := .agg #[.int .i64 xk, .string (str xs), .string (str xt), .int .i64 xn, .slice xA xm xc, .slice xB xp xq]) rfl (by kernel_rfl) (by kernel_rfl) (by kernel_rfl) (fun _ _ _ h => h) (yieldsIf_build (by kernel_rfl) 46 _ rfl [(0, .agg #[.int .i64 xk, .string (str xs), .string (str xt), .int .i64 xn, .slice xA xm xc, .slice xB xp xq])] rfl #[.int .i64 xk, .string (str xs), .string (str xt), .int .i64 xn, .slice xA xm xc, .slice xB xp xq] (asked_built ..)) (by first | assumption | trivial) ?_
        (try simp only [List.append_eq, List.cons_append, List.nil_append, List.getElem_toArray, List.getElem_cons_succ, List.getElem_cons_zero, Act.put, List.setIfInBounds_toArray, List.set_cons_zero, List.set_cons_succ])
        refine wpAnyH_take (i := 5) (v := ?_) rfl (by kernel_rfl) (by kernel_rfl) (by kernel_rfl) (fun _ _ _ h => h) (Or.inl ⟨by kernel_rfl, ?_⟩) (by first | assumption | trivial) ?_
        rotate_left
        · (intro wS hSw; (try dsimp only at hSw); go_simp; try with_reducible rfl)
        (try simp only [List.append_eq, List.cons_append, List.nil_append, List.getElem_toArray, List.getElem_cons_succ, List.getElem_cons_zero, Act.put, List.setIfInBounds_toArray, List.set_cons_zero, List.set_cons_succ])
        refine wpAnyH_ready (rs := [6]) (by kernel_rfl) (by simp) ?_
        refine AllReadyH.cons rfl (fun K hK => ?_) AllReadyH.nil
        go_simp
        (go_at_call 19; (with_reducible refine (HIX.out _ M.out).mono ?_); rintro e w4 ⟨rfl, b4⟩; have M := hid (M.out.below b4); have hS := HSF.out _ M.out; clear b4 hHeld)
        go_wp2_with fail
        refine hK.out _ _ (by first | assumption | trivial) (fun hHeld => ?_)
        clear hK K
        (try simp only [List.append_eq, List.cons_append, List.nil_append, List.getElem_toArray, List.getElem_cons_succ, List.getElem_cons_zero, Act.put, List.setIfInBounds_toArray, List.set_cons_zero, List.set_cons_succ])
        refine wpAnyH_take (i := 7) (v := ?_) rfl (by kernel_rfl) (by kernel_rfl) (by kernel_rfl) (fun _ _ _ h => h) (Or.inl ⟨by kernel_rfl, ?_⟩) (by first | assumption | trivial) ?_
        rotate_left
        · (intro wS hSw; (try dsimp only at hSw); go_simp; try with_reducible rfl)
        (try simp only [List.append_eq, List.cons_append, List.nil_append, List.getElem_toArray, List.getElem_cons_succ, List.getElem_cons_zero, Act.put, List.setIfInBounds_toArray, List.set_cons_zero, List.set_cons_succ])
        refine wpAnyH_take (i := 8) (v := ?_) rfl (by kernel_rfl) (by kernel_rfl) (by kernel_rfl) (fun _ _ _ h => h) (Or.inl ⟨by kernel_rfl, ?_⟩) (by first | assumption | trivial) ?_
        rotate_left
        · (intro wS hSw; (try dsimp only at hSw); go_simp; try with_reducible rfl)
        (try simp only [List.append_eq, List.cons_append, List.nil_append, List.getElem_toArray, List.getElem_cons_succ, List.getElem_cons_zero, Act.put, List.setIfInBounds_toArray, List.set_cons_zero, List.set_cons_succ])
        refine wpAnyH_take (i := 9) (v := ?_) rfl (by kernel_rfl) (by kernel_rfl) (by kernel_rfl) (fun _ _ _ h => h) (Or.inl ⟨by kernel_rfl, ?_⟩) (by first | assumption | trivial) ?_
        rotate_left
        · (intro wS hSw; (try dsimp only at hSw); go_simp; try with_reducible rfl)
        (try simp only [List.append_eq, List.cons_append, List.nil_append, List.getElem_toArray, List.getElem_cons_succ, List.getElem_cons_zero, Act.put, List.setIfInBounds_toArray, List.set_cons_zero, List.set_cons_succ])
        refine wpAnyH_take (i := 10) (v := ?_) rfl (by kernel_rfl) (by kernel_rfl) (by kernel_rfl) (fun _ _ _ h => h) (Or.inl ⟨by kernel_rfl, ?_⟩) (by first | assumption | trivial) ?_
        rotate_left
        · (intro wS hSw; (try dsimp only at hSw); go_simp; try with_reducible rfl)
        (try simp only [List.append_eq, List.cons_append, List.nil_append, List.getElem_toArray, List.getElem_cons_succ, List.getElem_cons_zero, Act.put, List.setIfInBounds_toArray, List.set_cons_zero, List.set_cons_succ])
        refine wpAnyH_take (i := 11) (v := ?_) rfl (by kernel_rfl) (by kernel_rfl) (by kernel_rfl) (fun _ _ _ h => h) (Or.inl ⟨by kernel_rfl, ?_⟩) (by first | assumption | trivial) ?_
        rotate_left
        · (intro wS hSw; (try dsimp only at hSw); go_simp; try with_reducible rfl)
        (try simp only [List.append_eq, List.cons_append, List.nil_append, List.getElem_toArray, List.getElem_cons_succ, List.getElem_cons_zero, Act.put, List.setIfInBounds_toArray, List.set_cons_zero, List.set_cons_succ])
        refine wpAnyH_take (i := 12) (v := .agg #[.int .i64 yk, .string (str ys), .string (str yt), .int .i64 yn, .slice yA ym yc, .slice yB yp yq]) rfl (by kernel_rfl) (by kernel_rfl) (by kernel_rfl) (fun _ _ _ h => h) (yieldsIf_build (by kernel_rfl) 46 _ rfl [(0, .agg #[.int .i64 yk, .string (str ys), .string (str yt), .int .i64 yn, .slice yA ym yc, .slice yB yp yq])] rfl #[.int .i64 yk, .string (str ys), .string (str yt), .int .i64 yn, .slice yA ym yc, .slice yB yp yq] (asked_built ..)) (by first | assumption | trivial) ?_
        (try simp only [List.append_eq, List.cons_append, List.nil_append, List.getElem_toArray, List.getElem_cons_succ, List.getElem_cons_zero, Act.put, List.setIfInBounds_toArray, List.set_cons_zero, List.set_cons_succ])
        refine wpAnyH_take (i := 13) (v := ?_) rfl (by kernel_rfl) (by kernel_rfl) (by kernel_rfl) (fun _ _ _ h => h) (Or.inl ⟨by kernel_rfl, ?_⟩) (by first | assumption | trivial) ?_
        rotate_left
        · (intro wS hSw; (try dsimp only at hSw); go_simp; try with_reducible rfl)
        (try simp only [List.append_eq, List.cons_append, List.nil_append, List.getElem_toArray, List.getElem_cons_succ, List.getElem_cons_zero, Act.put, List.setIfInBounds_toArray, List.set_cons_zero, List.set_cons_succ])
        refine wpAnyH_ready (rs := [14]) (by kernel_rfl) (by simp) ?_
        refine AllReadyH.cons rfl (fun K hK => ?_) AllReadyH.nil
        go_simp
        (go_at_call 19; (with_reducible refine (HIY.out _ M.out).mono ?_); rintro e w5 ⟨rfl, b5⟩; have M := hid (M.out.below b5); have hS := HSF.out _ M.out; clear b5 hHeld)
        go_wp2_with fail
        refine hK.out _ _ (by first | assumption | trivial) (fun hHeld => ?_)
        clear hK K
        (try simp only [List.append_eq, List.cons_append, List.nil_append, List.getElem_toArray, List.getElem_cons_succ, List.getElem_cons_zero, Act.put, List.setIfInBounds_toArray, List.set_cons_zero, List.set_cons_succ])
        refine wpAnyH_take (i := 15) (v := ?_) rfl (by kernel_rfl) (by kernel_rfl) (by kernel_rfl) (fun _ _ _ h => h) (Or.inl ⟨by kernel_rfl, ?_⟩) (by first | assumption | trivial) ?_
        rotate_left
        · (intro wS hSw; (try dsimp only at hSw); go_simp; try with_reducible rfl)
        (try simp only [List.append_eq, List.cons_append, List.nil_append, List.getElem_toArray, List.getElem_cons_succ, List.getElem_cons_zero, Act.put, List.setIfInBounds_toArray, List.set_cons_zero, List.set_cons_succ])
        refine wpAnyH_take (i := 16) (v := ?_) rfl (by kernel_rfl) (by kernel_rfl) (by kernel_rfl) (fun _ _ _ h => h) (Or.inl ⟨by kernel_rfl, ?_⟩) (by first | assumption | trivial) ?_
        rotate_left
        · (intro wS hSw; (try dsimp only at hSw); go_simp; try with_reducible rfl)
        (try simp only [List.append_eq, List.cons_append, List.nil_append, List.getElem_toArray, List.getElem_cons_succ, List.getElem_cons_zero, Act.put, List.setIfInBounds_toArray, List.set_cons_zero, List.set_cons_succ])
        refine wpAnyH_done (by kernel_rfl) ?_ _
        refine NoPanic.normal ?_
        clear hS hHeld
        go_wp2_with fail
        go_ret
        exact ⟨by rw [← HRR.out]; rfl, M.out.b⟩
  · as_aux_lemma =>
      have hr : l.all (meansF f ⟨uid, sec, zone, size, blob, FA, fn, fc, fl, place, many, great, BA, bn, bc, b⟩) = r := by rw [← HR.out, mn17 f _ _ rfl]
      have HRR := hid hr
      have HLL := hid (show l.length = ln from M.out.ki.ok.ll)
      have hln : ln ≤ 100 := M.out.ki.ok.lm
      clear hr
      go_wp2_with fail
      clear y0 y1 y2 y3 y4 y5
      have M0 := M
      clear M
      go_loopw [9, 10, 154] (fun bx fv i wr => ∃ j : Nat, j ≤ ln ∧ i = .int .i64 (j : Int) ∧ Hid ((l.drop j).all (meansF f ⟨uid, sec, zone, size, blob, FA, fn, fc, fl, place, many, great, BA, bn, bc, b⟩) = l.all (meansF f ⟨uid, sec, zone, size, blob, FA, fn, fc, fl, place, many, great, BA, bn, bc, b⟩)) ∧ Hid (MnS w wr ⟨17, s, t, n, SA, sn, sc, sp, LA, ln, lc, l⟩ ⟨uid, sec, zone, size, blob, FA, fn, fc, fl, place, many, great, BA, bn, bc, b⟩ (w.heap.size + 1) (w.heap.size + 1 + 1))) (fun bx fv i wr => ln - (intOf i).toNat)
      case atStart => exact ⟨0, Nat.zero_le _, rfl, hid (by rw [List.drop_zero]), M0⟩
      case round =>
        clear M0
        obtain ⟨j, hj, rfl, HA, M⟩ := hrel
        rename World => wr
        by_cases hlt : j < ln
        · have d1 : decide ((j : Int) < (ln : Int)) = true := by simp; omega
          have d1' : decide (j < ln) = true := by simpa using hlt
          have i0 : (0 : Int) ≤ (j : Int) := by omega
          have i1 : (j : Int) < (ln : Int) := by omega
          have i2 : (j : Int).toNat = j := by omega
          have hjl : j < l.length := by rw [HLL.out]; exact hlt
          obtain ⟨cb, off, hLA, hcc⟩ := key_at M.out.ki.ok.lr hjl
          have hmem : l[j]'hjl ∈ l := List.getElem_mem hjl
          have hst : (l.drop j).all (meansF f ⟨uid, sec, zone, size, blob, FA, fn, fc, fl, place, many, great, BA, bn, bc, b⟩) = (meansF f ⟨uid, sec, zone, size, blob, FA, fn, fc, fl, place, many, great, BA, bn, bc, b⟩ (l[j]'hjl) && (l.drop (j + 1)).all (meansF f ⟨uid, sec, zone, size, blob, FA, fn, fc, fl, place, many, great, BA, bn, bc, b⟩)) := by rw [List.drop_eq_getElem_cons hjl, List.all_cons]
          have hc := hcc j hjl
          dsimp only at hLA hc
          obtain ⟨x, hx⟩ : ∃ x, l[j]'hjl = x := ⟨_, rfl⟩
          rw [hx] at hmem hst hc
          have hmx := HMX.out (show (15 : Int) ≤ 17 by decide) x hmem
          have hIX := fun (X : World) (m : MnS w X ⟨17, s, t, n, SA, sn, sc, sp, LA, ln, lc, l⟩ ⟨uid, sec, zone, size, blob, FA, fn, fc, fl, place, many, great, BA, bn, bc, b⟩ (w.heap.size + 1) (w.heap.size + 1 + 1)) => IH.out x ⟨uid, sec, zone, size, blob, FA, fn, fc, fl, place, many, great, BA, bn, bc, b⟩ X (m.ki.ch x hmem) hmx m.hi m.t
          obtain ⟨q, hq⟩ : ∃ q, meansF f ⟨uid, sec, zone, size, blob, FA, fn, fc, fl, place, many, great, BA, bn, bc, b⟩ x = q := ⟨_, rfl⟩
          rw [hq] at hIX hst
          have HST := hid hst
          obtain ⟨xk, xs, xt, xn, xA, xm, xc, xl, xB, xp, xq, xr⟩ := x
          have HIX := hid (fun X m => (by exact hIX X m : Calls Tryz.prog 19 #[.agg #[.int .i64 xk, .string (str xs), .string (str xt), .int .i64 xn, .slice xA xm xc, .slice xB xp xq], .agg #[.int .i64 uid, .int .i64 sec, .int .i64 zone, .int .i64 size, .int .u64 (blob : Int), .slice FA fn fc, .int .i64 place, .int .i64 many, .int .i64 great, .slice BA bn bc]] X fun e w' => e = .returned (.bool q) ∧ Below X.heap.size X w'))
          dsimp only at hc
          have c0 := hc.1
          have c1 := hc.2.1
          have c2 := hc.2.2.1
          have c3 := hc.2.2.2.1
          have c4 := hc.2.2.2.2.1
          have c5 := hc.2.2.2.2.2
          obtain ⟨W, hW⟩ : ∃ W, wr.alloc (.cells #[.int .i64 xk, .string (str xs), .string (str xt), .int .i64 xn, .slice xA xm xc, .slice xB xp xq] 37) = W := ⟨_, rfl⟩
          have hOX : OwnE W wr.heap.size 37 [.int .i64 xk, .string (str xs), .string (str xt), .int .i64 xn, .slice xA xm xc, .slice xB xp xq] := by rw [← hW]; exact OwnE.new_ wr _ _
          have hMW : MnS w W ⟨17, s, t, n, SA, sn, sc, sp, LA, ln, lc, l⟩ ⟨uid, sec, zone, size, blob, FA, fn, fc, fl, place, many, great, BA, bn, bc, b⟩ (w.heap.size + 1) (w.heap.size + 1 + 1) := by rw [← hW]; exact M.out.below ((Below.refl _ wr).alloc (Nat.le_refl _) _)
          have x0 := hOX.cell (j := 0) rfl
          have x1 := hOX.cell (j := 1) rfl
          have x2 := hOX.cell (j := 2) rfl
          have x3 := hOX.cell (j := 3) rfl
          have x4 := hOX.cell (j := 4) rfl
          have x5 := hOX.cell (j := 5) rfl
          have M := hid hMW
          have z0 := M.out.hit.cell (j := 0) rfl
          have z1 := M.out.hit.cell (j := 1) rfl
          have z2 := M.out.hit.cell (j := 2) rfl
          have z3 := M.out.hit.cell (j := 3) rfl
          have z4 := M.out.hit.cell (j := 4) rfl
          have z5 := M.out.hit.cell (j := 5) rfl
          have z6 := M.out.hit.cell (j := 6) rfl
          have z7 := M.out.hit.cell (j := 7) rfl
          have z8 := M.out.hit.cell (j := 8) rfl
          have z9 := M.out.hit.cell (j := 9) rfl
          subst hLA
          clear hcc hmem hst hx hmx hIX hq hc hOX hMW
          cases q with
          | true =>
            have HA2 := hid (show (l.drop (j + 1)).all (meansF f ⟨uid, sec, zone, size, blob, FA, fn, fc, fl, place, many, great, BA, bn, bc, b⟩) = l.all (meansF f ⟨uid, sec, zone, size, blob, FA, fn, fc, fl, place, many, great, BA, bn, bc, b⟩) by rw [← HA.out, HST.out, Bool.true_and])
            clear HST HA
            go_wp2_with first
              | (refine wpList_build_to rfl 46 _ rfl [(0, .agg #[.int .i64 xk, .string (str xs), .string (str xt), .int .i64 xn, .slice xA xm xc, .slice xB xp xq])] rfl #[.int .i64 xk, .string (str xs), .string (str xt), .int .i64 xn, .slice xA xm xc, .slice xB xp xq] (asked_built ..) ?_)
              | (go_at_call 19; (with_reducible refine (HIX.out _ M.out).mono ?_); rintro e w4 ⟨rfl, b4⟩; have M := hid (M.out.below b4); clear b4 c0 c1 c2 c3 c4 c5 x0 x1 x2 x3 x4 x5 z0 z1 z2 z3 z4 z5 z6 z7 z8 z9 hW)
            go_roundw
            case rel => exact ⟨j + 1, by omega, by go_num, HA2, M⟩
            case measure => simp [intOf]; omega
          | false =>
            have HRF := hid (show r = false by rw [← HRR.out, ← HA.out, HST.out, Bool.false_and])
            clear HST HA
            go_wp2_with first
              | (refine wpList_build_to rfl 46 _ rfl [(0, .agg #[.int .i64 xk, .string (str xs), .string (str xt), .int .i64 xn, .slice xA xm xc, .slice xB xp xq])] rfl #[.int .i64 xk, .string (str xs), .string (str xt), .int .i64 xn, .slice xA xm xc, .slice xB xp xq] (asked_built ..) ?_)
              | (go_at_call 19; (with_reducible refine (HIX.out _ M.out).mono ?_); rintro e w4 ⟨rfl, b4⟩; have M := hid (M.out.below b4); clear b4 c0 c1 c2 c3 c4 c5 x0 x1 x2 x3 x4 x5 z0 z1 z2 z3 z4 z5 z6 z7 z8 z9 hW)
            go_ret
            exact ⟨by rw [HRF.out]; rfl, M.out.b⟩
        · have d1 : decide ((j : Int) < (ln : Int)) = false := by simp; omega
          have d1' : decide (j < ln) = false := by simpa using hlt
          have HRT := hid (show r = true by rw [← HRR.out, ← HA.out, List.drop_of_length_le (by rw [HLL.out]; omega)]; rfl)
          go_wp2_with fail
          go_ret
          exact ⟨by rw [HRT.out]; rfl, M.out.b⟩
theorem asks : ∀ f, Asks f
  | 0 => fun _ _ _ _ hm => absurd hm (fun h => h)
  | f + 1 => means_step f (asks f)
end Go.Proofs.YtonjadmldgloaaaGreatDoor
