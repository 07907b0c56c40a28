/-
  The document's disk, made; the size; clones. A part of the proof: see the head of the text that ends in 'Law'.
-/
import Derived.Test.YtkadehdbnkinlaaDk28
namespace Go.Proofs.Ytkadehdbnkinlaa
open Go.RowKit
set_option linter.unusedVariables false
set_option linter.unusedSimpArgs false
attribute [local go_sem] Oper.semAt_some

theorem size_st {w0 W : World} {d hb : Nat} {D : Dsk} (h : St w0 W d hb D) :
    Calls Try.prog 18 #[.pointer (some ⟨d, 0, none⟩)] W fun e w' => e = .returned (.int .i64 (D.has.length : Int)) ∧ W = w' := by
  obtain ⟨V, hV⟩ := h.at_
  have x0 := hV.cells.cell (j := 0) rfl
  clear h hV
  go_enter Try.func18, Try.ntmps18
  go_wp2
  go_ret
  exact ⟨rfl, rfl⟩
theorem noughts_any (W : World) : Calls Try.prog 34 #[] W fun e w' => e = .returned (SV (List.replicate 128 0)) ∧ Below W.heap.size W w' := by
  obtain ⟨i0, hi0, hz0, hz1, hz2⟩ := info_parts u8S.info
  have Hz1 := hid hz1
  have Hz2 := hid hz2
  have Hi0 := hid hi0
  have Hz0 := hid hz0
  clear hz1 hz2 hi0 hz0
  unfold SV
  go_enter Try.func34, Try.ntmps34
  go_wp2_with (
    refine wpList_make_full _ rfl (.const (.int .i64 128)) (.const (.int .i64 128)) 31 rfl W.heap.size 5 i0 (.int .u8 0) 1 Try.underlying31 Hi0.out Hz0.out Hz1.out .i64 .i64 128 128 128 rfl rfl rfl rfl (by rw [Hz2.out]; omega) (by unfold maxLen; omega) (Nat.le_refl _) ?_
    intro w1 ho1 hg1
    have hb1 := (Below.refl W.heap.size W).grown hg1 (Nat.le_refl _) (fun k hk => by cases hk)
    rw [made_one _ rfl 128] at ho1
    have ho : Oct w1 (some ⟨W.heap.size, 0, none⟩) 128 (List.replicate 128 0) := Oct.of_own (c := 128) (by
      rw [show (List.replicate 128 (0 : UInt8)).map B8 = List.replicate 128 (Value.int .u8 0) by rw [List.map_replicate]; rfl]
      exact ho1)
    have co := strP 128 ho
    have HB1 := hid hb1
    clear hg1 ho1 hb1 ho)
  go_ret
  exact ⟨rfl, HB1.out⟩
/-- A sector more. -/
theorem nw_end {w0 w2 w3 : World} {m : Nat} {VL : Value} {A3 : Option Addr} {D : Dsk} {AH : Option Addr} {cH c3 : Nat} {s : List UInt8} (u : Value) (hu : u = SV s) (r : RfAt w2 w0.heap.size m (.slice AH D.has.length cH) VL D) (hs : w0.heap.size ≤ w2.heap.size) (hn : D.has.length < 2048)
    (ho3 : w3.ownsRow w0.heap.size 9 1 (.slice A3 (D.has.length + 1) c3) (D.has.length + 1) (D.has.map SV ++ [u])) (hg3 : (w2.alloc (.cells #[u] 9)).grownBy w3 (Value.ownBlock (.slice AH D.has.length cH)))
    (hh3 : Value.ownBlock (.slice A3 (D.has.length + 1) c3) = Value.ownBlock (.slice AH D.has.length cH) ∨ Value.ownBlock (.slice A3 (D.has.length + 1) c3) = some (w2.alloc (.cells #[u] 9)).heap.size) :
    OwnE w3 m 53 [.slice AH D.has.length cH, VL, .int .i64 D.bud, .bool D.off] ∧ RSt w0 (w3.setCell ⟨m, 0, none⟩ (.slice A3 (D.has.length + 1) c3)) m { D with has := D.has ++ [s] } ∧ RLets w0 w2 (w3.setCell ⟨m, 0, none⟩ (.slice A3 (D.has.length + 1) c3)) ∧ Below w0.heap.size w2 (w3.setCell ⟨m, 0, none⟩ (.slice A3 (D.has.length + 1) c3)) := by
  subst hu
  have hA : Below w2.heap.size w2 (w2.alloc (.cells #[SV s] 9)) := (Below.refl _ _).alloc (Nat.le_refl _) _
  have hm3 := (r.cells.below hA).grown hg3 r.mh
  have hO : Only (RMine m (.slice AH D.has.length cH) VL) w2 w3 := (Only.of_below hA).trans (Only.of_grown (T := RMine m (.slice AH D.has.length cH) VL) hg3 (fun g e => .inr (.inl e))) (fun g h => .inl h)
  have hs3 : w3.ownsRow w0.heap.size 56 2 VL D.waits.length (D.waits.flatMap wtC) := own_only (T := fun g => Value.ownBlock (.slice AH D.has.length cH) = some g) r.ls ((Only.of_below (T := fun g => Value.ownBlock (.slice AH D.has.length cH) = some g) hA).trans (Only.of_grown hg3 (fun g e => e)) (fun g h => .inl h)) (fun g hg e => r.hl g e hg)
  have hml : m < w2.heap.size := r.cells.lt
  have hRL := RLets.of_only r (hO.trans (Only.of_set (T := RMine m (.slice AH D.has.length cH) VL) w3 ⟨m, 0, none⟩ (.slice A3 (D.has.length + 1) c3) rm_m) (fun g h => .inl h)) hs
  refine ⟨hm3, ⟨.slice A3 (D.has.length + 1) c3, VL, r.m0, hm3.set 0 _, ?_, row_far hs3 r.ml _, ?_, ?_, r.bd⟩, hRL, hRL.bel⟩
  · have hne : Value.ownBlock (.slice A3 (D.has.length + 1) c3) ≠ some m := by
      rcases hh3 with e | e
      · rw [e]; exact r.mh
      · rw [e]
        intro e2
        injection e2 with e2
        simp at e2
        omega
    have := row_far ho3 hne (i := 0) (.slice A3 (D.has.length + 1) c3)
    show World.ownsRow _ _ _ _ _ (D.has ++ [s]).length ((D.has ++ [s]).map SV)
    rw [show (D.has ++ [s]).length = D.has.length + 1 by simp, show (D.has ++ [s]).map SV = D.has.map SV ++ [SV s] by rw [List.map_append]; rfl]
    exact this
  · intro p hp
    have := r.wl p hp
    show 0 ≤ p.1 ∧ p.1 < ((D.has ++ [s]).length : Int)
    rw [List.length_append, List.length_singleton]
    omega
  · show (D.has ++ [s]).length ≤ 2048
    rw [List.length_append, List.length_singleton]
    omega
def noughtsL (j : Nat) : Dsk := ⟨List.replicate j (List.replicate 128 0), [], -1, false, [], 0⟩
theorem noughtsL_succ (j : Nat) : ({ noughtsL j with has := (noughtsL j).has ++ [List.replicate 128 0] } : Dsk) = noughtsL (j + 1) := by
  show (⟨List.replicate j (List.replicate 128 0) ++ [List.replicate 128 0], [], -1, false, [], 0⟩ : Dsk) = _
  rw [← List.replicate_succ']
  rfl
set_option maxRecDepth 100000 in
set_option maxHeartbeats 4000000 in
theorem rnew_any (n : Nat) (hn : n ≤ 2048) (w0 W : World) (hb0 : Below w0.heap.size w0 W) :
    Calls Try.prog 19 #[.int .i64 (n : Int)] W fun e w' => ∃ m, e = .returned (.pointer (some ⟨m, 0, none⟩)) ∧ RSt w0 w' m (noughtsL n) ∧ RLets w0 W w' := by
  have HB0 := hid hb0
  clear hb0
  obtain ⟨y, hy⟩ : ∃ y, str (List.replicate 128 (0 : UInt8)) = y := ⟨_, rfl⟩
  have HY := hid hy
  have HNO := hid (fun W' : World => (show Calls Try.prog 34 #[] W' (fun e w' => e = .returned (.string y) ∧ Below W'.heap.size W' w') from by rw [← hy]; exact noughts_any W'))
  clear hy
  go_enter Try.func19, Try.ntmps19
  go_wp2_with fail
  have hst : RSt w0 (W.alloc (.cells #[.slice none 0 0, .slice none 0 0, .int .i64 (-1), .bool false] 53)) W.heap.size (noughtsL 0) :=
    ⟨.slice none 0 0, .slice none 0 0, HB0.out.size, heap_alloc_new W _, World.ownsRow_nil _ _ _ _, World.ownsRow_nil _ _ _ _, (fun p hp => by cases hp), by show (0 : Nat) ≤ 2048; omega, by show -1 ≤ (-1 : Int) ∧ (-1 : Int) ≤ 9223372036854775807; omega⟩
  have HST := hid hst
  have HRL := hid (RLets.of_below (w0 := w0) ((Below.refl _ W).alloc (Nat.le_refl _) (.cells #[.slice none 0 0, .slice none 0 0, .int .i64 (-1), .bool false] 53)) HB0.out.size)
  clear hst
  go_loopw [4] (fun k wr => ∃ j : Nat, j ≤ n ∧ k = .int .i64 (j : Int) ∧ Hid (RSt w0 wr W.heap.size (noughtsL j) ∧ RLets w0 W wr)) (fun k wr => n - (intOf k).toNat)
  case atStart => exact ⟨0, by omega, rfl, hid ⟨HST.out, HRL.out⟩⟩
  case round =>
    clear HST HRL
    obtain ⟨j, hj, rfl, hI⟩ := hrel
    obtain ⟨m, hm⟩ : ∃ m, W.heap.size = m := ⟨_, rfl⟩
    rw [hm] at hI ⊢
    have HM := hid hm
    clear hm
    by_cases hlt : j < n
    · have d1 : decide ((j : Int) < (n : Int)) = true := by simp; omega
      have d1' : decide (j < n) = true := by simp; omega
      obtain ⟨VH, VL, r⟩ := hI.out.1
      obtain ⟨AH, cH, rfl, _⟩ := own_slice r.hs
      have hlj : (noughtsL j).has.length = j := by show (List.replicate j _).length = j; rw [List.length_replicate]
      rw [hlj] at r
      have HLJ := hid hlj
      have HR := hid r
      have HL := hid hI.out.2
      have hs0 : w0.heap.size ≤ wr.heap.size := Nat.le_trans HB0.out.size HL.out.bel.size
      have HS0 := hid hs0
      have x0 := r.cells.cell (j := 0) rfl
      clear r hI hlj hs0
      go_upto_region 5 with fail
      have q0 : wr.drew.cell? ⟨m, 0, none⟩ = some (.slice AH j cH) := x0
      have HX0 := hid x0
      refine wp_region_noPanic ?_
      refine wp_region_held_drew (S := (fun X => True)) (by kernel_rfl) (by first | assumption | trivial) (fun hHeld => ?_)
      refine wpAnyH_take (i := 0) (v := ?_) rfl (by kernel_rfl) (by kernel_rfl) (by kernel_rfl) (fun _ _ _ h => h) (Or.inl ⟨by kernel_rfl, ?_⟩) (by first | assumption | trivial) ?_
      rotate_left
      · (intro wS hSw; (try dsimp only at hSw); go_simp; try with_reducible rfl)
      (try simp only [List.append_eq, List.cons_append, List.nil_append, List.getElem_toArray, List.getElem_cons_succ, List.getElem_cons_zero, Act.put, List.setIfInBounds_toArray, List.set_cons_zero, List.set_cons_succ])
      refine wpAnyH_take (i := 1) (v := ?_) rfl (by kernel_rfl) (by kernel_rfl) (by kernel_rfl) (fun _ _ _ h => h) (Or.inl ⟨by kernel_rfl, ?_⟩) (by first | assumption | trivial) ?_
      rotate_left
      · (intro wS hSw; (try dsimp only at hSw); go_simp; try with_reducible rfl)
      (try simp only [List.append_eq, List.cons_append, List.nil_append, List.getElem_toArray, List.getElem_cons_succ, List.getElem_cons_zero, Act.put, List.setIfInBounds_toArray, List.set_cons_zero, List.set_cons_succ])
      refine wpAnyH_take (i := 2) (v := ?_) rfl (by kernel_rfl) (by kernel_rfl) (by kernel_rfl) (fun _ _ _ h => h) (Or.inl ⟨by kernel_rfl, ?_⟩) (by first | assumption | trivial) ?_
      rotate_left
      · (intro wS hSw; (try dsimp only at hSw); go_simp; try with_reducible rfl)
      (try simp only [List.append_eq, List.cons_append, List.nil_append, List.getElem_toArray, List.getElem_cons_succ, List.getElem_cons_zero, Act.put, List.setIfInBounds_toArray, List.set_cons_zero, List.set_cons_succ])
      refine wpAnyH_take (i := 3) (v := ?_) rfl (by kernel_rfl) (by kernel_rfl) (by kernel_rfl) (fun _ _ _ h => h) (Or.inl ⟨by kernel_rfl, ?_⟩) (by first | assumption | trivial) ?_
      rotate_left
      · (intro wS hSw; (try dsimp only at hSw); go_simp; try with_reducible rfl)
      (try simp only [List.append_eq, List.cons_append, List.nil_append, List.getElem_toArray, List.getElem_cons_succ, List.getElem_cons_zero, Act.put, List.setIfInBounds_toArray, List.set_cons_zero, List.set_cons_succ])
      refine wpAnyH_ready (rs := [4, 5]) (by kernel_rfl) (by simp) ?_
      refine AllReadyH.cons rfl (fun K hK => ?_) (AllReadyH.cons rfl (fun K hK => ?_) AllReadyH.nil)
      · go_simp
        go_wp2_with fail
        refine hK.out _ _ trivial (fun hHeld => ?_)
        clear hK K
        (try simp only [List.append_eq, List.cons_append, List.nil_append, List.getElem_toArray, List.getElem_cons_succ, List.getElem_cons_zero, Act.put, List.setIfInBounds_toArray, List.set_cons_zero, List.set_cons_succ])
        refine wpAnyH_ready (rs := [5]) (by kernel_rfl) (by simp) ?_
        refine AllReadyH.cons rfl (fun K hK => ?_) AllReadyH.nil
        go_simp
        (go_at_call 34; refine (HNO.out _).mono ?_; rintro e w6 ⟨rfl, b6⟩; have B6 := hid (HL.out.trans (RLets.of_below (show Below wr.heap.size wr w6 from (bq (Below.refl _ wr) 1).trans b6) HS0.out)); have R6 := hid (HR.out.below (show Below wr.heap.size wr w6 from (bq (Below.refl _ wr) 1).trans b6)); have HS6 := hid (Nat.le_trans HB0.out.size B6.out.bel.size); clear b6)
        go_wp2_with fail
        refine hK.out _ _ (by first | assumption | trivial) (fun hHeld => ?_)
        clear hK K
        (try simp only [List.append_eq, List.cons_append, List.nil_append, List.getElem_toArray, List.getElem_cons_succ, List.getElem_cons_zero, Act.put, List.setIfInBounds_toArray, List.set_cons_zero, List.set_cons_succ])
        refine wpAnyH_ready (rs := [6]) (by kernel_rfl) (by simp) ?_
        refine AllReadyH.cons rfl (fun K hK => ?_) AllReadyH.nil
        go_simp
        skip
        go_wp2_with fail
        refine hK.out _ _ (by first | assumption | trivial) (fun hHeld => ?_)
        clear hK K
        (try simp only [List.append_eq, List.cons_append, List.nil_append, List.getElem_toArray, List.getElem_cons_succ, List.getElem_cons_zero, Act.put, List.setIfInBounds_toArray, List.set_cons_zero, List.set_cons_succ])
        refine wpAnyH_ready (rs := [7]) (by kernel_rfl) (by simp) ?_
        refine AllReadyH.cons rfl (fun K hK => ?_) AllReadyH.nil
        rw [if_pos (by kernel_rfl)]
        have hAw : Below w6.heap.size w6 (w6.alloc (.cells #[.string y] 9)) := (Below.refl _ _).alloc (Nat.le_refl _) _
        refine wp_append_at (.tmp 16) (.tmp 18) strT rfl w0.heap.size (.slice AH j cH) j ((noughtsL j).has.map SV) rfl (by have := own_below R6.out.hs hAw; rw [HLJ.out] at this; exact this) (some ⟨w6.heap.size, 0, none⟩) 1 1 [.string y] rfl rfl (Row.of_block (heap_alloc_new w6 (Obj.cells #[.string y] 9))) (by simp [Value.oneCell']) (by simp only [maxLen]; omega) (by omega) (by have := HS6.out; simp; omega) ?_
        intro A3 c3 w3 ho3 hg3 hh3
        have hE := nw_end (D := noughtsL j) (s := List.replicate 128 0) (.string y) (by rw [← HY.out]; rfl) (by rw [HLJ.out]; exact R6.out) HS6.out (by rw [HLJ.out]; omega) (by rw [HLJ.out]; exact ho3) (by rw [HLJ.out]; exact hg3) (by rw [HLJ.out]; exact hh3)
        rw [HLJ.out, noughtsL_succ] at hE
        have y3 := hE.1.cell (j := 0) rfl
        have z3 := hE.1.frozen 0
        have HE := hid hE
        clear ho3 hg3 hh3 hE
        refine hK.out _ _ trivial (fun hHeld => ?_)
        clear hK K
        (try simp only [List.append_eq, List.cons_append, List.nil_append, List.getElem_toArray, List.getElem_cons_succ, List.getElem_cons_zero, Act.put, List.setIfInBounds_toArray, List.set_cons_zero, List.set_cons_succ])
        refine wpAnyH_take (i := 8) (v := ?_) rfl (by kernel_rfl) (by kernel_rfl) (by kernel_rfl) (fun _ _ _ h => h) (Or.inl ⟨by kernel_rfl, ?_⟩) (by first | assumption | trivial) ?_
        rotate_left
        · (intro wS hSw; (try dsimp only at hSw); go_simp; try with_reducible rfl)
        (try simp only [List.append_eq, List.cons_append, List.nil_append, List.getElem_toArray, List.getElem_cons_succ, List.getElem_cons_zero, Act.put, List.setIfInBounds_toArray, List.set_cons_zero, List.set_cons_succ])
        refine wpAnyH_take (i := 9) (v := ?_) rfl (by kernel_rfl) (by kernel_rfl) (by kernel_rfl) (fun _ _ _ h => h) (Or.inl ⟨by kernel_rfl, ?_⟩) (by first | assumption | trivial) ?_
        rotate_left
        · (intro wS hSw; (try dsimp only at hSw); go_simp; try with_reducible rfl)
        (try simp only [List.append_eq, List.cons_append, List.nil_append, List.getElem_toArray, List.getElem_cons_succ, List.getElem_cons_zero, Act.put, List.setIfInBounds_toArray, List.set_cons_zero, List.set_cons_succ])
        refine wpAnyH_ready (rs := [10]) (by kernel_rfl) (by simp) ?_
        refine AllReadyH.cons rfl (fun K hK => ?_) AllReadyH.nil
        go_simp
        skip
        go_wp2_with fail
        refine hK.out _ _ (by first | assumption | trivial) (fun hHeld => ?_)
        clear hK K
        (try simp only [List.append_eq, List.cons_append, List.nil_append, List.getElem_toArray, List.getElem_cons_succ, List.getElem_cons_zero, Act.put, List.setIfInBounds_toArray, List.set_cons_zero, List.set_cons_succ])
        refine wpAnyH_done (by kernel_rfl) ?_ _
        refine NoPanic.normal ?_
        go_wp2_with fail
        go_roundw
        case rel => exact ⟨j + 1, by omega, by go_num, hid ⟨HE.out.2.1, B6.out.trans HE.out.2.2.1⟩⟩
        case measure => simp [intOf]; omega
      · go_simp
        go_at_call 34
        refine (HNO.out _).mono ?_
        rintro e w6 ⟨rfl, b6⟩
        have B6 := hid (HL.out.trans (RLets.of_below (show Below wr.heap.size wr w6 from (bq (Below.refl _ wr) 1).trans b6) HS0.out))
        have R6 := hid (HR.out.below (show Below wr.heap.size wr w6 from (bq (Below.refl _ wr) 1).trans b6))
        have HS6 := hid (Nat.le_trans HB0.out.size B6.out.bel.size)
        have q6 := R6.out.cells.cell (j := 0) rfl
        clear b6
        go_wp2_with fail
        refine hK.out _ _ trivial (fun hHeld => ?_)
        clear hK K
        (try simp only [List.append_eq, List.cons_append, List.nil_append, List.getElem_toArray, List.getElem_cons_succ, List.getElem_cons_zero, Act.put, List.setIfInBounds_toArray, List.set_cons_zero, List.set_cons_succ])
        have q7 : (w6.alloc (.cells #[.string y] 9)).cell? ⟨m, 0, none⟩ = some (.slice AH j cH) := cells_keep ((Below.refl _ w6).alloc (Nat.le_refl _) _) q6
        refine wpAnyH_ready (rs := [4, 6]) (by kernel_rfl) (by simp) ?_
        refine AllReadyH.cons rfl (fun K hK => ?_) (AllReadyH.cons rfl (fun K hK => ?_) AllReadyH.nil)
        · go_simp
          go_wp2_with fail
          refine hK.out _ _ trivial (fun hHeld => ?_)
          clear hK K
          (try simp only [List.append_eq, List.cons_append, List.nil_append, List.getElem_toArray, List.getElem_cons_succ, List.getElem_cons_zero, Act.put, List.setIfInBounds_toArray, List.set_cons_zero, List.set_cons_succ])
          refine wpAnyH_ready (rs := [6]) (by kernel_rfl) (by simp) ?_
          refine AllReadyH.cons rfl (fun K hK => ?_) AllReadyH.nil
          go_simp
          skip
          go_wp2_with fail
          refine hK.out _ _ (by first | assumption | trivial) (fun hHeld => ?_)
          clear hK K
          (try simp only [List.append_eq, List.cons_append, List.nil_append, List.getElem_toArray, List.getElem_cons_succ, List.getElem_cons_zero, Act.put, List.setIfInBounds_toArray, List.set_cons_zero, List.set_cons_succ])
          refine wpAnyH_ready (rs := [7]) (by kernel_rfl) (by simp) ?_
          refine AllReadyH.cons rfl (fun K hK => ?_) AllReadyH.nil
          rw [if_pos (by kernel_rfl)]
          have hAw : Below w6.heap.size w6 (w6.alloc (.cells #[.string y] 9)) := (Below.refl _ _).alloc (Nat.le_refl _) _
          refine wp_append_at (.tmp 16) (.tmp 18) strT rfl w0.heap.size (.slice AH j cH) j ((noughtsL j).has.map SV) rfl (by have := own_below R6.out.hs hAw; rw [HLJ.out] at this; exact this) (some ⟨w6.heap.size, 0, none⟩) 1 1 [.string y] rfl rfl (Row.of_block (heap_alloc_new w6 (Obj.cells #[.string y] 9))) (by simp [Value.oneCell']) (by simp only [maxLen]; omega) (by omega) (by have := HS6.out; simp; omega) ?_
          intro A3 c3 w3 ho3 hg3 hh3
          have hE := nw_end (D := noughtsL j) (s := List.replicate 128 0) (.string y) (by rw [← HY.out]; rfl) (by rw [HLJ.out]; exact R6.out) HS6.out (by rw [HLJ.out]; omega) (by rw [HLJ.out]; exact ho3) (by rw [HLJ.out]; exact hg3) (by rw [HLJ.out]; exact hh3)
          rw [HLJ.out, noughtsL_succ] at hE
          have y3 := hE.1.cell (j := 0) rfl
          have z3 := hE.1.frozen 0
          have HE := hid hE
          clear ho3 hg3 hh3 hE
          refine hK.out _ _ trivial (fun hHeld => ?_)
          clear hK K
          (try simp only [List.append_eq, List.cons_append, List.nil_append, List.getElem_toArray, List.getElem_cons_succ, List.getElem_cons_zero, Act.put, List.setIfInBounds_toArray, List.set_cons_zero, List.set_cons_succ])
          refine wpAnyH_take (i := 8) (v := ?_) rfl (by kernel_rfl) (by kernel_rfl) (by kernel_rfl) (fun _ _ _ h => h) (Or.inl ⟨by kernel_rfl, ?_⟩) (by first | assumption | trivial) ?_
          rotate_left
          · (intro wS hSw; (try dsimp only at hSw); go_simp; try with_reducible rfl)
          (try simp only [List.append_eq, List.cons_append, List.nil_append, List.getElem_toArray, List.getElem_cons_succ, List.getElem_cons_zero, Act.put, List.setIfInBounds_toArray, List.set_cons_zero, List.set_cons_succ])
          refine wpAnyH_take (i := 9) (v := ?_) rfl (by kernel_rfl) (by kernel_rfl) (by kernel_rfl) (fun _ _ _ h => h) (Or.inl ⟨by kernel_rfl, ?_⟩) (by first | assumption | trivial) ?_
          rotate_left
          · (intro wS hSw; (try dsimp only at hSw); go_simp; try with_reducible rfl)
          (try simp only [List.append_eq, List.cons_append, List.nil_append, List.getElem_toArray, List.getElem_cons_succ, List.getElem_cons_zero, Act.put, List.setIfInBounds_toArray, List.set_cons_zero, List.set_cons_succ])
          refine wpAnyH_ready (rs := [10]) (by kernel_rfl) (by simp) ?_
          refine AllReadyH.cons rfl (fun K hK => ?_) AllReadyH.nil
          go_simp
          skip
          go_wp2_with fail
          refine hK.out _ _ (by first | assumption | trivial) (fun hHeld => ?_)
          clear hK K
          (try simp only [List.append_eq, List.cons_append, List.nil_append, List.getElem_toArray, List.getElem_cons_succ, List.getElem_cons_zero, Act.put, List.setIfInBounds_toArray, List.set_cons_zero, List.set_cons_succ])
          refine wpAnyH_done (by kernel_rfl) ?_ _
          refine NoPanic.normal ?_
          go_wp2_with fail
          go_roundw
          case rel => exact ⟨j + 1, by omega, by go_num, hid ⟨HE.out.2.1, B6.out.trans HE.out.2.2.1⟩⟩
          case measure => simp [intOf]; omega
        · go_simp
          go_wp2_with fail
          refine hK.out _ _ trivial (fun hHeld => ?_)
          clear hK K
          (try simp only [List.append_eq, List.cons_append, List.nil_append, List.getElem_toArray, List.getElem_cons_succ, List.getElem_cons_zero, Act.put, List.setIfInBounds_toArray, List.set_cons_zero, List.set_cons_succ])
          refine wpAnyH_ready (rs := [4]) (by kernel_rfl) (by simp) ?_
          refine AllReadyH.cons rfl (fun K hK => ?_) AllReadyH.nil
          go_simp
          skip
          go_wp2_with fail
          refine hK.out _ _ (by first | assumption | trivial) (fun hHeld => ?_)
          clear hK K
          (try simp only [List.append_eq, List.cons_append, List.nil_append, List.getElem_toArray, List.getElem_cons_succ, List.getElem_cons_zero, Act.put, List.setIfInBounds_toArray, List.set_cons_zero, List.set_cons_succ])
          refine wpAnyH_ready (rs := [7]) (by kernel_rfl) (by simp) ?_
          refine AllReadyH.cons rfl (fun K hK => ?_) AllReadyH.nil
          rw [if_pos (by kernel_rfl)]
          have hAw : Below w6.heap.size w6 (w6.alloc (.cells #[.string y] 9)) := (Below.refl _ _).alloc (Nat.le_refl _) _
          refine wp_append_at (.tmp 16) (.tmp 18) strT rfl w0.heap.size (.slice AH j cH) j ((noughtsL j).has.map SV) rfl (by have := own_below R6.out.hs hAw; rw [HLJ.out] at this; exact this) (some ⟨w6.heap.size, 0, none⟩) 1 1 [.string y] rfl rfl (Row.of_block (heap_alloc_new w6 (Obj.cells #[.string y] 9))) (by simp [Value.oneCell']) (by simp only [maxLen]; omega) (by omega) (by have := HS6.out; simp; omega) ?_
          intro A3 c3 w3 ho3 hg3 hh3
          have hE := nw_end (D := noughtsL j) (s := List.replicate 128 0) (.string y) (by rw [← HY.out]; rfl) (by rw [HLJ.out]; exact R6.out) HS6.out (by rw [HLJ.out]; omega) (by rw [HLJ.out]; exact ho3) (by rw [HLJ.out]; exact hg3) (by rw [HLJ.out]; exact hh3)
          rw [HLJ.out, noughtsL_succ] at hE
          have y3 := hE.1.cell (j := 0) rfl
          have z3 := hE.1.frozen 0
          have HE := hid hE
          clear ho3 hg3 hh3 hE
          refine hK.out _ _ trivial (fun hHeld => ?_)
          clear hK K
          (try simp only [List.append_eq, List.cons_append, List.nil_append, List.getElem_toArray, List.getElem_cons_succ, List.getElem_cons_zero, Act.put, List.setIfInBounds_toArray, List.set_cons_zero, List.set_cons_succ])
          refine wpAnyH_take (i := 8) (v := ?_) rfl (by kernel_rfl) (by kernel_rfl) (by kernel_rfl) (fun _ _ _ h => h) (Or.inl ⟨by kernel_rfl, ?_⟩) (by first | assumption | trivial) ?_
          rotate_left
          · (intro wS hSw; (try dsimp only at hSw); go_simp; try with_reducible rfl)
          (try simp only [List.append_eq, List.cons_append, List.nil_append, List.getElem_toArray, List.getElem_cons_succ, List.getElem_cons_zero, Act.put, List.setIfInBounds_toArray, List.set_cons_zero, List.set_cons_succ])
          refine wpAnyH_take (i := 9) (v := ?_) rfl (by kernel_rfl) (by kernel_rfl) (by kernel_rfl) (fun _ _ _ h => h) (Or.inl ⟨by kernel_rfl, ?_⟩) (by first | assumption | trivial) ?_
          rotate_left
          · (intro wS hSw; (try dsimp only at hSw); go_simp; try with_reducible rfl)
          (try simp only [List.append_eq, List.cons_append, List.nil_append, List.getElem_toArray, List.getElem_cons_succ, List.getElem_cons_zero, Act.put, List.setIfInBounds_toArray, List.set_cons_zero, List.set_cons_succ])
          refine wpAnyH_ready (rs := [10]) (by kernel_rfl) (by simp) ?_
          refine AllReadyH.cons rfl (fun K hK => ?_) AllReadyH.nil
          go_simp
          skip
          go_wp2_with fail
          refine hK.out _ _ (by first | assumption | trivial) (fun hHeld => ?_)
          clear hK K
          (try simp only [List.append_eq, List.cons_append, List.nil_append, List.getElem_toArray, List.getElem_cons_succ, List.getElem_cons_zero, Act.put, List.setIfInBounds_toArray, List.set_cons_zero, List.set_cons_succ])
          refine wpAnyH_done (by kernel_rfl) ?_ _
          refine NoPanic.normal ?_
          go_wp2_with fail
          go_roundw
          case rel => exact ⟨j + 1, by omega, by go_num, hid ⟨HE.out.2.1, B6.out.trans HE.out.2.2.1⟩⟩
          case measure => simp [intOf]; omega
    · have d1 : decide ((j : Int) < (n : Int)) = false := by simp; omega
      have d1' : decide (j < n) = false := by simp; omega
      have hjn : j = n := by omega
      subst hjn
      go_wp2
      go_ret
      exact ⟨m, rfl, hI.out.1, hI.out.2⟩
end Go.Proofs.Ytkadehdbnkinlaa
