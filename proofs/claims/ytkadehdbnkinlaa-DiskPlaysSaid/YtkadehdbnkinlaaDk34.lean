/-
  DiskPlays: the walk. A part of the proof: see the head of the text that ends in 'Law'.
-/
import Derived.Test.YtkadehdbnkinlaaDk33
namespace Go.Proofs.Ytkadehdbnkinlaa
open Go.RowKit
set_option linter.unusedVariables false
set_option linter.unusedSimpArgs false
attribute [local go_sem] Oper.semAt_some

theorem flat_boolP : ∀ l : List Bool, l.flatMap (fun b : Bool => [Value.bool b]) = l.map boolV
  | [] => rfl
  | b :: l => by rw [List.flatMap_cons, flat_boolP l]; rfl
theorem all_pb {w0 W : World} {d hb m bx : Nat} {D R : Dsk} {bc : List Value} (h : Pb w0 W d hb m bx D R bc) (c : UInt8) :
    Calls Try.prog 9 #[B8 c] W fun e w' => ∃ g, e = .returned (.slice (some ⟨g, 0, none⟩) 128 128) ∧ OwnC w' g 5 ((secA c).map B8) ∧ w0.heap.size ≤ g ∧ Pb w0 w' d hb m bx D R bc :=
  (all_any c W).mono fun e w' ⟨he, ho, hb⟩ => ⟨_, he, ho, h.st.bel.size, h.below hb⟩
theorem all77 (W : World) : Calls Try.prog 9 #[.int .u8 77] W fun e w' => ∃ g, e = .returned (.slice (some ⟨g, 0, none⟩) 128 128) ∧ OwnC w' g 5 ((secA 77).map B8) ∧ Below W.heap.size W w' :=
  (all_any 77 W).mono fun e w' ⟨he, ho, hb⟩ => ⟨_, he, ho, hb⟩
theorem OwnC.pre {w : World} {g : Nat} {T : TypeId} {l : List UInt8} (h : OwnC w g T (l.map B8)) (k : Nat) : OwnC w g T ((l.take k).map B8) := by
  obtain ⟨cur, hh, hc⟩ := h
  refine ⟨cur, hh, fun j u hu => hc j u ?_⟩
  rw [List.map_take, List.getElem?_take] at hu
  split at hu
  · exact hu
  · cases hu
theorem RSt.has0 {w0 W : World} {m : Nat} {D : Dsk} (h : RSt w0 W m D) (k : Nat) (hk : k < D.has.length) : ∃ g c, W.cell? ⟨m, 0, none⟩ = some (.slice (some ⟨g, 0, none⟩) D.has.length c) ∧ W.cell? ⟨g, k, none⟩ = some (.string (str (D.has.getD k []))) := by
  obtain ⟨VH, VL, q⟩ := h
  obtain ⟨A, c, rfl, hA⟩ := own_slice q.hs
  obtain ⟨g, rfl⟩ := hA (by omega)
  exact ⟨g, c, q.cells.cell (j := 0) rfl, q.hcell k hk⟩
theorem RSt.wait0 {w0 W : World} {m : Nat} {D : Dsk} (h : RSt w0 W m D) : ∃ A c, W.cell? ⟨m, 1, none⟩ = some (.slice A D.waits.length c) ∧ W.cell? ⟨m, 3, none⟩ = some (.bool D.off) ∧ ∀ (k : Nat) (hk : k < D.waits.length), ∃ g, A = some ⟨g, 0, none⟩ ∧ W.cell? ⟨g, k * 2, none⟩ = some (.int .i64 (D.waits[k]'hk).1) := by
  obtain ⟨VH, VL, q⟩ := h
  obtain ⟨A, c, rfl, hA⟩ := own_slice q.ls
  refine ⟨A, c, q.cells.cell (j := 1) rfl, q.cells.cell (j := 3) rfl, fun k hk => ?_⟩
  obtain ⟨g, rfl⟩ := hA (by omega)
  exact ⟨g, rfl, (q.wcell k hk).1⟩
theorem act_info : (Try.prog.info? 30).map (·.size) = some 5 := by kernel_rfl
theorem box_act (w : World) (old xs : Array Value) : (w.alloc (.cells old 30)).setRow w.heap.size xs = w.alloc (.cells xs 30) := World.setRow_alloc_new w _ _ _
theorem OwnC.row_ne {w : World} {g b0 n size : Nat} {T e : TypeId} {v : Value} {xs ys : List Value} (a : OwnC w g T xs) (h : w.ownsRow b0 e size v n ys) (hTe : T ≠ e) : v.ownBlock ≠ some g := by
  obtain ⟨cur, hg, _⟩ := a
  exact OwnE.row_ne (xs := cur.toList) hg h hTe
theorem OwnC.ne {w : World} {g h : Nat} {T U : TypeId} {xs ys : List Value} (a : OwnC w g T xs) (b : OwnE w h U ys) (hTU : T ≠ U) : g ≠ h := by
  obtain ⟨cur, hg, _⟩ := a
  exact OwnE.type_ne (xs := cur.toList) hg b hTU
/-- A cell of the law's own octets is written. -/
theorem Pb.poke {w0 W : World} {d hb m bx g i : Nat} {D R : Dsk} {bc xs : List Value} (h : Pb w0 W d hb m bx D R bc) (hg : OwnC W g 5 xs) (h0 : w0.heap.size ≤ g) (v : Value) : Pb w0 (W.setCell ⟨g, i, none⟩ v) d hb m bx D R bc := by
  obtain ⟨V, hV⟩ := h.st.at_
  obtain ⟨VH, VL, k⟩ := h.rs
  exact ⟨⟨⟨V, hV.d0, hV.h0, hV.cells.far (hg.ne hV.cells (by decide)).symm _, hV.sect.far (hg.ne hV.sect (by decide)).symm _, row_far hV.wait (hg.row_ne hV.wait (by decide)) _, hV.len, hV.wlen, hV.nb, hV.bd⟩, h.st.bel.setCell h0 _⟩,
    ⟨VH, VL, k.m0, k.cells.far (hg.ne k.cells (by decide)).symm _, row_far k.hs (hg.row_ne k.hs (by decide)) _, row_far k.ls (hg.row_ne k.ls (by decide)) _, k.wl, k.nb, k.bd⟩, h.box.far (hg.ne h.box (by decide)).symm _⟩
/-- The document's budget is laid. -/
theorem Pb.bud {w0 W : World} {d hb m bx : Nat} {D R : Dsk} {bc : List Value} (h : Pb w0 W d hb m bx D R bc) (k : Int) (hk : -1 ≤ k ∧ k ≤ 9223372036854775807) : Pb w0 (W.setCell ⟨m, 2, none⟩ (.int .i64 k)) d hb m bx D { R with bud := k } bc := by
  obtain ⟨VH, VL, q⟩ := h.rs
  have hO : Only (RMine m VH VL) W (W.setCell ⟨m, 2, none⟩ (.int .i64 k)) := Only.of_set W ⟨m, 2, none⟩ _ rm_m
  exact h.rlets ⟨VH, VL, q.bud_set k hk⟩ (RLets.of_only q hO h.st.bel.size)
set_option maxRecDepth 100000 in
set_option maxHeartbeats 8000000 in
theorem playsW (n : Nat) (h1 : 1 ≤ n) (h2 : n ≤ 2048) (na c : Nat) (A : Option Addr) (l : List ActV) (w : World) (ha : ActsIn w A na c l) :
    Calls Try.prog 6 #[.int .i64 (n : Int), .slice A na c] w fun e w' => e = .returned (.bool true) ∧ Below w.heap.size w w' := by
  have HA := hid ha
  have HAL := hid ha.2.2.1
  have H1 := hid h1
  have H2 := hid h2
  have d1 : decide ((n : Int) < 1) = false := by simp; omega
  have d1' : decide (n < 1) = false := by simp; omega
  have d2 : decide ((2048 : Int) < (n : Int)) = false := by simp; omega
  have d2' : decide (2048 < n) = false := by simp; omega
  clear ha h1 h2
  go_enter Try.func6, Try.ntmps6
  go_wp2_with (first | (go_at_call 7; refine (new_st n H1.out H2.out w w (Below.refl _ _)).mono ?_; rintro e w1 ⟨d, hb, rfl, s1, b1⟩; have S := hid s1; clear s1 b1) | (go_at_call 18; (with_reducible refine (size_st S.out).mono ?_); rintro e w1 ⟨rfl, rfl⟩; rw [show (newD n).has.length = n from List.length_replicate]) | (go_at_call 16; (with_reducible refine (power_st S.out).mono ?_); rintro e w1 ⟨rfl, rfl⟩; rw [show (newD n).off = false from rfl]) | (go_at_call 19; refine (rnew_any n H2.out w _ S.out.bel).mono ?_; rintro e w2 ⟨m, rfl, r2, l2⟩; have S := hid (S.out.rlets l2); have R := hid (r2.room (D := newD n) rfl rfl rfl rfl); clear r2 l2))
  go_loopw [5, 8] (fun dv i wr => ∃ (d hb : Nat) (D : Dsk) (j : Nat), j ≤ 60 ∧ dv = .pointer (some ⟨d, 0, none⟩) ∧ i = .int .i64 (j : Int) ∧ Hid (St w wr d hb D ∧ RSt w wr m D ∧ D.has.length = n ∧ D.waits.length ≤ j)) (fun dv i wr => 60 - (intOf i).toNat)
  case atStart => exact ⟨d, hb, newD n, 0, by omega, rfl, rfl, hid ⟨S.out, R.out, List.length_replicate, Nat.le_refl _⟩⟩
  case round =>
    clear S R
    obtain ⟨d, hb, D, j, hj, rfl, rfl, hI⟩ := hrel
    by_cases hlt : j < na ∧ j < 60
    · obtain ⟨ab, ao, rfl, hcell⟩ := HA.out.cell (by omega)
      have hjl : j < l.length := by rw [HAL.out]; exact hlt.1
      have hc := hcell j hjl
      have hok := HA.out.2.2.2.2 _ (List.getElem_mem hjl)
      obtain ⟨a, ha⟩ : ∃ a, l[j]'hjl = a := ⟨_, rfl⟩
      rw [ha] at hc hok
      obtain ⟨aD, aI, aC, aS, aK⟩ := a
      dsimp only at hc hok
      have d1 : decide ((j : Int) < (na : Int)) = true := by simp; omega
      have d2 : decide ((j : Int) < 60) = true := by simp; omega
      have d1' : decide (j < na) = true := by simp; omega
      have d2' : decide (j < 60) = true := by simp; omega
      have i0 : (0 : Int) ≤ (j : Int) := by omega
      have i1 : (j : Int) < (na : Int) := by omega
      have i2 : (j : Int).toNat = j := by omega
      have HOK := hid hok
      have HLT := hid hlt
      have c0 := cells_keep hI.out.1.bel hc.1
      have c1 := cells_keep hI.out.1.bel hc.2.1
      have c2 := cells_keep hI.out.1.bel hc.2.2.1
      have c3 := cells_keep hI.out.1.bel hc.2.2.2.1
      have c4 := cells_keep hI.out.1.bel hc.2.2.2.2
      have HI := hid hI.out
      clear hc hcell ha hok hI hlt hjl
      obtain ⟨kA, kn, kc, ks⟩ := aK
      have e4 : (SlOf.val ⟨kA, kn, kc, ks⟩ : Value) = .slice kA kn kc := rfl
      rw [e4] at c4
      clear e4
      have bA : Below wr.heap.size wr (wr.alloc (.cells #[.int .i64 aD, .int .i64 aI, B8 aC, .bool aS, .slice kA kn kc] 30)) := (Below.refl _ _).alloc (Nat.le_refl _) _
      have P := hid (show Pb w (wr.alloc (.cells #[.int .i64 aD, .int .i64 aI, B8 aC, .bool aS, .slice kA kn kc] 30)) d hb m wr.heap.size D D [.int .i64 aD, .int .i64 aI, B8 aC, .bool aS, .slice kA kn kc] from ⟨HI.out.1.below bA, HI.out.2.1.below bA, heap_alloc_new wr _⟩)
      have HN := hid HI.out.2.2.1
      have HWJ := hid HI.out.2.2.2
      clear HI bA
      go_upto_block 2 with (
        refine wpList_store_row rfl 30 (.tmp 9) (.tmp 78) rfl wr.heap.size #[.int .i64 aD, .int .i64 aI, B8 aC, .bool aS, .slice kA kn kc] rfl rfl 30 #[.int .i64 0, .int .i64 0, .int .u8 0, .bool false, .slice none 0 0] (heap_alloc_new wr _) act_info rfl (by simp [B8, Value.oneCell']) ?_
        rw [box_act]
        have y0 := P.out.box.cell (j := 0) rfl)
      clear y0 c0 c1 c2 c3 c4
      generalize wr.heap.size = bx at P ⊢
      generalize wr.alloc (.cells #[.int .i64 aD, .int .i64 aI, B8 aC, .bool aS, .slice kA kn kc] 30) = wa at P ⊢
      go_cut [4, 5] (fun r dv wx => ∃ (d2 hb2 : Nat) (D2 : Dsk), dv = .pointer (some ⟨d2, 0, none⟩) ∧ Hid (St w wx d2 hb2 D2 ∧ RSt w wx m D2 ∧ D2.has.length = n ∧ D2.waits.length ≤ j + 1))
      case first =>
        have hbw := HWJ.out
        have y0 := P.out.box.cell (j := 0) rfl
        have y1 := P.out.box.cell (j := 1) rfl
        have y2 := P.out.box.cell (j := 2) rfl
        have y3 := P.out.box.cell (j := 3) rfl
        have y4 := P.out.box.cell (j := 4) rfl
        have hw : D.waits.length ≤ 100000 := by omega
        have HWL := hid hw
        clear hbw hw
        by_cases h0 : aD = 0
        · as_aux_lemma =>
            subst h0
            obtain ⟨qa, hqa⟩ : ∃ q, readR D aI = q := ⟨_, rfl⟩
            obtain ⟨r1, k1⟩ := qa
            have HRD := hid (read_pb P.out aI HWL.out)
            rw [hqa] at HRD
            have HQA := hid hqa
            have hss := str_ne (rfl : r1 = r1)
            have hkk : ((k1 : Int) != (k1 : Int)) = false := by simp
            clear hqa
            go_wp2_with (first
              | (go_at_call 11
                 refine HRD.out.mono ?_
                 rintro e w2 ⟨A2, n2, c2, rfl, o2, p2, b2⟩
                 have P := hid p2
                 have x2 := strP c2 o2
                 clear y1 y2 y3 y4
                 have y1 := P.out.box.cell (j := 1) rfl
                 have y2 := P.out.box.cell (j := 2) rfl
                 have y3 := P.out.box.cell (j := 3) rfl
                 have y4 := P.out.box.cell (j := 4) rfl
                 clear o2 p2 b2)
              | (go_at_call 20
                 refine (rread_any P.out.rs P.out.st.bel.size aI HWL.out).mono ?_
                 rintro e w3 ⟨he, rfl⟩
                 rw [HQA.out] at he
                 unfold SV at he
                 subst he))
            go_meet
            exact ⟨d, hb, D, rfl, hid ⟨P.out.st, P.out.rs, HN.out, by have := HWJ.out; omega⟩⟩
        by_cases h1 : aD = 1
        · subst h1
          obtain ⟨s, nb, hsn, hsl, hnb⟩ : ∃ (s : List UInt8) (nb : Nat), s = (secA aC).take nb ∧ s.length = nb ∧ ((aS = true ∧ nb = 127) ∨ (aS = false ∧ nb = 128)) := by
            cases aS with
            | true => exact ⟨_, 127, rfl, by rw [List.length_take, secA_len]; omega, .inl ⟨rfl, rfl⟩⟩
            | false => exact ⟨_, 128, rfl, by rw [List.length_take, secA_len]; omega, .inr ⟨rfl, rfl⟩⟩
          have HSN := hid hsn
          have HSL := hid hsl
          clear hsn hsl
          obtain ⟨qa, hqa⟩ : ∃ q, writeR D aI s = q := ⟨_, rfl⟩
          have hwl := writeR_len D aI s
          rw [hqa] at hwl
          obtain ⟨D2, k1⟩ := qa
          dsimp only at hwl
          have HQA := hid hqa
          have HLE := hid hwl
          have hkk : ((k1 : Int) != (k1 : Int)) = false := by simp
          clear hqa hwl
          rcases hnb with ⟨rfl, rfl⟩ | ⟨rfl, rfl⟩
          · as_aux_lemma =>
              go_upto_region 28 with (
                go_at_call 9
                refine (all_pb P.out aC).mono ?_
                rintro e w2 ⟨g, rfl, o2, z2, p2⟩
                have P := hid p2
                have o3 := o2.pre 127
                rw [← HSN.out] at o3
                have O := hid o3
                have O0 := hid o2
                have x2 := strP 128 (show Oct w2 (some ⟨g, 0, none⟩) 127 s from ⟨HSL.out, o3.row⟩)
                have HZ := hid z2
                clear y1 y2 y3 y4
                have y1 := P.out.box.cell (j := 1) rfl
                have y2 := P.out.box.cell (j := 2) rfl
                have y3 := P.out.box.cell (j := 3) rfl
                have y4 := P.out.box.cell (j := 4) rfl
                clear p2 o2 o3 z2)
              have P := hid (P.out.below (drew_below _))
              have O := hid O.out.drew
              have O0 := hid O0.out.drew
              have hS := P.out.box.cell (j := 1) rfl
              clear y0 y1 y2 y3 y4 x2
              refine wp_region_noPanic ?_
              refine wp_region_held_drew (S := (fun X => X.cell? ⟨bx, 1, none⟩ = some (.int .i64 aI))) (by kernel_rfl) (by first | assumption | trivial) (fun hHeld => ?_)
              refine wpAnyH_take (i := 0) (v := ?_) rfl (by kernel_rfl) (by kernel_rfl) (by kernel_rfl) (fun _ _ _ h => h) (Or.inl ⟨by kernel_rfl, ?_⟩) (by first | assumption | trivial) ?_
              rotate_left
              · (intro wS hSw; (try dsimp only at hSw); go_simp; try with_reducible rfl)
              (try simp only [List.append_eq, List.cons_append, List.nil_append, List.getElem_toArray, List.getElem_cons_succ, List.getElem_cons_zero, Act.put, List.setIfInBounds_toArray, List.set_cons_zero, List.set_cons_succ])
              refine wpAnyH_take (i := 1) (v := ?_) rfl (by kernel_rfl) (by kernel_rfl) (by kernel_rfl) (fun _ _ _ h => h) (Or.inl ⟨by kernel_rfl, ?_⟩) (by first | assumption | trivial) ?_
              rotate_left
              · (intro wS hSw; (try dsimp only at hSw); go_simp; try with_reducible rfl)
              (try simp only [List.append_eq, List.cons_append, List.nil_append, List.getElem_toArray, List.getElem_cons_succ, List.getElem_cons_zero, Act.put, List.setIfInBounds_toArray, List.set_cons_zero, List.set_cons_succ])
              refine wpAnyH_take (i := 2) (v := ?_) rfl (by kernel_rfl) (by kernel_rfl) (by kernel_rfl) (fun _ _ _ h => h) (Or.inl ⟨by kernel_rfl, ?_⟩) (by first | assumption | trivial) ?_
              rotate_left
              · (intro wS hSw; (try dsimp only at hSw); go_simp; try with_reducible rfl)
              (try simp only [List.append_eq, List.cons_append, List.nil_append, List.getElem_toArray, List.getElem_cons_succ, List.getElem_cons_zero, Act.put, List.setIfInBounds_toArray, List.set_cons_zero, List.set_cons_succ])
              refine wpAnyH_take (i := 3) (v := ?_) rfl (by kernel_rfl) (by kernel_rfl) (by kernel_rfl) (fun _ _ _ h => h) (Or.inl ⟨by kernel_rfl, ?_⟩) (by first | assumption | trivial) ?_
              rotate_left
              · (intro wS hSw; (try dsimp only at hSw); go_simp; try with_reducible rfl)
              (try simp only [List.append_eq, List.cons_append, List.nil_append, List.getElem_toArray, List.getElem_cons_succ, List.getElem_cons_zero, Act.put, List.setIfInBounds_toArray, List.set_cons_zero, List.set_cons_succ])
              refine wpAnyH_take (i := 5) (v := ?_) rfl (by kernel_rfl) (by kernel_rfl) (by kernel_rfl) (fun _ _ _ h => h) (Or.inl ⟨by kernel_rfl, ?_⟩) (by first | assumption | trivial) ?_
              rotate_left
              · (intro wS hSw; (try dsimp only at hSw); go_simp; try with_reducible rfl)
              (try simp only [List.append_eq, List.cons_append, List.nil_append, List.getElem_toArray, List.getElem_cons_succ, List.getElem_cons_zero, Act.put, List.setIfInBounds_toArray, List.set_cons_zero, List.set_cons_succ])
              refine wpAnyH_take (i := 6) (v := ?_) rfl (by kernel_rfl) (by kernel_rfl) (by kernel_rfl) (fun _ _ _ h => h) (Or.inl ⟨by kernel_rfl, ?_⟩) (by first | assumption | trivial) ?_
              rotate_left
              · (intro wS hSw; (try dsimp only at hSw); go_simp; try with_reducible rfl)
              (try simp only [List.append_eq, List.cons_append, List.nil_append, List.getElem_toArray, List.getElem_cons_succ, List.getElem_cons_zero, Act.put, List.setIfInBounds_toArray, List.set_cons_zero, List.set_cons_succ])
              refine wpAnyH_take (i := 7) (v := ?_) rfl (by kernel_rfl) (by kernel_rfl) (by kernel_rfl) (fun _ _ _ h => h) (Or.inl ⟨by kernel_rfl, ?_⟩) (by first | assumption | trivial) ?_
              rotate_left
              · (intro wS hSw; (try dsimp only at hSw); go_simp; try with_reducible rfl)
              (try simp only [List.append_eq, List.cons_append, List.nil_append, List.getElem_toArray, List.getElem_cons_succ, List.getElem_cons_zero, Act.put, List.setIfInBounds_toArray, List.set_cons_zero, List.set_cons_succ])
              refine wpAnyH_take (i := 8) (v := ?_) rfl (by kernel_rfl) (by kernel_rfl) (by kernel_rfl) (fun _ _ _ h => h) (Or.inl ⟨by kernel_rfl, ?_⟩) (by first | assumption | trivial) ?_
              rotate_left
              · (intro wS hSw; (try dsimp only at hSw); go_simp; try with_reducible rfl)
              (try simp only [List.append_eq, List.cons_append, List.nil_append, List.getElem_toArray, List.getElem_cons_succ, List.getElem_cons_zero, Act.put, List.setIfInBounds_toArray, List.set_cons_zero, List.set_cons_succ])
              refine wpAnyH_ready (rs := [4]) (by kernel_rfl) (by simp) ?_
              refine AllReadyH.cons rfl (fun K hK => ?_) AllReadyH.nil
              go_simp
              (go_at_call 8; refine (write_pb P.out aI g s 127 HSL.out O.out HWL.out).mono ?_; rintro e w4 ⟨rfl, p4, k4⟩; rw [HQA.out]; rw [HQA.out] at p4; have hS := p4.box.cell (j := 1) rfl; have O0 := hid (k4 _ O0.out); have P := hid p4; clear p4 k4 hHeld)
              go_wp2_with fail
              refine hK.out _ _ (by first | assumption | trivial) (fun hHeld => ?_)
              clear hK K
              (try simp only [List.append_eq, List.cons_append, List.nil_append, List.getElem_toArray, List.getElem_cons_succ, List.getElem_cons_zero, Act.put, List.setIfInBounds_toArray, List.set_cons_zero, List.set_cons_succ])
              refine wpAnyH_ready (rs := [9]) (by kernel_rfl) (by simp) ?_
              refine AllReadyH.cons rfl (fun K hK => ?_) AllReadyH.nil
              go_simp
              (go_at_call 21; refine (rwrite_pb P.out aI s HWL.out).mono ?_; rintro e w5 ⟨rfl, p5, k5⟩; rw [HQA.out]; rw [HQA.out] at p5; have hS := p5.box.cell (j := 1) rfl; have O0 := hid (k5 _ _ O0.out); have P := hid p5; clear p5 k5 hHeld)
              go_wp2_with fail
              refine hK.out _ _ (by first | assumption | trivial) (fun hHeld => ?_)
              clear hK K
              (try simp only [List.append_eq, List.cons_append, List.nil_append, List.getElem_toArray, List.getElem_cons_succ, List.getElem_cons_zero, Act.put, List.setIfInBounds_toArray, List.set_cons_zero, List.set_cons_succ])
              refine wpAnyH_take (i := 10) (v := ?_) rfl (by kernel_rfl) (by kernel_rfl) (by kernel_rfl) (fun _ _ _ h => h) (Or.inl ⟨by kernel_rfl, ?_⟩) (by first | assumption | trivial) ?_
              rotate_left
              · (intro wS hSw; (try dsimp only at hSw); go_simp; try with_reducible rfl)
              (try simp only [List.append_eq, List.cons_append, List.nil_append, List.getElem_toArray, List.getElem_cons_succ, List.getElem_cons_zero, Act.put, List.setIfInBounds_toArray, List.set_cons_zero, List.set_cons_succ])
              refine wpAnyH_done (by kernel_rfl) ?_ _
              refine NoPanic.normal ?_
              go_wp2_with fail
              clear hS hHeld
              have P5 := P
              have O5 := O0
              clear P O O0
              go_loopw [16] (fun kk wx => ∃ (j2 : Nat) (xs : List Value), j2 ≤ 127 ∧ kk = .int .i64 (j2 : Int) ∧ Hid (Pb w wx d hb m bx D2 D2 [.int .i64 1, .int .i64 aI, B8 aC, .bool true, .slice kA kn kc] ∧ OwnC wx g 5 xs ∧ xs.length = 128)) (fun kk wx => 127 - (intOf kk).toNat)
              case atStart => exact ⟨0, _, by omega, rfl, hid ⟨P5.out, O5.out, by rw [List.length_map, secA_len]⟩⟩
              case round =>
                clear P5 O5
                obtain ⟨j2, xs, hj2, rfl, hI2⟩ := hrel
                by_cases hlt2 : j2 < 127
                · have e1 : decide ((j2 : Int) < 127) = true := by simp; omega
                  have e1' : decide (j2 < 127) = true := by simp; omega
                  have z0 : (0 : Int) ≤ (j2 : Int) := by omega
                  have z1 : (j2 : Int) < 127 := by omega
                  obtain ⟨v, hv⟩ : ∃ v, xs[j2]? = some v := ⟨_, List.getElem?_eq_getElem (by have := hI2.out.2.2; omega)⟩
                  have x0 := hI2.out.2.1.cell hv
                  have x1 := hI2.out.2.1.frozen j2
                  have HNP := hid (hI2.out.1.poke (i := j2) hI2.out.2.1 HZ.out (.int .u8 99))
                  have HNO := hid (hI2.out.2.1.set j2 (.int .u8 99))
                  have HNL := hid hI2.out.2.2
                  clear hv hI2
                  go_wp2_with fail
                  go_roundw
                  case rel => exact ⟨j2 + 1, _, by omega, by go_num, hid ⟨HNP.out, HNO.out, by rw [List.length_set]; exact HNL.out⟩⟩
                  case measure => simp [intOf]; omega
                · have e1 : decide ((j2 : Int) < 127) = false := by simp; omega
                  have e1' : decide (j2 < 127) = false := by simp; omega
                  have HI2 := hid hI2.out
                  clear hI2
                  go_wp2_with fail
                  go_meet
                  exact ⟨d, hb, D2, rfl, hid ⟨HI2.out.1.st, HI2.out.1.rs, HLE.out.1.trans HN.out, by have := HWJ.out; have := HLE.out.2; omega⟩⟩
          · as_aux_lemma =>
              go_upto_region 28 with (
                go_at_call 9
                refine (all_pb P.out aC).mono ?_
                rintro e w2 ⟨g, rfl, o2, z2, p2⟩
                have P := hid p2
                have o3 := o2.pre 128
                rw [← HSN.out] at o3
                have O := hid o3
                have O0 := hid o2
                have x2 := strP 128 (show Oct w2 (some ⟨g, 0, none⟩) 128 s from ⟨HSL.out, o3.row⟩)
                have HZ := hid z2
                clear y1 y2 y3 y4
                have y1 := P.out.box.cell (j := 1) rfl
                have y2 := P.out.box.cell (j := 2) rfl
                have y3 := P.out.box.cell (j := 3) rfl
                have y4 := P.out.box.cell (j := 4) rfl
                clear p2 o2 o3 z2)
              have P := hid (P.out.below (drew_below _))
              have O := hid O.out.drew
              have O0 := hid O0.out.drew
              have hS := P.out.box.cell (j := 1) rfl
              clear y0 y1 y2 y3 y4 x2
              refine wp_region_noPanic ?_
              refine wp_region_held_drew (S := (fun X => X.cell? ⟨bx, 1, none⟩ = some (.int .i64 aI))) (by kernel_rfl) (by first | assumption | trivial) (fun hHeld => ?_)
              refine wpAnyH_take (i := 0) (v := ?_) rfl (by kernel_rfl) (by kernel_rfl) (by kernel_rfl) (fun _ _ _ h => h) (Or.inl ⟨by kernel_rfl, ?_⟩) (by first | assumption | trivial) ?_
              rotate_left
              · (intro wS hSw; (try dsimp only at hSw); go_simp; try with_reducible rfl)
              (try simp only [List.append_eq, List.cons_append, List.nil_append, List.getElem_toArray, List.getElem_cons_succ, List.getElem_cons_zero, Act.put, List.setIfInBounds_toArray, List.set_cons_zero, List.set_cons_succ])
              refine wpAnyH_take (i := 1) (v := ?_) rfl (by kernel_rfl) (by kernel_rfl) (by kernel_rfl) (fun _ _ _ h => h) (Or.inl ⟨by kernel_rfl, ?_⟩) (by first | assumption | trivial) ?_
              rotate_left
              · (intro wS hSw; (try dsimp only at hSw); go_simp; try with_reducible rfl)
              (try simp only [List.append_eq, List.cons_append, List.nil_append, List.getElem_toArray, List.getElem_cons_succ, List.getElem_cons_zero, Act.put, List.setIfInBounds_toArray, List.set_cons_zero, List.set_cons_succ])
              refine wpAnyH_take (i := 2) (v := ?_) rfl (by kernel_rfl) (by kernel_rfl) (by kernel_rfl) (fun _ _ _ h => h) (Or.inl ⟨by kernel_rfl, ?_⟩) (by first | assumption | trivial) ?_
              rotate_left
              · (intro wS hSw; (try dsimp only at hSw); go_simp; try with_reducible rfl)
              (try simp only [List.append_eq, List.cons_append, List.nil_append, List.getElem_toArray, List.getElem_cons_succ, List.getElem_cons_zero, Act.put, List.setIfInBounds_toArray, List.set_cons_zero, List.set_cons_succ])
              refine wpAnyH_take (i := 3) (v := ?_) rfl (by kernel_rfl) (by kernel_rfl) (by kernel_rfl) (fun _ _ _ h => h) (Or.inl ⟨by kernel_rfl, ?_⟩) (by first | assumption | trivial) ?_
              rotate_left
              · (intro wS hSw; (try dsimp only at hSw); go_simp; try with_reducible rfl)
              (try simp only [List.append_eq, List.cons_append, List.nil_append, List.getElem_toArray, List.getElem_cons_succ, List.getElem_cons_zero, Act.put, List.setIfInBounds_toArray, List.set_cons_zero, List.set_cons_succ])
              refine wpAnyH_take (i := 5) (v := ?_) rfl (by kernel_rfl) (by kernel_rfl) (by kernel_rfl) (fun _ _ _ h => h) (Or.inl ⟨by kernel_rfl, ?_⟩) (by first | assumption | trivial) ?_
              rotate_left
              · (intro wS hSw; (try dsimp only at hSw); go_simp; try with_reducible rfl)
              (try simp only [List.append_eq, List.cons_append, List.nil_append, List.getElem_toArray, List.getElem_cons_succ, List.getElem_cons_zero, Act.put, List.setIfInBounds_toArray, List.set_cons_zero, List.set_cons_succ])
              refine wpAnyH_take (i := 6) (v := ?_) rfl (by kernel_rfl) (by kernel_rfl) (by kernel_rfl) (fun _ _ _ h => h) (Or.inl ⟨by kernel_rfl, ?_⟩) (by first | assumption | trivial) ?_
              rotate_left
              · (intro wS hSw; (try dsimp only at hSw); go_simp; try with_reducible rfl)
              (try simp only [List.append_eq, List.cons_append, List.nil_append, List.getElem_toArray, List.getElem_cons_succ, List.getElem_cons_zero, Act.put, List.setIfInBounds_toArray, List.set_cons_zero, List.set_cons_succ])
              refine wpAnyH_take (i := 7) (v := ?_) rfl (by kernel_rfl) (by kernel_rfl) (by kernel_rfl) (fun _ _ _ h => h) (Or.inl ⟨by kernel_rfl, ?_⟩) (by first | assumption | trivial) ?_
              rotate_left
              · (intro wS hSw; (try dsimp only at hSw); go_simp; try with_reducible rfl)
              (try simp only [List.append_eq, List.cons_append, List.nil_append, List.getElem_toArray, List.getElem_cons_succ, List.getElem_cons_zero, Act.put, List.setIfInBounds_toArray, List.set_cons_zero, List.set_cons_succ])
              refine wpAnyH_take (i := 8) (v := ?_) rfl (by kernel_rfl) (by kernel_rfl) (by kernel_rfl) (fun _ _ _ h => h) (Or.inl ⟨by kernel_rfl, ?_⟩) (by first | assumption | trivial) ?_
              rotate_left
              · (intro wS hSw; (try dsimp only at hSw); go_simp; try with_reducible rfl)
              (try simp only [List.append_eq, List.cons_append, List.nil_append, List.getElem_toArray, List.getElem_cons_succ, List.getElem_cons_zero, Act.put, List.setIfInBounds_toArray, List.set_cons_zero, List.set_cons_succ])
              refine wpAnyH_ready (rs := [4]) (by kernel_rfl) (by simp) ?_
              refine AllReadyH.cons rfl (fun K hK => ?_) AllReadyH.nil
              go_simp
              (go_at_call 8; refine (write_pb P.out aI g s 128 HSL.out O.out HWL.out).mono ?_; rintro e w4 ⟨rfl, p4, k4⟩; rw [HQA.out]; rw [HQA.out] at p4; have hS := p4.box.cell (j := 1) rfl; have O0 := hid (k4 _ O0.out); have P := hid p4; clear p4 k4 hHeld)
              go_wp2_with fail
              refine hK.out _ _ (by first | assumption | trivial) (fun hHeld => ?_)
              clear hK K
              (try simp only [List.append_eq, List.cons_append, List.nil_append, List.getElem_toArray, List.getElem_cons_succ, List.getElem_cons_zero, Act.put, List.setIfInBounds_toArray, List.set_cons_zero, List.set_cons_succ])
              refine wpAnyH_ready (rs := [9]) (by kernel_rfl) (by simp) ?_
              refine AllReadyH.cons rfl (fun K hK => ?_) AllReadyH.nil
              go_simp
              (go_at_call 21; refine (rwrite_pb P.out aI s HWL.out).mono ?_; rintro e w5 ⟨rfl, p5, k5⟩; rw [HQA.out]; rw [HQA.out] at p5; have hS := p5.box.cell (j := 1) rfl; have O0 := hid (k5 _ _ O0.out); have P := hid p5; clear p5 k5 hHeld)
              go_wp2_with fail
              refine hK.out _ _ (by first | assumption | trivial) (fun hHeld => ?_)
              clear hK K
              (try simp only [List.append_eq, List.cons_append, List.nil_append, List.getElem_toArray, List.getElem_cons_succ, List.getElem_cons_zero, Act.put, List.setIfInBounds_toArray, List.set_cons_zero, List.set_cons_succ])
              refine wpAnyH_take (i := 10) (v := ?_) rfl (by kernel_rfl) (by kernel_rfl) (by kernel_rfl) (fun _ _ _ h => h) (Or.inl ⟨by kernel_rfl, ?_⟩) (by first | assumption | trivial) ?_
              rotate_left
              · (intro wS hSw; (try dsimp only at hSw); go_simp; try with_reducible rfl)
              (try simp only [List.append_eq, List.cons_append, List.nil_append, List.getElem_toArray, List.getElem_cons_succ, List.getElem_cons_zero, Act.put, List.setIfInBounds_toArray, List.set_cons_zero, List.set_cons_succ])
              refine wpAnyH_done (by kernel_rfl) ?_ _
              refine NoPanic.normal ?_
              go_wp2_with fail
              clear hS hHeld
              have P5 := P
              have O5 := O0
              clear P O O0
              go_loopw [16] (fun kk wx => ∃ (j2 : Nat) (xs : List Value), j2 ≤ 128 ∧ kk = .int .i64 (j2 : Int) ∧ Hid (Pb w wx d hb m bx D2 D2 [.int .i64 1, .int .i64 aI, B8 aC, .bool false, .slice kA kn kc] ∧ OwnC wx g 5 xs ∧ xs.length = 128)) (fun kk wx => 128 - (intOf kk).toNat)
              case atStart => exact ⟨0, _, by omega, rfl, hid ⟨P5.out, O5.out, by rw [List.length_map, secA_len]⟩⟩
              case round =>
                clear P5 O5
                obtain ⟨j2, xs, hj2, rfl, hI2⟩ := hrel
                by_cases hlt2 : j2 < 128
                · have e1 : decide ((j2 : Int) < 128) = true := by simp; omega
                  have e1' : decide (j2 < 128) = true := by simp; omega
                  have z0 : (0 : Int) ≤ (j2 : Int) := by omega
                  have z1 : (j2 : Int) < 128 := by omega
                  obtain ⟨v, hv⟩ : ∃ v, xs[j2]? = some v := ⟨_, List.getElem?_eq_getElem (by have := hI2.out.2.2; omega)⟩
                  have x0 := hI2.out.2.1.cell hv
                  have x1 := hI2.out.2.1.frozen j2
                  have HNP := hid (hI2.out.1.poke (i := j2) hI2.out.2.1 HZ.out (.int .u8 99))
                  have HNO := hid (hI2.out.2.1.set j2 (.int .u8 99))
                  have HNL := hid hI2.out.2.2
                  clear hv hI2
                  go_wp2_with fail
                  go_roundw
                  case rel => exact ⟨j2 + 1, _, by omega, by go_num, hid ⟨HNP.out, HNO.out, by rw [List.length_set]; exact HNL.out⟩⟩
                  case measure => simp [intOf]; omega
                · have e1 : decide ((j2 : Int) < 128) = false := by simp; omega
                  have e1' : decide (j2 < 128) = false := by simp; omega
                  have HI2 := hid hI2.out
                  clear hI2
                  go_wp2_with fail
                  go_meet
                  exact ⟨d, hb, D2, rfl, hid ⟨HI2.out.1.st, HI2.out.1.rs, HLE.out.1.trans HN.out, by have := HWJ.out; have := HLE.out.2; omega⟩⟩
        by_cases h2 : aD = 2
        · as_aux_lemma =>
            subst h2
            have HFL := hid (flush_pb P.out HWL.out)
            have HFR := hid (fun (W : World) (p : Pb w W d hb m bx (flushD D).1 D [.int .i64 2, .int .i64 aI, B8 aC, .bool aS, .slice kA kn kc]) => rflush_pb p HWL.out)
            obtain ⟨qa, hqa⟩ : ∃ q, flushD D = q := ⟨_, rfl⟩
            have hfl := flushD_len D
            rw [hqa] at HFL HFR hfl
            obtain ⟨D2, k1⟩ := qa
            dsimp only at HFL HFR hfl
            have HLE := hid hfl
            have hkk : ((k1 : Int) != (k1 : Int)) = false := by simp
            clear hqa hfl
            go_wp2_with (first
              | (go_at_call 10
                 refine HFL.out.mono ?_
                 rintro e w2 ⟨rfl, p2⟩
                 have P := hid p2
                 clear y1 y2 y3 y4
                 have y1 := P.out.box.cell (j := 1) rfl
                 have y2 := P.out.box.cell (j := 2) rfl
                 have y3 := P.out.box.cell (j := 3) rfl
                 have y4 := P.out.box.cell (j := 4) rfl
                 clear p2)
              | (go_at_call 22
                 refine (HFR.out _ P.out).mono ?_
                 rintro e w3 ⟨rfl, p3⟩
                 have P := hid p3
                 clear y1 y2 y3 y4
                 have y1 := P.out.box.cell (j := 1) rfl
                 have y2 := P.out.box.cell (j := 2) rfl
                 have y3 := P.out.box.cell (j := 3) rfl
                 have y4 := P.out.box.cell (j := 4) rfl
                 clear p3))
            go_meet
            exact ⟨d, hb, D2, rfl, hid ⟨P.out.st, P.out.rs, HLE.out.1.trans HN.out, by have := HWJ.out; have := HLE.out.2; omega⟩⟩
        by_cases h3 : aD = 3
        · subst h3
          by_cases hI : aI < -1
          · as_aux_lemma =>
              have d5 : decide (aI < -1) = true := by simpa using hI
              have HBN := hid (budget_no d)
              go_wp2_with (go_at_call 15; refine (HBN.out _ aI hI).mono ?_; rintro e w2 ⟨rfl, rfl⟩)
              go_meet
              exact ⟨d, hb, D, rfl, hid ⟨P.out.st, P.out.rs, HN.out, by have := HWJ.out; omega⟩⟩
          · as_aux_lemma =>
              have d5 : decide (aI < -1) = false := by simpa using hI
              have HIB := hid (show -1 ≤ aI ∧ aI ≤ 9223372036854775807 from ⟨by omega, HOK.out.2.1.2⟩)
              clear hI
              go_wp2_with (go_at_call 15
                           refine (budget_pb P.out aI HIB.out.1 HIB.out.2).mono ?_
                           rintro e w2 ⟨rfl, p2⟩
                           have P := hid p2
                           clear y1 y2 y3 y4
                           have y1 := P.out.box.cell (j := 1) rfl
                           have y2 := P.out.box.cell (j := 2) rfl
                           have y3 := P.out.box.cell (j := 3) rfl
                           have y4 := P.out.box.cell (j := 4) rfl
                           obtain ⟨VH, VL, q⟩ := p2.rs
                           have x2 := q.cells.cell (j := 2) rfl
                           have f2 := q.cells.frozen 2
                           clear p2 q)
              go_meet
              have P2 := P.out.bud aI HIB.out
              exact ⟨d, hb, { D with bud := aI }, rfl, hid ⟨P2.st, P2.rs, HN.out, by have := HWJ.out; show D.waits.length ≤ _; omega⟩⟩
        by_cases h4 : aD = 4
        · as_aux_lemma =>
            subst h4
            have hrw := HOK.out.2.2.2.2.row
            rw [flat_boolP] at hrw
            have HRW := hid hrw
            have HKN := hid HOK.out.2.2.2.2.len
            have hcl : (cutD D ks).has.length = D.has.length := doneK_len _ _ _ _
            have HCL := hid hcl
            clear hrw hcl
            go_wp2_with (first
              | (go_at_call 12
                 refine (cut_pb P.out HWL.out kA kn kc ks HKN.out HRW.out).mono ?_
                 rintro e w2 ⟨rfl, p2⟩
                 have P := hid p2
                 clear y1 y2 y3 y4
                 have y1 := P.out.box.cell (j := 1) rfl
                 have y2 := P.out.box.cell (j := 2) rfl
                 have y3 := P.out.box.cell (j := 3) rfl
                 have y4 := P.out.box.cell (j := 4) rfl
                 clear p2)
              | (go_at_call 23
                 refine (rcut_pb P.out HWL.out kA kn kc ks HKN.out HRW.out).mono ?_
                 rintro e w3 ⟨rfl, p3⟩
                 have P := hid p3
                 clear y1 y2 y3 y4
                 have y1 := P.out.box.cell (j := 1) rfl
                 have y2 := P.out.box.cell (j := 2) rfl
                 have y3 := P.out.box.cell (j := 3) rfl
                 have y4 := P.out.box.cell (j := 4) rfl
                 clear p3))
            go_meet
            exact ⟨d, hb, cutD D ks, rfl, hid ⟨P.out.st, P.out.rs, HCL.out.trans HN.out, Nat.zero_le _⟩⟩
        by_cases h5 : aD = 5
        · as_aux_lemma =>
            subst h5
            go_wp2_with (first
              | (go_at_call 13
                 refine (on_pb P.out).mono ?_
                 rintro e w2 ⟨rfl, p2⟩
                 have P := hid p2
                 clear y1 y2 y3 y4
                 have y1 := P.out.box.cell (j := 1) rfl
                 have y2 := P.out.box.cell (j := 2) rfl
                 have y3 := P.out.box.cell (j := 3) rfl
                 have y4 := P.out.box.cell (j := 4) rfl
                 clear p2)
              | (go_at_call 24
                 refine (ron_pb P.out).mono ?_
                 rintro e w3 ⟨rfl, p3⟩
                 have P := hid p3
                 clear y1 y2 y3 y4
                 have y1 := P.out.box.cell (j := 1) rfl
                 have y2 := P.out.box.cell (j := 2) rfl
                 have y3 := P.out.box.cell (j := 3) rfl
                 have y4 := P.out.box.cell (j := 4) rfl
                 clear p3))
            go_meet
            exact ⟨d, hb, onD' D, rfl, hid ⟨P.out.st, P.out.rs, HN.out, Nat.zero_le _⟩⟩
        by_cases h6 : aD = 6
        · subst h6
          by_cases hi : 0 ≤ aI ∧ aI < D.has.length
          · as_aux_lemma =>
              obtain ⟨k, rfl⟩ : ∃ k : Nat, aI = (k : Int) := ⟨aI.toNat, by omega⟩
              have hkn : k < n := by have := HN.out; omega
              have HKN := hid (show k < D.has.length by omega)
              obtain ⟨s, hs⟩ : ∃ s, D.has.getD k [] = s := ⟨_, rfl⟩
              have hr : hasR D (k : Int) = (s, 0) := by unfold hasR; rw [if_pos hi, ← hs]; rfl
              have HHP := hid (has_pb P.out.st (k : Int))
              rw [hr] at HHP
              have HS := hid hs
              have e1 : decide ((k : Int) < 0) = false := by simp
              have e2 : decide ((n : Int) ≤ (k : Int)) = false := by simp; omega
              have z0 : (0 : Int) ≤ (k : Int) := by omega
              have z1 : (k : Int) < (n : Int) := by omega
              have z2 : (k : Int).toNat = k := by omega
              have hss := str_ne (rfl : s = s)
              clear hi hr hs hkn
              go_upto_region 56 with (go_at_call 25
                                      refine HHP.out.mono ?_
                                      rintro e w2 ⟨A2, n2, c2, rfl, o2, m2, b2⟩
                                      have P := hid (P.out.below b2)
                                      have O2 := hid o2
                                      clear y1 y2 y3 y4
                                      have y1 := P.out.box.cell (j := 1) rfl
                                      have y2 := P.out.box.cell (j := 2) rfl
                                      have y3 := P.out.box.cell (j := 3) rfl
                                      have y4 := P.out.box.cell (j := 4) rfl
                                      clear o2 b2 m2)
              have P := hid (P.out.below (drew_below _))
              obtain ⟨gH, cH, t0, t1⟩ := P.out.rs.has0 k HKN.out
              rw [HN.out] at t0
              rw [HS.out] at t1
              have hS := And.intro (strP c2 O2.out.drew) (And.intro t0 (And.intro t1 (P.out.box.cell (j := 1) rfl)))
              clear t0 t1 y0 y1 y2 y3 y4
              refine wp_region_noPanic ?_
              refine wp_region_held_drew (S := (fun X => (convert 31 9 (.slice A2 n2 c2)).run Try.prog X = .ok (.string (str s)) X ∧ X.cell? ⟨m, 0, none⟩ = some (.slice (some ⟨gH, 0, none⟩) n cH) ∧ X.cell? ⟨gH, k, none⟩ = some (.string (str s)) ∧ X.cell? ⟨bx, 1, none⟩ = some (.int .i64 (k : Int)))) (by kernel_rfl) (by first | assumption | trivial) (fun hHeld => ?_)
              refine wpAnyH_take (i := 0) (v := ?_) rfl (by kernel_rfl) (by kernel_rfl) (by kernel_rfl) (fun _ _ _ h => h) (Or.inl ⟨by kernel_rfl, ?_⟩) (by first | assumption | trivial) ?_
              rotate_left
              · (intro wS hSw; (try dsimp only at hSw); go_simp; try with_reducible rfl)
              (try simp only [List.append_eq, List.cons_append, List.nil_append, List.getElem_toArray, List.getElem_cons_succ, List.getElem_cons_zero, Act.put, List.setIfInBounds_toArray, List.set_cons_zero, List.set_cons_succ])
              refine wpAnyH_take (i := 1) (v := ?_) rfl (by kernel_rfl) (by kernel_rfl) (by kernel_rfl) (fun _ _ _ h => h) (Or.inl ⟨by kernel_rfl, ?_⟩) (by first | assumption | trivial) ?_
              rotate_left
              · (intro wS hSw; (try dsimp only at hSw); go_simp; try with_reducible rfl)
              (try simp only [List.append_eq, List.cons_append, List.nil_append, List.getElem_toArray, List.getElem_cons_succ, List.getElem_cons_zero, Act.put, List.setIfInBounds_toArray, List.set_cons_zero, List.set_cons_succ])
              refine wpAnyH_take (i := 2) (v := ?_) rfl (by kernel_rfl) (by kernel_rfl) (by kernel_rfl) (fun _ _ _ h => h) (Or.inl ⟨by kernel_rfl, ?_⟩) (by first | assumption | trivial) ?_
              rotate_left
              · (intro wS hSw; (try dsimp only at hSw); go_simp; try with_reducible rfl)
              (try simp only [List.append_eq, List.cons_append, List.nil_append, List.getElem_toArray, List.getElem_cons_succ, List.getElem_cons_zero, Act.put, List.setIfInBounds_toArray, List.set_cons_zero, List.set_cons_succ])
              refine wpAnyH_take (i := 3) (v := ?_) rfl (by kernel_rfl) (by kernel_rfl) (by kernel_rfl) (fun _ _ _ h => h) (Or.inl ⟨by kernel_rfl, ?_⟩) (by first | assumption | trivial) ?_
              rotate_left
              · (intro wS hSw; (try dsimp only at hSw); go_simp; try with_reducible rfl)
              (try simp only [List.append_eq, List.cons_append, List.nil_append, List.getElem_toArray, List.getElem_cons_succ, List.getElem_cons_zero, Act.put, List.setIfInBounds_toArray, List.set_cons_zero, List.set_cons_succ])
              refine wpAnyH_take (i := 4) (v := ?_) rfl (by kernel_rfl) (by kernel_rfl) (by kernel_rfl) (fun _ _ _ h => h) (Or.inl ⟨by kernel_rfl, ?_⟩) (by first | assumption | trivial) ?_
              rotate_left
              · (intro wS hSw; (try dsimp only at hSw); go_simp; try with_reducible rfl)
              (try simp only [List.append_eq, List.cons_append, List.nil_append, List.getElem_toArray, List.getElem_cons_succ, List.getElem_cons_zero, Act.put, List.setIfInBounds_toArray, List.set_cons_zero, List.set_cons_succ])
              refine wpAnyH_take (i := 5) (v := ?_) rfl (by kernel_rfl) (by kernel_rfl) (by kernel_rfl) (fun _ _ _ h => h) (Or.inl ⟨by kernel_rfl, ?_⟩) (by first | assumption | trivial) ?_
              rotate_left
              · (intro wS hSw; (try dsimp only at hSw); go_simp; try with_reducible rfl)
              (try simp only [List.append_eq, List.cons_append, List.nil_append, List.getElem_toArray, List.getElem_cons_succ, List.getElem_cons_zero, Act.put, List.setIfInBounds_toArray, List.set_cons_zero, List.set_cons_succ])
              refine wpAnyH_take (i := 6) (v := ?_) rfl (by kernel_rfl) (by kernel_rfl) (by kernel_rfl) (fun _ _ _ h => h) (Or.inl ⟨by kernel_rfl, ?_⟩) (by first | assumption | trivial) ?_
              rotate_left
              · (intro wS hSw; (try dsimp only at hSw); go_simp; try with_reducible rfl)
              (try simp only [List.append_eq, List.cons_append, List.nil_append, List.getElem_toArray, List.getElem_cons_succ, List.getElem_cons_zero, Act.put, List.setIfInBounds_toArray, List.set_cons_zero, List.set_cons_succ])
              refine wpAnyH_take (i := 7) (v := ?_) rfl (by kernel_rfl) (by kernel_rfl) (by kernel_rfl) (fun _ _ _ h => h) (Or.inl ⟨by kernel_rfl, ?_⟩) (by first | assumption | trivial) ?_
              rotate_left
              · (intro wS hSw; (try dsimp only at hSw); go_simp; try with_reducible rfl)
              (try simp only [List.append_eq, List.cons_append, List.nil_append, List.getElem_toArray, List.getElem_cons_succ, List.getElem_cons_zero, Act.put, List.setIfInBounds_toArray, List.set_cons_zero, List.set_cons_succ])
              refine wpAnyH_take (i := 8) (v := ?_) rfl (by kernel_rfl) (by kernel_rfl) (by kernel_rfl) (fun _ _ _ h => h) (Or.inl ⟨by kernel_rfl, ?_⟩) (by first | assumption | trivial) ?_
              rotate_left
              · (intro wS hSw; (try dsimp only at hSw); go_simp; try with_reducible rfl)
              (try simp only [List.append_eq, List.cons_append, List.nil_append, List.getElem_toArray, List.getElem_cons_succ, List.getElem_cons_zero, Act.put, List.setIfInBounds_toArray, List.set_cons_zero, List.set_cons_succ])
              refine wpAnyH_take (i := 9) (v := ?_) rfl (by kernel_rfl) (by kernel_rfl) (by kernel_rfl) (fun _ _ _ h => h) (Or.inl ⟨by kernel_rfl, ?_⟩) (by first | assumption | trivial) ?_
              rotate_left
              · (intro wS hSw; (try dsimp only at hSw); go_simp; try with_reducible rfl)
              (try simp only [List.append_eq, List.cons_append, List.nil_append, List.getElem_toArray, List.getElem_cons_succ, List.getElem_cons_zero, Act.put, List.setIfInBounds_toArray, List.set_cons_zero, List.set_cons_succ])
              refine wpAnyH_take (i := 10) (v := ?_) rfl (by kernel_rfl) (by kernel_rfl) (by kernel_rfl) (fun _ _ _ h => h) (Or.inl ⟨by kernel_rfl, ?_⟩) (by first | assumption | trivial) ?_
              rotate_left
              · (intro wS hSw; (try dsimp only at hSw); go_simp; try with_reducible rfl)
              (try simp only [List.append_eq, List.cons_append, List.nil_append, List.getElem_toArray, List.getElem_cons_succ, List.getElem_cons_zero, Act.put, List.setIfInBounds_toArray, List.set_cons_zero, List.set_cons_succ])
              refine wpAnyH_take (i := 11) (v := ?_) rfl (by kernel_rfl) (by kernel_rfl) (by kernel_rfl) (fun _ _ _ h => h) (Or.inl ⟨by kernel_rfl, ?_⟩) (by first | assumption | trivial) ?_
              rotate_left
              · (intro wS hSw; (try dsimp only at hSw); go_simp; try with_reducible rfl)
              (try simp only [List.append_eq, List.cons_append, List.nil_append, List.getElem_toArray, List.getElem_cons_succ, List.getElem_cons_zero, Act.put, List.setIfInBounds_toArray, List.set_cons_zero, List.set_cons_succ])
              refine wpAnyH_take (i := 12) (v := ?_) rfl (by kernel_rfl) (by kernel_rfl) (by kernel_rfl) (fun _ _ _ h => h) (Or.inl ⟨by kernel_rfl, ?_⟩) (by first | assumption | trivial) ?_
              rotate_left
              · (intro wS hSw; (try dsimp only at hSw); go_simp; try with_reducible rfl)
              (try simp only [List.append_eq, List.cons_append, List.nil_append, List.getElem_toArray, List.getElem_cons_succ, List.getElem_cons_zero, Act.put, List.setIfInBounds_toArray, List.set_cons_zero, List.set_cons_succ])
              refine wpAnyH_take (i := 13) (v := ?_) rfl (by kernel_rfl) (by kernel_rfl) (by kernel_rfl) (fun _ _ _ h => h) (Or.inl ⟨by kernel_rfl, ?_⟩) (by first | assumption | trivial) ?_
              rotate_left
              · (intro wS hSw; (try dsimp only at hSw); go_simp; try with_reducible rfl)
              (try simp only [List.append_eq, List.cons_append, List.nil_append, List.getElem_toArray, List.getElem_cons_succ, List.getElem_cons_zero, Act.put, List.setIfInBounds_toArray, List.set_cons_zero, List.set_cons_succ])
              refine wpAnyH_take (i := 14) (v := ?_) rfl (by kernel_rfl) (by kernel_rfl) (by kernel_rfl) (fun _ _ _ h => h) (Or.inl ⟨by kernel_rfl, ?_⟩) (by first | assumption | trivial) ?_
              rotate_left
              · (intro wS hSw; (try dsimp only at hSw); go_simp; try with_reducible rfl)
              (try simp only [List.append_eq, List.cons_append, List.nil_append, List.getElem_toArray, List.getElem_cons_succ, List.getElem_cons_zero, Act.put, List.setIfInBounds_toArray, List.set_cons_zero, List.set_cons_succ])
              refine wpAnyH_done (by kernel_rfl) ?_ _
              refine NoPanic.normal ?_
              go_wp2_with fail
              go_meet
              exact ⟨d, hb, D, rfl, hid ⟨P.out.st, P.out.rs, HN.out, by have := HWJ.out; omega⟩⟩
          · have hr : hasR D aI = ([], 4) := by unfold hasR; rw [if_neg hi]
            have HHP := hid (has_pb P.out.st aI)
            rw [hr] at HHP
            have hN := HN.out
            by_cases hng : aI < 0
            · as_aux_lemma =>
                have e1 : decide (aI < 0) = true := by simpa using hng
                clear hi hr hN hng
                go_wp2_with (go_at_call 25
                             refine HHP.out.mono ?_
                             rintro e w2 ⟨A2, n2, c2, rfl, o2, m2, b2⟩
                             obtain rfl : n2 = 0 := m2
                             have P := hid (P.out.below b2)
                             clear y1 y2 y3 y4
                             have y1 := P.out.box.cell (j := 1) rfl
                             have y2 := P.out.box.cell (j := 2) rfl
                             have y3 := P.out.box.cell (j := 3) rfl
                             have y4 := P.out.box.cell (j := 4) rfl
                             clear o2 b2)
                go_meet
                exact ⟨d, hb, D, rfl, hid ⟨P.out.st, P.out.rs, HN.out, by have := HWJ.out; omega⟩⟩
            · as_aux_lemma =>
                have e1 : decide (aI < 0) = false := by simpa using hng
                have e2 : decide ((n : Int) ≤ aI) = true := by simp; omega
                clear hi hr hN hng
                go_wp2_with (go_at_call 25
                             refine HHP.out.mono ?_
                             rintro e w2 ⟨A2, n2, c2, rfl, o2, m2, b2⟩
                             obtain rfl : n2 = 0 := m2
                             have P := hid (P.out.below b2)
                             clear y1 y2 y3 y4
                             have y1 := P.out.box.cell (j := 1) rfl
                             have y2 := P.out.box.cell (j := 2) rfl
                             have y3 := P.out.box.cell (j := 3) rfl
                             have y4 := P.out.box.cell (j := 4) rfl
                             clear o2 b2)
                go_meet
                exact ⟨d, hb, D, rfl, hid ⟨P.out.st, P.out.rs, HN.out, by have := HWJ.out; omega⟩⟩
        · as_aux_lemma =>
            have f0 : (aD == 0) = false := by simpa using h0
            have f1 : (aD == 1) = false := by simpa using h1
            have f2 : (aD == 2) = false := by simpa using h2
            have f3 : (aD == 3) = false := by simpa using h3
            have f4 : (aD == 4) = false := by simpa using h4
            have f5 : (aD == 5) = false := by simpa using h5
            have f6 : (aD == 6) = false := by simpa using h6
            have HCL := hid (clone_two P.out.st (by rw [HN.out]; exact H1.out) HWL.out (by rw [HN.out]; exact H2.out))
            have R := hid P.out.rs
            clear h0 h1 h2 h3 h4 h5 h6 y1 y2 y3 y4 P
            go_wp2_with (first
              | (go_at_call 26
                 refine HCL.out.mono ?_
                 rintro e w2 ⟨d2, hb2, D2, rfl, t2, ⟨q1, q2, q3, q4⟩, b2⟩
                 have R := hid (R.out.below b2)
                 have T := hid t2
                 have Q1 := hid q1
                 have Q2 := hid q2
                 have Q3 := hid q3
                 have Q4 := hid q4
                 clear b2 t2 q1 q2 q3 q4)
              | (go_at_call 9
                 refine (all77 _).mono ?_
                 rintro e w3 ⟨g, rfl, o3, b3⟩
                 have R := hid (R.out.below b3)
                 have T := hid (T.out.below b3)
                 have O := hid o3
                 clear b3 o3)
              | (go_at_call 8
                 refine (two_write T.out 0 g (secA 77) (secA_len _) O.out HWL.out).mono ?_
                 rintro e w4 ⟨n4, D4, rfl, t4, l4, h4⟩
                 have R := hid (R.out.lets T.out.left l4)
                 have T := hid t4
                 have HW4 := hid h4
                 clear t4 l4 h4)
              | (go_at_call 10
                 refine (two_flush T.out (by have := HW4.out; have := HWJ.out; omega)).mono ?_
                 rintro e w5 ⟨n5, D5, rfl, t5, l5⟩
                 have R := hid (R.out.lets T.out.left l5)
                 have T := hid t5
                 clear t5 l5))
            go_meet
            exact ⟨d2, hb2, D2, rfl, hid ⟨T.out.right, R.out.room Q1.out Q2.out Q3.out Q4.out, by rw [Q1.out]; exact HN.out, by rw [Q2.out]; have := HWJ.out; omega⟩⟩
      case rest =>
        obtain ⟨d2, hb2, D2, rfl, hI2⟩ := hcut
        have S := hid hI2.out.1
        have R := hid hI2.out.2.1
        have HN2 := hid hI2.out.2.2.1
        have HW2 := hid hI2.out.2.2.2
        clear hI2 P HN HWJ
        obtain ⟨nw, hnw⟩ : ∃ nw, D2.waits.length = nw := ⟨_, rfl⟩
        have HNW := hid hnw
        have HWT := hid (waits_st S.out (by have := HW2.out; omega))
        rw [hnw] at HWT
        have hkk : ((nw : Int) != (nw : Int)) = false := by simp
        clear hnw
        go_upto_region 59 with (go_at_call 17
                                refine HWT.out.mono ?_
                                rintro e w3 ⟨A3, c3, rfl, o3, s3, b3⟩
                                have R := hid (R.out.below b3)
                                have O := hid (own_low o3 S.out.bel.size)
                                have S := hid s3
                                clear o3 s3 b3)
        clear HWT
        have S := hid S.out.drew
        have R := hid (R.out.below (drew_below _))
        have O := hid (own_below O.out (drew_below _))
        obtain ⟨AL, cL, t1, t3, -⟩ := R.out.wait0
        rw [HNW.out] at t1
        have hS := And.intro t1 t3
        clear t1 t3
        have HPW := hid (power_st S.out)
        obtain ⟨off, hoff⟩ : ∃ b, D2.off = b := ⟨_, rfl⟩
        rw [hoff] at hS HPW
        have hne : ((!off) == off) = false := by cases off <;> rfl
        clear hoff
        refine wp_region_noPanic ?_
        refine wp_region_held_drew (S := (fun X => X.cell? ⟨m, 1, none⟩ = some (.slice AL nw cL) ∧ X.cell? ⟨m, 3, none⟩ = some (.bool off))) (by kernel_rfl) (by first | assumption | trivial) (fun hHeld => ?_)
        refine wpAnyH_take (i := 0) (v := ?_) rfl (by kernel_rfl) (by kernel_rfl) (by kernel_rfl) (fun _ _ _ h => h) (Or.inl ⟨by kernel_rfl, ?_⟩) (by first | assumption | trivial) ?_
        rotate_left
        · (intro wS hSw; (try dsimp only at hSw); go_simp; try with_reducible rfl)
        (try simp only [List.append_eq, List.cons_append, List.nil_append, List.getElem_toArray, List.getElem_cons_succ, List.getElem_cons_zero, Act.put, List.setIfInBounds_toArray, List.set_cons_zero, List.set_cons_succ])
        refine wpAnyH_take (i := 1) (v := ?_) rfl (by kernel_rfl) (by kernel_rfl) (by kernel_rfl) (fun _ _ _ h => h) (Or.inl ⟨by kernel_rfl, ?_⟩) (by first | assumption | trivial) ?_
        rotate_left
        · (intro wS hSw; (try dsimp only at hSw); go_simp; try with_reducible rfl)
        (try simp only [List.append_eq, List.cons_append, List.nil_append, List.getElem_toArray, List.getElem_cons_succ, List.getElem_cons_zero, Act.put, List.setIfInBounds_toArray, List.set_cons_zero, List.set_cons_succ])
        refine wpAnyH_take (i := 2) (v := ?_) rfl (by kernel_rfl) (by kernel_rfl) (by kernel_rfl) (fun _ _ _ h => h) (Or.inl ⟨by kernel_rfl, ?_⟩) (by first | assumption | trivial) ?_
        rotate_left
        · (intro wS hSw; (try dsimp only at hSw); go_simp; try with_reducible rfl)
        (try simp only [List.append_eq, List.cons_append, List.nil_append, List.getElem_toArray, List.getElem_cons_succ, List.getElem_cons_zero, Act.put, List.setIfInBounds_toArray, List.set_cons_zero, List.set_cons_succ])
        refine wpAnyH_take (i := 3) (v := ?_) rfl (by kernel_rfl) (by kernel_rfl) (by kernel_rfl) (fun _ _ _ h => h) (Or.inl ⟨by kernel_rfl, ?_⟩) (by first | assumption | trivial) ?_
        rotate_left
        · (intro wS hSw; (try dsimp only at hSw); go_simp; try with_reducible rfl)
        (try simp only [List.append_eq, List.cons_append, List.nil_append, List.getElem_toArray, List.getElem_cons_succ, List.getElem_cons_zero, Act.put, List.setIfInBounds_toArray, List.set_cons_zero, List.set_cons_succ])
        refine wpAnyH_take (i := 4) (v := ?_) rfl (by kernel_rfl) (by kernel_rfl) (by kernel_rfl) (fun _ _ _ h => h) (Or.inl ⟨by kernel_rfl, ?_⟩) (by first | assumption | trivial) ?_
        rotate_left
        · (intro wS hSw; (try dsimp only at hSw); go_simp; try with_reducible rfl)
        (try simp only [List.append_eq, List.cons_append, List.nil_append, List.getElem_toArray, List.getElem_cons_succ, List.getElem_cons_zero, Act.put, List.setIfInBounds_toArray, List.set_cons_zero, List.set_cons_succ])
        refine wpAnyH_take (i := 5) (v := ?_) rfl (by kernel_rfl) (by kernel_rfl) (by kernel_rfl) (fun _ _ _ h => h) (Or.inl ⟨by kernel_rfl, ?_⟩) (by first | assumption | trivial) ?_
        rotate_left
        · (intro wS hSw; (try dsimp only at hSw); go_simp; try with_reducible rfl)
        (try simp only [List.append_eq, List.cons_append, List.nil_append, List.getElem_toArray, List.getElem_cons_succ, List.getElem_cons_zero, Act.put, List.setIfInBounds_toArray, List.set_cons_zero, List.set_cons_succ])
        refine wpAnyH_take (i := 6) (v := ?_) rfl (by kernel_rfl) (by kernel_rfl) (by kernel_rfl) (fun _ _ _ h => h) (Or.inl ⟨by kernel_rfl, ?_⟩) (by first | assumption | trivial) ?_
        rotate_left
        · (intro wS hSw; (try dsimp only at hSw); go_simp; try with_reducible rfl)
        (try simp only [List.append_eq, List.cons_append, List.nil_append, List.getElem_toArray, List.getElem_cons_succ, List.getElem_cons_zero, Act.put, List.setIfInBounds_toArray, List.set_cons_zero, List.set_cons_succ])
        refine wpAnyH_take (i := 7) (v := ?_) rfl (by kernel_rfl) (by kernel_rfl) (by kernel_rfl) (fun _ _ _ h => h) (Or.inl ⟨by kernel_rfl, ?_⟩) (by first | assumption | trivial) ?_
        rotate_left
        · (intro wS hSw; (try dsimp only at hSw); go_simp; try with_reducible rfl)
        (try simp only [List.append_eq, List.cons_append, List.nil_append, List.getElem_toArray, List.getElem_cons_succ, List.getElem_cons_zero, Act.put, List.setIfInBounds_toArray, List.set_cons_zero, List.set_cons_succ])
        refine wpAnyH_take (i := 8) (v := ?_) rfl (by kernel_rfl) (by kernel_rfl) (by kernel_rfl) (fun _ _ _ h => h) (Or.inl ⟨by kernel_rfl, ?_⟩) (by first | assumption | trivial) ?_
        rotate_left
        · (intro wS hSw; (try dsimp only at hSw); go_simp; try with_reducible rfl)
        (try simp only [List.append_eq, List.cons_append, List.nil_append, List.getElem_toArray, List.getElem_cons_succ, List.getElem_cons_zero, Act.put, List.setIfInBounds_toArray, List.set_cons_zero, List.set_cons_succ])
        refine wpAnyH_take (i := 9) (v := ?_) rfl (by kernel_rfl) (by kernel_rfl) (by kernel_rfl) (fun _ _ _ h => h) (Or.inl ⟨by kernel_rfl, ?_⟩) (by first | assumption | trivial) ?_
        rotate_left
        · (intro wS hSw; (try dsimp only at hSw); go_simp; try with_reducible rfl)
        (try simp only [List.append_eq, List.cons_append, List.nil_append, List.getElem_toArray, List.getElem_cons_succ, List.getElem_cons_zero, Act.put, List.setIfInBounds_toArray, List.set_cons_zero, List.set_cons_succ])
        refine wpAnyH_take (i := 11) (v := ?_) rfl (by kernel_rfl) (by kernel_rfl) (by kernel_rfl) (fun _ _ _ h => h) (Or.inl ⟨by kernel_rfl, ?_⟩) (by first | assumption | trivial) ?_
        rotate_left
        · (intro wS hSw; (try dsimp only at hSw); go_simp; try with_reducible rfl)
        (try simp only [List.append_eq, List.cons_append, List.nil_append, List.getElem_toArray, List.getElem_cons_succ, List.getElem_cons_zero, Act.put, List.setIfInBounds_toArray, List.set_cons_zero, List.set_cons_succ])
        refine wpAnyH_take (i := 12) (v := ?_) rfl (by kernel_rfl) (by kernel_rfl) (by kernel_rfl) (fun _ _ _ h => h) (Or.inl ⟨by kernel_rfl, ?_⟩) (by first | assumption | trivial) ?_
        rotate_left
        · (intro wS hSw; (try dsimp only at hSw); go_simp; try with_reducible rfl)
        (try simp only [List.append_eq, List.cons_append, List.nil_append, List.getElem_toArray, List.getElem_cons_succ, List.getElem_cons_zero, Act.put, List.setIfInBounds_toArray, List.set_cons_zero, List.set_cons_succ])
        refine wpAnyH_take (i := 13) (v := ?_) rfl (by kernel_rfl) (by kernel_rfl) (by kernel_rfl) (fun _ _ _ h => h) (Or.inl ⟨by kernel_rfl, ?_⟩) (by first | assumption | trivial) ?_
        rotate_left
        · (intro wS hSw; (try dsimp only at hSw); go_simp; try with_reducible rfl)
        (try simp only [List.append_eq, List.cons_append, List.nil_append, List.getElem_toArray, List.getElem_cons_succ, List.getElem_cons_zero, Act.put, List.setIfInBounds_toArray, List.set_cons_zero, List.set_cons_succ])
        refine wpAnyH_take (i := 14) (v := ?_) rfl (by kernel_rfl) (by kernel_rfl) (by kernel_rfl) (fun _ _ _ h => h) (Or.inl ⟨by kernel_rfl, ?_⟩) (by first | assumption | trivial) ?_
        rotate_left
        · (intro wS hSw; (try dsimp only at hSw); go_simp; try with_reducible rfl)
        (try simp only [List.append_eq, List.cons_append, List.nil_append, List.getElem_toArray, List.getElem_cons_succ, List.getElem_cons_zero, Act.put, List.setIfInBounds_toArray, List.set_cons_zero, List.set_cons_succ])
        refine wpAnyH_ready (rs := [10]) (by kernel_rfl) (by simp) ?_
        refine AllReadyH.cons rfl (fun K hK => ?_) AllReadyH.nil
        go_simp
        (go_at_call 16; refine HPW.out.mono ?_; rintro e w4 ⟨rfl, rfl⟩)
        go_wp2_with fail
        refine hK.out _ _ (by first | assumption | trivial) (fun hHeld => ?_)
        clear hK K
        (try simp only [List.append_eq, List.cons_append, List.nil_append, List.getElem_toArray, List.getElem_cons_succ, List.getElem_cons_zero, Act.put, List.setIfInBounds_toArray, List.set_cons_zero, List.set_cons_succ])
        refine wpAnyH_take (i := 15) (v := ?_) rfl (by kernel_rfl) (by kernel_rfl) (by kernel_rfl) (fun _ _ _ h => h) (Or.inl ⟨by kernel_rfl, ?_⟩) (by first | assumption | trivial) ?_
        rotate_left
        · (intro wS hSw; (try dsimp only at hSw); go_simp; try with_reducible rfl)
        (try simp only [List.append_eq, List.cons_append, List.nil_append, List.getElem_toArray, List.getElem_cons_succ, List.getElem_cons_zero, Act.put, List.setIfInBounds_toArray, List.set_cons_zero, List.set_cons_succ])
        refine wpAnyH_take (i := 16) (v := ?_) rfl (by kernel_rfl) (by kernel_rfl) (by kernel_rfl) (fun _ _ _ h => h) (Or.inl ⟨by kernel_rfl, ?_⟩) (by first | assumption | trivial) ?_
        rotate_left
        · (intro wS hSw; (try dsimp only at hSw); go_simp; try with_reducible rfl)
        (try simp only [List.append_eq, List.cons_append, List.nil_append, List.getElem_toArray, List.getElem_cons_succ, List.getElem_cons_zero, Act.put, List.setIfInBounds_toArray, List.set_cons_zero, List.set_cons_succ])
        refine wpAnyH_done (by kernel_rfl) ?_ _
        refine NoPanic.normal ?_
        clear hS hHeld HPW
        go_wp2_with fail
        have S3 := S
        have R3 := R
        have O3 := O
        clear S R O
        go_loopw [22] (fun kk wx => ∃ j3 : Nat, j3 ≤ nw ∧ kk = .int .i64 (j3 : Int) ∧ Hid (St w wx d2 hb2 D2 ∧ RSt w wx m D2 ∧ wx.ownsRow w.heap.size 3 1 (.slice A3 nw c3) nw (D2.waits.map atV))) (fun kk wx => nw - (intOf kk).toNat)
        case atStart => exact ⟨0, by omega, rfl, hid ⟨S3.out, R3.out, O3.out⟩⟩
        case round =>
          clear S3 R3 O3
          obtain ⟨j3, hj3, rfl, hI3⟩ := hrel
          by_cases hlt3 : j3 < nw
          · as_aux_lemma =>
              have e1 : decide ((j3 : Int) < (nw : Int)) = true := by simp; omega
              have e1' : decide (j3 < nw) = true := by simp; omega
              have z0 : (0 : Int) ≤ (j3 : Int) := by omega
              have z1 : (j3 : Int) < (nw : Int) := by omega
              have z2 : (j3 : Int).toNat = j3 := by omega
              have z3 : (j3 : Int) < 62 := by have := HW2.out; have := HNW.out; have := HLT.out; omega
              have hjw : j3 < D2.waits.length := by rw [HNW.out]; exact hlt3
              obtain ⟨at3, hat3⟩ : ∃ a, (D2.waits[j3]'hjw).1 = a := ⟨_, rfl⟩
              have S := hid hI3.out.1
              have R := hid hI3.out.2.1
              have O := hid hI3.out.2.2
              have haa : (at3 != at3) = false := by simp
              obtain ⟨g3, rfl, -⟩ := own_row O.out (by omega)
              have t0 := (O.out.cellAt j3 (by omega)).trans (show (D2.waits.map atV)[j3]? = some (.int .i64 at3) by rw [List.getElem?_map, List.getElem?_eq_getElem hjw, ← hat3]; rfl)
              obtain ⟨AL, cL, t1, -, t2⟩ := R.out.wait0
              obtain ⟨gL, rfl, t5⟩ := t2 j3 hjw
              rw [HNW.out] at t1
              rw [hat3] at t5
              have T012 := hid (And.intro t0 (And.intro t1 t5))
              clear hI3 hat3 hjw t0 t1 t2 t5
              go_upto_region 64 with fail
              have S := hid S.out.drew
              have R := hid (R.out.below (drew_below _))
              have O := hid (own_below O.out (drew_below _))
              have hS : wr.drew.cell? ⟨g3, j3, none⟩ = some (.int .i64 at3) ∧ wr.drew.cell? ⟨m, 1, none⟩ = some (.slice (some ⟨gL, 0, none⟩) nw cL) ∧ wr.drew.cell? ⟨gL, j3 * 2, none⟩ = some (.int .i64 at3) := T012.out
              refine wp_region_noPanic ?_
              refine wp_region_held_drew (S := (fun X => X.cell? ⟨g3, j3, none⟩ = some (.int .i64 at3) ∧ X.cell? ⟨m, 1, none⟩ = some (.slice (some ⟨gL, 0, none⟩) nw cL) ∧ X.cell? ⟨gL, j3 * 2, none⟩ = some (.int .i64 at3))) (by kernel_rfl) (by first | assumption | trivial) (fun hHeld => ?_)
              refine wpAnyH_take (i := 0) (v := ?_) rfl (by kernel_rfl) (by kernel_rfl) (by kernel_rfl) (fun _ _ _ h => h) (Or.inl ⟨by kernel_rfl, ?_⟩) (by first | assumption | trivial) ?_
              rotate_left
              · (intro wS hSw; (try dsimp only at hSw); go_simp; try with_reducible rfl)
              (try simp only [List.append_eq, List.cons_append, List.nil_append, List.getElem_toArray, List.getElem_cons_succ, List.getElem_cons_zero, Act.put, List.setIfInBounds_toArray, List.set_cons_zero, List.set_cons_succ])
              refine wpAnyH_take (i := 1) (v := ?_) rfl (by kernel_rfl) (by kernel_rfl) (by kernel_rfl) (fun _ _ _ h => h) (Or.inl ⟨by kernel_rfl, ?_⟩) (by first | assumption | trivial) ?_
              rotate_left
              · (intro wS hSw; (try dsimp only at hSw); go_simp; try with_reducible rfl)
              (try simp only [List.append_eq, List.cons_append, List.nil_append, List.getElem_toArray, List.getElem_cons_succ, List.getElem_cons_zero, Act.put, List.setIfInBounds_toArray, List.set_cons_zero, List.set_cons_succ])
              refine wpAnyH_take (i := 2) (v := ?_) rfl (by kernel_rfl) (by kernel_rfl) (by kernel_rfl) (fun _ _ _ h => h) (Or.inl ⟨by kernel_rfl, ?_⟩) (by first | assumption | trivial) ?_
              rotate_left
              · (intro wS hSw; (try dsimp only at hSw); go_simp; try with_reducible rfl)
              (try simp only [List.append_eq, List.cons_append, List.nil_append, List.getElem_toArray, List.getElem_cons_succ, List.getElem_cons_zero, Act.put, List.setIfInBounds_toArray, List.set_cons_zero, List.set_cons_succ])
              refine wpAnyH_take (i := 3) (v := ?_) rfl (by kernel_rfl) (by kernel_rfl) (by kernel_rfl) (fun _ _ _ h => h) (Or.inl ⟨by kernel_rfl, ?_⟩) (by first | assumption | trivial) ?_
              rotate_left
              · (intro wS hSw; (try dsimp only at hSw); go_simp; try with_reducible rfl)
              (try simp only [List.append_eq, List.cons_append, List.nil_append, List.getElem_toArray, List.getElem_cons_succ, List.getElem_cons_zero, Act.put, List.setIfInBounds_toArray, List.set_cons_zero, List.set_cons_succ])
              refine wpAnyH_take (i := 4) (v := ?_) rfl (by kernel_rfl) (by kernel_rfl) (by kernel_rfl) (fun _ _ _ h => h) (Or.inl ⟨by kernel_rfl, ?_⟩) (by first | assumption | trivial) ?_
              rotate_left
              · (intro wS hSw; (try dsimp only at hSw); go_simp; try with_reducible rfl)
              (try simp only [List.append_eq, List.cons_append, List.nil_append, List.getElem_toArray, List.getElem_cons_succ, List.getElem_cons_zero, Act.put, List.setIfInBounds_toArray, List.set_cons_zero, List.set_cons_succ])
              refine wpAnyH_take (i := 5) (v := ?_) rfl (by kernel_rfl) (by kernel_rfl) (by kernel_rfl) (fun _ _ _ h => h) (Or.inl ⟨by kernel_rfl, ?_⟩) (by first | assumption | trivial) ?_
              rotate_left
              · (intro wS hSw; (try dsimp only at hSw); go_simp; try with_reducible rfl)
              (try simp only [List.append_eq, List.cons_append, List.nil_append, List.getElem_toArray, List.getElem_cons_succ, List.getElem_cons_zero, Act.put, List.setIfInBounds_toArray, List.set_cons_zero, List.set_cons_succ])
              refine wpAnyH_take (i := 6) (v := ?_) rfl (by kernel_rfl) (by kernel_rfl) (by kernel_rfl) (fun _ _ _ h => h) (Or.inl ⟨by kernel_rfl, ?_⟩) (by first | assumption | trivial) ?_
              rotate_left
              · (intro wS hSw; (try dsimp only at hSw); go_simp; try with_reducible rfl)
              (try simp only [List.append_eq, List.cons_append, List.nil_append, List.getElem_toArray, List.getElem_cons_succ, List.getElem_cons_zero, Act.put, List.setIfInBounds_toArray, List.set_cons_zero, List.set_cons_succ])
              refine wpAnyH_take (i := 7) (v := ?_) rfl (by kernel_rfl) (by kernel_rfl) (by kernel_rfl) (fun _ _ _ h => h) (Or.inl ⟨by kernel_rfl, ?_⟩) (by first | assumption | trivial) ?_
              rotate_left
              · (intro wS hSw; (try dsimp only at hSw); go_simp; try with_reducible rfl)
              (try simp only [List.append_eq, List.cons_append, List.nil_append, List.getElem_toArray, List.getElem_cons_succ, List.getElem_cons_zero, Act.put, List.setIfInBounds_toArray, List.set_cons_zero, List.set_cons_succ])
              refine wpAnyH_take (i := 8) (v := ?_) rfl (by kernel_rfl) (by kernel_rfl) (by kernel_rfl) (fun _ _ _ h => h) (Or.inl ⟨by kernel_rfl, ?_⟩) (by first | assumption | trivial) ?_
              rotate_left
              · (intro wS hSw; (try dsimp only at hSw); go_simp; try with_reducible rfl)
              (try simp only [List.append_eq, List.cons_append, List.nil_append, List.getElem_toArray, List.getElem_cons_succ, List.getElem_cons_zero, Act.put, List.setIfInBounds_toArray, List.set_cons_zero, List.set_cons_succ])
              refine wpAnyH_take (i := 9) (v := ?_) rfl (by kernel_rfl) (by kernel_rfl) (by kernel_rfl) (fun _ _ _ h => h) (Or.inl ⟨by kernel_rfl, ?_⟩) (by first | assumption | trivial) ?_
              rotate_left
              · (intro wS hSw; (try dsimp only at hSw); go_simp; try with_reducible rfl)
              (try simp only [List.append_eq, List.cons_append, List.nil_append, List.getElem_toArray, List.getElem_cons_succ, List.getElem_cons_zero, Act.put, List.setIfInBounds_toArray, List.set_cons_zero, List.set_cons_succ])
              refine wpAnyH_take (i := 10) (v := ?_) rfl (by kernel_rfl) (by kernel_rfl) (by kernel_rfl) (fun _ _ _ h => h) (Or.inl ⟨by kernel_rfl, ?_⟩) (by first | assumption | trivial) ?_
              rotate_left
              · (intro wS hSw; (try dsimp only at hSw); go_simp; try with_reducible rfl)
              (try simp only [List.append_eq, List.cons_append, List.nil_append, List.getElem_toArray, List.getElem_cons_succ, List.getElem_cons_zero, Act.put, List.setIfInBounds_toArray, List.set_cons_zero, List.set_cons_succ])
              refine wpAnyH_take (i := 11) (v := ?_) rfl (by kernel_rfl) (by kernel_rfl) (by kernel_rfl) (fun _ _ _ h => h) (Or.inl ⟨by kernel_rfl, ?_⟩) (by first | assumption | trivial) ?_
              rotate_left
              · (intro wS hSw; (try dsimp only at hSw); go_simp; try with_reducible rfl)
              (try simp only [List.append_eq, List.cons_append, List.nil_append, List.getElem_toArray, List.getElem_cons_succ, List.getElem_cons_zero, Act.put, List.setIfInBounds_toArray, List.set_cons_zero, List.set_cons_succ])
              refine wpAnyH_take (i := 12) (v := ?_) rfl (by kernel_rfl) (by kernel_rfl) (by kernel_rfl) (fun _ _ _ h => h) (Or.inl ⟨by kernel_rfl, ?_⟩) (by first | assumption | trivial) ?_
              rotate_left
              · (intro wS hSw; (try dsimp only at hSw); go_simp; try with_reducible rfl)
              (try simp only [List.append_eq, List.cons_append, List.nil_append, List.getElem_toArray, List.getElem_cons_succ, List.getElem_cons_zero, Act.put, List.setIfInBounds_toArray, List.set_cons_zero, List.set_cons_succ])
              refine wpAnyH_done (by kernel_rfl) ?_ _
              refine NoPanic.normal ?_
              clear hS hHeld
              go_wp2_with fail
              go_roundw
              case rel => exact ⟨j3 + 1, by omega, by go_num, hid ⟨S.out, R.out, O.out⟩⟩
              case measure => simp [intOf]; omega
          · have e1 : decide ((j3 : Int) < (nw : Int)) = false := by simp; omega
            have e1' : decide (j3 < nw) = false := by simp; omega
            have S := hid hI3.out.1
            have R := hid hI3.out.2.1
            clear hI3
            go_wp2_with fail
            go_roundw
            case rel => exact ⟨d2, hb2, D2, j + 1, by have := HLT.out; omega, rfl, by go_num, hid ⟨S.out, R.out, HN2.out, HW2.out⟩⟩
            case measure => have := HLT.out; simp [intOf]; omega
    · as_aux_lemma =>
        have hdd : decide ((j : Int) < (na : Int)) = false ∨ (decide ((j : Int) < (na : Int)) = true ∧ decide ((j : Int) < 60) = false) := by
          by_cases h1 : j < na
          · exact .inr ⟨by simp; omega, by simp; omega⟩
          · exact .inl (by simp; omega)
        have HI := hid hI.out
        clear hI hlt
        go_upto_region 8 with fail
        go_cut [65, 66, 67, 68, 69, 70, 71, 72] from 65 to 72 (fun a b c0 e f g h t wx => t = .bool false ∧ wr = wx)
        case first =>
          rcases hdd with d1 | ⟨d1, d2⟩
          · have d1' : decide (j < na) = false := by simpa using d1
            go_wp2_with fail
            go_meet
            exact ⟨rfl, rfl⟩
          · have d1' : decide (j < na) = true := by simpa using d1
            go_wp2_with fail
            go_meet
            exact ⟨rfl, rfl⟩
        case rest =>
        obtain ⟨rfl, hw9⟩ := hcut
        subst hw9
        clear hdd
        go_wp2_with fail
        go_loopw [23, 24, 25] (fun i b f wx => ∃ j4 : Nat, j4 ≤ 40 ∧ j4 ≤ n ∧ i = .int .i64 (j4 : Int) ∧ Hid (St w wx d hb D ∧ RSt w wx m D ∧ D.has.length = n)) (fun i b f wx => 40 - (intOf i).toNat)
        case atStart => exact ⟨0, by omega, by omega, rfl, hid ⟨HI.out.1, HI.out.2.1, HI.out.2.2.1⟩⟩
        case round =>
          clear HI
          obtain ⟨j4, hj4, hj4n, rfl, hI4⟩ := hrel
          have S := hid hI4.out.1
          have R := hid hI4.out.2.1
          have HN := hid hI4.out.2.2
          clear hI4
          by_cases hlt4 : j4 < n ∧ j4 < 40
          · have e1 : decide ((j4 : Int) < (n : Int)) = true := by simp; omega
            have e1' : decide (j4 < n) = true := by simp; omega
            have e2 : decide ((j4 : Int) < 40) = true := by simp; omega
            have e2' : decide (j4 < 40) = true := by simp; omega
            have z0 : (0 : Int) ≤ (j4 : Int) := by omega
            have z1 : (j4 : Int) < (n : Int) := by omega
            have z2 : (j4 : Int).toNat = j4 := by omega
            have hjn : j4 < D.has.length := by rw [HN.out]; exact hlt4.1
            have HJN := hid hjn
            obtain ⟨s, hs⟩ : ∃ s, D.has.getD j4 [] = s := ⟨_, rfl⟩
            have hr : hasR D (j4 : Int) = (s, 0) := by unfold hasR; rw [if_pos ⟨z0, by omega⟩, ← hs]; rfl
            have HHP := hid (has_pb S.out (j4 : Int))
            rw [hr] at HHP
            have HS := hid hs
            have hss := str_ne (rfl : s = s)
            clear hr hs hjn
            go_upto_region 70 with (go_at_call 25
                                    refine HHP.out.mono ?_
                                    rintro e w2 ⟨A2, n2, c2, rfl, o2, m2, b2⟩
                                    have S := hid (S.out.below b2)
                                    have R := hid (R.out.below b2)
                                    have O2 := hid o2
                                    clear o2 b2 m2)
            have S := hid S.out.drew
            have R := hid (R.out.below (drew_below _))
            obtain ⟨gH, cH, t0, t1⟩ := R.out.has0 j4 HJN.out
            rw [HN.out] at t0
            rw [HS.out] at t1
            have hS := And.intro (strP c2 O2.out.drew) (And.intro t0 t1)
            clear t0 t1
            refine wp_region_noPanic ?_
            refine wp_region_held_drew (S := (fun X => (convert 31 9 (.slice A2 n2 c2)).run Try.prog X = .ok (.string (str s)) X ∧ X.cell? ⟨m, 0, none⟩ = some (.slice (some ⟨gH, 0, none⟩) n cH) ∧ X.cell? ⟨gH, j4, none⟩ = some (.string (str s)))) (by kernel_rfl) (by first | assumption | trivial) (fun hHeld => ?_)
            refine wpAnyH_take (i := 0) (v := ?_) rfl (by kernel_rfl) (by kernel_rfl) (by kernel_rfl) (fun _ _ _ h => h) (Or.inl ⟨by kernel_rfl, ?_⟩) (by first | assumption | trivial) ?_
            rotate_left
            · (intro wS hSw; (try dsimp only at hSw); go_simp; try with_reducible rfl)
            (try simp only [List.append_eq, List.cons_append, List.nil_append, List.getElem_toArray, List.getElem_cons_succ, List.getElem_cons_zero, Act.put, List.setIfInBounds_toArray, List.set_cons_zero, List.set_cons_succ])
            refine wpAnyH_take (i := 1) (v := ?_) rfl (by kernel_rfl) (by kernel_rfl) (by kernel_rfl) (fun _ _ _ h => h) (Or.inl ⟨by kernel_rfl, ?_⟩) (by first | assumption | trivial) ?_
            rotate_left
            · (intro wS hSw; (try dsimp only at hSw); go_simp; try with_reducible rfl)
            (try simp only [List.append_eq, List.cons_append, List.nil_append, List.getElem_toArray, List.getElem_cons_succ, List.getElem_cons_zero, Act.put, List.setIfInBounds_toArray, List.set_cons_zero, List.set_cons_succ])
            refine wpAnyH_take (i := 2) (v := ?_) rfl (by kernel_rfl) (by kernel_rfl) (by kernel_rfl) (fun _ _ _ h => h) (Or.inl ⟨by kernel_rfl, ?_⟩) (by first | assumption | trivial) ?_
            rotate_left
            · (intro wS hSw; (try dsimp only at hSw); go_simp; try with_reducible rfl)
            (try simp only [List.append_eq, List.cons_append, List.nil_append, List.getElem_toArray, List.getElem_cons_succ, List.getElem_cons_zero, Act.put, List.setIfInBounds_toArray, List.set_cons_zero, List.set_cons_succ])
            refine wpAnyH_take (i := 3) (v := ?_) rfl (by kernel_rfl) (by kernel_rfl) (by kernel_rfl) (fun _ _ _ h => h) (Or.inl ⟨by kernel_rfl, ?_⟩) (by first | assumption | trivial) ?_
            rotate_left
            · (intro wS hSw; (try dsimp only at hSw); go_simp; try with_reducible rfl)
            (try simp only [List.append_eq, List.cons_append, List.nil_append, List.getElem_toArray, List.getElem_cons_succ, List.getElem_cons_zero, Act.put, List.setIfInBounds_toArray, List.set_cons_zero, List.set_cons_succ])
            refine wpAnyH_take (i := 4) (v := ?_) rfl (by kernel_rfl) (by kernel_rfl) (by kernel_rfl) (fun _ _ _ h => h) (Or.inl ⟨by kernel_rfl, ?_⟩) (by first | assumption | trivial) ?_
            rotate_left
            · (intro wS hSw; (try dsimp only at hSw); go_simp; try with_reducible rfl)
            (try simp only [List.append_eq, List.cons_append, List.nil_append, List.getElem_toArray, List.getElem_cons_succ, List.getElem_cons_zero, Act.put, List.setIfInBounds_toArray, List.set_cons_zero, List.set_cons_succ])
            refine wpAnyH_take (i := 5) (v := ?_) rfl (by kernel_rfl) (by kernel_rfl) (by kernel_rfl) (fun _ _ _ h => h) (Or.inl ⟨by kernel_rfl, ?_⟩) (by first | assumption | trivial) ?_
            rotate_left
            · (intro wS hSw; (try dsimp only at hSw); go_simp; try with_reducible rfl)
            (try simp only [List.append_eq, List.cons_append, List.nil_append, List.getElem_toArray, List.getElem_cons_succ, List.getElem_cons_zero, Act.put, List.setIfInBounds_toArray, List.set_cons_zero, List.set_cons_succ])
            refine wpAnyH_take (i := 6) (v := ?_) rfl (by kernel_rfl) (by kernel_rfl) (by kernel_rfl) (fun _ _ _ h => h) (Or.inl ⟨by kernel_rfl, ?_⟩) (by first | assumption | trivial) ?_
            rotate_left
            · (intro wS hSw; (try dsimp only at hSw); go_simp; try with_reducible rfl)
            (try simp only [List.append_eq, List.cons_append, List.nil_append, List.getElem_toArray, List.getElem_cons_succ, List.getElem_cons_zero, Act.put, List.setIfInBounds_toArray, List.set_cons_zero, List.set_cons_succ])
            refine wpAnyH_take (i := 7) (v := ?_) rfl (by kernel_rfl) (by kernel_rfl) (by kernel_rfl) (fun _ _ _ h => h) (Or.inl ⟨by kernel_rfl, ?_⟩) (by first | assumption | trivial) ?_
            rotate_left
            · (intro wS hSw; (try dsimp only at hSw); go_simp; try with_reducible rfl)
            (try simp only [List.append_eq, List.cons_append, List.nil_append, List.getElem_toArray, List.getElem_cons_succ, List.getElem_cons_zero, Act.put, List.setIfInBounds_toArray, List.set_cons_zero, List.set_cons_succ])
            refine wpAnyH_take (i := 8) (v := ?_) rfl (by kernel_rfl) (by kernel_rfl) (by kernel_rfl) (fun _ _ _ h => h) (Or.inl ⟨by kernel_rfl, ?_⟩) (by first | assumption | trivial) ?_
            rotate_left
            · (intro wS hSw; (try dsimp only at hSw); go_simp; try with_reducible rfl)
            (try simp only [List.append_eq, List.cons_append, List.nil_append, List.getElem_toArray, List.getElem_cons_succ, List.getElem_cons_zero, Act.put, List.setIfInBounds_toArray, List.set_cons_zero, List.set_cons_succ])
            refine wpAnyH_take (i := 9) (v := ?_) rfl (by kernel_rfl) (by kernel_rfl) (by kernel_rfl) (fun _ _ _ h => h) (Or.inl ⟨by kernel_rfl, ?_⟩) (by first | assumption | trivial) ?_
            rotate_left
            · (intro wS hSw; (try dsimp only at hSw); go_simp; try with_reducible rfl)
            (try simp only [List.append_eq, List.cons_append, List.nil_append, List.getElem_toArray, List.getElem_cons_succ, List.getElem_cons_zero, Act.put, List.setIfInBounds_toArray, List.set_cons_zero, List.set_cons_succ])
            refine wpAnyH_take (i := 10) (v := ?_) rfl (by kernel_rfl) (by kernel_rfl) (by kernel_rfl) (fun _ _ _ h => h) (Or.inl ⟨by kernel_rfl, ?_⟩) (by first | assumption | trivial) ?_
            rotate_left
            · (intro wS hSw; (try dsimp only at hSw); go_simp; try with_reducible rfl)
            (try simp only [List.append_eq, List.cons_append, List.nil_append, List.getElem_toArray, List.getElem_cons_succ, List.getElem_cons_zero, Act.put, List.setIfInBounds_toArray, List.set_cons_zero, List.set_cons_succ])
            refine wpAnyH_take (i := 11) (v := ?_) rfl (by kernel_rfl) (by kernel_rfl) (by kernel_rfl) (fun _ _ _ h => h) (Or.inl ⟨by kernel_rfl, ?_⟩) (by first | assumption | trivial) ?_
            rotate_left
            · (intro wS hSw; (try dsimp only at hSw); go_simp; try with_reducible rfl)
            (try simp only [List.append_eq, List.cons_append, List.nil_append, List.getElem_toArray, List.getElem_cons_succ, List.getElem_cons_zero, Act.put, List.setIfInBounds_toArray, List.set_cons_zero, List.set_cons_succ])
            refine wpAnyH_take (i := 12) (v := ?_) rfl (by kernel_rfl) (by kernel_rfl) (by kernel_rfl) (fun _ _ _ h => h) (Or.inl ⟨by kernel_rfl, ?_⟩) (by first | assumption | trivial) ?_
            rotate_left
            · (intro wS hSw; (try dsimp only at hSw); go_simp; try with_reducible rfl)
            (try simp only [List.append_eq, List.cons_append, List.nil_append, List.getElem_toArray, List.getElem_cons_succ, List.getElem_cons_zero, Act.put, List.setIfInBounds_toArray, List.set_cons_zero, List.set_cons_succ])
            refine wpAnyH_take (i := 13) (v := ?_) rfl (by kernel_rfl) (by kernel_rfl) (by kernel_rfl) (fun _ _ _ h => h) (Or.inl ⟨by kernel_rfl, ?_⟩) (by first | assumption | trivial) ?_
            rotate_left
            · (intro wS hSw; (try dsimp only at hSw); go_simp; try with_reducible rfl)
            (try simp only [List.append_eq, List.cons_append, List.nil_append, List.getElem_toArray, List.getElem_cons_succ, List.getElem_cons_zero, Act.put, List.setIfInBounds_toArray, List.set_cons_zero, List.set_cons_succ])
            refine wpAnyH_done (by kernel_rfl) ?_ _
            refine NoPanic.normal ?_
            clear hS hHeld
            go_wp2_with fail
            go_roundw
            case rel => exact ⟨j4 + 1, by omega, by omega, by go_num, hid ⟨S.out, R.out, HN.out⟩⟩
            case measure => simp [intOf]; omega
          · have hdd : decide ((j4 : Int) < (n : Int)) = false ∨ (decide ((j4 : Int) < (n : Int)) = true ∧ decide ((j4 : Int) < 40) = false) := by
              by_cases h1 : j4 < n
              · exact .inr ⟨by simp; omega, by simp; omega⟩
              · exact .inl (by simp; omega)
            clear hlt4
            go_upto_region 67 with fail
            go_cut [266, 267, 268, 269, 270, 271, 272] from 266 to 272 (fun a b c0 e f g t wx => t = .bool false ∧ wr = wx)
            case first =>
              rcases hdd with d1 | ⟨d1, d2⟩
              · have d1' : decide (j4 < n) = false := by simpa using d1
                go_wp2_with fail
                go_meet
                exact ⟨rfl, rfl⟩
              · have d1' : decide (j4 < n) = true := by simpa using d1
                go_wp2_with fail
                go_meet
                exact ⟨rfl, rfl⟩
            case rest =>
            obtain ⟨rfl, hw9⟩ := hcut
            subst hw9
            clear hdd
            go_wp2_with (go_at_call 14; (with_reducible refine (awake_any _).mono ?_); rintro e w7 ⟨rfl, b7⟩; have HB := hid (S.out.below b7).bel; clear b7)
            go_ret
            exact ⟨rfl, HB.out⟩
end Go.Proofs.Ytkadehdbnkinlaa
