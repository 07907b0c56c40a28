/-
  DiskBudgets: the walk. A part of the proof: see the head of the text that ends in 'Law'.
-/
import Derived.Test.YtkadehdbnkinlaaDk22
namespace Go.Proofs.Ytkadehdbnkinlaa
open Go.RowKit
set_option linter.unusedVariables false
set_option linter.unusedSimpArgs false
attribute [local go_sem] Oper.semAt_some

/-- A disk on a budget of m, of which c are done. -/
structure Bud (D : Dsk) (m c j : Nat) : Prop where
  has : D.has.length = 4
  w : D.waits.length ≤ j
  le : c ≤ m
  st : (D.off = false ∧ D.bud = ((m - c : Nat) : Int)) ∨ (D.off = true ∧ c = m)
theorem Bud.cases {D : Dsk} {m c j : Nat} (h : Bud D m c j) : (onD D = true ∧ c < m ∧ D.off = false ∧ spendD D = { D with bud := ((m - (c + 1) : Nat) : Int), off := false }) ∨ (onD D = false ∧ c = m ∧ spendD D = { D with off := true }) := by
  obtain ⟨has, waits, bud, off, ys, cp⟩ := D
  obtain ⟨_, _, h1, h2⟩ := h
  dsimp only at h2
  rcases h2 with ⟨rfl, rfl⟩ | ⟨rfl, rfl⟩
  · by_cases hc : c = m
    · subst hc
      refine .inr ⟨?_, rfl, ?_⟩
      · unfold onD; simp
      · unfold spendD; simp
    · have e1 : ¬ ((m - c : Nat) : Int) = 0 := by omega
      have e2 : 0 < ((m - c : Nat) : Int) := by omega
      refine .inl ⟨?_, by omega, rfl, ?_⟩
      · unfold onD
        show (!false && !decide (((m - c : Nat) : Int) = 0)) = true
        rw [decide_eq_false e1]
        rfl
      · unfold spendD
        dsimp only
        rw [if_neg (by decide), if_neg e1, if_pos e2, show ((m - c : Nat) : Int) - 1 = ((m - (c + 1) : Nat) : Int) by omega]
  · refine .inr ⟨?_, rfl, ?_⟩
    · unfold onD; rfl
    · unfold spendD; rfl
theorem Bud.flush_yes {D : Dsk} {m c j : Nat} (h : Bud D m c j) (ho : onD D = true) : ∃ D', flushD D = (D', 0) ∧ Bud D' m (c + 1) (j + 1) := by
  rcases h.cases with ⟨h1, h2, h3, h4⟩ | ⟨h1, _⟩
  · refine ⟨{ spendD D with has := doneK (fun _ => true) D.waits D.has D.waits.length, waits := [] }, ?_, ?_⟩
    · unfold flushD; rw [if_pos ho]
    · rw [h4]
      exact ⟨by show (doneK _ _ _ _).length = 4; rw [doneK_len]; exact h.has, by simp, h2, .inl ⟨rfl, rfl⟩⟩
  · rw [h1] at ho; cases ho
theorem Bud.flush_no {D : Dsk} {m c j : Nat} (h : Bud D m c j) (ho : onD D = false) : ∃ D', flushD D = (D', 10) ∧ Bud D' m c (j + 1) ∧ c = m ∧ D'.off = true := by
  rcases h.cases with ⟨h1, _⟩ | ⟨h1, h2, h3⟩
  · rw [h1] at ho; cases ho
  · refine ⟨spendD D, ?_, ?_, h2, by rw [h3]⟩
    · unfold flushD; rw [ho]; rfl
    · rw [h3]
      exact ⟨h.has, by have := h.w; dsimp only; omega, by omega, .inr ⟨rfl, h2⟩⟩
theorem Bud.write_yes {D : Dsk} {m c j : Nat} (h : Bud D m c j) (ho : onD D = true) (r : Nat) (hr : r < 4) (s : List UInt8) : ∃ D', writeD D (r : Int) s = (D', 0) ∧ Bud D' m (c + 1) (j + 1) := by
  rcases h.cases with ⟨h1, h2, h3, h4⟩ | ⟨h1, _⟩
  · refine ⟨{ spendD D with waits := D.waits ++ [((r : Int), s)] }, ?_, ?_⟩
    · unfold writeD; rw [h.has, if_pos (show (0 : Int) ≤ (r : Int) ∧ (r : Int) < ((4 : Nat) : Int) by omega), if_pos ho]
    · rw [h4]
      refine ⟨h.has, ?_, h2, .inl ⟨rfl, rfl⟩⟩
      show (D.waits ++ [((r : Int), s)]).length ≤ j + 1
      have := h.w
      rw [List.length_append, List.length_singleton]
      omega
  · rw [h1] at ho; cases ho
theorem Bud.write_no {D : Dsk} {m c j : Nat} (h : Bud D m c j) (ho : onD D = false) (r : Nat) (hr : r < 4) (s : List UInt8) : ∃ D', writeD D (r : Int) s = (D', 10) ∧ Bud D' m c (j + 1) ∧ c = m ∧ D'.off = true := by
  rcases h.cases with ⟨h1, _⟩ | ⟨h1, h2, h3⟩
  · rw [h1] at ho; cases ho
  · refine ⟨spendD D, ?_, ?_, h2, by rw [h3]⟩
    · unfold writeD; rw [h.has, if_pos (show (0 : Int) ≤ (r : Int) ∧ (r : Int) < ((4 : Nat) : Int) by omega), ho]; rfl
    · rw [h3]
      exact ⟨h.has, by have := h.w; dsimp only; omega, by omega, .inr ⟨rfl, h2⟩⟩
theorem waits_st {w0 W : World} {d hb : Nat} {D : Dsk} (h : St w0 W d hb D) (hw : D.waits.length ≤ 100000) :
    Calls Try.prog 17 #[.pointer (some ⟨d, 0, none⟩)] W fun e w' => ∃ A c, e = .returned (.slice A D.waits.length c) ∧ w'.ownsRow W.heap.size 3 1 (.slice A D.waits.length c) D.waits.length (D.waits.map atV) ∧ St w0 w' d hb D ∧ Below W.heap.size W w' := by
  obtain ⟨V, hV⟩ := h.at_
  refine (waits_any hV hw).mono ?_
  rintro e w' ⟨A, c, h1, h2, h3⟩
  exact ⟨A, c, h1, h2, h.below h3, h3⟩
theorem rem_u8 (x : UInt8) (k : Nat) (hk : 0 < k) (hk2 : k < 256) : IntKind.u8.wrap ((x.toNat : Int).tmod (k : Int)) = ((x.toNat % k : Nat) : Int) ∧ (x.toNat : Int).tmod (k : Int) = ((x.toNat % k : Nat) : Int) := by
  have h := x.toNat_lt
  have e : (x.toNat : Int).tmod (k : Int) = ((x.toNat % k : Nat) : Int) := by rw [Int.tmod_eq_emod_of_nonneg (by omega)]; rfl
  refine ⟨?_, e⟩
  have := Nat.mod_lt x.toNat hk
  rw [e, IntKind.wrap_u8]
  omega
set_option maxRecDepth 100000 in
set_option maxHeartbeats 4000000 in
theorem budgetsU (x : UInt8) (s : SlOf ActV) (w : World) (hs : s.Ok actC (fun a => in64 a.1 ∧ in64 a.2.1 ∧ True ∧ True ∧ a.2.2.2.2.Ok (fun b : Bool => [.bool b]) (fun _ => True) w) w) :
    Calls Try.prog 5 #[B8 x, .slice s.A s.n s.c] w fun e w' => e = .returned (.bool true) ∧ Below w.heap.size w w' := by
  obtain ⟨A, n, c0, l⟩ := s
  have hA : ActsIn w A n c0 l := ⟨hs.nc, hs.cm, hs.len, hs.row, hs.good⟩
  dsimp only
  have HA := hid hA
  have hln : l.length = n := hA.2.2.1
  have HLN := hid hln
  obtain ⟨m1, m2⟩ := rem_u8 x 20 (by omega) (by omega)
  have hm20 : x.toNat % 20 < 20 := Nat.mod_lt _ (by omega)
  obtain ⟨m, hm⟩ : ∃ m, x.toNat % 20 = m := ⟨_, rfl⟩
  rw [hm] at m1 m2 hm20
  have m2' : (x.toNat : Int).tmod 20 = (m : Int) := m2
  have m1' : IntKind.u8.wrap ((x.toNat : Int).tmod 20) = (m : Int) := m1
  have m3 : (x.toNat : Int) % 20 = (m : Int) := by omega
  have mz := IntKind.wrap_u8
  have HM := hid hm20
  clear hs hA hln hm m1 m2 mz
  unfold B8
  go_enter Try.func5, Try.ntmps5
  go_wp2_with (first
    | (go_at_call 7; refine (new_st 4 (by omega) (by omega) w w (Below.refl _ _)).mono ?_; rintro e w1 ⟨d, hb, rfl, s1, b1⟩; have S := hid s1; clear s1 b1)
    | (go_at_call 15; refine (budget_st S.out (m : Int) (by omega) (by omega)).mono ?_; rintro e w2 ⟨rfl, s2, k2⟩; have S := hid s2; clear s2 k2))
  have HB0 : Bud { newD 4 with bud := (m : Int) } m 0 0 := ⟨rfl, Nat.le_refl _, Nat.zero_le _, .inl ⟨rfl, rfl⟩⟩
  have HBZ := hid HB0
  clear HB0
  go_loopw [7, 8, 9] (fun dn k f wr => ∃ (j c : Nat) (D : Dsk), j ≤ 40 ∧ k = .int .i64 (j : Int) ∧ dn = .int .i64 (c : Int) ∧ Hid (St w wr d hb D ∧ Bud D m c j)) (fun dn k f wr => 40 - (intOf k).toNat)
  case atStart => exact ⟨0, 0, _, by omega, rfl, rfl, hid ⟨S.out, HBZ.out⟩⟩
  case round =>
    obtain ⟨j, c, D, hj, rfl, rfl, hI⟩ := hrel
    clear HBZ S
    by_cases hlt : j < n ∧ j < 40
    · obtain ⟨ab, ao, rfl, hcell⟩ := HA.out.cell (by omega)
      have hjl : j < l.length := by rw [HLN.out]; exact hlt.1
      have hc := hcell j hjl
      obtain ⟨a, ha⟩ : ∃ a, l[j]'hjl = a := ⟨_, rfl⟩
      rw [ha] at hc
      obtain ⟨aD, aI, aC, aS, aK⟩ := a
      dsimp only at hc
      have HC := hid hc
      have bel := hI.out.1.bel
      have y0 := cells_keep bel hc.1
      have hF := hI.out.2
      have S := hid hI.out.1
      have d1 : decide ((j : Int) < (n : Int)) = true := by simp; omega
      have d2 : decide ((j : Int) < 40) = true := by simp; omega
      have d1' : decide (j < n) = true := by simp; omega
      have d2' : decide (j < 40) = true := by simp; omega
      have i0 : (0 : Int) ≤ (j : Int) := by omega
      have i1 : (j : Int) < (n : Int) := by omega
      have i2 : (j : Int).toNat = j := by omega
      have hwl := hF.w
      have hc20 : c < 20 := by have := hF.le; omega
      clear hI bel hc hcell ha hjl
      by_cases hdo : aD = 2
      · subst hdo
        cases hon : onD D with
        | true =>
          obtain ⟨D', he, hB'⟩ := hF.flush_yes hon
          have HFL := hid (fun (W : World) (k : St w W d hb D) => flush_good k (by omega) he)
          have HB' := hid hB'
          clear he hB' hF hwl hon
          go_wp2_with (go_at_call 10; (with_reducible refine (HFL.out _ S.out).mono ?_); rintro e w5 ⟨rfl, s5, k5⟩; have S := hid s5; clear s5 k5)
          go_roundw
          case rel => exact ⟨j + 1, c + 1, D', by omega, by go_num, by go_num, hid ⟨S.out, HB'.out⟩⟩
          case measure => simp [intOf]; omega
        | false =>
          obtain ⟨D', he, hB', hcm, hoff⟩ := hF.flush_no hon
          have HFL := hid (fun (W : World) (k : St w W d hb D) => flush_good k (by omega) he)
          have HPW := hid (fun (W : World) (k : St w W d hb D') => power_good (b := false) k (by rw [hoff]; rfl))
          have HB' := hid hB'
          clear he hB' hF hwl hon hoff
          subst hcm
          go_wp2_with (first
            | (go_at_call 10; (with_reducible refine (HFL.out _ S.out).mono ?_); rintro e w5 ⟨rfl, s5, k5⟩; have S := hid s5; clear s5 k5)
            | (go_at_call 16; (with_reducible refine (HPW.out _ S.out).mono ?_); rintro e w6 ⟨rfl, hw6⟩; subst hw6))
          go_roundw
          case rel => exact ⟨j + 1, c, D', by omega, by go_num, rfl, hid ⟨S.out, HB'.out⟩⟩
          case measure => simp [intOf]; omega
      · have d3 : (aD == 2) = false := by simpa using hdo
        go_upto_region 11 with fail
        have hKS : ∀ X, Below w.heap.size w X → X.cell? ⟨ab, ao + j * 5 + 2, none⟩ = some (.int .u8 (aC.toNat : Int)) := fun X hX => cells_keep hX HC.out.2.2.1
        have HKS := hid hKS
        have hS := HKS.out _ S.out.drew.bel
        have S := hid S.out.drew
        clear hKS
        obtain ⟨r1, r2⟩ := rem_u8 aC 4 (by omega) (by omega)
        have hr4 : aC.toNat % 4 < 4 := Nat.mod_lt _ (by omega)
        obtain ⟨r, hr⟩ : ∃ r, aC.toNat % 4 = r := ⟨_, rfl⟩
        rw [hr] at r1 r2 hr4
        have r1' : IntKind.u8.wrap ((aC.toNat : Int).tmod 4) = (r : Int) := r1
        have r2' : (aC.toNat : Int).tmod 4 = (r : Int) := r2
        have r3 : (aC.toNat : Int) % 4 = (r : Int) := by omega
        have r4 : IntKind.i64.wrap (r : Int) = (r : Int) := by rw [IntKind.wrap_i64]; omega
        clear r1 r2 hr
        cases hon : onD D with
        | true =>
          obtain ⟨D', he, hB'⟩ := hF.write_yes hon r hr4 (secA aC)
          have HWR := hid (fun (W : World) (k : St w W d hb D) (g : Nat) (o : OwnC W g 5 ((secA aC).map B8)) => write_good k (r : Int) g (secA aC) (secA_len aC) o (by omega) he)
          have HB' := hid hB'
          clear he hB' hF hwl hon
          refine wp_region_noPanic ?_
          refine wp_region_held_drew (S := (fun X => X.cell? ⟨ab, ao + j * 5 + 2, none⟩ = some (.int .u8 (aC.toNat : Int)))) (by kernel_rfl) (by first | assumption | trivial) (fun hHeld => ?_)
          refine wpAnyH_take (i := 0) (v := ?_) rfl (by kernel_rfl) (by kernel_rfl) (by kernel_rfl) (fun _ _ _ h => h) (Or.inl ⟨by kernel_rfl, ?_⟩) (by first | assumption | trivial) ?_
          rotate_left
          · (intro wS hSw; (try dsimp only at hSw); go_simp; try with_reducible rfl)
          (try simp only [List.append_eq, List.cons_append, List.nil_append, List.getElem_toArray, List.getElem_cons_succ, List.getElem_cons_zero, Act.put, List.setIfInBounds_toArray, List.set_cons_zero, List.set_cons_succ])
          refine wpAnyH_take (i := 1) (v := ?_) rfl (by kernel_rfl) (by kernel_rfl) (by kernel_rfl) (fun _ _ _ h => h) (Or.inl ⟨by kernel_rfl, ?_⟩) (by first | assumption | trivial) ?_
          rotate_left
          · (intro wS hSw; (try dsimp only at hSw); go_simp; try with_reducible rfl)
          (try simp only [List.append_eq, List.cons_append, List.nil_append, List.getElem_toArray, List.getElem_cons_succ, List.getElem_cons_zero, Act.put, List.setIfInBounds_toArray, List.set_cons_zero, List.set_cons_succ])
          refine wpAnyH_take (i := 2) (v := ?_) rfl (by kernel_rfl) (by kernel_rfl) (by kernel_rfl) (fun _ _ _ h => h) (Or.inl ⟨by kernel_rfl, ?_⟩) (by first | assumption | trivial) ?_
          rotate_left
          · (intro wS hSw; (try dsimp only at hSw); go_simp; try with_reducible rfl)
          (try simp only [List.append_eq, List.cons_append, List.nil_append, List.getElem_toArray, List.getElem_cons_succ, List.getElem_cons_zero, Act.put, List.setIfInBounds_toArray, List.set_cons_zero, List.set_cons_succ])
          refine wpAnyH_take (i := 3) (v := ?_) rfl (by kernel_rfl) (by kernel_rfl) (by kernel_rfl) (fun _ _ _ h => h) (Or.inl ⟨by kernel_rfl, ?_⟩) (by first | assumption | trivial) ?_
          rotate_left
          · (intro wS hSw; (try dsimp only at hSw); go_simp; try with_reducible rfl)
          (try simp only [List.append_eq, List.cons_append, List.nil_append, List.getElem_toArray, List.getElem_cons_succ, List.getElem_cons_zero, Act.put, List.setIfInBounds_toArray, List.set_cons_zero, List.set_cons_succ])
          refine wpAnyH_take (i := 4) (v := ?_) rfl (by kernel_rfl) (by kernel_rfl) (by kernel_rfl) (fun _ _ _ h => h) (Or.inl ⟨by kernel_rfl, ?_⟩) (by first | assumption | trivial) ?_
          rotate_left
          · (intro wS hSw; (try dsimp only at hSw); go_simp; try with_reducible rfl)
          (try simp only [List.append_eq, List.cons_append, List.nil_append, List.getElem_toArray, List.getElem_cons_succ, List.getElem_cons_zero, Act.put, List.setIfInBounds_toArray, List.set_cons_zero, List.set_cons_succ])
          refine wpAnyH_take (i := 5) (v := ?_) rfl (by kernel_rfl) (by kernel_rfl) (by kernel_rfl) (fun _ _ _ h => h) (Or.inl ⟨by kernel_rfl, ?_⟩) (by first | assumption | trivial) ?_
          rotate_left
          · (intro wS hSw; (try dsimp only at hSw); go_simp; try with_reducible rfl)
          (try simp only [List.append_eq, List.cons_append, List.nil_append, List.getElem_toArray, List.getElem_cons_succ, List.getElem_cons_zero, Act.put, List.setIfInBounds_toArray, List.set_cons_zero, List.set_cons_succ])
          refine wpAnyH_take (i := 6) (v := ?_) rfl (by kernel_rfl) (by kernel_rfl) (by kernel_rfl) (fun _ _ _ h => h) (Or.inl ⟨by kernel_rfl, ?_⟩) (by first | assumption | trivial) ?_
          rotate_left
          · (intro wS hSw; (try dsimp only at hSw); go_simp; try with_reducible rfl)
          (try simp only [List.append_eq, List.cons_append, List.nil_append, List.getElem_toArray, List.getElem_cons_succ, List.getElem_cons_zero, Act.put, List.setIfInBounds_toArray, List.set_cons_zero, List.set_cons_succ])
          refine wpAnyH_take (i := 7) (v := ?_) rfl (by kernel_rfl) (by kernel_rfl) (by kernel_rfl) (fun _ _ _ h => h) (Or.inl ⟨by kernel_rfl, ?_⟩) (by first | assumption | trivial) ?_
          rotate_left
          · (intro wS hSw; (try dsimp only at hSw); go_simp; try with_reducible rfl)
          (try simp only [List.append_eq, List.cons_append, List.nil_append, List.getElem_toArray, List.getElem_cons_succ, List.getElem_cons_zero, Act.put, List.setIfInBounds_toArray, List.set_cons_zero, List.set_cons_succ])
          refine wpAnyH_take (i := 8) (v := ?_) rfl (by kernel_rfl) (by kernel_rfl) (by kernel_rfl) (fun _ _ _ h => h) (Or.inl ⟨by kernel_rfl, ?_⟩) (by first | assumption | trivial) ?_
          rotate_left
          · (intro wS hSw; (try dsimp only at hSw); go_simp; try with_reducible rfl)
          (try simp only [List.append_eq, List.cons_append, List.nil_append, List.getElem_toArray, List.getElem_cons_succ, List.getElem_cons_zero, Act.put, List.setIfInBounds_toArray, List.set_cons_zero, List.set_cons_succ])
          refine wpAnyH_take (i := 9) (v := ?_) rfl (by kernel_rfl) (by kernel_rfl) (by kernel_rfl) (fun _ _ _ h => h) (Or.inl ⟨by kernel_rfl, ?_⟩) (by first | assumption | trivial) ?_
          rotate_left
          · (intro wS hSw; (try dsimp only at hSw); go_simp; try with_reducible rfl)
          (try simp only [List.append_eq, List.cons_append, List.nil_append, List.getElem_toArray, List.getElem_cons_succ, List.getElem_cons_zero, Act.put, List.setIfInBounds_toArray, List.set_cons_zero, List.set_cons_succ])
          refine wpAnyH_take (i := 10) (v := ?_) rfl (by kernel_rfl) (by kernel_rfl) (by kernel_rfl) (fun _ _ _ h => h) (Or.inl ⟨by kernel_rfl, ?_⟩) (by first | assumption | trivial) ?_
          rotate_left
          · (intro wS hSw; (try dsimp only at hSw); go_simp; try with_reducible rfl)
          (try simp only [List.append_eq, List.cons_append, List.nil_append, List.getElem_toArray, List.getElem_cons_succ, List.getElem_cons_zero, Act.put, List.setIfInBounds_toArray, List.set_cons_zero, List.set_cons_succ])
          refine wpAnyH_take (i := 11) (v := ?_) rfl (by kernel_rfl) (by kernel_rfl) (by kernel_rfl) (fun _ _ _ h => h) (Or.inl ⟨by kernel_rfl, ?_⟩) (by first | assumption | trivial) ?_
          rotate_left
          · (intro wS hSw; (try dsimp only at hSw); go_simp; try with_reducible rfl)
          (try simp only [List.append_eq, List.cons_append, List.nil_append, List.getElem_toArray, List.getElem_cons_succ, List.getElem_cons_zero, Act.put, List.setIfInBounds_toArray, List.set_cons_zero, List.set_cons_succ])
          refine wpAnyH_take (i := 12) (v := ?_) rfl (by kernel_rfl) (by kernel_rfl) (by kernel_rfl) (fun _ _ _ h => h) (Or.inl ⟨by kernel_rfl, ?_⟩) (by first | assumption | trivial) ?_
          rotate_left
          · (intro wS hSw; (try dsimp only at hSw); go_simp; try with_reducible rfl)
          (try simp only [List.append_eq, List.cons_append, List.nil_append, List.getElem_toArray, List.getElem_cons_succ, List.getElem_cons_zero, Act.put, List.setIfInBounds_toArray, List.set_cons_zero, List.set_cons_succ])
          refine wpAnyH_ready (rs := [13]) (by kernel_rfl) (by simp) ?_
          refine AllReadyH.cons rfl (fun K hK => ?_) AllReadyH.nil
          go_simp
          (go_at_call 9; refine (all_st S.out aC).mono ?_; rintro e w3 ⟨g3, rfl, o3, s3, b3⟩; have O3 := hid o3; have hS := HKS.out _ s3.bel; have S := hid s3; clear o3 s3 b3 hHeld)
          go_wp2_with fail
          refine hK.out _ _ (by first | assumption | trivial) (fun hHeld => ?_)
          clear hK K
          (try simp only [List.append_eq, List.cons_append, List.nil_append, List.getElem_toArray, List.getElem_cons_succ, List.getElem_cons_zero, Act.put, List.setIfInBounds_toArray, List.set_cons_zero, List.set_cons_succ])
          refine wpAnyH_ready (rs := [14]) (by kernel_rfl) (by simp) ?_
          refine AllReadyH.cons rfl (fun K hK => ?_) AllReadyH.nil
          go_simp
          (go_at_call 8; refine (HWR.out _ S.out g3 O3.out).mono ?_; rintro e w4 ⟨rfl, s4, k4⟩; have hS := HKS.out _ s4.bel; have S := hid s4; clear s4 k4 hHeld)
          go_wp2_with fail
          refine hK.out _ _ (by first | assumption | trivial) (fun hHeld => ?_)
          clear hK K
          (try simp only [List.append_eq, List.cons_append, List.nil_append, List.getElem_toArray, List.getElem_cons_succ, List.getElem_cons_zero, Act.put, List.setIfInBounds_toArray, List.set_cons_zero, List.set_cons_succ])
          refine wpAnyH_take (i := 15) (v := ?_) rfl (by kernel_rfl) (by kernel_rfl) (by kernel_rfl) (fun _ _ _ h => h) (Or.inl ⟨by kernel_rfl, ?_⟩) (by first | assumption | trivial) ?_
          rotate_left
          · (intro wS hSw; (try dsimp only at hSw); go_simp; try with_reducible rfl)
          (try simp only [List.append_eq, List.cons_append, List.nil_append, List.getElem_toArray, List.getElem_cons_succ, List.getElem_cons_zero, Act.put, List.setIfInBounds_toArray, List.set_cons_zero, List.set_cons_succ])
          refine wpAnyH_done (by kernel_rfl) ?_ _
          refine NoPanic.normal ?_
          go_wp2_with fail
          go_roundw
          case rel => exact ⟨j + 1, c + 1, D', by omega, by go_num, by go_num, hid ⟨S.out, HB'.out⟩⟩
          case measure => simp [intOf]; omega
        | false =>
          obtain ⟨D', he, hB', hcm, hoff⟩ := hF.write_no hon r hr4 (secA aC)
          have HWR := hid (fun (W : World) (k : St w W d hb D) (g : Nat) (o : OwnC W g 5 ((secA aC).map B8)) => write_good k (r : Int) g (secA aC) (secA_len aC) o (by omega) he)
          have HPW := hid (fun (W : World) (k : St w W d hb D') => power_good (b := false) k (by rw [hoff]; rfl))
          have HB' := hid hB'
          clear he hB' hF hwl hon hoff
          subst hcm
          refine wp_region_noPanic ?_
          refine wp_region_held_drew (S := (fun X => X.cell? ⟨ab, ao + j * 5 + 2, none⟩ = some (.int .u8 (aC.toNat : Int)))) (by kernel_rfl) (by first | assumption | trivial) (fun hHeld => ?_)
          refine wpAnyH_take (i := 0) (v := ?_) rfl (by kernel_rfl) (by kernel_rfl) (by kernel_rfl) (fun _ _ _ h => h) (Or.inl ⟨by kernel_rfl, ?_⟩) (by first | assumption | trivial) ?_
          rotate_left
          · (intro wS hSw; (try dsimp only at hSw); go_simp; try with_reducible rfl)
          (try simp only [List.append_eq, List.cons_append, List.nil_append, List.getElem_toArray, List.getElem_cons_succ, List.getElem_cons_zero, Act.put, List.setIfInBounds_toArray, List.set_cons_zero, List.set_cons_succ])
          refine wpAnyH_take (i := 1) (v := ?_) rfl (by kernel_rfl) (by kernel_rfl) (by kernel_rfl) (fun _ _ _ h => h) (Or.inl ⟨by kernel_rfl, ?_⟩) (by first | assumption | trivial) ?_
          rotate_left
          · (intro wS hSw; (try dsimp only at hSw); go_simp; try with_reducible rfl)
          (try simp only [List.append_eq, List.cons_append, List.nil_append, List.getElem_toArray, List.getElem_cons_succ, List.getElem_cons_zero, Act.put, List.setIfInBounds_toArray, List.set_cons_zero, List.set_cons_succ])
          refine wpAnyH_take (i := 2) (v := ?_) rfl (by kernel_rfl) (by kernel_rfl) (by kernel_rfl) (fun _ _ _ h => h) (Or.inl ⟨by kernel_rfl, ?_⟩) (by first | assumption | trivial) ?_
          rotate_left
          · (intro wS hSw; (try dsimp only at hSw); go_simp; try with_reducible rfl)
          (try simp only [List.append_eq, List.cons_append, List.nil_append, List.getElem_toArray, List.getElem_cons_succ, List.getElem_cons_zero, Act.put, List.setIfInBounds_toArray, List.set_cons_zero, List.set_cons_succ])
          refine wpAnyH_take (i := 3) (v := ?_) rfl (by kernel_rfl) (by kernel_rfl) (by kernel_rfl) (fun _ _ _ h => h) (Or.inl ⟨by kernel_rfl, ?_⟩) (by first | assumption | trivial) ?_
          rotate_left
          · (intro wS hSw; (try dsimp only at hSw); go_simp; try with_reducible rfl)
          (try simp only [List.append_eq, List.cons_append, List.nil_append, List.getElem_toArray, List.getElem_cons_succ, List.getElem_cons_zero, Act.put, List.setIfInBounds_toArray, List.set_cons_zero, List.set_cons_succ])
          refine wpAnyH_take (i := 4) (v := ?_) rfl (by kernel_rfl) (by kernel_rfl) (by kernel_rfl) (fun _ _ _ h => h) (Or.inl ⟨by kernel_rfl, ?_⟩) (by first | assumption | trivial) ?_
          rotate_left
          · (intro wS hSw; (try dsimp only at hSw); go_simp; try with_reducible rfl)
          (try simp only [List.append_eq, List.cons_append, List.nil_append, List.getElem_toArray, List.getElem_cons_succ, List.getElem_cons_zero, Act.put, List.setIfInBounds_toArray, List.set_cons_zero, List.set_cons_succ])
          refine wpAnyH_take (i := 5) (v := ?_) rfl (by kernel_rfl) (by kernel_rfl) (by kernel_rfl) (fun _ _ _ h => h) (Or.inl ⟨by kernel_rfl, ?_⟩) (by first | assumption | trivial) ?_
          rotate_left
          · (intro wS hSw; (try dsimp only at hSw); go_simp; try with_reducible rfl)
          (try simp only [List.append_eq, List.cons_append, List.nil_append, List.getElem_toArray, List.getElem_cons_succ, List.getElem_cons_zero, Act.put, List.setIfInBounds_toArray, List.set_cons_zero, List.set_cons_succ])
          refine wpAnyH_take (i := 6) (v := ?_) rfl (by kernel_rfl) (by kernel_rfl) (by kernel_rfl) (fun _ _ _ h => h) (Or.inl ⟨by kernel_rfl, ?_⟩) (by first | assumption | trivial) ?_
          rotate_left
          · (intro wS hSw; (try dsimp only at hSw); go_simp; try with_reducible rfl)
          (try simp only [List.append_eq, List.cons_append, List.nil_append, List.getElem_toArray, List.getElem_cons_succ, List.getElem_cons_zero, Act.put, List.setIfInBounds_toArray, List.set_cons_zero, List.set_cons_succ])
          refine wpAnyH_take (i := 7) (v := ?_) rfl (by kernel_rfl) (by kernel_rfl) (by kernel_rfl) (fun _ _ _ h => h) (Or.inl ⟨by kernel_rfl, ?_⟩) (by first | assumption | trivial) ?_
          rotate_left
          · (intro wS hSw; (try dsimp only at hSw); go_simp; try with_reducible rfl)
          (try simp only [List.append_eq, List.cons_append, List.nil_append, List.getElem_toArray, List.getElem_cons_succ, List.getElem_cons_zero, Act.put, List.setIfInBounds_toArray, List.set_cons_zero, List.set_cons_succ])
          refine wpAnyH_take (i := 8) (v := ?_) rfl (by kernel_rfl) (by kernel_rfl) (by kernel_rfl) (fun _ _ _ h => h) (Or.inl ⟨by kernel_rfl, ?_⟩) (by first | assumption | trivial) ?_
          rotate_left
          · (intro wS hSw; (try dsimp only at hSw); go_simp; try with_reducible rfl)
          (try simp only [List.append_eq, List.cons_append, List.nil_append, List.getElem_toArray, List.getElem_cons_succ, List.getElem_cons_zero, Act.put, List.setIfInBounds_toArray, List.set_cons_zero, List.set_cons_succ])
          refine wpAnyH_take (i := 9) (v := ?_) rfl (by kernel_rfl) (by kernel_rfl) (by kernel_rfl) (fun _ _ _ h => h) (Or.inl ⟨by kernel_rfl, ?_⟩) (by first | assumption | trivial) ?_
          rotate_left
          · (intro wS hSw; (try dsimp only at hSw); go_simp; try with_reducible rfl)
          (try simp only [List.append_eq, List.cons_append, List.nil_append, List.getElem_toArray, List.getElem_cons_succ, List.getElem_cons_zero, Act.put, List.setIfInBounds_toArray, List.set_cons_zero, List.set_cons_succ])
          refine wpAnyH_take (i := 10) (v := ?_) rfl (by kernel_rfl) (by kernel_rfl) (by kernel_rfl) (fun _ _ _ h => h) (Or.inl ⟨by kernel_rfl, ?_⟩) (by first | assumption | trivial) ?_
          rotate_left
          · (intro wS hSw; (try dsimp only at hSw); go_simp; try with_reducible rfl)
          (try simp only [List.append_eq, List.cons_append, List.nil_append, List.getElem_toArray, List.getElem_cons_succ, List.getElem_cons_zero, Act.put, List.setIfInBounds_toArray, List.set_cons_zero, List.set_cons_succ])
          refine wpAnyH_take (i := 11) (v := ?_) rfl (by kernel_rfl) (by kernel_rfl) (by kernel_rfl) (fun _ _ _ h => h) (Or.inl ⟨by kernel_rfl, ?_⟩) (by first | assumption | trivial) ?_
          rotate_left
          · (intro wS hSw; (try dsimp only at hSw); go_simp; try with_reducible rfl)
          (try simp only [List.append_eq, List.cons_append, List.nil_append, List.getElem_toArray, List.getElem_cons_succ, List.getElem_cons_zero, Act.put, List.setIfInBounds_toArray, List.set_cons_zero, List.set_cons_succ])
          refine wpAnyH_take (i := 12) (v := ?_) rfl (by kernel_rfl) (by kernel_rfl) (by kernel_rfl) (fun _ _ _ h => h) (Or.inl ⟨by kernel_rfl, ?_⟩) (by first | assumption | trivial) ?_
          rotate_left
          · (intro wS hSw; (try dsimp only at hSw); go_simp; try with_reducible rfl)
          (try simp only [List.append_eq, List.cons_append, List.nil_append, List.getElem_toArray, List.getElem_cons_succ, List.getElem_cons_zero, Act.put, List.setIfInBounds_toArray, List.set_cons_zero, List.set_cons_succ])
          refine wpAnyH_ready (rs := [13]) (by kernel_rfl) (by simp) ?_
          refine AllReadyH.cons rfl (fun K hK => ?_) AllReadyH.nil
          go_simp
          (go_at_call 9; refine (all_st S.out aC).mono ?_; rintro e w3 ⟨g3, rfl, o3, s3, b3⟩; have O3 := hid o3; have hS := HKS.out _ s3.bel; have S := hid s3; clear o3 s3 b3 hHeld)
          go_wp2_with fail
          refine hK.out _ _ (by first | assumption | trivial) (fun hHeld => ?_)
          clear hK K
          (try simp only [List.append_eq, List.cons_append, List.nil_append, List.getElem_toArray, List.getElem_cons_succ, List.getElem_cons_zero, Act.put, List.setIfInBounds_toArray, List.set_cons_zero, List.set_cons_succ])
          refine wpAnyH_ready (rs := [14]) (by kernel_rfl) (by simp) ?_
          refine AllReadyH.cons rfl (fun K hK => ?_) AllReadyH.nil
          go_simp
          (go_at_call 8; refine (HWR.out _ S.out g3 O3.out).mono ?_; rintro e w4 ⟨rfl, s4, k4⟩; have hS := HKS.out _ s4.bel; have S := hid s4; clear s4 k4 hHeld)
          go_wp2_with fail
          refine hK.out _ _ (by first | assumption | trivial) (fun hHeld => ?_)
          clear hK K
          (try simp only [List.append_eq, List.cons_append, List.nil_append, List.getElem_toArray, List.getElem_cons_succ, List.getElem_cons_zero, Act.put, List.setIfInBounds_toArray, List.set_cons_zero, List.set_cons_succ])
          refine wpAnyH_take (i := 15) (v := ?_) rfl (by kernel_rfl) (by kernel_rfl) (by kernel_rfl) (fun _ _ _ h => h) (Or.inl ⟨by kernel_rfl, ?_⟩) (by first | assumption | trivial) ?_
          rotate_left
          · (intro wS hSw; (try dsimp only at hSw); go_simp; try with_reducible rfl)
          (try simp only [List.append_eq, List.cons_append, List.nil_append, List.getElem_toArray, List.getElem_cons_succ, List.getElem_cons_zero, Act.put, List.setIfInBounds_toArray, List.set_cons_zero, List.set_cons_succ])
          refine wpAnyH_done (by kernel_rfl) ?_ _
          refine NoPanic.normal ?_
          go_wp2_with (go_at_call 16; (with_reducible refine (HPW.out _ S.out).mono ?_); rintro e w6 ⟨rfl, hw6⟩; subst hw6)
          go_roundw
          case rel => exact ⟨j + 1, c, D', by omega, by go_num, rfl, hid ⟨S.out, HB'.out⟩⟩
          case measure => simp [intOf]; omega
    · have hdd : decide ((j : Int) < (n : Int)) = false ∨ (decide ((j : Int) < (n : Int)) = true ∧ decide ((j : Int) < 40) = false) := by
        by_cases h1 : j < n
        · exact .inr ⟨by simp; omega, by simp; omega⟩
        · exact .inl (by simp; omega)
      have S := hid hI.out.1
      have hF := hI.out.2
      have hle := hF.le
      have hgt : decide ((m : Int) < (c : Int)) = false := by simp; omega
      have hgt' : decide (m < c) = false := by simp; omega
      have hFr : Free (onD' D) 0 := ⟨hF.has, Nat.le_refl _, rfl, rfl⟩
      have HFR := hid hFr
      have HPW := hid (fun (W : World) (k : St w W d hb (onD' D)) => power_good (b := true) k rfl)
      have HWT := hid (fun (W : World) (k : St w W d hb (onD' D)) => waits_st k (by show 0 ≤ _; omega))
      have HFL := hid (fun (W : World) (k : St w W d hb (onD' D)) => flush_good k (by show 0 ≤ _; omega) hFr.flush)
      have hw0 : (onD' D).waits.length = 0 := rfl
      clear hI hF hFr
      rcases hdd with d1 | ⟨d1, d2⟩
      · have d1' : decide (j < n) = false := by simpa using d1
        go_wp2_with (first
          | (go_at_call 13; (with_reducible refine (on_st S.out).mono ?_); rintro e w7 ⟨rfl, s7, k7⟩; have S := hid s7; clear s7 k7)
          | (go_at_call 16; (with_reducible refine (HPW.out _ S.out).mono ?_); rintro e w6 ⟨rfl, hw6⟩; subst hw6)
          | (go_at_call 17; (with_reducible refine (HWT.out _ S.out).mono ?_); rintro e w7 ⟨A7, c7, rfl, o7, s7, b7⟩; have S := hid s7; clear s7 b7 o7)
          | (go_at_call 10; (with_reducible refine (HFL.out _ S.out).mono ?_); rintro e w7 ⟨rfl, s7, k7⟩; have S := hid s7; clear s7 k7)
          | (go_at_call 14; (with_reducible refine (awake_any _).mono ?_); rintro e w7 ⟨rfl, b7⟩; have HB := hid (S.out.below b7).bel; clear b7))
        go_ret
        exact ⟨rfl, HB.out⟩
      · have d1' : decide (j < n) = true := by simpa using d1
        go_wp2_with (first
          | (go_at_call 13; (with_reducible refine (on_st S.out).mono ?_); rintro e w7 ⟨rfl, s7, k7⟩; have S := hid s7; clear s7 k7)
          | (go_at_call 16; (with_reducible refine (HPW.out _ S.out).mono ?_); rintro e w6 ⟨rfl, hw6⟩; subst hw6)
          | (go_at_call 17; (with_reducible refine (HWT.out _ S.out).mono ?_); rintro e w7 ⟨A7, c7, rfl, o7, s7, b7⟩; have S := hid s7; clear s7 b7 o7)
          | (go_at_call 10; (with_reducible refine (HFL.out _ S.out).mono ?_); rintro e w7 ⟨rfl, s7, k7⟩; have S := hid s7; clear s7 k7)
          | (go_at_call 14; (with_reducible refine (awake_any _).mono ?_); rintro e w7 ⟨rfl, b7⟩; have HB := hid (S.out.below b7).bel; clear b7))
        go_ret
        exact ⟨rfl, HB.out⟩
theorem walkDiskBudgets (k : Nat) (s : SlOf ActV) (w : World) (hk : (k : Int) ≤ IntKind.u8.max) (hs : s.Ok actC (fun a => in64 a.1 ∧ in64 a.2.1 ∧ True ∧ True ∧ a.2.2.2.2.Ok (fun b : Bool => [.bool b]) (fun _ => True) w) w) :
    Calls Try.prog 5 #[.int .u8 (k : Int), s.val] w fun e w' => e = .returned (.bool true) ∧ Below w.heap.size w w' := by
  rw [u8_of k hk]
  exact budgetsU (UInt8.ofNat k) s w hs
end Go.Proofs.Ytkadehdbnkinlaa
