/-
  DiskKeeps: the walk. A part of the proof: see the head of the text that ends in 'Law'.
-/
import Derived.Test.YtkadehdbnkinlaaDk24
namespace Go.Proofs.Ytkadehdbnkinlaa
open Go.RowKit
set_option linter.unusedVariables false
set_option linter.unusedSimpArgs false
attribute [local go_sem] Oper.semAt_some

set_option maxRecDepth 100000 in
set_option maxHeartbeats 8000000 in
theorem keepsW (n1 n n3 c1 c c3 : Nat) (A1 A A3 : Option Addr) (l1 l : List ActV) (ks : List Bool) (w : World) (h1 : ActsIn w A1 n1 c1 l1) (h2 : ActsIn w A n c l) (h3 : ks.length = n3) (hk : Row w A3 (ks.map boolV)) :
    Calls Try.prog 3 #[.slice A1 n1 c1, .slice A n c, .slice A3 n3 c3] w fun e w' => e = .returned (.bool true) ∧ Below w.heap.size w w' := by
  have H1 := hid h1
  have H2 := hid h2
  have H3 := hid h3
  have HK := hid hk
  have HL1 := hid h1.2.2.1
  have HL2 := hid h2.2.2.1
  have R := hid (World.ownsRow_nil w w.heap.size 9 1)
  clear h1 h2 h3 hk
  go_enter Try.func3, Try.ntmps3
  go_wp2_with (go_at_call 7; refine (new_st 4 (by omega) (by omega) w w (Below.refl _ _)).mono ?_; rintro e w1 ⟨d, hb, rfl, s1, b1⟩; have S0 := hid s1; have R0 := hid (World.ownsRow_nil w1 w.heap.size 9 1); clear s1 b1)
  clear R
  go_loopw [9] (fun i wr => ∃ (j : Nat) (D : Dsk), j ≤ 20 ∧ i = .int .i64 (j : Int) ∧ Hid (St w wr d hb D ∧ Free D j)) (fun i wr => 20 - (intOf i).toNat)
  case atStart => exact ⟨0, newD 4, by omega, rfl, hid ⟨S0.out, rfl, Nat.le_refl _, rfl, rfl⟩⟩
  case round =>
    obtain ⟨j, D, hj, rfl, hI⟩ := hrel
    clear S0 R0
    by_cases hlt : j < n1 ∧ j < 20
    · obtain ⟨ab, ao, rfl, hcell⟩ := H1.out.cell (by omega)
      have hjl : j < l1.length := by rw [HL1.out]; exact hlt.1
      have hc := hcell j hjl
      obtain ⟨a, ha⟩ : ∃ a, l1[j]'hjl = a := ⟨_, rfl⟩
      rw [ha] at hc
      obtain ⟨aD, aI, aC, aS, aK⟩ := a
      dsimp only at hc
      have d1 : decide ((j : Int) < (n1 : Int)) = true := by simp; omega
      have d2 : decide ((j : Int) < 20) = true := by simp; omega
      have d1' : decide (j < n1) = true := by simp; omega
      have d2' : decide (j < 20) = true := by simp; omega
      have i0 : (0 : Int) ≤ (j : Int) := by omega
      have i1 : (j : Int) < (n1 : Int) := by omega
      have i2 : (j : Int).toNat = j := by omega
      have S := hid hI.out.1
      have R := hid (World.ownsRow_nil wr.drew w.heap.size 9 1)
      have hF := hI.out.2
      obtain ⟨D', ee, hwe, hF'⟩ := hF.write_all aI (secA aC)
      have HWR := hid (fun (W : World) (k : St w W d hb D) (g : Nat) (o : OwnC W g 5 ((secA aC).map B8)) => write_good k aI g (secA aC) (secA_len aC) o (by have := hF.w; omega) hwe)
      have HF' := hid hF'
      have hKS : ∀ X, Below w.heap.size w X → (X.cell? ⟨ab, ao + j * 5 + 1, none⟩ = some (.int .i64 aI) ∧ X.cell? ⟨ab, ao + j * 5 + 2, none⟩ = some (B8 aC)) := fun X hX => ⟨cells_keep hX hc.2.1, cells_keep hX hc.2.2.1⟩
      have HKS := hid hKS
      clear hc hcell ha hjl hI hF hwe hF' hKS
      go_upto_region 7 with fail
      have S := hid S.out.drew
      have hS := HKS.out _ S.out.bel
      refine wp_region_noPanic ?_
      refine wp_region_held_drew (S := (fun X => X.cell? ⟨ab, ao + j * 5 + 1, none⟩ = some (.int .i64 aI) ∧ X.cell? ⟨ab, ao + j * 5 + 2, none⟩ = some (B8 aC))) (by kernel_rfl) (by first | assumption | trivial) (fun hHeld => ?_)
      refine wpAnyH_take (i := 0) (v := ?_) rfl (by kernel_rfl) (by kernel_rfl) (by kernel_rfl) (fun _ _ _ h => h) (Or.inl ⟨by kernel_rfl, ?_⟩) (by first | assumption | trivial) ?_
      rotate_left
      · (intro wS hSw; (try dsimp only at hSw); go_simp; try with_reducible rfl)
      (try simp only [List.append_eq, List.cons_append, List.nil_append, List.getElem_toArray, List.getElem_cons_succ, List.getElem_cons_zero, Act.put, List.setIfInBounds_toArray, List.set_cons_zero, List.set_cons_succ])
      refine wpAnyH_take (i := 1) (v := ?_) rfl (by kernel_rfl) (by kernel_rfl) (by kernel_rfl) (fun _ _ _ h => h) (Or.inl ⟨by kernel_rfl, ?_⟩) (by first | assumption | trivial) ?_
      rotate_left
      · (intro wS hSw; (try dsimp only at hSw); go_simp; try with_reducible rfl)
      (try simp only [List.append_eq, List.cons_append, List.nil_append, List.getElem_toArray, List.getElem_cons_succ, List.getElem_cons_zero, Act.put, List.setIfInBounds_toArray, List.set_cons_zero, List.set_cons_succ])
      refine wpAnyH_take (i := 2) (v := ?_) rfl (by kernel_rfl) (by kernel_rfl) (by kernel_rfl) (fun _ _ _ h => h) (Or.inl ⟨by kernel_rfl, ?_⟩) (by first | assumption | trivial) ?_
      rotate_left
      · (intro wS hSw; (try dsimp only at hSw); go_simp; try with_reducible rfl)
      (try simp only [List.append_eq, List.cons_append, List.nil_append, List.getElem_toArray, List.getElem_cons_succ, List.getElem_cons_zero, Act.put, List.setIfInBounds_toArray, List.set_cons_zero, List.set_cons_succ])
      refine wpAnyH_take (i := 3) (v := ?_) rfl (by kernel_rfl) (by kernel_rfl) (by kernel_rfl) (fun _ _ _ h => h) (Or.inl ⟨by kernel_rfl, ?_⟩) (by first | assumption | trivial) ?_
      rotate_left
      · (intro wS hSw; (try dsimp only at hSw); go_simp; try with_reducible rfl)
      (try simp only [List.append_eq, List.cons_append, List.nil_append, List.getElem_toArray, List.getElem_cons_succ, List.getElem_cons_zero, Act.put, List.setIfInBounds_toArray, List.set_cons_zero, List.set_cons_succ])
      refine wpAnyH_take (i := 4) (v := ?_) rfl (by kernel_rfl) (by kernel_rfl) (by kernel_rfl) (fun _ _ _ h => h) (Or.inl ⟨by kernel_rfl, ?_⟩) (by first | assumption | trivial) ?_
      rotate_left
      · (intro wS hSw; (try dsimp only at hSw); go_simp; try with_reducible rfl)
      (try simp only [List.append_eq, List.cons_append, List.nil_append, List.getElem_toArray, List.getElem_cons_succ, List.getElem_cons_zero, Act.put, List.setIfInBounds_toArray, List.set_cons_zero, List.set_cons_succ])
      refine wpAnyH_take (i := 5) (v := ?_) rfl (by kernel_rfl) (by kernel_rfl) (by kernel_rfl) (fun _ _ _ h => h) (Or.inl ⟨by kernel_rfl, ?_⟩) (by first | assumption | trivial) ?_
      rotate_left
      · (intro wS hSw; (try dsimp only at hSw); go_simp; try with_reducible rfl)
      (try simp only [List.append_eq, List.cons_append, List.nil_append, List.getElem_toArray, List.getElem_cons_succ, List.getElem_cons_zero, Act.put, List.setIfInBounds_toArray, List.set_cons_zero, List.set_cons_succ])
      refine wpAnyH_take (i := 6) (v := ?_) rfl (by kernel_rfl) (by kernel_rfl) (by kernel_rfl) (fun _ _ _ h => h) (Or.inl ⟨by kernel_rfl, ?_⟩) (by first | assumption | trivial) ?_
      rotate_left
      · (intro wS hSw; (try dsimp only at hSw); go_simp; try with_reducible rfl)
      (try simp only [List.append_eq, List.cons_append, List.nil_append, List.getElem_toArray, List.getElem_cons_succ, List.getElem_cons_zero, Act.put, List.setIfInBounds_toArray, List.set_cons_zero, List.set_cons_succ])
      refine wpAnyH_take (i := 7) (v := ?_) rfl (by kernel_rfl) (by kernel_rfl) (by kernel_rfl) (fun _ _ _ h => h) (Or.inl ⟨by kernel_rfl, ?_⟩) (by first | assumption | trivial) ?_
      rotate_left
      · (intro wS hSw; (try dsimp only at hSw); go_simp; try with_reducible rfl)
      (try simp only [List.append_eq, List.cons_append, List.nil_append, List.getElem_toArray, List.getElem_cons_succ, List.getElem_cons_zero, Act.put, List.setIfInBounds_toArray, List.set_cons_zero, List.set_cons_succ])
      refine wpAnyH_take (i := 8) (v := ?_) rfl (by kernel_rfl) (by kernel_rfl) (by kernel_rfl) (fun _ _ _ h => h) (Or.inl ⟨by kernel_rfl, ?_⟩) (by first | assumption | trivial) ?_
      rotate_left
      · (intro wS hSw; (try dsimp only at hSw); go_simp; try with_reducible rfl)
      (try simp only [List.append_eq, List.cons_append, List.nil_append, List.getElem_toArray, List.getElem_cons_succ, List.getElem_cons_zero, Act.put, List.setIfInBounds_toArray, List.set_cons_zero, List.set_cons_succ])
      refine wpAnyH_take (i := 9) (v := ?_) rfl (by kernel_rfl) (by kernel_rfl) (by kernel_rfl) (fun _ _ _ h => h) (Or.inl ⟨by kernel_rfl, ?_⟩) (by first | assumption | trivial) ?_
      rotate_left
      · (intro wS hSw; (try dsimp only at hSw); go_simp; try with_reducible rfl)
      (try simp only [List.append_eq, List.cons_append, List.nil_append, List.getElem_toArray, List.getElem_cons_succ, List.getElem_cons_zero, Act.put, List.setIfInBounds_toArray, List.set_cons_zero, List.set_cons_succ])
      refine wpAnyH_take (i := 10) (v := ?_) rfl (by kernel_rfl) (by kernel_rfl) (by kernel_rfl) (fun _ _ _ h => h) (Or.inl ⟨by kernel_rfl, ?_⟩) (by first | assumption | trivial) ?_
      rotate_left
      · (intro wS hSw; (try dsimp only at hSw); go_simp; try with_reducible rfl)
      (try simp only [List.append_eq, List.cons_append, List.nil_append, List.getElem_toArray, List.getElem_cons_succ, List.getElem_cons_zero, Act.put, List.setIfInBounds_toArray, List.set_cons_zero, List.set_cons_succ])
      refine wpAnyH_ready (rs := [11]) (by kernel_rfl) (by simp) ?_
      refine AllReadyH.cons rfl (fun K hK => ?_) AllReadyH.nil
      go_simp
      (go_at_call 9; refine (allC S.out aC).mono ?_; rintro e w3 ⟨g3, rfl, o3, s3, b3⟩; have O3 := hid o3; have hS := HKS.out _ s3.bel; have S := hid s3; have R := hid (own_below R.out b3); clear o3 s3 b3 hHeld)
      go_wp2_with fail
      refine hK.out _ _ (by first | assumption | trivial) (fun hHeld => ?_)
      clear hK K
      (try simp only [List.append_eq, List.cons_append, List.nil_append, List.getElem_toArray, List.getElem_cons_succ, List.getElem_cons_zero, Act.put, List.setIfInBounds_toArray, List.set_cons_zero, List.set_cons_succ])
      refine wpAnyH_ready (rs := [12]) (by kernel_rfl) (by simp) ?_
      refine AllReadyH.cons rfl (fun K hK => ?_) AllReadyH.nil
      go_simp
      (go_at_call 8; refine (HWR.out _ S.out g3 O3.out).mono ?_; rintro e w4 ⟨rfl, s4, k4⟩; have hS := HKS.out _ s4.bel; have R := hid (own_lets S.out R.out k4); have S := hid s4; clear s4 k4 hHeld)
      go_wp2_with fail
      refine hK.out _ _ (by first | assumption | trivial) (fun hHeld => ?_)
      clear hK K
      (try simp only [List.append_eq, List.cons_append, List.nil_append, List.getElem_toArray, List.getElem_cons_succ, List.getElem_cons_zero, Act.put, List.setIfInBounds_toArray, List.set_cons_zero, List.set_cons_succ])
      refine wpAnyH_done (by kernel_rfl) ?_ _
      refine NoPanic.normal ?_
      go_wp2_with fail
      go_roundw
      case rel => exact ⟨j + 1, D', by omega, by go_num, hid ⟨S.out, HF'.out⟩⟩
      case measure => simp [intOf]; omega
    · have hdd : decide ((j : Int) < (n1 : Int)) = false ∨ (decide ((j : Int) < (n1 : Int)) = true ∧ decide ((j : Int) < 20) = false) := by
        by_cases h1 : j < n1
        · exact .inr ⟨by simp; omega, by simp; omega⟩
        · exact .inl (by simp; omega)
      have HI := hid hI.out
      clear hI hlt
      go_upto_region 5 with fail
      go_cut [30, 31, 32, 33, 34, 35, 36, 37] from 30 to 37 (fun a b c0 e f g h t wx => t = .bool false ∧ wr = wx)
      case first =>
        rcases hdd with d1 | ⟨d1, d2⟩
        · have d1' : decide (j < n1) = false := by simpa using d1
          go_wp2_with fail
          go_meet
          exact ⟨rfl, rfl⟩
        · have d1' : decide (j < n1) = true := by simpa using d1
          go_wp2_with fail
          go_meet
          exact ⟨rfl, rfl⟩
      case rest =>
      obtain ⟨rfl, hw9⟩ := hcut
      subst hw9
      clear hdd
      obtain ⟨h2, hh2⟩ : ∃ h2, doneK (fun _ => true) D.waits D.has D.waits.length = h2 := ⟨_, rfl⟩
      have hF := HI.out.2
      have h24 : h2.length = 4 := by rw [← hh2, doneK_len]; exact hF.has
      have hfl : flushD D = (dkW h2 [], 0) := by rw [hF.flush, hh2, hF.bud, hF.off]; rfl
      have HFL := hid (fun (W : World) (k : St w W d hb D) => flush_good k (by have := hF.w; omega) hfl)
      have S := hid HI.out.1
      have H24 := hid h24
      clear hF hh2 HI hfl h24
      go_wp2_with (go_at_call 10; (with_reducible refine (HFL.out _ S.out).mono ?_); rintro e w5 ⟨rfl, s5, k5⟩; have S2 := hid s5; clear s5 k5)
      clear HFL
      have R2 := hid (World.ownsRow_nil w5 w.heap.size 9 1)
      go_loopw [10, 11, 12, 13] (fun ws i b f wr => ∃ (j c9 : Nat) (A9 : Option Addr), j ≤ 4 ∧ i = .int .i64 (j : Int) ∧ ws = .slice A9 j c9 ∧ Hid (St w wr d hb (dkW h2 []) ∧ wr.ownsRow w.heap.size 9 1 (.slice A9 j c9) j ((h2.take j).map SV))) (fun ws i b f wr => 4 - (intOf i).toNat)
      case atStart => exact ⟨0, 0, none, by omega, rfl, rfl, hid ⟨S2.out, R2.out⟩⟩
      case round =>
        clear S2 R2
        obtain ⟨j2, c9, A9, hj2, rfl, rfl, hI⟩ := hrel
        by_cases hlt : j2 < 4
        · have d1 : decide ((j2 : Int) < 4) = true := by simp; omega
          have d1' : decide (j2 < 4) = true := by simp; omega
          have S := hid hI.out.1
          have R := hid hI.out.2
          obtain ⟨v, hv⟩ : ∃ v, h2.getD j2 [] = v := ⟨_, rfl⟩
          have HRD := hid (fun (W : World) (k : St w W d hb (dkW h2 [])) => read_good (s := v) k j2 (by show j2 < h2.length; rw [H24.out]; exact hlt) rfl (by show 0 ≤ _; omega) (by rw [← hv]; rfl))
          have hvl : v.length = 128 := by
            have := readD_len S.out j2 (by show j2 < h2.length; rw [H24.out]; exact hlt)
            rw [← hv]
            exact this
          have HVL := hid hvl
          have hsv : (h2.take j2).map SV ++ [SV v] = (h2.take (j2 + 1)).map SV := by rw [← hv]; exact sv_take h2 j2 (by rw [H24.out]; exact hlt)
          have HSV := hid hsv
          clear hI hv hvl hsv
          go_wp2_with (first
            | (go_at_call 11; (with_reducible refine (HRD.out _ S.out).mono ?_); rintro e w6 ⟨g6, rfl, q6, s6, b6⟩; have S := hid s6; have c6 := strS q6.own HVL.out; have R := hid (own_below R.out b6); clear s6 q6 b6)
            | (have hbA : Below w6.heap.size w6 (w6.alloc (.cells #[.string (str v)] 9)) := (Below.refl _ _).alloc (Nat.le_refl _) _
               have R := hid (own_below R.out hbA)
               have S := hid (S.out.below hbA)
               refine wpList_append_row _ rfl (.tmp 68) (.tmp 71) strT rfl w.heap.size (.slice A9 j2 c9) j2 ((h2.take j2).map SV) rfl R.out (some ⟨w6.heap.size, 0, none⟩) 1 1 [.string (str v)] rfl rfl (row_box _ _ rfl) (by simp [Value.oneCell']) (by simp only [maxLen]; omega) (by omega) S.out.bel.size ?_
               intro A8 c8 w8 ho8 hg8 hh8
               have S := hid (S.out.append R.out hg8)
               rw [show [Value.string (str v)] = [SV v] from rfl, HSV.out] at ho8
               have R := hid ho8
               clear ho8 hg8 hh8 hbA))
          go_roundw
          case rel => exact ⟨j2 + 1, c8, A8, by omega, by go_num, rfl, hid ⟨S.out, R.out⟩⟩
          case measure => simp [intOf]; omega
        · have d1 : decide ((j2 : Int) < 4) = false := by simp; omega
          have d1' : decide (j2 < 4) = false := by simp; omega
          have hj4 : j2 = 4 := by omega
          subst hj4
          rw [show ((4 : Nat) : Int) = 4 from rfl]
          have d4 : decide ((4 : Int) < 4) = false := by decide
          have S3 := hid hI.out.1
          have hr4 := hI.out.2
          rw [List.take_of_length_le (by rw [H24.out]; omega)] at hr4
          have R3 := hid hr4
          clear hI hr4 d1 hlt S
          go_wp2_with fail
          go_loopw [14] (fun i wr => ∃ j : Nat, j ≤ 20 ∧ j ≤ n ∧ i = .int .i64 (j : Int) ∧ Hid (St w wr d hb (dkW h2 (wsL l j)) ∧ wr.ownsRow w.heap.size 9 1 (.slice A9 4 c9) 4 (h2.map SV))) (fun i wr => 20 - (intOf i).toNat)
          case atStart => exact ⟨0, by omega, by omega, rfl, hid ⟨S3.out, R3.out⟩⟩
          case round =>
            clear S3 R3
            obtain ⟨j, hj, hjn, rfl, hI⟩ := hrel
            by_cases hlt : j < n ∧ j < 20
            · obtain ⟨ab, ao, rfl, hcell⟩ := H2.out.cell (by omega)
              have hjl : j < l.length := by rw [HL2.out]; exact hlt.1
              have hc := hcell j hjl
              obtain ⟨ee, hwe⟩ := write_behind h2 H24.out l j hjl
              obtain ⟨a, ha⟩ : ∃ a, l[j]'hjl = a := ⟨_, rfl⟩
              rw [ha] at hc hwe
              obtain ⟨aD, aI, aC, aS, aK⟩ := a
              dsimp only at hc hwe
              have d1 : decide ((j : Int) < (n : Int)) = true := by simp; omega
              have d2 : decide ((j : Int) < 20) = true := by simp; omega
              have d1' : decide (j < n) = true := by simp; omega
              have d2' : decide (j < 20) = true := by simp; omega
              have i0 : (0 : Int) ≤ (j : Int) := by omega
              have i1 : (j : Int) < (n : Int) := by omega
              have i2 : (j : Int).toNat = j := by omega
              have S := hid hI.out.1
              have R := hid hI.out.2
              have HWR := hid (fun (W : World) (k : St w W d hb (dkW h2 (wsL l j))) (g : Nat) (o : OwnC W g 5 ((secA aC).map B8)) => write_good k aI g (secA aC) (secA_len aC) o (by have := wsL_len l j; show (wsL l j).length ≤ _; omega) hwe)
              have hKS : ∀ X, Below w.heap.size w X → (X.cell? ⟨ab, ao + j * 5 + 1, none⟩ = some (.int .i64 aI) ∧ X.cell? ⟨ab, ao + j * 5 + 2, none⟩ = some (B8 aC)) := fun X hX => ⟨cells_keep hX hc.2.1, cells_keep hX hc.2.2.1⟩
              have HKS := hid hKS
              clear hc hcell ha hjl hI hwe hKS
              go_upto_region 21 with fail
              have S := hid S.out.drew
              have R := hid (own_below R.out (drew_below _))
              have hS := HKS.out _ S.out.bel
              refine wp_region_noPanic ?_
              refine wp_region_held_drew (S := (fun X => X.cell? ⟨ab, ao + j * 5 + 1, none⟩ = some (.int .i64 aI) ∧ X.cell? ⟨ab, ao + j * 5 + 2, none⟩ = some (B8 aC))) (by kernel_rfl) (by first | assumption | trivial) (fun hHeld => ?_)
              refine wpAnyH_take (i := 0) (v := ?_) rfl (by kernel_rfl) (by kernel_rfl) (by kernel_rfl) (fun _ _ _ h => h) (Or.inl ⟨by kernel_rfl, ?_⟩) (by first | assumption | trivial) ?_
              rotate_left
              · (intro wS hSw; (try dsimp only at hSw); go_simp; try with_reducible rfl)
              (try simp only [List.append_eq, List.cons_append, List.nil_append, List.getElem_toArray, List.getElem_cons_succ, List.getElem_cons_zero, Act.put, List.setIfInBounds_toArray, List.set_cons_zero, List.set_cons_succ])
              refine wpAnyH_take (i := 1) (v := ?_) rfl (by kernel_rfl) (by kernel_rfl) (by kernel_rfl) (fun _ _ _ h => h) (Or.inl ⟨by kernel_rfl, ?_⟩) (by first | assumption | trivial) ?_
              rotate_left
              · (intro wS hSw; (try dsimp only at hSw); go_simp; try with_reducible rfl)
              (try simp only [List.append_eq, List.cons_append, List.nil_append, List.getElem_toArray, List.getElem_cons_succ, List.getElem_cons_zero, Act.put, List.setIfInBounds_toArray, List.set_cons_zero, List.set_cons_succ])
              refine wpAnyH_take (i := 2) (v := ?_) rfl (by kernel_rfl) (by kernel_rfl) (by kernel_rfl) (fun _ _ _ h => h) (Or.inl ⟨by kernel_rfl, ?_⟩) (by first | assumption | trivial) ?_
              rotate_left
              · (intro wS hSw; (try dsimp only at hSw); go_simp; try with_reducible rfl)
              (try simp only [List.append_eq, List.cons_append, List.nil_append, List.getElem_toArray, List.getElem_cons_succ, List.getElem_cons_zero, Act.put, List.setIfInBounds_toArray, List.set_cons_zero, List.set_cons_succ])
              refine wpAnyH_take (i := 3) (v := ?_) rfl (by kernel_rfl) (by kernel_rfl) (by kernel_rfl) (fun _ _ _ h => h) (Or.inl ⟨by kernel_rfl, ?_⟩) (by first | assumption | trivial) ?_
              rotate_left
              · (intro wS hSw; (try dsimp only at hSw); go_simp; try with_reducible rfl)
              (try simp only [List.append_eq, List.cons_append, List.nil_append, List.getElem_toArray, List.getElem_cons_succ, List.getElem_cons_zero, Act.put, List.setIfInBounds_toArray, List.set_cons_zero, List.set_cons_succ])
              refine wpAnyH_take (i := 4) (v := ?_) rfl (by kernel_rfl) (by kernel_rfl) (by kernel_rfl) (fun _ _ _ h => h) (Or.inl ⟨by kernel_rfl, ?_⟩) (by first | assumption | trivial) ?_
              rotate_left
              · (intro wS hSw; (try dsimp only at hSw); go_simp; try with_reducible rfl)
              (try simp only [List.append_eq, List.cons_append, List.nil_append, List.getElem_toArray, List.getElem_cons_succ, List.getElem_cons_zero, Act.put, List.setIfInBounds_toArray, List.set_cons_zero, List.set_cons_succ])
              refine wpAnyH_take (i := 5) (v := ?_) rfl (by kernel_rfl) (by kernel_rfl) (by kernel_rfl) (fun _ _ _ h => h) (Or.inl ⟨by kernel_rfl, ?_⟩) (by first | assumption | trivial) ?_
              rotate_left
              · (intro wS hSw; (try dsimp only at hSw); go_simp; try with_reducible rfl)
              (try simp only [List.append_eq, List.cons_append, List.nil_append, List.getElem_toArray, List.getElem_cons_succ, List.getElem_cons_zero, Act.put, List.setIfInBounds_toArray, List.set_cons_zero, List.set_cons_succ])
              refine wpAnyH_take (i := 6) (v := ?_) rfl (by kernel_rfl) (by kernel_rfl) (by kernel_rfl) (fun _ _ _ h => h) (Or.inl ⟨by kernel_rfl, ?_⟩) (by first | assumption | trivial) ?_
              rotate_left
              · (intro wS hSw; (try dsimp only at hSw); go_simp; try with_reducible rfl)
              (try simp only [List.append_eq, List.cons_append, List.nil_append, List.getElem_toArray, List.getElem_cons_succ, List.getElem_cons_zero, Act.put, List.setIfInBounds_toArray, List.set_cons_zero, List.set_cons_succ])
              refine wpAnyH_take (i := 7) (v := ?_) rfl (by kernel_rfl) (by kernel_rfl) (by kernel_rfl) (fun _ _ _ h => h) (Or.inl ⟨by kernel_rfl, ?_⟩) (by first | assumption | trivial) ?_
              rotate_left
              · (intro wS hSw; (try dsimp only at hSw); go_simp; try with_reducible rfl)
              (try simp only [List.append_eq, List.cons_append, List.nil_append, List.getElem_toArray, List.getElem_cons_succ, List.getElem_cons_zero, Act.put, List.setIfInBounds_toArray, List.set_cons_zero, List.set_cons_succ])
              refine wpAnyH_take (i := 8) (v := ?_) rfl (by kernel_rfl) (by kernel_rfl) (by kernel_rfl) (fun _ _ _ h => h) (Or.inl ⟨by kernel_rfl, ?_⟩) (by first | assumption | trivial) ?_
              rotate_left
              · (intro wS hSw; (try dsimp only at hSw); go_simp; try with_reducible rfl)
              (try simp only [List.append_eq, List.cons_append, List.nil_append, List.getElem_toArray, List.getElem_cons_succ, List.getElem_cons_zero, Act.put, List.setIfInBounds_toArray, List.set_cons_zero, List.set_cons_succ])
              refine wpAnyH_take (i := 9) (v := ?_) rfl (by kernel_rfl) (by kernel_rfl) (by kernel_rfl) (fun _ _ _ h => h) (Or.inl ⟨by kernel_rfl, ?_⟩) (by first | assumption | trivial) ?_
              rotate_left
              · (intro wS hSw; (try dsimp only at hSw); go_simp; try with_reducible rfl)
              (try simp only [List.append_eq, List.cons_append, List.nil_append, List.getElem_toArray, List.getElem_cons_succ, List.getElem_cons_zero, Act.put, List.setIfInBounds_toArray, List.set_cons_zero, List.set_cons_succ])
              refine wpAnyH_take (i := 10) (v := ?_) rfl (by kernel_rfl) (by kernel_rfl) (by kernel_rfl) (fun _ _ _ h => h) (Or.inl ⟨by kernel_rfl, ?_⟩) (by first | assumption | trivial) ?_
              rotate_left
              · (intro wS hSw; (try dsimp only at hSw); go_simp; try with_reducible rfl)
              (try simp only [List.append_eq, List.cons_append, List.nil_append, List.getElem_toArray, List.getElem_cons_succ, List.getElem_cons_zero, Act.put, List.setIfInBounds_toArray, List.set_cons_zero, List.set_cons_succ])
              refine wpAnyH_ready (rs := [11]) (by kernel_rfl) (by simp) ?_
              refine AllReadyH.cons rfl (fun K hK => ?_) AllReadyH.nil
              go_simp
              (go_at_call 9; refine (allC S.out aC).mono ?_; rintro e w3 ⟨g3, rfl, o3, s3, b3⟩; have O3 := hid o3; have hS := HKS.out _ s3.bel; have S := hid s3; have R := hid (own_below R.out b3); clear o3 s3 b3 hHeld)
              go_wp2_with fail
              refine hK.out _ _ (by first | assumption | trivial) (fun hHeld => ?_)
              clear hK K
              (try simp only [List.append_eq, List.cons_append, List.nil_append, List.getElem_toArray, List.getElem_cons_succ, List.getElem_cons_zero, Act.put, List.setIfInBounds_toArray, List.set_cons_zero, List.set_cons_succ])
              refine wpAnyH_ready (rs := [12]) (by kernel_rfl) (by simp) ?_
              refine AllReadyH.cons rfl (fun K hK => ?_) AllReadyH.nil
              go_simp
              (go_at_call 8; refine (HWR.out _ S.out g3 O3.out).mono ?_; rintro e w4 ⟨rfl, s4, k4⟩; have hS := HKS.out _ s4.bel; have R := hid (own_lets S.out R.out k4); have S := hid s4; clear s4 k4 hHeld)
              go_wp2_with fail
              refine hK.out _ _ (by first | assumption | trivial) (fun hHeld => ?_)
              clear hK K
              (try simp only [List.append_eq, List.cons_append, List.nil_append, List.getElem_toArray, List.getElem_cons_succ, List.getElem_cons_zero, Act.put, List.setIfInBounds_toArray, List.set_cons_zero, List.set_cons_succ])
              refine wpAnyH_done (by kernel_rfl) ?_ _
              refine NoPanic.normal ?_
              go_wp2_with fail
              go_roundw
              case rel => exact ⟨j + 1, by omega, by omega, by go_num, hid ⟨S.out, R.out⟩⟩
              case measure => simp [intOf]; omega
            · have hdd : decide ((j : Int) < (n : Int)) = false ∨ (decide ((j : Int) < (n : Int)) = true ∧ decide ((j : Int) < 20) = false) := by
                by_cases h1 : j < n
                · exact .inr ⟨by simp; omega, by simp; omega⟩
                · exact .inl (by simp; omega)
              have HI := hid hI.out
              have hjm : j = min n 20 := by omega
              have HJM := hid hjm
              clear hI hlt hjm
              go_upto_region 19 with fail
              go_cut [73, 74, 75, 76, 77, 78, 79, 80] from 73 to 80 (fun a b c0 e f g h t wx => t = .bool false ∧ wr = wx)
              case first =>
                rcases hdd with d1 | ⟨d1, d2⟩
                · have d1' : decide (j < n) = false := by simpa using d1
                  go_wp2_with fail
                  go_meet
                  exact ⟨rfl, rfl⟩
                · have d1' : decide (j < n) = true := by simpa using d1
                  go_wp2_with fail
                  go_meet
                  exact ⟨rfl, rfl⟩
              case rest =>
              obtain ⟨rfl, hw9⟩ := hcut
              subst hw9
              clear hdd
              have HCUT := hid (fun (W : World) (k : St w W d hb (dkW h2 (wsL l j))) => cut_arg k (by have := wsL_len l j; show (wsL l j).length ≤ _; omega) A3 n3 c3 ks H3.out HK.out)
              obtain ⟨h5, hh5⟩ : ∃ h5, doneK (fun k => ks.getD k false) (wsL l j) h2 (wsL l j).length = h5 := ⟨_, rfl⟩
              have hcd : onD' (cutD (dkW h2 (wsL l j)) ks) = dkW h5 [] := by rw [← hh5]; rfl
              have HCD := hid hcd
              have h54 : h5.length = 4 := by rw [← hh5, doneK_len]; exact H24.out
              have H54 := hid h54
              have hend : ∀ i, i < 4 → wholeB l (h5.getD i []) (h2.getD i []) i j = true := fun i hi => by rw [← hh5]; exact whole_end l h2 i j (by rw [H24.out]; exact hi) _
              have HEND := hid hend
              have hnone : n3 = 0 → h5 = h2 := fun h0 => by
                have : ks = [] := List.eq_nil_of_length_eq_zero (by rw [H3.out]; exact h0)
                rw [← hh5, this, none_kept]
              have HNONE := hid hnone
              have S := hid HI.out.1
              have R := hid HI.out.2
              clear hh5 hcd h54 hend hnone HI
              go_upto_region 24 with (first
                | (go_at_call 12; (with_reducible refine (HCUT.out _ S.out).mono ?_); rintro e w7 ⟨rfl, s7, k7⟩; have R := hid (own_lets S.out R.out k7); have S := hid s7; clear s7 k7)
                | (go_at_call 13; (with_reducible refine (on_st S.out).mono ?_); rintro e w7 ⟨rfl, s7, k7⟩; rw [HCD.out] at s7; have R := hid (own_lets S.out R.out k7); have S := hid s7; clear s7 k7))
              clear HCUT
              go_wp2_with fail
              have S4 := S
              have R4 := R
              clear S R
              go_loopw [15, 16, 17, 18, 19] (fun i b f wh k wr => ∃ i0 : Nat, i0 ≤ 4 ∧ i = .int .i64 (i0 : Int) ∧ Hid (St w wr d hb (dkW h5 []) ∧ wr.ownsRow w.heap.size 9 1 (.slice A9 4 c9) 4 (h2.map SV))) (fun i b f wh k wr => 4 - (intOf i).toNat)
              case atStart => exact ⟨0, by omega, rfl, hid ⟨S4.out, R4.out⟩⟩
              case round =>
                clear S4 R4
                obtain ⟨i0, hi0, rfl, hI⟩ := hrel
                by_cases hlt : i0 < 4
                · have d1 : decide ((i0 : Int) < 4) = true := by simp; omega
                  have d1' : decide (i0 < 4) = true := by simp; omega
                  have S := hid hI.out.1
                  have R := hid hI.out.2
                  obtain ⟨v, hv⟩ : ∃ v, h5.getD i0 [] = v := ⟨_, rfl⟩
                  obtain ⟨u, hu⟩ : ∃ u, h2.getD i0 [] = u := ⟨_, rfl⟩
                  have HRD := hid (fun (W : World) (k : St w W d hb (dkW h5 [])) => read_good (s := v) k i0 (by show i0 < h5.length; rw [H54.out]; exact hlt) rfl (by show 0 ≤ _; omega) (by rw [← hv]; rfl))
                  have hvl : v.length = 128 := by
                    have := readD_len S.out i0 (by show i0 < h5.length; rw [H54.out]; exact hlt)
                    rw [← hv]
                    exact this
                  have HVL := hid hvl
                  have hwh := HEND.out i0 hlt
                  rw [hv, hu] at hwh
                  have HWH := hid hwh
                  have HVU := hid (show n3 = 0 → v = u from fun h => by rw [← hv, ← hu, HNONE.out h])
                  have hug : (h2.map SV)[i0]? = some (SV u) := by rw [← hu, List.getElem?_map, List.getD_eq_getElem?_getD, List.getElem?_eq_getElem (by rw [H24.out]; exact hlt)]; rfl
                  have HUG := hid hug
                  clear hI hv hu hvl hwh hug
                  go_upto_region 28 with (go_at_call 11; (with_reducible refine (HRD.out _ S.out).mono ?_); rintro e w6 ⟨g6, rfl, q6, s6, b6⟩; have S := hid s6; have K6 := hid q6; have c6 := strS q6.own HVL.out; have R := hid (own_below R.out b6); clear s6 q6 b6)
                  obtain ⟨ag, hag⟩ : ∃ ag, A9 = some ⟨ag, 0, none⟩ ∧ True := by
                    obtain ⟨g9, hg9, _⟩ := own_row R.out (by omega)
                    exact ⟨g9, hg9, trivial⟩
                  obtain ⟨rfl, _⟩ := hag
                  have x9 := (R.out.cellAt i0 (by omega)).trans HUG.out
                  unfold SV at x9
                  have j0 : (0 : Int) ≤ (i0 : Int) := by omega
                  have j1 : (i0 : Int) < 4 := by omega
                  have j2 : (i0 : Int).toNat = i0 := by omega
                  have S := hid S.out.drew
                  have K6 := hid (K6.out.below (drew_below _))
                  have R := hid (own_below R.out (drew_below _))
                  have hS := And.intro (strS K6.out.own HVL.out) (show w6.drew.cell? ⟨ag, i0, none⟩ = some (.string (str u)) from x9)
                  clear c6 x9
                  refine wp_region_noPanic ?_
                  refine wp_region_held_drew (S := (fun X => (convert 31 9 (.slice (some ⟨g6, 0, none⟩) 128 128)).run Try.prog X = .ok (.string (str v)) X ∧ X.cell? ⟨ag, i0, none⟩ = some (.string (str u)))) (by kernel_rfl) (by first | assumption | trivial) (fun hHeld => ?_)
                  refine wpAnyH_take (i := 0) (v := ?_) rfl (by kernel_rfl) (by kernel_rfl) (by kernel_rfl) (fun _ _ _ h => h) (Or.inl ⟨by kernel_rfl, ?_⟩) (by first | assumption | trivial) ?_
                  rotate_left
                  · (intro wS hSw; (try dsimp only at hSw); go_simp; try with_reducible rfl)
                  (try simp only [List.append_eq, List.cons_append, List.nil_append, List.getElem_toArray, List.getElem_cons_succ, List.getElem_cons_zero, Act.put, List.setIfInBounds_toArray, List.set_cons_zero, List.set_cons_succ])
                  refine wpAnyH_take (i := 1) (v := ?_) rfl (by kernel_rfl) (by kernel_rfl) (by kernel_rfl) (fun _ _ _ h => h) (Or.inl ⟨by kernel_rfl, ?_⟩) (by first | assumption | trivial) ?_
                  rotate_left
                  · (intro wS hSw; (try dsimp only at hSw); go_simp; try with_reducible rfl)
                  (try simp only [List.append_eq, List.cons_append, List.nil_append, List.getElem_toArray, List.getElem_cons_succ, List.getElem_cons_zero, Act.put, List.setIfInBounds_toArray, List.set_cons_zero, List.set_cons_succ])
                  refine wpAnyH_take (i := 2) (v := ?_) rfl (by kernel_rfl) (by kernel_rfl) (by kernel_rfl) (fun _ _ _ h => h) (Or.inl ⟨by kernel_rfl, ?_⟩) (by first | assumption | trivial) ?_
                  rotate_left
                  · (intro wS hSw; (try dsimp only at hSw); go_simp; try with_reducible rfl)
                  (try simp only [List.append_eq, List.cons_append, List.nil_append, List.getElem_toArray, List.getElem_cons_succ, List.getElem_cons_zero, Act.put, List.setIfInBounds_toArray, List.set_cons_zero, List.set_cons_succ])
                  refine wpAnyH_take (i := 3) (v := ?_) rfl (by kernel_rfl) (by kernel_rfl) (by kernel_rfl) (fun _ _ _ h => h) (Or.inl ⟨by kernel_rfl, ?_⟩) (by first | assumption | trivial) ?_
                  rotate_left
                  · (intro wS hSw; (try dsimp only at hSw); go_simp; try with_reducible rfl)
                  (try simp only [List.append_eq, List.cons_append, List.nil_append, List.getElem_toArray, List.getElem_cons_succ, List.getElem_cons_zero, Act.put, List.setIfInBounds_toArray, List.set_cons_zero, List.set_cons_succ])
                  refine wpAnyH_take (i := 4) (v := ?_) rfl (by kernel_rfl) (by kernel_rfl) (by kernel_rfl) (fun _ _ _ h => h) (Or.inl ⟨by kernel_rfl, ?_⟩) (by first | assumption | trivial) ?_
                  rotate_left
                  · (intro wS hSw; (try dsimp only at hSw); go_simp; try with_reducible rfl)
                  (try simp only [List.append_eq, List.cons_append, List.nil_append, List.getElem_toArray, List.getElem_cons_succ, List.getElem_cons_zero, Act.put, List.setIfInBounds_toArray, List.set_cons_zero, List.set_cons_succ])
                  refine wpAnyH_take (i := 5) (v := ?_) rfl (by kernel_rfl) (by kernel_rfl) (by kernel_rfl) (fun _ _ _ h => h) (Or.inl ⟨by kernel_rfl, ?_⟩) (by first | assumption | trivial) ?_
                  rotate_left
                  · (intro wS hSw; (try dsimp only at hSw); go_simp; try with_reducible rfl)
                  (try simp only [List.append_eq, List.cons_append, List.nil_append, List.getElem_toArray, List.getElem_cons_succ, List.getElem_cons_zero, Act.put, List.setIfInBounds_toArray, List.set_cons_zero, List.set_cons_succ])
                  refine wpAnyH_take (i := 6) (v := ?_) rfl (by kernel_rfl) (by kernel_rfl) (by kernel_rfl) (fun _ _ _ h => h) (Or.inl ⟨by kernel_rfl, ?_⟩) (by first | assumption | trivial) ?_
                  rotate_left
                  · (intro wS hSw; (try dsimp only at hSw); go_simp; try with_reducible rfl)
                  (try simp only [List.append_eq, List.cons_append, List.nil_append, List.getElem_toArray, List.getElem_cons_succ, List.getElem_cons_zero, Act.put, List.setIfInBounds_toArray, List.set_cons_zero, List.set_cons_succ])
                  refine wpAnyH_take (i := 7) (v := ?_) rfl (by kernel_rfl) (by kernel_rfl) (by kernel_rfl) (fun _ _ _ h => h) (Or.inl ⟨by kernel_rfl, ?_⟩) (by first | assumption | trivial) ?_
                  rotate_left
                  · (intro wS hSw; (try dsimp only at hSw); go_simp; try with_reducible rfl)
                  (try simp only [List.append_eq, List.cons_append, List.nil_append, List.getElem_toArray, List.getElem_cons_succ, List.getElem_cons_zero, Act.put, List.setIfInBounds_toArray, List.set_cons_zero, List.set_cons_succ])
                  refine wpAnyH_done (by kernel_rfl) ?_ _
                  refine NoPanic.normal ?_
                  clear hHeld hS
                  go_wp2_with fail
                  have S5 := S
                  have K5 := K6
                  have R5 := R
                  clear S K6 R
                  go_loopw [18, 19] (fun wh k wr => ∃ k0 : Nat, k0 ≤ 20 ∧ k0 ≤ n ∧ k = .int .i64 (k0 : Int) ∧ wh = .bool (wholeB l v u i0 k0) ∧ Hid (St w wr d hb (dkW h5 []) ∧ Kp wr d hb g6 v ∧ wr.ownsRow w.heap.size 9 1 (.slice (some ⟨ag, 0, none⟩) 4 c9) 4 (h2.map SV))) (fun wh k wr => 20 - (intOf k).toNat)
                  case atStart => exact ⟨0, by omega, by omega, rfl, by first | (simp [wholeB]; done) | (rw [str_eqv]; simp [wholeB]), hid ⟨S5.out, K5.out, R5.out⟩⟩
                  case round =>
                    clear S5 K5 R5
                    obtain ⟨k0, hk0, hkn, rfl, rfl, hI⟩ := hrel
                    by_cases hlt5 : k0 < n ∧ k0 < 20
                    · obtain ⟨ab, ao, rfl, hcell⟩ := H2.out.cell (by omega)
                      have hjl : k0 < l.length := by rw [HL2.out]; exact hlt5.1
                      have hc := hcell k0 hjl
                      have hws := wholeB_succ l v u i0 k0 hjl
                      obtain ⟨a, ha⟩ : ∃ a, l[k0]'hjl = a := ⟨_, rfl⟩
                      rw [ha] at hc hws
                      obtain ⟨aD, aI, aC, aS, aK⟩ := a
                      dsimp only at hc hws
                      have HWS := hid hws
                      have d5 : decide ((k0 : Int) < (n : Int)) = true := by simp; omega
                      have d6 : decide ((k0 : Int) < 20) = true := by simp; omega
                      have d5' : decide (k0 < n) = true := by simp; omega
                      have d6' : decide (k0 < 20) = true := by simp; omega
                      have e0 : (0 : Int) ≤ (k0 : Int) := by omega
                      have e1 : (k0 : Int) < (n : Int) := by omega
                      have e2 : (k0 : Int).toNat = k0 := by omega
                      have S := hid hI.out.1
                      have K6 := hid hI.out.2.1
                      have R := hid hI.out.2.2
                      have hKS : ∀ X, Below w.heap.size w X → Kp X d hb g6 v → ((convert 31 9 (.slice (some ⟨g6, 0, none⟩) 128 128)).run Try.prog X = .ok (.string (str v)) X ∧ X.cell? ⟨ab, ao + k0 * 5 + 1, none⟩ = some (.int .i64 aI) ∧ X.cell? ⟨ab, ao + k0 * 5 + 2, none⟩ = some (B8 aC)) := fun X hX hK => ⟨strS hK.own HVL.out, cells_keep hX hc.2.1, cells_keep hX hc.2.2.1⟩
                      have HKS := hid hKS
                      clear hI hc hcell ha hjl hws hKS
                      obtain ⟨wb, hwb⟩ : ∃ b, wholeB l v u i0 k0 = b := ⟨_, rfl⟩
                      rw [hwb]
                      have HWB := hid hwb
                      clear hwb
                      cases wb with
                      | true =>
                        go_upto_region 32 with fail
                        have S := hid S.out.drew
                        have K6 := hid (K6.out.below (drew_below _))
                        have R := hid (own_below R.out (drew_below _))
                        have hS := HKS.out _ S.out.bel K6.out
                        refine wp_region_noPanic ?_
                        refine wp_region_held_drew (S := (fun X => (convert 31 9 (.slice (some ⟨g6, 0, none⟩) 128 128)).run Try.prog X = .ok (.string (str v)) X ∧ X.cell? ⟨ab, ao + k0 * 5 + 1, none⟩ = some (.int .i64 aI) ∧ X.cell? ⟨ab, ao + k0 * 5 + 2, none⟩ = some (B8 aC))) (by kernel_rfl) (by first | assumption | trivial) (fun hHeld => ?_)
                        refine wpAnyH_take (i := 0) (v := ?_) rfl (by kernel_rfl) (by kernel_rfl) (by kernel_rfl) (fun _ _ _ h => h) (Or.inl ⟨by kernel_rfl, ?_⟩) (by first | assumption | trivial) ?_
                        rotate_left
                        · (intro wS hSw; (try dsimp only at hSw); go_simp; try with_reducible rfl)
                        (try simp only [List.append_eq, List.cons_append, List.nil_append, List.getElem_toArray, List.getElem_cons_succ, List.getElem_cons_zero, Act.put, List.setIfInBounds_toArray, List.set_cons_zero, List.set_cons_succ])
                        refine wpAnyH_take (i := 1) (v := ?_) rfl (by kernel_rfl) (by kernel_rfl) (by kernel_rfl) (fun _ _ _ h => h) (Or.inl ⟨by kernel_rfl, ?_⟩) (by first | assumption | trivial) ?_
                        rotate_left
                        · (intro wS hSw; (try dsimp only at hSw); go_simp; try with_reducible rfl)
                        (try simp only [List.append_eq, List.cons_append, List.nil_append, List.getElem_toArray, List.getElem_cons_succ, List.getElem_cons_zero, Act.put, List.setIfInBounds_toArray, List.set_cons_zero, List.set_cons_succ])
                        refine wpAnyH_take (i := 2) (v := undef) rfl (by kernel_rfl) (by kernel_rfl) (by kernel_rfl) (fun _ _ _ h => h) (Or.inr ⟨by kernel_rfl, rfl⟩) (by first | assumption | trivial) ?_
                        (try simp only [List.append_eq, List.cons_append, List.nil_append, List.getElem_toArray, List.getElem_cons_succ, List.getElem_cons_zero, Act.put, List.setIfInBounds_toArray, List.set_cons_zero, List.set_cons_succ])
                        refine wpAnyH_take (i := 3) (v := undef) rfl (by kernel_rfl) (by kernel_rfl) (by kernel_rfl) (fun _ _ _ h => h) (Or.inr ⟨by kernel_rfl, rfl⟩) (by first | assumption | trivial) ?_
                        (try simp only [List.append_eq, List.cons_append, List.nil_append, List.getElem_toArray, List.getElem_cons_succ, List.getElem_cons_zero, Act.put, List.setIfInBounds_toArray, List.set_cons_zero, List.set_cons_succ])
                        refine wpAnyH_take (i := 4) (v := undef) rfl (by kernel_rfl) (by kernel_rfl) (by kernel_rfl) (fun _ _ _ h => h) (Or.inr ⟨by kernel_rfl, rfl⟩) (by first | assumption | trivial) ?_
                        (try simp only [List.append_eq, List.cons_append, List.nil_append, List.getElem_toArray, List.getElem_cons_succ, List.getElem_cons_zero, Act.put, List.setIfInBounds_toArray, List.set_cons_zero, List.set_cons_succ])
                        refine wpAnyH_take (i := 5) (v := undef) rfl (by kernel_rfl) (by kernel_rfl) (by kernel_rfl) (fun _ _ _ h => h) (Or.inr ⟨by kernel_rfl, rfl⟩) (by first | assumption | trivial) ?_
                        (try simp only [List.append_eq, List.cons_append, List.nil_append, List.getElem_toArray, List.getElem_cons_succ, List.getElem_cons_zero, Act.put, List.setIfInBounds_toArray, List.set_cons_zero, List.set_cons_succ])
                        refine wpAnyH_take (i := 6) (v := undef) rfl (by kernel_rfl) (by kernel_rfl) (by kernel_rfl) (fun _ _ _ h => h) (Or.inr ⟨by kernel_rfl, rfl⟩) (by first | assumption | trivial) ?_
                        (try simp only [List.append_eq, List.cons_append, List.nil_append, List.getElem_toArray, List.getElem_cons_succ, List.getElem_cons_zero, Act.put, List.setIfInBounds_toArray, List.set_cons_zero, List.set_cons_succ])
                        refine wpAnyH_take (i := 7) (v := undef) rfl (by kernel_rfl) (by kernel_rfl) (by kernel_rfl) (fun _ _ _ h => h) (Or.inr ⟨by kernel_rfl, rfl⟩) (by first | assumption | trivial) ?_
                        (try simp only [List.append_eq, List.cons_append, List.nil_append, List.getElem_toArray, List.getElem_cons_succ, List.getElem_cons_zero, Act.put, List.setIfInBounds_toArray, List.set_cons_zero, List.set_cons_succ])
                        refine wpAnyH_take (i := 8) (v := undef) rfl (by kernel_rfl) (by kernel_rfl) (by kernel_rfl) (fun _ _ _ h => h) (Or.inr ⟨by kernel_rfl, rfl⟩) (by first | assumption | trivial) ?_
                        (try simp only [List.append_eq, List.cons_append, List.nil_append, List.getElem_toArray, List.getElem_cons_succ, List.getElem_cons_zero, Act.put, List.setIfInBounds_toArray, List.set_cons_zero, List.set_cons_succ])
                        refine wpAnyH_take (i := 9) (v := undef) rfl (by kernel_rfl) (by kernel_rfl) (by kernel_rfl) (fun _ _ _ h => h) (Or.inr ⟨by kernel_rfl, rfl⟩) (by first | assumption | trivial) ?_
                        (try simp only [List.append_eq, List.cons_append, List.nil_append, List.getElem_toArray, List.getElem_cons_succ, List.getElem_cons_zero, Act.put, List.setIfInBounds_toArray, List.set_cons_zero, List.set_cons_succ])
                        refine wpAnyH_take (i := 10) (v := undef) rfl (by kernel_rfl) (by kernel_rfl) (by kernel_rfl) (fun _ _ _ h => h) (Or.inr ⟨by kernel_rfl, rfl⟩) (by first | assumption | trivial) ?_
                        (try simp only [List.append_eq, List.cons_append, List.nil_append, List.getElem_toArray, List.getElem_cons_succ, List.getElem_cons_zero, Act.put, List.setIfInBounds_toArray, List.set_cons_zero, List.set_cons_succ])
                        refine wpAnyH_take (i := 11) (v := undef) rfl (by kernel_rfl) (by kernel_rfl) (by kernel_rfl) (fun _ _ _ h => h) (Or.inr ⟨by kernel_rfl, rfl⟩) (by first | assumption | trivial) ?_
                        (try simp only [List.append_eq, List.cons_append, List.nil_append, List.getElem_toArray, List.getElem_cons_succ, List.getElem_cons_zero, Act.put, List.setIfInBounds_toArray, List.set_cons_zero, List.set_cons_succ])
                        refine wpAnyH_take (i := 12) (v := undef) rfl (by kernel_rfl) (by kernel_rfl) (by kernel_rfl) (fun _ _ _ h => h) (Or.inr ⟨by kernel_rfl, rfl⟩) (by first | assumption | trivial) ?_
                        (try simp only [List.append_eq, List.cons_append, List.nil_append, List.getElem_toArray, List.getElem_cons_succ, List.getElem_cons_zero, Act.put, List.setIfInBounds_toArray, List.set_cons_zero, List.set_cons_succ])
                        refine wpAnyH_take (i := 13) (v := undef) rfl (by kernel_rfl) (by kernel_rfl) (by kernel_rfl) (fun _ _ _ h => h) (Or.inr ⟨by kernel_rfl, rfl⟩) (by first | assumption | trivial) ?_
                        (try simp only [List.append_eq, List.cons_append, List.nil_append, List.getElem_toArray, List.getElem_cons_succ, List.getElem_cons_zero, Act.put, List.setIfInBounds_toArray, List.set_cons_zero, List.set_cons_succ])
                        refine wpAnyH_take (i := 14) (v := undef) rfl (by kernel_rfl) (by kernel_rfl) (by kernel_rfl) (fun _ _ _ h => h) (Or.inr ⟨by kernel_rfl, rfl⟩) (by first | assumption | trivial) ?_
                        (try simp only [List.append_eq, List.cons_append, List.nil_append, List.getElem_toArray, List.getElem_cons_succ, List.getElem_cons_zero, Act.put, List.setIfInBounds_toArray, List.set_cons_zero, List.set_cons_succ])
                        refine wpAnyH_take (i := 15) (v := undef) rfl (by kernel_rfl) (by kernel_rfl) (by kernel_rfl) (fun _ _ _ h => h) (Or.inr ⟨by kernel_rfl, rfl⟩) (by first | assumption | trivial) ?_
                        (try simp only [List.append_eq, List.cons_append, List.nil_append, List.getElem_toArray, List.getElem_cons_succ, List.getElem_cons_zero, Act.put, List.setIfInBounds_toArray, List.set_cons_zero, List.set_cons_succ])
                        refine wpAnyH_take (i := 16) (v := undef) rfl (by kernel_rfl) (by kernel_rfl) (by kernel_rfl) (fun _ _ _ h => h) (Or.inr ⟨by kernel_rfl, rfl⟩) (by first | assumption | trivial) ?_
                        (try simp only [List.append_eq, List.cons_append, List.nil_append, List.getElem_toArray, List.getElem_cons_succ, List.getElem_cons_zero, Act.put, List.setIfInBounds_toArray, List.set_cons_zero, List.set_cons_succ])
                        refine wpAnyH_take (i := 17) (v := undef) rfl (by kernel_rfl) (by kernel_rfl) (by kernel_rfl) (fun _ _ _ h => h) (Or.inr ⟨by kernel_rfl, rfl⟩) (by first | assumption | trivial) ?_
                        (try simp only [List.append_eq, List.cons_append, List.nil_append, List.getElem_toArray, List.getElem_cons_succ, List.getElem_cons_zero, Act.put, List.setIfInBounds_toArray, List.set_cons_zero, List.set_cons_succ])
                        refine wpAnyH_take (i := 18) (v := undef) rfl (by kernel_rfl) (by kernel_rfl) (by kernel_rfl) (fun _ _ _ h => h) (Or.inr ⟨by kernel_rfl, rfl⟩) (by first | assumption | trivial) ?_
                        (try simp only [List.append_eq, List.cons_append, List.nil_append, List.getElem_toArray, List.getElem_cons_succ, List.getElem_cons_zero, Act.put, List.setIfInBounds_toArray, List.set_cons_zero, List.set_cons_succ])
                        refine wpAnyH_take (i := 19) (v := undef) rfl (by kernel_rfl) (by kernel_rfl) (by kernel_rfl) (fun _ _ _ h => h) (Or.inr ⟨by kernel_rfl, rfl⟩) (by first | assumption | trivial) ?_
                        (try simp only [List.append_eq, List.cons_append, List.nil_append, List.getElem_toArray, List.getElem_cons_succ, List.getElem_cons_zero, Act.put, List.setIfInBounds_toArray, List.set_cons_zero, List.set_cons_succ])
                        refine wpAnyH_take (i := 20) (v := undef) rfl (by kernel_rfl) (by kernel_rfl) (by kernel_rfl) (fun _ _ _ h => h) (Or.inr ⟨by kernel_rfl, rfl⟩) (by first | assumption | trivial) ?_
                        (try simp only [List.append_eq, List.cons_append, List.nil_append, List.getElem_toArray, List.getElem_cons_succ, List.getElem_cons_zero, Act.put, List.setIfInBounds_toArray, List.set_cons_zero, List.set_cons_succ])
                        refine wpAnyH_take (i := 21) (v := ?_) rfl (by kernel_rfl) (by kernel_rfl) (by kernel_rfl) (fun _ _ _ h => h) (Or.inl ⟨by kernel_rfl, ?_⟩) (by first | assumption | trivial) ?_
                        rotate_left
                        · (intro wS hSw; (try dsimp only at hSw); go_simp; try with_reducible rfl)
                        (try simp only [List.append_eq, List.cons_append, List.nil_append, List.getElem_toArray, List.getElem_cons_succ, List.getElem_cons_zero, Act.put, List.setIfInBounds_toArray, List.set_cons_zero, List.set_cons_succ])
                        refine wpAnyH_take (i := 22) (v := ?_) rfl (by kernel_rfl) (by kernel_rfl) (by kernel_rfl) (fun _ _ _ h => h) (Or.inl ⟨by kernel_rfl, ?_⟩) (by first | assumption | trivial) ?_
                        rotate_left
                        · (intro wS hSw; (try dsimp only at hSw); go_simp; try with_reducible rfl)
                        (try simp only [List.append_eq, List.cons_append, List.nil_append, List.getElem_toArray, List.getElem_cons_succ, List.getElem_cons_zero, Act.put, List.setIfInBounds_toArray, List.set_cons_zero, List.set_cons_succ])
                        refine wpAnyH_done (by kernel_rfl) ?_ _
                        refine NoPanic.normal ?_
                        go_wp2_with fail
                        go_roundw
                        case rel => exact ⟨k0 + 1, by omega, by omega, by go_num, by rw [HWS.out, HWB.out]; rfl, hid ⟨S.out, K6.out, R.out⟩⟩
                        case measure => simp [intOf]; omega
                      | false =>
                        by_cases hat : aI = (i0 : Int)
                        · have d7 : (aI == (i0 : Int)) = true := by simpa using hat
                          go_upto_region 32 with fail
                          have S := hid S.out.drew
                          have K6 := hid (K6.out.below (drew_below _))
                          have R := hid (own_below R.out (drew_below _))
                          have hS := HKS.out _ S.out.bel K6.out
                          refine wp_region_noPanic ?_
                          refine wp_region_held_drew (S := (fun X => (convert 31 9 (.slice (some ⟨g6, 0, none⟩) 128 128)).run Try.prog X = .ok (.string (str v)) X ∧ X.cell? ⟨ab, ao + k0 * 5 + 1, none⟩ = some (.int .i64 aI) ∧ X.cell? ⟨ab, ao + k0 * 5 + 2, none⟩ = some (B8 aC))) (by kernel_rfl) (by first | assumption | trivial) (fun hHeld => ?_)
                          refine wpAnyH_take (i := 0) (v := ?_) rfl (by kernel_rfl) (by kernel_rfl) (by kernel_rfl) (fun _ _ _ h => h) (Or.inl ⟨by kernel_rfl, ?_⟩) (by first | assumption | trivial) ?_
                          rotate_left
                          · (intro wS hSw; (try dsimp only at hSw); go_simp; try with_reducible rfl)
                          (try simp only [List.append_eq, List.cons_append, List.nil_append, List.getElem_toArray, List.getElem_cons_succ, List.getElem_cons_zero, Act.put, List.setIfInBounds_toArray, List.set_cons_zero, List.set_cons_succ])
                          refine wpAnyH_take (i := 1) (v := ?_) rfl (by kernel_rfl) (by kernel_rfl) (by kernel_rfl) (fun _ _ _ h => h) (Or.inl ⟨by kernel_rfl, ?_⟩) (by first | assumption | trivial) ?_
                          rotate_left
                          · (intro wS hSw; (try dsimp only at hSw); go_simp; try with_reducible rfl)
                          (try simp only [List.append_eq, List.cons_append, List.nil_append, List.getElem_toArray, List.getElem_cons_succ, List.getElem_cons_zero, Act.put, List.setIfInBounds_toArray, List.set_cons_zero, List.set_cons_succ])
                          refine wpAnyH_take (i := 2) (v := ?_) rfl (by kernel_rfl) (by kernel_rfl) (by kernel_rfl) (fun _ _ _ h => h) (Or.inl ⟨by kernel_rfl, ?_⟩) (by first | assumption | trivial) ?_
                          rotate_left
                          · (intro wS hSw; (try dsimp only at hSw); go_simp; try with_reducible rfl)
                          (try simp only [List.append_eq, List.cons_append, List.nil_append, List.getElem_toArray, List.getElem_cons_succ, List.getElem_cons_zero, Act.put, List.setIfInBounds_toArray, List.set_cons_zero, List.set_cons_succ])
                          refine wpAnyH_take (i := 3) (v := ?_) rfl (by kernel_rfl) (by kernel_rfl) (by kernel_rfl) (fun _ _ _ h => h) (Or.inl ⟨by kernel_rfl, ?_⟩) (by first | assumption | trivial) ?_
                          rotate_left
                          · (intro wS hSw; (try dsimp only at hSw); go_simp; try with_reducible rfl)
                          (try simp only [List.append_eq, List.cons_append, List.nil_append, List.getElem_toArray, List.getElem_cons_succ, List.getElem_cons_zero, Act.put, List.setIfInBounds_toArray, List.set_cons_zero, List.set_cons_succ])
                          refine wpAnyH_take (i := 4) (v := ?_) rfl (by kernel_rfl) (by kernel_rfl) (by kernel_rfl) (fun _ _ _ h => h) (Or.inl ⟨by kernel_rfl, ?_⟩) (by first | assumption | trivial) ?_
                          rotate_left
                          · (intro wS hSw; (try dsimp only at hSw); go_simp; try with_reducible rfl)
                          (try simp only [List.append_eq, List.cons_append, List.nil_append, List.getElem_toArray, List.getElem_cons_succ, List.getElem_cons_zero, Act.put, List.setIfInBounds_toArray, List.set_cons_zero, List.set_cons_succ])
                          refine wpAnyH_take (i := 5) (v := ?_) rfl (by kernel_rfl) (by kernel_rfl) (by kernel_rfl) (fun _ _ _ h => h) (Or.inl ⟨by kernel_rfl, ?_⟩) (by first | assumption | trivial) ?_
                          rotate_left
                          · (intro wS hSw; (try dsimp only at hSw); go_simp; try with_reducible rfl)
                          (try simp only [List.append_eq, List.cons_append, List.nil_append, List.getElem_toArray, List.getElem_cons_succ, List.getElem_cons_zero, Act.put, List.setIfInBounds_toArray, List.set_cons_zero, List.set_cons_succ])
                          refine wpAnyH_take (i := 6) (v := ?_) rfl (by kernel_rfl) (by kernel_rfl) (by kernel_rfl) (fun _ _ _ h => h) (Or.inl ⟨by kernel_rfl, ?_⟩) (by first | assumption | trivial) ?_
                          rotate_left
                          · (intro wS hSw; (try dsimp only at hSw); go_simp; try with_reducible rfl)
                          (try simp only [List.append_eq, List.cons_append, List.nil_append, List.getElem_toArray, List.getElem_cons_succ, List.getElem_cons_zero, Act.put, List.setIfInBounds_toArray, List.set_cons_zero, List.set_cons_succ])
                          refine wpAnyH_take (i := 7) (v := ?_) rfl (by kernel_rfl) (by kernel_rfl) (by kernel_rfl) (fun _ _ _ h => h) (Or.inl ⟨by kernel_rfl, ?_⟩) (by first | assumption | trivial) ?_
                          rotate_left
                          · (intro wS hSw; (try dsimp only at hSw); go_simp; try with_reducible rfl)
                          (try simp only [List.append_eq, List.cons_append, List.nil_append, List.getElem_toArray, List.getElem_cons_succ, List.getElem_cons_zero, Act.put, List.setIfInBounds_toArray, List.set_cons_zero, List.set_cons_succ])
                          refine wpAnyH_take (i := 8) (v := ?_) rfl (by kernel_rfl) (by kernel_rfl) (by kernel_rfl) (fun _ _ _ h => h) (Or.inl ⟨by kernel_rfl, ?_⟩) (by first | assumption | trivial) ?_
                          rotate_left
                          · (intro wS hSw; (try dsimp only at hSw); go_simp; try with_reducible rfl)
                          (try simp only [List.append_eq, List.cons_append, List.nil_append, List.getElem_toArray, List.getElem_cons_succ, List.getElem_cons_zero, Act.put, List.setIfInBounds_toArray, List.set_cons_zero, List.set_cons_succ])
                          refine wpAnyH_take (i := 9) (v := ?_) rfl (by kernel_rfl) (by kernel_rfl) (by kernel_rfl) (fun _ _ _ h => h) (Or.inl ⟨by kernel_rfl, ?_⟩) (by first | assumption | trivial) ?_
                          rotate_left
                          · (intro wS hSw; (try dsimp only at hSw); go_simp; try with_reducible rfl)
                          (try simp only [List.append_eq, List.cons_append, List.nil_append, List.getElem_toArray, List.getElem_cons_succ, List.getElem_cons_zero, Act.put, List.setIfInBounds_toArray, List.set_cons_zero, List.set_cons_succ])
                          refine wpAnyH_take (i := 10) (v := ?_) rfl (by kernel_rfl) (by kernel_rfl) (by kernel_rfl) (fun _ _ _ h => h) (Or.inl ⟨by kernel_rfl, ?_⟩) (by first | assumption | trivial) ?_
                          rotate_left
                          · (intro wS hSw; (try dsimp only at hSw); go_simp; try with_reducible rfl)
                          (try simp only [List.append_eq, List.cons_append, List.nil_append, List.getElem_toArray, List.getElem_cons_succ, List.getElem_cons_zero, Act.put, List.setIfInBounds_toArray, List.set_cons_zero, List.set_cons_succ])
                          refine wpAnyH_take (i := 11) (v := ?_) rfl (by kernel_rfl) (by kernel_rfl) (by kernel_rfl) (fun _ _ _ h => h) (Or.inl ⟨by kernel_rfl, ?_⟩) (by first | assumption | trivial) ?_
                          rotate_left
                          · (intro wS hSw; (try dsimp only at hSw); go_simp; try with_reducible rfl)
                          (try simp only [List.append_eq, List.cons_append, List.nil_append, List.getElem_toArray, List.getElem_cons_succ, List.getElem_cons_zero, Act.put, List.setIfInBounds_toArray, List.set_cons_zero, List.set_cons_succ])
                          refine wpAnyH_take (i := 12) (v := ?_) rfl (by kernel_rfl) (by kernel_rfl) (by kernel_rfl) (fun _ _ _ h => h) (Or.inl ⟨by kernel_rfl, ?_⟩) (by first | assumption | trivial) ?_
                          rotate_left
                          · (intro wS hSw; (try dsimp only at hSw); go_simp; try with_reducible rfl)
                          (try simp only [List.append_eq, List.cons_append, List.nil_append, List.getElem_toArray, List.getElem_cons_succ, List.getElem_cons_zero, Act.put, List.setIfInBounds_toArray, List.set_cons_zero, List.set_cons_succ])
                          refine wpAnyH_take (i := 13) (v := ?_) rfl (by kernel_rfl) (by kernel_rfl) (by kernel_rfl) (fun _ _ _ h => h) (Or.inl ⟨by kernel_rfl, ?_⟩) (by first | assumption | trivial) ?_
                          rotate_left
                          · (intro wS hSw; (try dsimp only at hSw); go_simp; try with_reducible rfl)
                          (try simp only [List.append_eq, List.cons_append, List.nil_append, List.getElem_toArray, List.getElem_cons_succ, List.getElem_cons_zero, Act.put, List.setIfInBounds_toArray, List.set_cons_zero, List.set_cons_succ])
                          refine wpAnyH_take (i := 14) (v := ?_) rfl (by kernel_rfl) (by kernel_rfl) (by kernel_rfl) (fun _ _ _ h => h) (Or.inl ⟨by kernel_rfl, ?_⟩) (by first | assumption | trivial) ?_
                          rotate_left
                          · (intro wS hSw; (try dsimp only at hSw); go_simp; try with_reducible rfl)
                          (try simp only [List.append_eq, List.cons_append, List.nil_append, List.getElem_toArray, List.getElem_cons_succ, List.getElem_cons_zero, Act.put, List.setIfInBounds_toArray, List.set_cons_zero, List.set_cons_succ])
                          refine wpAnyH_take (i := 15) (v := ?_) rfl (by kernel_rfl) (by kernel_rfl) (by kernel_rfl) (fun _ _ _ h => h) (Or.inl ⟨by kernel_rfl, ?_⟩) (by first | assumption | trivial) ?_
                          rotate_left
                          · (intro wS hSw; (try dsimp only at hSw); go_simp; try with_reducible rfl)
                          (try simp only [List.append_eq, List.cons_append, List.nil_append, List.getElem_toArray, List.getElem_cons_succ, List.getElem_cons_zero, Act.put, List.setIfInBounds_toArray, List.set_cons_zero, List.set_cons_succ])
                          refine wpAnyH_take (i := 16) (v := ?_) rfl (by kernel_rfl) (by kernel_rfl) (by kernel_rfl) (fun _ _ _ h => h) (Or.inl ⟨by kernel_rfl, ?_⟩) (by first | assumption | trivial) ?_
                          rotate_left
                          · (intro wS hSw; (try dsimp only at hSw); go_simp; try with_reducible rfl)
                          (try simp only [List.append_eq, List.cons_append, List.nil_append, List.getElem_toArray, List.getElem_cons_succ, List.getElem_cons_zero, Act.put, List.setIfInBounds_toArray, List.set_cons_zero, List.set_cons_succ])
                          refine wpAnyH_ready (rs := [17]) (by kernel_rfl) (by simp) ?_
                          refine AllReadyH.cons rfl (fun K hK => ?_) AllReadyH.nil
                          go_simp
                          (go_at_call 9; refine (allC S.out aC).mono ?_; rintro e w8 ⟨g8, rfl, o8, s8, b8⟩; have hS := HKS.out _ s8.bel (K6.out.below b8); have K6 := hid (K6.out.below b8); have R := hid (own_below R.out b8); have S := hid s8; have co := strC o8 (secA_len _); clear o8 s8 b8 hHeld)
                          go_wp2_with fail
                          refine hK.out _ _ (by first | assumption | trivial) (fun hHeld => ?_)
                          clear hK K
                          (try simp only [List.append_eq, List.cons_append, List.nil_append, List.getElem_toArray, List.getElem_cons_succ, List.getElem_cons_zero, Act.put, List.setIfInBounds_toArray, List.set_cons_zero, List.set_cons_succ])
                          refine wpAnyH_ready (rs := [18]) (by kernel_rfl) (by simp) ?_
                          refine AllReadyH.cons rfl (fun K hK => ?_) AllReadyH.nil
                          go_simp
                          skip
                          go_wp2_with fail
                          refine hK.out _ _ (by first | assumption | trivial) (fun hHeld => ?_)
                          clear hK K
                          (try simp only [List.append_eq, List.cons_append, List.nil_append, List.getElem_toArray, List.getElem_cons_succ, List.getElem_cons_zero, Act.put, List.setIfInBounds_toArray, List.set_cons_zero, List.set_cons_succ])
                          refine wpAnyH_take (i := 19) (v := ?_) rfl (by kernel_rfl) (by kernel_rfl) (by kernel_rfl) (fun _ _ _ h => h) (Or.inl ⟨by kernel_rfl, ?_⟩) (by first | assumption | trivial) ?_
                          rotate_left
                          · (intro wS hSw; (try dsimp only at hSw); go_simp; try with_reducible rfl)
                          (try simp only [List.append_eq, List.cons_append, List.nil_append, List.getElem_toArray, List.getElem_cons_succ, List.getElem_cons_zero, Act.put, List.setIfInBounds_toArray, List.set_cons_zero, List.set_cons_succ])
                          refine wpAnyH_take (i := 20) (v := ?_) rfl (by kernel_rfl) (by kernel_rfl) (by kernel_rfl) (fun _ _ _ h => h) (Or.inl ⟨by kernel_rfl, ?_⟩) (by first | assumption | trivial) ?_
                          rotate_left
                          · (intro wS hSw; (try dsimp only at hSw); go_simp; try with_reducible rfl)
                          (try simp only [List.append_eq, List.cons_append, List.nil_append, List.getElem_toArray, List.getElem_cons_succ, List.getElem_cons_zero, Act.put, List.setIfInBounds_toArray, List.set_cons_zero, List.set_cons_succ])
                          refine wpAnyH_take (i := 21) (v := ?_) rfl (by kernel_rfl) (by kernel_rfl) (by kernel_rfl) (fun _ _ _ h => h) (Or.inl ⟨by kernel_rfl, ?_⟩) (by first | assumption | trivial) ?_
                          rotate_left
                          · (intro wS hSw; (try dsimp only at hSw); go_simp; try with_reducible rfl)
                          (try simp only [List.append_eq, List.cons_append, List.nil_append, List.getElem_toArray, List.getElem_cons_succ, List.getElem_cons_zero, Act.put, List.setIfInBounds_toArray, List.set_cons_zero, List.set_cons_succ])
                          refine wpAnyH_take (i := 22) (v := ?_) rfl (by kernel_rfl) (by kernel_rfl) (by kernel_rfl) (fun _ _ _ h => h) (Or.inl ⟨by kernel_rfl, ?_⟩) (by first | assumption | trivial) ?_
                          rotate_left
                          · (intro wS hSw; (try dsimp only at hSw); go_simp; try with_reducible rfl)
                          (try simp only [List.append_eq, List.cons_append, List.nil_append, List.getElem_toArray, List.getElem_cons_succ, List.getElem_cons_zero, Act.put, List.setIfInBounds_toArray, List.set_cons_zero, List.set_cons_succ])
                          refine wpAnyH_done (by kernel_rfl) ?_ _
                          refine NoPanic.normal ?_
                          go_wp2_with fail
                          go_roundw
                          case rel => exact ⟨k0 + 1, by omega, by omega, by go_num, by rw [HWS.out, HWB.out, d7]; first | rfl | simp [str_eqv], hid ⟨S.out, K6.out, R.out⟩⟩
                          case measure => simp [intOf]; omega
                        · have d7 : (aI == (i0 : Int)) = false := by simpa using hat
                          go_upto_region 32 with fail
                          have S := hid S.out.drew
                          have K6 := hid (K6.out.below (drew_below _))
                          have R := hid (own_below R.out (drew_below _))
                          have hS := HKS.out _ S.out.bel K6.out
                          refine wp_region_noPanic ?_
                          refine wp_region_held_drew (S := (fun X => (convert 31 9 (.slice (some ⟨g6, 0, none⟩) 128 128)).run Try.prog X = .ok (.string (str v)) X ∧ X.cell? ⟨ab, ao + k0 * 5 + 1, none⟩ = some (.int .i64 aI) ∧ X.cell? ⟨ab, ao + k0 * 5 + 2, none⟩ = some (B8 aC))) (by kernel_rfl) (by first | assumption | trivial) (fun hHeld => ?_)
                          refine wpAnyH_take (i := 0) (v := ?_) rfl (by kernel_rfl) (by kernel_rfl) (by kernel_rfl) (fun _ _ _ h => h) (Or.inl ⟨by kernel_rfl, ?_⟩) (by first | assumption | trivial) ?_
                          rotate_left
                          · (intro wS hSw; (try dsimp only at hSw); go_simp; try with_reducible rfl)
                          (try simp only [List.append_eq, List.cons_append, List.nil_append, List.getElem_toArray, List.getElem_cons_succ, List.getElem_cons_zero, Act.put, List.setIfInBounds_toArray, List.set_cons_zero, List.set_cons_succ])
                          refine wpAnyH_take (i := 1) (v := ?_) rfl (by kernel_rfl) (by kernel_rfl) (by kernel_rfl) (fun _ _ _ h => h) (Or.inl ⟨by kernel_rfl, ?_⟩) (by first | assumption | trivial) ?_
                          rotate_left
                          · (intro wS hSw; (try dsimp only at hSw); go_simp; try with_reducible rfl)
                          (try simp only [List.append_eq, List.cons_append, List.nil_append, List.getElem_toArray, List.getElem_cons_succ, List.getElem_cons_zero, Act.put, List.setIfInBounds_toArray, List.set_cons_zero, List.set_cons_succ])
                          refine wpAnyH_take (i := 2) (v := ?_) rfl (by kernel_rfl) (by kernel_rfl) (by kernel_rfl) (fun _ _ _ h => h) (Or.inl ⟨by kernel_rfl, ?_⟩) (by first | assumption | trivial) ?_
                          rotate_left
                          · (intro wS hSw; (try dsimp only at hSw); go_simp; try with_reducible rfl)
                          (try simp only [List.append_eq, List.cons_append, List.nil_append, List.getElem_toArray, List.getElem_cons_succ, List.getElem_cons_zero, Act.put, List.setIfInBounds_toArray, List.set_cons_zero, List.set_cons_succ])
                          refine wpAnyH_take (i := 3) (v := ?_) rfl (by kernel_rfl) (by kernel_rfl) (by kernel_rfl) (fun _ _ _ h => h) (Or.inl ⟨by kernel_rfl, ?_⟩) (by first | assumption | trivial) ?_
                          rotate_left
                          · (intro wS hSw; (try dsimp only at hSw); go_simp; try with_reducible rfl)
                          (try simp only [List.append_eq, List.cons_append, List.nil_append, List.getElem_toArray, List.getElem_cons_succ, List.getElem_cons_zero, Act.put, List.setIfInBounds_toArray, List.set_cons_zero, List.set_cons_succ])
                          refine wpAnyH_take (i := 4) (v := ?_) rfl (by kernel_rfl) (by kernel_rfl) (by kernel_rfl) (fun _ _ _ h => h) (Or.inl ⟨by kernel_rfl, ?_⟩) (by first | assumption | trivial) ?_
                          rotate_left
                          · (intro wS hSw; (try dsimp only at hSw); go_simp; try with_reducible rfl)
                          (try simp only [List.append_eq, List.cons_append, List.nil_append, List.getElem_toArray, List.getElem_cons_succ, List.getElem_cons_zero, Act.put, List.setIfInBounds_toArray, List.set_cons_zero, List.set_cons_succ])
                          refine wpAnyH_take (i := 5) (v := ?_) rfl (by kernel_rfl) (by kernel_rfl) (by kernel_rfl) (fun _ _ _ h => h) (Or.inl ⟨by kernel_rfl, ?_⟩) (by first | assumption | trivial) ?_
                          rotate_left
                          · (intro wS hSw; (try dsimp only at hSw); go_simp; try with_reducible rfl)
                          (try simp only [List.append_eq, List.cons_append, List.nil_append, List.getElem_toArray, List.getElem_cons_succ, List.getElem_cons_zero, Act.put, List.setIfInBounds_toArray, List.set_cons_zero, List.set_cons_succ])
                          refine wpAnyH_take (i := 6) (v := ?_) rfl (by kernel_rfl) (by kernel_rfl) (by kernel_rfl) (fun _ _ _ h => h) (Or.inl ⟨by kernel_rfl, ?_⟩) (by first | assumption | trivial) ?_
                          rotate_left
                          · (intro wS hSw; (try dsimp only at hSw); go_simp; try with_reducible rfl)
                          (try simp only [List.append_eq, List.cons_append, List.nil_append, List.getElem_toArray, List.getElem_cons_succ, List.getElem_cons_zero, Act.put, List.setIfInBounds_toArray, List.set_cons_zero, List.set_cons_succ])
                          refine wpAnyH_take (i := 7) (v := ?_) rfl (by kernel_rfl) (by kernel_rfl) (by kernel_rfl) (fun _ _ _ h => h) (Or.inl ⟨by kernel_rfl, ?_⟩) (by first | assumption | trivial) ?_
                          rotate_left
                          · (intro wS hSw; (try dsimp only at hSw); go_simp; try with_reducible rfl)
                          (try simp only [List.append_eq, List.cons_append, List.nil_append, List.getElem_toArray, List.getElem_cons_succ, List.getElem_cons_zero, Act.put, List.setIfInBounds_toArray, List.set_cons_zero, List.set_cons_succ])
                          refine wpAnyH_take (i := 8) (v := ?_) rfl (by kernel_rfl) (by kernel_rfl) (by kernel_rfl) (fun _ _ _ h => h) (Or.inl ⟨by kernel_rfl, ?_⟩) (by first | assumption | trivial) ?_
                          rotate_left
                          · (intro wS hSw; (try dsimp only at hSw); go_simp; try with_reducible rfl)
                          (try simp only [List.append_eq, List.cons_append, List.nil_append, List.getElem_toArray, List.getElem_cons_succ, List.getElem_cons_zero, Act.put, List.setIfInBounds_toArray, List.set_cons_zero, List.set_cons_succ])
                          refine wpAnyH_take (i := 9) (v := ?_) rfl (by kernel_rfl) (by kernel_rfl) (by kernel_rfl) (fun _ _ _ h => h) (Or.inl ⟨by kernel_rfl, ?_⟩) (by first | assumption | trivial) ?_
                          rotate_left
                          · (intro wS hSw; (try dsimp only at hSw); go_simp; try with_reducible rfl)
                          (try simp only [List.append_eq, List.cons_append, List.nil_append, List.getElem_toArray, List.getElem_cons_succ, List.getElem_cons_zero, Act.put, List.setIfInBounds_toArray, List.set_cons_zero, List.set_cons_succ])
                          refine wpAnyH_take (i := 10) (v := undef) rfl (by kernel_rfl) (by kernel_rfl) (by kernel_rfl) (fun _ _ _ h => h) (Or.inr ⟨by kernel_rfl, rfl⟩) (by first | assumption | trivial) ?_
                          (try simp only [List.append_eq, List.cons_append, List.nil_append, List.getElem_toArray, List.getElem_cons_succ, List.getElem_cons_zero, Act.put, List.setIfInBounds_toArray, List.set_cons_zero, List.set_cons_succ])
                          refine wpAnyH_take (i := 11) (v := undef) rfl (by kernel_rfl) (by kernel_rfl) (by kernel_rfl) (fun _ _ _ h => h) (Or.inr ⟨by kernel_rfl, rfl⟩) (by first | assumption | trivial) ?_
                          (try simp only [List.append_eq, List.cons_append, List.nil_append, List.getElem_toArray, List.getElem_cons_succ, List.getElem_cons_zero, Act.put, List.setIfInBounds_toArray, List.set_cons_zero, List.set_cons_succ])
                          refine wpAnyH_take (i := 12) (v := undef) rfl (by kernel_rfl) (by kernel_rfl) (by kernel_rfl) (fun _ _ _ h => h) (Or.inr ⟨by kernel_rfl, rfl⟩) (by first | assumption | trivial) ?_
                          (try simp only [List.append_eq, List.cons_append, List.nil_append, List.getElem_toArray, List.getElem_cons_succ, List.getElem_cons_zero, Act.put, List.setIfInBounds_toArray, List.set_cons_zero, List.set_cons_succ])
                          refine wpAnyH_take (i := 13) (v := undef) rfl (by kernel_rfl) (by kernel_rfl) (by kernel_rfl) (fun _ _ _ h => h) (Or.inr ⟨by kernel_rfl, rfl⟩) (by first | assumption | trivial) ?_
                          (try simp only [List.append_eq, List.cons_append, List.nil_append, List.getElem_toArray, List.getElem_cons_succ, List.getElem_cons_zero, Act.put, List.setIfInBounds_toArray, List.set_cons_zero, List.set_cons_succ])
                          refine wpAnyH_take (i := 14) (v := undef) rfl (by kernel_rfl) (by kernel_rfl) (by kernel_rfl) (fun _ _ _ h => h) (Or.inr ⟨by kernel_rfl, rfl⟩) (by first | assumption | trivial) ?_
                          (try simp only [List.append_eq, List.cons_append, List.nil_append, List.getElem_toArray, List.getElem_cons_succ, List.getElem_cons_zero, Act.put, List.setIfInBounds_toArray, List.set_cons_zero, List.set_cons_succ])
                          refine wpAnyH_take (i := 15) (v := undef) rfl (by kernel_rfl) (by kernel_rfl) (by kernel_rfl) (fun _ _ _ h => h) (Or.inr ⟨by kernel_rfl, rfl⟩) (by first | assumption | trivial) ?_
                          (try simp only [List.append_eq, List.cons_append, List.nil_append, List.getElem_toArray, List.getElem_cons_succ, List.getElem_cons_zero, Act.put, List.setIfInBounds_toArray, List.set_cons_zero, List.set_cons_succ])
                          refine wpAnyH_take (i := 16) (v := undef) rfl (by kernel_rfl) (by kernel_rfl) (by kernel_rfl) (fun _ _ _ h => h) (Or.inr ⟨by kernel_rfl, rfl⟩) (by first | assumption | trivial) ?_
                          (try simp only [List.append_eq, List.cons_append, List.nil_append, List.getElem_toArray, List.getElem_cons_succ, List.getElem_cons_zero, Act.put, List.setIfInBounds_toArray, List.set_cons_zero, List.set_cons_succ])
                          refine wpAnyH_take (i := 17) (v := undef) rfl (by kernel_rfl) (by kernel_rfl) (by kernel_rfl) (fun _ _ _ h => h) (Or.inr ⟨by kernel_rfl, rfl⟩) (by first | assumption | trivial) ?_
                          (try simp only [List.append_eq, List.cons_append, List.nil_append, List.getElem_toArray, List.getElem_cons_succ, List.getElem_cons_zero, Act.put, List.setIfInBounds_toArray, List.set_cons_zero, List.set_cons_succ])
                          refine wpAnyH_take (i := 18) (v := undef) rfl (by kernel_rfl) (by kernel_rfl) (by kernel_rfl) (fun _ _ _ h => h) (Or.inr ⟨by kernel_rfl, rfl⟩) (by first | assumption | trivial) ?_
                          (try simp only [List.append_eq, List.cons_append, List.nil_append, List.getElem_toArray, List.getElem_cons_succ, List.getElem_cons_zero, Act.put, List.setIfInBounds_toArray, List.set_cons_zero, List.set_cons_succ])
                          refine wpAnyH_take (i := 19) (v := undef) rfl (by kernel_rfl) (by kernel_rfl) (by kernel_rfl) (fun _ _ _ h => h) (Or.inr ⟨by kernel_rfl, rfl⟩) (by first | assumption | trivial) ?_
                          (try simp only [List.append_eq, List.cons_append, List.nil_append, List.getElem_toArray, List.getElem_cons_succ, List.getElem_cons_zero, Act.put, List.setIfInBounds_toArray, List.set_cons_zero, List.set_cons_succ])
                          refine wpAnyH_take (i := 20) (v := ?_) rfl (by kernel_rfl) (by kernel_rfl) (by kernel_rfl) (fun _ _ _ h => h) (Or.inl ⟨by kernel_rfl, ?_⟩) (by first | assumption | trivial) ?_
                          rotate_left
                          · (intro wS hSw; (try dsimp only at hSw); go_simp; try with_reducible rfl)
                          (try simp only [List.append_eq, List.cons_append, List.nil_append, List.getElem_toArray, List.getElem_cons_succ, List.getElem_cons_zero, Act.put, List.setIfInBounds_toArray, List.set_cons_zero, List.set_cons_succ])
                          refine wpAnyH_take (i := 21) (v := ?_) rfl (by kernel_rfl) (by kernel_rfl) (by kernel_rfl) (fun _ _ _ h => h) (Or.inl ⟨by kernel_rfl, ?_⟩) (by first | assumption | trivial) ?_
                          rotate_left
                          · (intro wS hSw; (try dsimp only at hSw); go_simp; try with_reducible rfl)
                          (try simp only [List.append_eq, List.cons_append, List.nil_append, List.getElem_toArray, List.getElem_cons_succ, List.getElem_cons_zero, Act.put, List.setIfInBounds_toArray, List.set_cons_zero, List.set_cons_succ])
                          refine wpAnyH_take (i := 22) (v := ?_) rfl (by kernel_rfl) (by kernel_rfl) (by kernel_rfl) (fun _ _ _ h => h) (Or.inl ⟨by kernel_rfl, ?_⟩) (by first | assumption | trivial) ?_
                          rotate_left
                          · (intro wS hSw; (try dsimp only at hSw); go_simp; try with_reducible rfl)
                          (try simp only [List.append_eq, List.cons_append, List.nil_append, List.getElem_toArray, List.getElem_cons_succ, List.getElem_cons_zero, Act.put, List.setIfInBounds_toArray, List.set_cons_zero, List.set_cons_succ])
                          refine wpAnyH_done (by kernel_rfl) ?_ _
                          refine NoPanic.normal ?_
                          go_wp2_with fail
                          go_roundw
                          case rel => exact ⟨k0 + 1, by omega, by omega, by go_num, by rw [HWS.out, HWB.out, d7]; rfl, hid ⟨S.out, K6.out, R.out⟩⟩
                          case measure => simp [intOf]; omega
                    · have hdd : decide ((k0 : Int) < (n : Int)) = false ∨ (decide ((k0 : Int) < (n : Int)) = true ∧ decide ((k0 : Int) < 20) = false) := by
                        by_cases h1 : k0 < n
                        · exact .inr ⟨by simp; omega, by simp; omega⟩
                        · exact .inl (by simp; omega)
                      have HI := hid hI.out
                      have hkj : k0 = j := by have := HJM.out; omega
                      rw [hkj, HWH.out]
                      rw [hkj] at hdd
                      clear hI hlt5 hkj hk0 hkn
                      go_upto_region 30 with fail
                      go_cut [118, 119, 120, 121, 122, 123, 124, 125] from 118 to 125 (fun a b c0 e f g h t wx => t = .bool false ∧ wr = wx)
                      case first =>
                        rcases hdd with d1 | ⟨d1, d2⟩
                        · have d1' : decide (j < n) = false := by simpa using d1
                          go_wp2_with fail
                          go_meet
                          exact ⟨rfl, rfl⟩
                        · have d1' : decide (j < n) = true := by simpa using d1
                          go_wp2_with fail
                          go_meet
                          exact ⟨rfl, rfl⟩
                      case rest =>
                      obtain ⟨rfl, hw9⟩ := hcut
                      subst hw9
                      clear hdd
                      go_upto_region 33 with fail
                      have S := hid HI.out.1.drew
                      have K6 := hid (HI.out.2.1.below (drew_below _))
                      have R := hid (own_below HI.out.2.2 (drew_below _))
                      have x9 := (R.out.cellAt i0 (by omega)).trans HUG.out
                      unfold SV at x9
                      have hS := And.intro (strS K6.out.own HVL.out) x9
                      clear x9 HI
                      by_cases hn0 : n3 = 0
                      · have hvu := HVU.out hn0
                        subst hvu
                        subst hn0
                        refine wp_region_noPanic ?_
                        refine wp_region_held_drew (S := (fun X => (convert 31 9 (.slice (some ⟨g6, 0, none⟩) 128 128)).run Try.prog X = .ok (.string (str v)) X ∧ X.cell? ⟨ag, i0, none⟩ = some (.string (str v)))) (by kernel_rfl) (by first | assumption | trivial) (fun hHeld => ?_)
                        refine wpAnyH_take (i := 0) (v := ?_) rfl (by kernel_rfl) (by kernel_rfl) (by kernel_rfl) (fun _ _ _ h => h) (Or.inl ⟨by kernel_rfl, ?_⟩) (by first | assumption | trivial) ?_
                        rotate_left
                        · (intro wS hSw; (try dsimp only at hSw); go_simp; try with_reducible rfl)
                        (try simp only [List.append_eq, List.cons_append, List.nil_append, List.getElem_toArray, List.getElem_cons_succ, List.getElem_cons_zero, Act.put, List.setIfInBounds_toArray, List.set_cons_zero, List.set_cons_succ])
                        refine wpAnyH_take (i := 1) (v := ?_) rfl (by kernel_rfl) (by kernel_rfl) (by kernel_rfl) (fun _ _ _ h => h) (Or.inl ⟨by kernel_rfl, ?_⟩) (by first | assumption | trivial) ?_
                        rotate_left
                        · (intro wS hSw; (try dsimp only at hSw); go_simp; try with_reducible rfl)
                        (try simp only [List.append_eq, List.cons_append, List.nil_append, List.getElem_toArray, List.getElem_cons_succ, List.getElem_cons_zero, Act.put, List.setIfInBounds_toArray, List.set_cons_zero, List.set_cons_succ])
                        refine wpAnyH_take (i := 2) (v := ?_) rfl (by kernel_rfl) (by kernel_rfl) (by kernel_rfl) (fun _ _ _ h => h) (Or.inl ⟨by kernel_rfl, ?_⟩) (by first | assumption | trivial) ?_
                        rotate_left
                        · (intro wS hSw; (try dsimp only at hSw); go_simp; try with_reducible rfl)
                        (try simp only [List.append_eq, List.cons_append, List.nil_append, List.getElem_toArray, List.getElem_cons_succ, List.getElem_cons_zero, Act.put, List.setIfInBounds_toArray, List.set_cons_zero, List.set_cons_succ])
                        refine wpAnyH_take (i := 3) (v := ?_) rfl (by kernel_rfl) (by kernel_rfl) (by kernel_rfl) (fun _ _ _ h => h) (Or.inl ⟨by kernel_rfl, ?_⟩) (by first | assumption | trivial) ?_
                        rotate_left
                        · (intro wS hSw; (try dsimp only at hSw); go_simp; try with_reducible rfl)
                        (try simp only [List.append_eq, List.cons_append, List.nil_append, List.getElem_toArray, List.getElem_cons_succ, List.getElem_cons_zero, Act.put, List.setIfInBounds_toArray, List.set_cons_zero, List.set_cons_succ])
                        refine wpAnyH_take (i := 4) (v := ?_) rfl (by kernel_rfl) (by kernel_rfl) (by kernel_rfl) (fun _ _ _ h => h) (Or.inl ⟨by kernel_rfl, ?_⟩) (by first | assumption | trivial) ?_
                        rotate_left
                        · (intro wS hSw; (try dsimp only at hSw); go_simp; try with_reducible rfl)
                        (try simp only [List.append_eq, List.cons_append, List.nil_append, List.getElem_toArray, List.getElem_cons_succ, List.getElem_cons_zero, Act.put, List.setIfInBounds_toArray, List.set_cons_zero, List.set_cons_succ])
                        refine wpAnyH_take (i := 5) (v := ?_) rfl (by kernel_rfl) (by kernel_rfl) (by kernel_rfl) (fun _ _ _ h => h) (Or.inl ⟨by kernel_rfl, ?_⟩) (by first | assumption | trivial) ?_
                        rotate_left
                        · (intro wS hSw; (try dsimp only at hSw); go_simp; try with_reducible rfl)
                        (try simp only [List.append_eq, List.cons_append, List.nil_append, List.getElem_toArray, List.getElem_cons_succ, List.getElem_cons_zero, Act.put, List.setIfInBounds_toArray, List.set_cons_zero, List.set_cons_succ])
                        refine wpAnyH_take (i := 6) (v := ?_) rfl (by kernel_rfl) (by kernel_rfl) (by kernel_rfl) (fun _ _ _ h => h) (Or.inl ⟨by kernel_rfl, ?_⟩) (by first | assumption | trivial) ?_
                        rotate_left
                        · (intro wS hSw; (try dsimp only at hSw); go_simp; try with_reducible rfl)
                        (try simp only [List.append_eq, List.cons_append, List.nil_append, List.getElem_toArray, List.getElem_cons_succ, List.getElem_cons_zero, Act.put, List.setIfInBounds_toArray, List.set_cons_zero, List.set_cons_succ])
                        refine wpAnyH_take (i := 7) (v := ?_) rfl (by kernel_rfl) (by kernel_rfl) (by kernel_rfl) (fun _ _ _ h => h) (Or.inl ⟨by kernel_rfl, ?_⟩) (by first | assumption | trivial) ?_
                        rotate_left
                        · (intro wS hSw; (try dsimp only at hSw); go_simp; try with_reducible rfl)
                        (try simp only [List.append_eq, List.cons_append, List.nil_append, List.getElem_toArray, List.getElem_cons_succ, List.getElem_cons_zero, Act.put, List.setIfInBounds_toArray, List.set_cons_zero, List.set_cons_succ])
                        refine wpAnyH_ready (rs := [8]) (by kernel_rfl) (by simp) ?_
                        refine AllReadyH.cons rfl (fun K hK => ?_) AllReadyH.nil
                        go_simp
                        skip
                        go_wp2_with fail
                        refine hK.out _ _ (by first | assumption | trivial) (fun hHeld => ?_)
                        clear hK K
                        (try simp only [List.append_eq, List.cons_append, List.nil_append, List.getElem_toArray, List.getElem_cons_succ, List.getElem_cons_zero, Act.put, List.setIfInBounds_toArray, List.set_cons_zero, List.set_cons_succ])
                        refine wpAnyH_take (i := 9) (v := ?_) rfl (by kernel_rfl) (by kernel_rfl) (by kernel_rfl) (fun _ _ _ h => h) (Or.inl ⟨by kernel_rfl, ?_⟩) (by first | assumption | trivial) ?_
                        rotate_left
                        · (intro wS hSw; (try dsimp only at hSw); go_simp; try with_reducible rfl)
                        (try simp only [List.append_eq, List.cons_append, List.nil_append, List.getElem_toArray, List.getElem_cons_succ, List.getElem_cons_zero, Act.put, List.setIfInBounds_toArray, List.set_cons_zero, List.set_cons_succ])
                        refine wpAnyH_take (i := 10) (v := ?_) rfl (by kernel_rfl) (by kernel_rfl) (by kernel_rfl) (fun _ _ _ h => h) (Or.inl ⟨by kernel_rfl, ?_⟩) (by first | assumption | trivial) ?_
                        rotate_left
                        · (intro wS hSw; (try dsimp only at hSw); go_simp; try with_reducible rfl)
                        (try simp only [List.append_eq, List.cons_append, List.nil_append, List.getElem_toArray, List.getElem_cons_succ, List.getElem_cons_zero, Act.put, List.setIfInBounds_toArray, List.set_cons_zero, List.set_cons_succ])
                        refine wpAnyH_take (i := 11) (v := ?_) rfl (by kernel_rfl) (by kernel_rfl) (by kernel_rfl) (fun _ _ _ h => h) (Or.inl ⟨by kernel_rfl, ?_⟩) (by first | assumption | trivial) ?_
                        rotate_left
                        · (intro wS hSw; (try dsimp only at hSw); go_simp; try with_reducible rfl)
                        (try simp only [List.append_eq, List.cons_append, List.nil_append, List.getElem_toArray, List.getElem_cons_succ, List.getElem_cons_zero, Act.put, List.setIfInBounds_toArray, List.set_cons_zero, List.set_cons_succ])
                        refine wpAnyH_take (i := 12) (v := ?_) rfl (by kernel_rfl) (by kernel_rfl) (by kernel_rfl) (fun _ _ _ h => h) (Or.inl ⟨by kernel_rfl, ?_⟩) (by first | assumption | trivial) ?_
                        rotate_left
                        · (intro wS hSw; (try dsimp only at hSw); go_simp; try with_reducible rfl)
                        (try simp only [List.append_eq, List.cons_append, List.nil_append, List.getElem_toArray, List.getElem_cons_succ, List.getElem_cons_zero, Act.put, List.setIfInBounds_toArray, List.set_cons_zero, List.set_cons_succ])
                        refine wpAnyH_take (i := 13) (v := ?_) rfl (by kernel_rfl) (by kernel_rfl) (by kernel_rfl) (fun _ _ _ h => h) (Or.inl ⟨by kernel_rfl, ?_⟩) (by first | assumption | trivial) ?_
                        rotate_left
                        · (intro wS hSw; (try dsimp only at hSw); go_simp; try with_reducible rfl)
                        (try simp only [List.append_eq, List.cons_append, List.nil_append, List.getElem_toArray, List.getElem_cons_succ, List.getElem_cons_zero, Act.put, List.setIfInBounds_toArray, List.set_cons_zero, List.set_cons_succ])
                        refine wpAnyH_take (i := 14) (v := ?_) rfl (by kernel_rfl) (by kernel_rfl) (by kernel_rfl) (fun _ _ _ h => h) (Or.inl ⟨by kernel_rfl, ?_⟩) (by first | assumption | trivial) ?_
                        rotate_left
                        · (intro wS hSw; (try dsimp only at hSw); go_simp; try with_reducible rfl)
                        (try simp only [List.append_eq, List.cons_append, List.nil_append, List.getElem_toArray, List.getElem_cons_succ, List.getElem_cons_zero, Act.put, List.setIfInBounds_toArray, List.set_cons_zero, List.set_cons_succ])
                        refine wpAnyH_take (i := 15) (v := ?_) rfl (by kernel_rfl) (by kernel_rfl) (by kernel_rfl) (fun _ _ _ h => h) (Or.inl ⟨by kernel_rfl, ?_⟩) (by first | assumption | trivial) ?_
                        rotate_left
                        · (intro wS hSw; (try dsimp only at hSw); go_simp; try with_reducible rfl)
                        (try simp only [List.append_eq, List.cons_append, List.nil_append, List.getElem_toArray, List.getElem_cons_succ, List.getElem_cons_zero, Act.put, List.setIfInBounds_toArray, List.set_cons_zero, List.set_cons_succ])
                        refine wpAnyH_take (i := 16) (v := ?_) rfl (by kernel_rfl) (by kernel_rfl) (by kernel_rfl) (fun _ _ _ h => h) (Or.inl ⟨by kernel_rfl, ?_⟩) (by first | assumption | trivial) ?_
                        rotate_left
                        · (intro wS hSw; (try dsimp only at hSw); go_simp; try with_reducible rfl)
                        (try simp only [List.append_eq, List.cons_append, List.nil_append, List.getElem_toArray, List.getElem_cons_succ, List.getElem_cons_zero, Act.put, List.setIfInBounds_toArray, List.set_cons_zero, List.set_cons_succ])
                        refine wpAnyH_take (i := 17) (v := ?_) rfl (by kernel_rfl) (by kernel_rfl) (by kernel_rfl) (fun _ _ _ h => h) (Or.inl ⟨by kernel_rfl, ?_⟩) (by first | assumption | trivial) ?_
                        rotate_left
                        · (intro wS hSw; (try dsimp only at hSw); go_simp; try with_reducible rfl)
                        (try simp only [List.append_eq, List.cons_append, List.nil_append, List.getElem_toArray, List.getElem_cons_succ, List.getElem_cons_zero, Act.put, List.setIfInBounds_toArray, List.set_cons_zero, List.set_cons_succ])
                        refine wpAnyH_take (i := 18) (v := ?_) rfl (by kernel_rfl) (by kernel_rfl) (by kernel_rfl) (fun _ _ _ h => h) (Or.inl ⟨by kernel_rfl, ?_⟩) (by first | assumption | trivial) ?_
                        rotate_left
                        · (intro wS hSw; (try dsimp only at hSw); go_simp; try with_reducible rfl)
                        (try simp only [List.append_eq, List.cons_append, List.nil_append, List.getElem_toArray, List.getElem_cons_succ, List.getElem_cons_zero, Act.put, List.setIfInBounds_toArray, List.set_cons_zero, List.set_cons_succ])
                        refine wpAnyH_take (i := 19) (v := ?_) rfl (by kernel_rfl) (by kernel_rfl) (by kernel_rfl) (fun _ _ _ h => h) (Or.inl ⟨by kernel_rfl, ?_⟩) (by first | assumption | trivial) ?_
                        rotate_left
                        · (intro wS hSw; (try dsimp only at hSw); go_simp; try with_reducible rfl)
                        (try simp only [List.append_eq, List.cons_append, List.nil_append, List.getElem_toArray, List.getElem_cons_succ, List.getElem_cons_zero, Act.put, List.setIfInBounds_toArray, List.set_cons_zero, List.set_cons_succ])
                        refine wpAnyH_done (by kernel_rfl) ?_ _
                        refine NoPanic.normal ?_
                        go_wp2_with fail
                        go_roundw
                        case rel => exact ⟨i0 + 1, by omega, by go_num, hid ⟨S.out, R.out⟩⟩
                        case measure => simp [intOf]; omega
                      · have dn : ((n3 : Int) == 0) = false := by simp; omega
                        have dn' : (n3 == 0) = false := by simp; omega
                        refine wp_region_noPanic ?_
                        refine wp_region_held_drew (S := (fun X => (convert 31 9 (.slice (some ⟨g6, 0, none⟩) 128 128)).run Try.prog X = .ok (.string (str v)) X ∧ X.cell? ⟨ag, i0, none⟩ = some (.string (str u)))) (by kernel_rfl) (by first | assumption | trivial) (fun hHeld => ?_)
                        refine wpAnyH_take (i := 0) (v := ?_) rfl (by kernel_rfl) (by kernel_rfl) (by kernel_rfl) (fun _ _ _ h => h) (Or.inl ⟨by kernel_rfl, ?_⟩) (by first | assumption | trivial) ?_
                        rotate_left
                        · (intro wS hSw; (try dsimp only at hSw); go_simp; try with_reducible rfl)
                        (try simp only [List.append_eq, List.cons_append, List.nil_append, List.getElem_toArray, List.getElem_cons_succ, List.getElem_cons_zero, Act.put, List.setIfInBounds_toArray, List.set_cons_zero, List.set_cons_succ])
                        refine wpAnyH_take (i := 1) (v := ?_) rfl (by kernel_rfl) (by kernel_rfl) (by kernel_rfl) (fun _ _ _ h => h) (Or.inl ⟨by kernel_rfl, ?_⟩) (by first | assumption | trivial) ?_
                        rotate_left
                        · (intro wS hSw; (try dsimp only at hSw); go_simp; try with_reducible rfl)
                        (try simp only [List.append_eq, List.cons_append, List.nil_append, List.getElem_toArray, List.getElem_cons_succ, List.getElem_cons_zero, Act.put, List.setIfInBounds_toArray, List.set_cons_zero, List.set_cons_succ])
                        refine wpAnyH_take (i := 2) (v := ?_) rfl (by kernel_rfl) (by kernel_rfl) (by kernel_rfl) (fun _ _ _ h => h) (Or.inl ⟨by kernel_rfl, ?_⟩) (by first | assumption | trivial) ?_
                        rotate_left
                        · (intro wS hSw; (try dsimp only at hSw); go_simp; try with_reducible rfl)
                        (try simp only [List.append_eq, List.cons_append, List.nil_append, List.getElem_toArray, List.getElem_cons_succ, List.getElem_cons_zero, Act.put, List.setIfInBounds_toArray, List.set_cons_zero, List.set_cons_succ])
                        refine wpAnyH_take (i := 3) (v := ?_) rfl (by kernel_rfl) (by kernel_rfl) (by kernel_rfl) (fun _ _ _ h => h) (Or.inl ⟨by kernel_rfl, ?_⟩) (by first | assumption | trivial) ?_
                        rotate_left
                        · (intro wS hSw; (try dsimp only at hSw); go_simp; try with_reducible rfl)
                        (try simp only [List.append_eq, List.cons_append, List.nil_append, List.getElem_toArray, List.getElem_cons_succ, List.getElem_cons_zero, Act.put, List.setIfInBounds_toArray, List.set_cons_zero, List.set_cons_succ])
                        refine wpAnyH_take (i := 4) (v := ?_) rfl (by kernel_rfl) (by kernel_rfl) (by kernel_rfl) (fun _ _ _ h => h) (Or.inl ⟨by kernel_rfl, ?_⟩) (by first | assumption | trivial) ?_
                        rotate_left
                        · (intro wS hSw; (try dsimp only at hSw); go_simp; try with_reducible rfl)
                        (try simp only [List.append_eq, List.cons_append, List.nil_append, List.getElem_toArray, List.getElem_cons_succ, List.getElem_cons_zero, Act.put, List.setIfInBounds_toArray, List.set_cons_zero, List.set_cons_succ])
                        refine wpAnyH_take (i := 5) (v := ?_) rfl (by kernel_rfl) (by kernel_rfl) (by kernel_rfl) (fun _ _ _ h => h) (Or.inl ⟨by kernel_rfl, ?_⟩) (by first | assumption | trivial) ?_
                        rotate_left
                        · (intro wS hSw; (try dsimp only at hSw); go_simp; try with_reducible rfl)
                        (try simp only [List.append_eq, List.cons_append, List.nil_append, List.getElem_toArray, List.getElem_cons_succ, List.getElem_cons_zero, Act.put, List.setIfInBounds_toArray, List.set_cons_zero, List.set_cons_succ])
                        refine wpAnyH_take (i := 6) (v := ?_) rfl (by kernel_rfl) (by kernel_rfl) (by kernel_rfl) (fun _ _ _ h => h) (Or.inl ⟨by kernel_rfl, ?_⟩) (by first | assumption | trivial) ?_
                        rotate_left
                        · (intro wS hSw; (try dsimp only at hSw); go_simp; try with_reducible rfl)
                        (try simp only [List.append_eq, List.cons_append, List.nil_append, List.getElem_toArray, List.getElem_cons_succ, List.getElem_cons_zero, Act.put, List.setIfInBounds_toArray, List.set_cons_zero, List.set_cons_succ])
                        refine wpAnyH_take (i := 7) (v := ?_) rfl (by kernel_rfl) (by kernel_rfl) (by kernel_rfl) (fun _ _ _ h => h) (Or.inl ⟨by kernel_rfl, ?_⟩) (by first | assumption | trivial) ?_
                        rotate_left
                        · (intro wS hSw; (try dsimp only at hSw); go_simp; try with_reducible rfl)
                        (try simp only [List.append_eq, List.cons_append, List.nil_append, List.getElem_toArray, List.getElem_cons_succ, List.getElem_cons_zero, Act.put, List.setIfInBounds_toArray, List.set_cons_zero, List.set_cons_succ])
                        refine wpAnyH_ready (rs := [8]) (by kernel_rfl) (by simp) ?_
                        refine AllReadyH.cons rfl (fun K hK => ?_) AllReadyH.nil
                        go_simp
                        skip
                        go_wp2_with fail
                        refine hK.out _ _ (by first | assumption | trivial) (fun hHeld => ?_)
                        clear hK K
                        (try simp only [List.append_eq, List.cons_append, List.nil_append, List.getElem_toArray, List.getElem_cons_succ, List.getElem_cons_zero, Act.put, List.setIfInBounds_toArray, List.set_cons_zero, List.set_cons_succ])
                        refine wpAnyH_take (i := 9) (v := ?_) rfl (by kernel_rfl) (by kernel_rfl) (by kernel_rfl) (fun _ _ _ h => h) (Or.inl ⟨by kernel_rfl, ?_⟩) (by first | assumption | trivial) ?_
                        rotate_left
                        · (intro wS hSw; (try dsimp only at hSw); go_simp; try with_reducible rfl)
                        (try simp only [List.append_eq, List.cons_append, List.nil_append, List.getElem_toArray, List.getElem_cons_succ, List.getElem_cons_zero, Act.put, List.setIfInBounds_toArray, List.set_cons_zero, List.set_cons_succ])
                        refine wpAnyH_take (i := 10) (v := ?_) rfl (by kernel_rfl) (by kernel_rfl) (by kernel_rfl) (fun _ _ _ h => h) (Or.inl ⟨by kernel_rfl, ?_⟩) (by first | assumption | trivial) ?_
                        rotate_left
                        · (intro wS hSw; (try dsimp only at hSw); go_simp; try with_reducible rfl)
                        (try simp only [List.append_eq, List.cons_append, List.nil_append, List.getElem_toArray, List.getElem_cons_succ, List.getElem_cons_zero, Act.put, List.setIfInBounds_toArray, List.set_cons_zero, List.set_cons_succ])
                        refine wpAnyH_take (i := 11) (v := undef) rfl (by kernel_rfl) (by kernel_rfl) (by kernel_rfl) (fun _ _ _ h => h) (Or.inr ⟨by kernel_rfl, rfl⟩) (by first | assumption | trivial) ?_
                        (try simp only [List.append_eq, List.cons_append, List.nil_append, List.getElem_toArray, List.getElem_cons_succ, List.getElem_cons_zero, Act.put, List.setIfInBounds_toArray, List.set_cons_zero, List.set_cons_succ])
                        refine wpAnyH_take (i := 12) (v := undef) rfl (by kernel_rfl) (by kernel_rfl) (by kernel_rfl) (fun _ _ _ h => h) (Or.inr ⟨by kernel_rfl, rfl⟩) (by first | assumption | trivial) ?_
                        (try simp only [List.append_eq, List.cons_append, List.nil_append, List.getElem_toArray, List.getElem_cons_succ, List.getElem_cons_zero, Act.put, List.setIfInBounds_toArray, List.set_cons_zero, List.set_cons_succ])
                        refine wpAnyH_take (i := 13) (v := undef) rfl (by kernel_rfl) (by kernel_rfl) (by kernel_rfl) (fun _ _ _ h => h) (Or.inr ⟨by kernel_rfl, rfl⟩) (by first | assumption | trivial) ?_
                        (try simp only [List.append_eq, List.cons_append, List.nil_append, List.getElem_toArray, List.getElem_cons_succ, List.getElem_cons_zero, Act.put, List.setIfInBounds_toArray, List.set_cons_zero, List.set_cons_succ])
                        refine wpAnyH_take (i := 14) (v := undef) rfl (by kernel_rfl) (by kernel_rfl) (by kernel_rfl) (fun _ _ _ h => h) (Or.inr ⟨by kernel_rfl, rfl⟩) (by first | assumption | trivial) ?_
                        (try simp only [List.append_eq, List.cons_append, List.nil_append, List.getElem_toArray, List.getElem_cons_succ, List.getElem_cons_zero, Act.put, List.setIfInBounds_toArray, List.set_cons_zero, List.set_cons_succ])
                        refine wpAnyH_take (i := 15) (v := undef) rfl (by kernel_rfl) (by kernel_rfl) (by kernel_rfl) (fun _ _ _ h => h) (Or.inr ⟨by kernel_rfl, rfl⟩) (by first | assumption | trivial) ?_
                        (try simp only [List.append_eq, List.cons_append, List.nil_append, List.getElem_toArray, List.getElem_cons_succ, List.getElem_cons_zero, Act.put, List.setIfInBounds_toArray, List.set_cons_zero, List.set_cons_succ])
                        refine wpAnyH_take (i := 16) (v := undef) rfl (by kernel_rfl) (by kernel_rfl) (by kernel_rfl) (fun _ _ _ h => h) (Or.inr ⟨by kernel_rfl, rfl⟩) (by first | assumption | trivial) ?_
                        (try simp only [List.append_eq, List.cons_append, List.nil_append, List.getElem_toArray, List.getElem_cons_succ, List.getElem_cons_zero, Act.put, List.setIfInBounds_toArray, List.set_cons_zero, List.set_cons_succ])
                        refine wpAnyH_take (i := 17) (v := undef) rfl (by kernel_rfl) (by kernel_rfl) (by kernel_rfl) (fun _ _ _ h => h) (Or.inr ⟨by kernel_rfl, rfl⟩) (by first | assumption | trivial) ?_
                        (try simp only [List.append_eq, List.cons_append, List.nil_append, List.getElem_toArray, List.getElem_cons_succ, List.getElem_cons_zero, Act.put, List.setIfInBounds_toArray, List.set_cons_zero, List.set_cons_succ])
                        refine wpAnyH_take (i := 18) (v := ?_) rfl (by kernel_rfl) (by kernel_rfl) (by kernel_rfl) (fun _ _ _ h => h) (Or.inl ⟨by kernel_rfl, ?_⟩) (by first | assumption | trivial) ?_
                        rotate_left
                        · (intro wS hSw; (try dsimp only at hSw); go_simp; try with_reducible rfl)
                        (try simp only [List.append_eq, List.cons_append, List.nil_append, List.getElem_toArray, List.getElem_cons_succ, List.getElem_cons_zero, Act.put, List.setIfInBounds_toArray, List.set_cons_zero, List.set_cons_succ])
                        refine wpAnyH_take (i := 19) (v := ?_) rfl (by kernel_rfl) (by kernel_rfl) (by kernel_rfl) (fun _ _ _ h => h) (Or.inl ⟨by kernel_rfl, ?_⟩) (by first | assumption | trivial) ?_
                        rotate_left
                        · (intro wS hSw; (try dsimp only at hSw); go_simp; try with_reducible rfl)
                        (try simp only [List.append_eq, List.cons_append, List.nil_append, List.getElem_toArray, List.getElem_cons_succ, List.getElem_cons_zero, Act.put, List.setIfInBounds_toArray, List.set_cons_zero, List.set_cons_succ])
                        refine wpAnyH_done (by kernel_rfl) ?_ _
                        refine NoPanic.normal ?_
                        go_wp2_with fail
                        go_roundw
                        case rel => exact ⟨i0 + 1, by omega, by go_num, hid ⟨S.out, R.out⟩⟩
                        case measure => simp [intOf]; omega
                · have d1 : decide ((i0 : Int) < 4) = false := by simp; omega
                  have d1'' : decide (i0 < 4) = false := by simp; omega
                  have S := hid hI.out.1
                  clear hI hlt
                  go_wp2_with (go_at_call 14; (with_reducible refine (awake_any _).mono ?_); rintro e w7 ⟨rfl, b7⟩; have HB := hid (S.out.below b7).bel; clear b7)
                  go_ret
                  exact ⟨rfl, HB.out⟩
theorem flat_bool : ∀ l : List Bool, l.flatMap (fun b : Bool => [Value.bool b]) = l.map boolV
  | [] => rfl
  | b :: l => by rw [List.flatMap_cons, flat_bool l]; rfl
theorem walkDiskKeeps (s1 s2 : SlOf ActV) (s3 : SlOf Bool) (w : World) (h1 : s1.Ok actC (fun a => in64 a.1 ∧ in64 a.2.1 ∧ True ∧ True ∧ a.2.2.2.2.Ok (fun b : Bool => [.bool b]) (fun _ => True) w) w)
    (h2 : s2.Ok actC (fun a => in64 a.1 ∧ in64 a.2.1 ∧ True ∧ True ∧ a.2.2.2.2.Ok (fun b : Bool => [.bool b]) (fun _ => True) w) w) (h3 : s3.Ok (fun b : Bool => [.bool b]) (fun _ => True) w) :
    Calls Try.prog 3 #[s1.val, s2.val, s3.val] w fun e w' => e = .returned (.bool true) ∧ Below w.heap.size w w' := by
  have hr := h3.row
  rw [flat_bool] at hr
  exact keepsW s1.n s2.n s3.n s1.c s2.c s3.c s1.A s2.A s3.A s1.l s2.l s3.l w ⟨h1.nc, h1.cm, h1.len, h1.row, h1.good⟩ ⟨h2.nc, h2.cm, h2.len, h2.row, h2.good⟩ h3.len hr
end Go.Proofs.Ytkadehdbnkinlaa
