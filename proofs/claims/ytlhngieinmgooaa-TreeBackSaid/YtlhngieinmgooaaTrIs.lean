/-
  The document's Is and Pairs: walks; The document's All: the walk. A part of the proof: see the head of the text that ends in 'Law'.
-/
import Derived.Test.YtlhngieinmgooaaTr24
import Derived.Test.YtlhngieinmgooaaTr22
namespace Go.Proofs.Ytlhngieinmgooaa
section
open Go.RowKit
set_option linter.unusedVariables false
set_option linter.unusedSimpArgs false
set_option maxRecDepth 100000
attribute [local go_sem] Oper.semAt_some
theorem octA_get (l : List UInt8) (i : Nat) (h : i < l.length) : octA l i = l[i].toNat := by
  unfold octA
  rw [List.getD_eq_getElem?_getD, List.getElem?_eq_getElem h]
  rfl
set_option maxHeartbeats 4000000 in
theorem ris_any (l : List UInt8) (w : World) (hl : l.length ≤ 1000) :
    Calls Try.prog 30 #[.string (str l)] w fun e w' => e = .returned (.bool (isP l)) ∧ Below w.heap.size w w' := by
  obtain ⟨n, hn⟩ : ∃ n, l.length = n := ⟨_, rfl⟩
  rw [hn] at hl
  have hsz : (str l).size = n := hn
  by_cases h128 : n = 128
  · subst h128
    obtain ⟨a, ha⟩ : ∃ a, octA l 0 = a := ⟨_, rfl⟩
    obtain ⟨b, hb⟩ : ∃ b, octA l 1 = b := ⟨_, rfl⟩
    have ha2 : a < 256 := by rw [← ha]; exact octA_lt l 0
    have hb2 : b < 256 := by rw [← hb]; exact octA_lt l 1
    have x0 : (((str l)[0]'(by rw [hsz]; omega)).toNat : Int) = (a : Int) := by rw [← ha, octA_get l 0 (by omega)]; rfl
    have x1 : (((str l)[1]'(by rw [hsz]; omega)).toNat : Int) = (b : Int) := by rw [← hb, octA_get l 1 (by omega)]; rfl
    have hkd : kindP l = ((decide (a = 2) && (decide (b ≤ 12) && !decide (b = 0))) || (decide (a = 1) && decide (b ≤ 7))) := by
      unfold kindP
      rw [hn, ha, hb]
      simp
    obtain ⟨g, hg⟩ : ∃ g, kindP l = g := ⟨_, rfl⟩
    have HA := hid ha
    have HB := hid hb
    have HN := hid hn
    have HG := hid hg
    rw [hg] at hkd
    have HKD := hid hkd
    clear ha hb hg hkd hn
    go_enter Try.func30, Try.ntmps30
    go_upto_region 1 with fail
    go_cut [36] (fun t wx => t = .bool (!g) ∧ w = wx)
    case first =>
      by_cases h1 : a = 1
      · subst h1
        have he : eachR 1 = 16 := rfl
        by_cases hb7 : 7 < b
        · have c1 : decide ((7 : Int) < (b : Int)) = true := by rw [decide_eq_true_iff]; omega
          have c1n : decide (7 < b) = true := by simpa using hb7
          have HGF : Hid (g = false) := hid (by rw [HKD.out]; simp; omega)
          go_wp2_with (go_at_call 42; refine (reach_any 1 _ (by omega)).mono ?_; rintro e w1 ⟨rfl, rfl⟩)
          go_meet
          exact ⟨by rw [HGF.out]; rfl, rfl⟩
        · have c1 : decide ((7 : Int) < (b : Int)) = false := by rw [decide_eq_false_iff_not]; omega
          have c1n : decide (7 < b) = false := by rw [decide_eq_false_iff_not]; exact hb7
          have HGF : Hid (g = true) := hid (by rw [HKD.out]; simp; omega)
          go_wp2_with (go_at_call 42; refine (reach_any 1 _ (by omega)).mono ?_; rintro e w1 ⟨rfl, rfl⟩)
          go_meet
          exact ⟨by rw [HGF.out]; rfl, rfl⟩
      · by_cases h2 : a = 2
        · subst h2
          have he : eachR 2 = 10 := rfl
          by_cases hb12 : 12 < b
          · have c1 : decide ((12 : Int) < (b : Int)) = true := by rw [decide_eq_true_iff]; omega
            have c1n : decide (12 < b) = true := by simpa using hb12
            have HGF : Hid (g = false) := hid (by rw [HKD.out]; simp; omega)
            go_wp2_with (go_at_call 42; refine (reach_any 2 _ (by omega)).mono ?_; rintro e w1 ⟨rfl, rfl⟩)
            go_meet
            exact ⟨by rw [HGF.out]; rfl, rfl⟩
          · have c1 : decide ((12 : Int) < (b : Int)) = false := by rw [decide_eq_false_iff_not]; omega
            have c1n : decide (12 < b) = false := by rw [decide_eq_false_iff_not]; exact hb12
            by_cases hb0 : b = 0
            · have HGF : Hid (g = false) := hid (by rw [HKD.out]; simp [hb0])
              have d1 : ((b : Int) == 0) = true := by rw [hb0]; rfl
              have d1n : (b == 0) = true := by rw [hb0]; rfl
              clear hb0
              go_wp2_with (go_at_call 42; refine (reach_any 2 _ (by omega)).mono ?_; rintro e w1 ⟨rfl, rfl⟩)
              go_meet
              exact ⟨by rw [HGF.out]; rfl, rfl⟩
            · have HGF : Hid (g = true) := hid (by rw [HKD.out]; simp; omega)
              have d1 : ((b : Int) == 0) = false := ne_f (b := 0) hb0
              have d1n : (b == 0) = false := ne_n hb0
              go_wp2_with (go_at_call 42; refine (reach_any 2 _ (by omega)).mono ?_; rintro e w1 ⟨rfl, rfl⟩)
              go_meet
              exact ⟨by rw [HGF.out]; rfl, rfl⟩
        · have HE : Hid (eachR a = 0) := hid (by unfold eachR; rw [if_neg h1, if_neg h2])
          have HGF : Hid (g = false) := hid (by rw [HKD.out]; simp [h1, h2])
          have HC := hid (fun W : World => (show Calls Try.prog 42 #[.int .u8 (a : Int)] W (fun e w' => e = .returned (.int .i64 0) ∧ W = w') from (reach_any a W ha2).mono (by rintro e w' ⟨rfl, rfl⟩; exact ⟨by rw [HE.out]; rfl, rfl⟩)))
          go_wp2_with (go_at_call 42; refine (HC.out _).mono ?_; rintro e w1 ⟨rfl, rfl⟩)
          go_meet
          exact ⟨by rw [HGF.out]; rfl, rfl⟩
    case rest =>
    obtain ⟨rfl, rfl⟩ := hcut
    cases g with
    | false =>
      have HF : Hid (isP l = false) := hid (by unfold isP; rw [HG.out]; rfl)
      go_wp2_with fail
      go_ret
      exact ⟨by rw [HF.out]; rfl, Below.refl _ _⟩
    | true =>
      have hkd := HKD.out.symm
      simp only [Bool.or_eq_true, Bool.and_eq_true, decide_eq_true_eq, Bool.not_eq_true', decide_eq_false_iff_not] at hkd
      obtain ⟨d, hd⟩ : ∃ d, eachR a = d := ⟨_, rfl⟩
      have HC := hid (fun W : World => (show Calls Try.prog 42 #[.int .u8 (a : Int)] W (fun e w' => e = .returned (.int .i64 (d : Int)) ∧ W = w') from by rw [← hd]; exact reach_any a W ha2))
      obtain ⟨k, hk⟩ : ∃ k, 2 + d * b = k := ⟨_, rfl⟩
      have hk2 : k ≤ 124 ∧ sizeP l = k ∧ d ≤ 16 ∧ d * b ≤ 122 := by
        unfold sizeP eachP
        rw [HA.out, HB.out]
        rcases hkd with ⟨h1, h2, h3⟩ | ⟨h1, h2⟩
        · subst h1
          have : d = 10 := by rw [← hd]; rfl
          subst this
          rw [if_pos rfl]
          omega
        · subst h1
          have : d = 16 := by rw [← hd]; rfl
          subst this
          rw [if_neg (by decide)]
          omega
      obtain ⟨hk124, hks, hd16, hdb⟩ := hk2
      have hkI : (2 : Int) + (d : Int) * (b : Int) = (k : Int) := by rw [← hk]; simp
      obtain ⟨m, hm⟩ : ∃ m, d * b = m := ⟨_, rfl⟩
      have hmI : (d : Int) * (b : Int) = (m : Int) := by rw [← hm]; simp
      rw [hmI] at hkI
      rw [hm] at hdb
      have HF : Hid (isP l = decide (pageP (l.take k) = l)) := hid (by unfold isP; rw [HG.out, hks]; rfl)
      have hex : (str l).extract 0 k = str (l.take k) := by
        rw [str_extract, List.drop_zero]
        rfl
      have HPG := hid (fun W : World => rpage_any (l.take k) W (by rw [List.length_take]; omega))
      have k0 : (k : Int) ≤ 128 := by omega
      have k1 : (k : Int).toNat = k := by omega
      have k2 : (0 : Int) ≤ (k : Int) := by omega
      have kw : IntKind.i64.wrap ((d : Int) * (b : Int)) = (m : Int) := by rw [hmI, IntKind.wrap_i64]; omega
      have kb : IntKind.i64.wrap (b : Int) = (b : Int) := by rw [IntKind.wrap_i64]; omega
      have kw2 : IntKind.i64.wrap (2 + (m : Int)) = (k : Int) := by rw [hkI, IntKind.wrap_i64]; omega
      clear hkI hmI
      have HT : Hid (isP l = (pageP (l.take k) == l)) := hid (by rw [HF.out, Bool.eq_iff_iff, beq_iff_eq, decide_eq_true_eq])
      clear HKD hkd hd hk hm hks
      go_upto_region 3 with fail
      refine wp_region_noPanic ?_
      refine wp_region_held_drew (S := (fun W => True)) (by kernel_rfl) (by first | assumption | trivial) (fun hHeld => ?_)
      refine wpAnyH_take (i := 0) (v := ?_) rfl (by kernel_rfl) (by kernel_rfl) (by kernel_rfl) (fun _ _ _ h => h) (Or.inl ⟨by kernel_rfl, ?_⟩) (by first | assumption | trivial) ?_
      rotate_left
      · (intro wS hSw; (try dsimp only at hSw); go_simp; try with_reducible rfl)
      (try simp only [List.append_eq, List.cons_append, List.nil_append, List.getElem_toArray, List.getElem_cons_succ, List.getElem_cons_zero, Act.put, List.setIfInBounds_toArray, List.set_cons_zero, List.set_cons_succ])
      refine wpAnyH_take (i := 1) (v := ?_) rfl (by kernel_rfl) (by kernel_rfl) (by kernel_rfl) (fun _ _ _ h => h) (Or.inl ⟨by kernel_rfl, ?_⟩) (by first | assumption | trivial) ?_
      rotate_left
      · (intro wS hSw; (try dsimp only at hSw); go_simp; try with_reducible rfl)
      (try simp only [List.append_eq, List.cons_append, List.nil_append, List.getElem_toArray, List.getElem_cons_succ, List.getElem_cons_zero, Act.put, List.setIfInBounds_toArray, List.set_cons_zero, List.set_cons_succ])
      refine wpAnyH_take (i := 2) (v := ?_) rfl (by kernel_rfl) (by kernel_rfl) (by kernel_rfl) (fun _ _ _ h => h) (Or.inl ⟨by kernel_rfl, ?_⟩) (by first | assumption | trivial) ?_
      rotate_left
      · (intro wS hSw; (try dsimp only at hSw); go_simp; try with_reducible rfl)
      (try simp only [List.append_eq, List.cons_append, List.nil_append, List.getElem_toArray, List.getElem_cons_succ, List.getElem_cons_zero, Act.put, List.setIfInBounds_toArray, List.set_cons_zero, List.set_cons_succ])
      refine wpAnyH_take (i := 4) (v := ?_) rfl (by kernel_rfl) (by kernel_rfl) (by kernel_rfl) (fun _ _ _ h => h) (Or.inl ⟨by kernel_rfl, ?_⟩) (by first | assumption | trivial) ?_
      rotate_left
      · (intro wS hSw; (try dsimp only at hSw); go_simp; try with_reducible rfl)
      (try simp only [List.append_eq, List.cons_append, List.nil_append, List.getElem_toArray, List.getElem_cons_succ, List.getElem_cons_zero, Act.put, List.setIfInBounds_toArray, List.set_cons_zero, List.set_cons_succ])
      refine wpAnyH_take (i := 5) (v := ?_) rfl (by kernel_rfl) (by kernel_rfl) (by kernel_rfl) (fun _ _ _ h => h) (Or.inl ⟨by kernel_rfl, ?_⟩) (by first | assumption | trivial) ?_
      rotate_left
      · (intro wS hSw; (try dsimp only at hSw); go_simp; try with_reducible rfl)
      (try simp only [List.append_eq, List.cons_append, List.nil_append, List.getElem_toArray, List.getElem_cons_succ, List.getElem_cons_zero, Act.put, List.setIfInBounds_toArray, List.set_cons_zero, List.set_cons_succ])
      refine wpAnyH_take (i := 6) (v := ?_) rfl (by kernel_rfl) (by kernel_rfl) (by kernel_rfl) (fun _ _ _ h => h) (Or.inl ⟨by kernel_rfl, ?_⟩) (by first | assumption | trivial) ?_
      rotate_left
      · (intro wS hSw; (try dsimp only at hSw); go_simp; try with_reducible rfl)
      (try simp only [List.append_eq, List.cons_append, List.nil_append, List.getElem_toArray, List.getElem_cons_succ, List.getElem_cons_zero, Act.put, List.setIfInBounds_toArray, List.set_cons_zero, List.set_cons_succ])
      refine wpAnyH_take (i := 11) (v := ?_) rfl (by kernel_rfl) (by kernel_rfl) (by kernel_rfl) (fun _ _ _ h => h) (Or.inl ⟨by kernel_rfl, ?_⟩) (by first | assumption | trivial) ?_
      rotate_left
      · (intro wS hSw; (try dsimp only at hSw); go_simp; try with_reducible rfl)
      (try simp only [List.append_eq, List.cons_append, List.nil_append, List.getElem_toArray, List.getElem_cons_succ, List.getElem_cons_zero, Act.put, List.setIfInBounds_toArray, List.set_cons_zero, List.set_cons_succ])
      refine wpAnyH_ready (rs := [3]) (by kernel_rfl) (by simp) ?_
      refine AllReadyH.cons rfl (fun K hK => ?_) AllReadyH.nil
      go_simp
      (go_at_call 42; refine (HC.out _).mono ?_; rintro e w1 ⟨rfl, rfl⟩)
      go_wp2_with fail
      refine hK.out _ _ (by first | assumption | trivial) (fun hHeld => ?_)
      clear hK K
      (try simp only [List.append_eq, List.cons_append, List.nil_append, List.getElem_toArray, List.getElem_cons_succ, List.getElem_cons_zero, Act.put, List.setIfInBounds_toArray, List.set_cons_zero, List.set_cons_succ])
      refine wpAnyH_take (i := 7) (v := ?_) rfl (by kernel_rfl) (by kernel_rfl) (by kernel_rfl) (fun _ _ _ h => h) (Or.inl ⟨by kernel_rfl, ?_⟩) (by first | assumption | trivial) ?_
      rotate_left
      · (intro wS hSw; (try dsimp only at hSw); go_simp; try with_reducible rfl)
      (try simp only [List.append_eq, List.cons_append, List.nil_append, List.getElem_toArray, List.getElem_cons_succ, List.getElem_cons_zero, Act.put, List.setIfInBounds_toArray, List.set_cons_zero, List.set_cons_succ])
      refine wpAnyH_take (i := 8) (v := ?_) rfl (by kernel_rfl) (by kernel_rfl) (by kernel_rfl) (fun _ _ _ h => h) (Or.inl ⟨by kernel_rfl, ?_⟩) (by first | assumption | trivial) ?_
      rotate_left
      · (intro wS hSw; (try dsimp only at hSw); go_simp; try with_reducible rfl)
      (try simp only [List.append_eq, List.cons_append, List.nil_append, List.getElem_toArray, List.getElem_cons_succ, List.getElem_cons_zero, Act.put, List.setIfInBounds_toArray, List.set_cons_zero, List.set_cons_succ])
      refine wpAnyH_take (i := 9) (v := ?_) rfl (by kernel_rfl) (by kernel_rfl) (by kernel_rfl) (fun _ _ _ h => h) (Or.inl ⟨by kernel_rfl, ?_⟩) (by first | assumption | trivial) ?_
      rotate_left
      · (intro wS hSw; (try dsimp only at hSw); go_simp; try with_reducible rfl)
      (try simp only [List.append_eq, List.cons_append, List.nil_append, List.getElem_toArray, List.getElem_cons_succ, List.getElem_cons_zero, Act.put, List.setIfInBounds_toArray, List.set_cons_zero, List.set_cons_succ])
      refine wpAnyH_ready (rs := [10]) (by kernel_rfl) (by simp) ?_
      refine AllReadyH.cons rfl (fun K hK => ?_) AllReadyH.nil
      go_simp
      (go_at_call 24; refine (HPG.out _).mono ?_; rintro e w2 ⟨rfl, b2⟩; have HB2 := hid b2; clear b2)
      go_wp2_with fail
      refine hK.out _ _ (by first | assumption | trivial) (fun hHeld => ?_)
      clear hK K
      (try simp only [List.append_eq, List.cons_append, List.nil_append, List.getElem_toArray, List.getElem_cons_succ, List.getElem_cons_zero, Act.put, List.setIfInBounds_toArray, List.set_cons_zero, List.set_cons_succ])
      refine wpAnyH_take (i := 12) (v := ?_) rfl (by kernel_rfl) (by kernel_rfl) (by kernel_rfl) (fun _ _ _ h => h) (Or.inl ⟨by kernel_rfl, ?_⟩) (by first | assumption | trivial) ?_
      rotate_left
      · (intro wS hSw; (try dsimp only at hSw); go_simp; try with_reducible rfl)
      (try simp only [List.append_eq, List.cons_append, List.nil_append, List.getElem_toArray, List.getElem_cons_succ, List.getElem_cons_zero, Act.put, List.setIfInBounds_toArray, List.set_cons_zero, List.set_cons_succ])
      refine wpAnyH_take (i := 13) (v := ?_) rfl (by kernel_rfl) (by kernel_rfl) (by kernel_rfl) (fun _ _ _ h => h) (Or.inl ⟨by kernel_rfl, ?_⟩) (by first | assumption | trivial) ?_
      rotate_left
      · (intro wS hSw; (try dsimp only at hSw); go_simp; try with_reducible rfl)
      (try simp only [List.append_eq, List.cons_append, List.nil_append, List.getElem_toArray, List.getElem_cons_succ, List.getElem_cons_zero, Act.put, List.setIfInBounds_toArray, List.set_cons_zero, List.set_cons_succ])
      refine wpAnyH_done (by kernel_rfl) ?_ _
      refine NoPanic.normal ?_
      go_wp2_with fail
      go_ret
      exact ⟨by rw [HT.out]; rfl, (bq (Below.refl _ w) 1).trans (HB2.out.mono (Nat.le_refl _))⟩
  · have g1 : ((n : Int) != 128) = true := by rw [bne_iff_ne]; omega
    have g1n : (n != 128) = true := by rw [bne_iff_ne]; exact h128
    have HF : Hid (isP l = false) := hid (by unfold isP kindP; rw [hn, decide_eq_false h128]; rfl)
    clear hn
    go_enter Try.func30, Try.ntmps30
    go_wp2_with fail
    go_ret
    exact ⟨by rw [HF.out]; rfl, Below.refl _ _⟩
set_option maxHeartbeats 4000000 in
theorem rpairs_any (l : List UInt8) (w : World) (hp : isP l = true) :
    Calls Try.prog 31 #[.string (str l)] w fun e w' => Below w.heap.size w w' ∧ ∃ A m c, e = .returned (.slice A m c) ∧ (pairsB l).length = m ∧ Row w' A ((pairsB l).flatMap paC) := by
  have hl : l.length = 128 := by
    unfold isP kindP at hp
    simp at hp
    exact hp.1.1
  have hfew := pairsB_few l hp
  have hsz : (str l).size = 128 := hl
  obtain ⟨a, ha⟩ : ∃ a, octA l 0 = a := ⟨_, rfl⟩
  obtain ⟨b, hb⟩ : ∃ b, octA l 1 = b := ⟨_, rfl⟩
  have ha2 : a < 256 := by rw [← ha]; exact octA_lt l 0
  have hb2 : b < 256 := by rw [← hb]; exact octA_lt l 1
  have x0 : (((str l)[0]'(by rw [hsz]; omega)).toNat : Int) = (a : Int) := by rw [← ha, octA_get l 0 (by omega)]; rfl
  have x1 : (((str l)[1]'(by rw [hsz]; omega)).toNat : Int) = (b : Int) := by rw [← hb, octA_get l 1 (by omega)]; rfl
  have hka : (a = 2 ∧ 0 < b) ∨ (a = 1 ∧ b ≤ 7) := by
    unfold isP kindP at hp
    rw [ha, hb] at hp
    simp at hp
    omega
  have kb : IntKind.i64.wrap (b : Int) = (b : Int) := by rw [IntKind.wrap_i64]; omega
  rcases hka with ⟨h2, hb0⟩ | ⟨h1, hb7⟩
  · have HP : Hid (pairsB l = []) := hid (by unfold pairsB; rw [ha, if_pos h2])
    have c1 : decide ((0 : Int) < (b : Int)) = true := by rw [decide_eq_true_iff]; omega
    have c1n : decide (0 < b) = true := by simpa using hb0
    have d1 : ((a : Int) == 1) = false := by rw [h2]; rfl
    clear hl ha hb h2 hfew hp
    go_enter Try.func31, Try.ntmps31
    go_wp2_with fail
    go_loopw [3, 4] (fun v3 v4 wr => v3 = .slice none 0 0 ∧ v4 = .int .i64 0 ∧ w = wr) (fun v3 v4 wr => 0)
    case atStart => exact ⟨rfl, rfl, rfl⟩
    case round =>
      obtain ⟨rfl, rfl, rfl⟩ := hrel
      go_wp2_with fail
      go_ret
      exact ⟨Below.refl _ _, none, 0, 0, rfl, by rw [HP.out]; rfl, by rw [HP.out]; exact Row.nil _ _⟩
  · have HP : Hid (pairsB l = (List.range b).map (pairB l)) := hid (by unfold pairsB; rw [ha, hb, if_neg (by rw [h1]; decide)])
    have d1 : ((a : Int) == 1) = true := by rw [h1]; rfl
    have HAT := hid (fun (at_ : Nat) (W : World) (h : at_ + 8 ≤ 128) => at8_any l at_ W (by rw [hl]; exact h) (by omega))
    have I0 : Hid (w.ownsRow w.heap.size 48 2 (.slice none 0 0) 0 (((List.range 0).map (pairB l)).flatMap paC) ∧ Below w.heap.size w w) := hid ⟨World.ownsRow_nil _ _ _ _, Below.refl _ _⟩
    clear hl ha hb h1 hfew hp
    go_enter Try.func31, Try.ntmps31
    go_wp2_with fail
    go_loopw [3, 4] (fun v3 v4 wr => ∃ (j : Nat) (A : Option Addr) (c : Nat), j ≤ b ∧ v3 = .slice A j c ∧ v4 = .int .i64 (j : Int) ∧ Hid (wr.ownsRow w.heap.size 48 2 (.slice A j c) j (((List.range j).map (pairB l)).flatMap paC) ∧ Below w.heap.size w wr)) (fun v3 v4 wr => b - (intOf v4).toNat)
    case atStart => exact ⟨0, none, 0, Nat.zero_le _, rfl, rfl, I0⟩
    case round =>
      clear I0
      obtain ⟨j, A, c, hj, rfl, rfl, HI⟩ := hrel
      rename World => wr
      by_cases hlt : j < b
      · have c1 := lt_t hlt
        have c1n := lt_nt hlt
        obtain ⟨s, hs⟩ : ∃ s, 16 * j = s := ⟨_, rfl⟩
        have hsI : (16 : Int) * (j : Int) = (s : Int) := by omega
        have hs1 : s ≤ 96 := by omega
        have w1 : IntKind.i64.wrap (s : Int) = (s : Int) := by rw [IntKind.wrap_i64]; omega
        have w2 : IntKind.i64.wrap (2 + (s : Int)) = ((2 + s : Nat) : Int) := by rw [IntKind.wrap_i64]; omega
        have w3 : IntKind.i64.wrap (10 + (s : Int)) = ((10 + s : Nat) : Int) := by rw [IntKind.wrap_i64]; omega
        obtain ⟨s2, hs2⟩ : ∃ s2, 2 + s = s2 := ⟨_, rfl⟩
        obtain ⟨s3, hs3⟩ : ∃ s3, 10 + s = s3 := ⟨_, rfl⟩
        have hs2I : (2 : Int) + (s : Int) = (s2 : Int) := by omega
        have hs3I : (10 : Int) + (s : Int) = (s3 : Int) := by omega
        have hs2l : s2 ≤ 98 := by omega
        have hs3l : s3 ≤ 106 := by omega
        rw [hs2] at w2
        rw [hs3] at w3
        obtain ⟨u, hu⟩ : ∃ u, valL (cutL l s2 8) = u := ⟨_, rfl⟩
        obtain ⟨v, hv⟩ : ∃ v, valL (cutL l s3 8) = v := ⟨_, rfl⟩
        have HPB : Hid (pairB l j = ⟨u, v⟩) := hid (by
          unfold pairB
          rw [hs, hs2, hu, show s2 + 8 = s3 by omega, hv])
        have HAU := hid (fun W : World => (show Calls Try.prog 43 #[.string (str l), .int .i64 (s2 : Int)] W (fun e w' => e = .returned (.int .u64 (u : Int)) ∧ W = w') from by rw [← hu]; exact HAT.out s2 W (by omega)))
        have HAV := hid (fun W : World => (show Calls Try.prog 43 #[.string (str l), .int .i64 (s3 : Int)] W (fun e w' => e = .returned (.int .u64 (v : Int)) ∧ W = w') from by rw [← hv]; exact HAT.out s3 W (by omega)))
        clear hs hs2 hs3 hu hv
        have HX := hid ((Below.refl _ wr).alloc (Nat.le_refl _) (.cells #[.int .u64 (u : Int), .int .u64 (v : Int)] 48))
        go_wp2_with (first
          | (go_at_call 43; (first | (with_reducible refine (HAU.out _).mono ?_) | (with_reducible refine (HAV.out _).mono ?_)); rintro e w1 ⟨rfl, rfl⟩)
          | (refine wpList_append_row _ rfl (.tmp 17) (.tmp 29) paT rfl w.heap.size (.slice A j c) j (((List.range j).map (pairB l)).flatMap paC) rfl (own_below HI.out.1 HX.out) (some ⟨wr.heap.size, 0, none⟩) 1 1 [.int .u64 (u : Int), .int .u64 (v : Int)] rfl rfl (Row.of_block (heap_alloc_new wr (Obj.cells #[.int .u64 (u : Int), .int .u64 (v : Int)] 48))) (by simp [Value.oneCell']) (by simp only [maxLen]; omega) (by omega) (past HI.out.2 HX.out).size ?_
             intro A5 c5 w5 ho5 hg5 hh5
             have HO5 := hid ho5
             have HB5 := hid ((past HI.out.2 HX.out).grown hg5 (past HI.out.2 HX.out).size (own_base (own_below HI.out.1 HX.out)))
             clear ho5 hg5 hh5))
        go_roundw
        case rel => exact ⟨j + 1, A5, c5, by omega, rfl, by go_num, hid ⟨by rw [range_snoc, List.flatMap_append, HPB.out]; exact HO5.out, HB5.out⟩⟩
        case measure => simp [intOf]; omega
      · have c1 := lt_f hlt
        have c1n := lt_nf hlt
        have hjb : j = b := by omega
        subst hjb
        go_wp2_with fail
        go_ret
        exact ⟨HI.out.2, A, j, c, rfl, by rw [HP.out, List.length_map, List.length_range], by rw [HP.out]; exact Row.of_own HI.out.1⟩
end
section
open Go.RowKit
set_option linter.unusedVariables false
set_option maxRecDepth 100000
attribute [local go_sem] Oper.semAt_some
theorem sv_at {w : World} {A : Option Addr} {ls : List (List UInt8)} (h : Row w A (ls.map SV)) {k : Nat} (hk : k < ls.length) : ∃ b off, A = some ⟨b, off, none⟩ ∧ ∀ (j : Nat) (hj : j < ls.length), w.cell? ⟨b, off + j, none⟩ = some (.string (str (ls[j]'hj))) := by
  obtain ⟨b, off, hA, hc⟩ := h (by intro e; have := congrArg List.length e; rw [List.length_map, List.length_nil] at this; omega)
  refine ⟨b, off, hA, fun j hj => hc j _ ?_⟩
  rw [List.getElem?_map, List.getElem?_eq_getElem hj]
  rfl
theorem nil_of_take {α : Type} (f : α → Bool) (ls : List α) (j : Nat) (h : j < ls.length) (hf : f ls[j] = false) : ls.all f = false := by
  cases ha : ls.all f with
  | false => rfl
  | true =>
    have := List.all_eq_true.1 ha _ (List.getElem_mem h)
    rw [hf] at this
    cases this
set_option maxHeartbeats 8000000 in
theorem rall_any (A : Option Addr) (n c : Nat) (ls : List (List UInt8)) (w : World) (hr : Row w A (ls.map SV)) (hn : ls.length = n) (hs : n ≤ 99) (hlen : ∀ l ∈ ls, l.length ≤ 130) :
    Calls Try.prog 15 #[.slice A n c] w fun e w' => Below w.heap.size w w' ∧ ((allP ls = none ∧ e = .returned (.tuple #[.slice none 0 0, .bool false])) ∨
      (∃ l A1 q c1, allP ls = some l ∧ e = .returned (.tuple #[.slice A1 q c1, .bool true]) ∧ l.length = q ∧ Row w' A1 (l.flatMap paC))) := by
  have HR := hid hr
  have HN := hid hn
  have HLE := hid hlen
  clear hr hn hlen
  have I0 : Hid ((ls.take 0).all isP = true ∧ ((ls.take 0).flatMap pairsB).length = 0 ∧ Below w.heap.size w w ∧ w.ownsRow w.heap.size 48 2 (.slice none 0 0) 0 (((ls.take 0).flatMap pairsB).flatMap paC)) := hid ⟨rfl, rfl, Below.refl _ _, World.ownsRow_nil _ _ _ _⟩
  go_enter Try.func15, Try.ntmps15
  go_wp2_with fail
  go_loopw [4, 5] (fun v4 v5 wr => ∃ (j q : Nat) (A1 : Option Addr) (c1 : Nat), j ≤ n ∧ q ≤ 7 * j ∧ v4 = .slice A1 q c1 ∧ v5 = .int .i64 (j : Int) ∧ Hid ((ls.take j).all isP = true ∧ ((ls.take j).flatMap pairsB).length = q ∧ Below w.heap.size w wr ∧ wr.ownsRow w.heap.size 48 2 (.slice A1 q c1) q (((ls.take j).flatMap pairsB).flatMap paC))) (fun v4 v5 wr => n - (intOf v5).toNat)
  case atStart => exact ⟨0, 0, none, 0, Nat.zero_le _, Nat.zero_le _, rfl, rfl, I0⟩
  case round =>
    clear I0
    obtain ⟨j, q, A1, c1, hj, hq, rfl, rfl, HI⟩ := hrel
    rename World => wr
    by_cases hlt : j < n
    · have g1 := lt_t hlt
      have g1' := lt_nt hlt
      have q0 : (0 : Int) ≤ (j : Int) := by omega
      have q1 : (j : Int) < (n : Int) := by omega
      have q2 : (j : Int).toNat = j := by omega
      have hj1 : j < ls.length := by rw [HN.out]; exact hlt
      obtain ⟨b1, o1, rfl, r1⟩ := sv_at HR.out hj1
      have x1 := r1 j hj1
      obtain ⟨b, hb⟩ : ∃ b, ls[j] = b := ⟨_, rfl⟩
      rw [hb] at x1
      have x2 := cells_keep HI.out.2.2.1 x1
      have HIS := hid (fun W : World => ris_any b W (by have := HLE.out b (hb ▸ List.getElem_mem hj1); omega))
      have HT : Hid (ls.take (j + 1) = ls.take j ++ [b]) := hid (by rw [List.take_succ_eq_append_getElem hj1, hb])
      cases hib : isP b with
      | false =>
        have HF : Hid (allP ls = none) := hid (by
          unfold allP
          rw [nil_of_take isP ls j hj1 (by rw [hb]; exact hib)]
          rfl)
        rw [hib] at HIS
        clear r1 x1 hib hj1 hb
        go_wp2_with (go_at_call 30; refine (HIS.out _).mono ?_; rintro e w3 ⟨rfl, b3⟩; have HB3 := hid b3; clear b3)
        go_ret2
        exact ⟨past HI.out.2.2.1 HB3.out, .inl ⟨HF.out, rfl⟩⟩
      | true =>
        have HPR := hid (fun W : World => rpairs_any b W hib)
        have HFW := hid (pairsB_few b hib)
        have HIB := hid hib
        rw [hib] at HIS
        clear r1 x1 hib hj1 hb
        go_wp2_with (first
          | (go_at_call 30; refine (HIS.out _).mono ?_; rintro e w3 ⟨rfl, b3⟩; have HB3 := hid b3; have x3 := cells_keep b3 x2; clear b3)
          | (go_at_call 31; refine (HPR.out _).mono ?_; rintro e w4 ⟨b4, A3, m3, c3, rfl, h4, h6⟩; have HB4 := hid b4; have H4 := hid h4; have H6 := hid h6; have hm7 : m3 ≤ 7 := by (have := HFW.out; omega)
             have HBA := hid (past (past HI.out.2.2.1 HB3.out) b4)
             clear b4 h4 h6)
          | (refine wpList_append_row _ rfl (.tmp 20) (.tmp 25) paT rfl w.heap.size (.slice A1 q c1) q (((ls.take j).flatMap pairsB).flatMap paC) rfl (own_below (own_below HI.out.2.2.2 HB3.out) HB4.out) A3 m3 c3 ((pairsB b).flatMap paC) rfl (by rw [paC_len, H4.out]) H6.out (one_pa _) (by simp only [maxLen]; omega) (by omega) HBA.out.size ?_
             intro A5 c5 w5 ho5 hg5 hh5
             have HO5 := hid ho5
             have HB5 := hid (HBA.out.grown hg5 HBA.out.size (own_base (own_below (own_below HI.out.2.2.2 HB3.out) HB4.out)))
             clear ho5 hg5 hh5))
        go_roundw
        case rel => exact ⟨j + 1, q + m3, A5, c5, by omega, by omega, rfl, by go_num, hid ⟨by rw [HT.out, List.all_append, HI.out.1]; simp [HIB.out], by rw [HT.out, List.flatMap_append, List.length_append, HI.out.2.1]; simp [H4.out], HB5.out, by rw [HT.out, List.flatMap_append, List.flatMap_append]; simpa using HO5.out⟩⟩
        case measure => simp [intOf]; omega
    · have g1 := lt_f hlt
      have g1' := lt_nf hlt
      have hjn : j = n := by omega
      subst hjn
      obtain ⟨l, hle⟩ : ∃ l, ls.flatMap pairsB = l := ⟨_, rfl⟩
      have hall := HI.out.1
      have hlen := HI.out.2.1
      have hb := HI.out.2.2.1
      have how := HI.out.2.2.2
      rw [List.take_of_length_le (by rw [HN.out]; omega)] at hall hlen how
      rw [hle] at hlen how
      have HAP : Hid (allP ls = if mayP l = true ∧ buildP l = ls then some l else none) := hid (by unfold allP; rw [if_pos hall, hle])
      have HLN := hid hlen
      have HB := hid hb
      have HRW := hid (Row.of_own how)
      have hq7 : q ≤ 700 := by omega
      have hok : ∀ p ∈ l, p.ok := by rw [← hle]; exact flat_ok ls
      have HMY := hid (rmay_any A1 q c1 l wr (Row.of_own how) hlen hq7)
      have HBD := hid (fun (W : World) (hb : Below wr.heap.size wr W) => rbuild_any A1 q c1 l W ((Row.of_own how).below hb) hlen hq7 hok)
      clear hall hlen hb how hle HI hok
      cases hmb : mayP l with
      | false =>
        have HF : Hid (allP ls = none) := hid (by rw [HAP.out, if_neg]; rintro ⟨h, -⟩; rw [hmb] at h; cases h)
        rw [hmb] at HMY
        clear HBD hmb HAP
        go_wp2_with (go_at_call 11; refine HMY.out.mono ?_; rintro e w3 ⟨rfl, b3⟩; have HB3 := hid b3; clear b3)
        go_ret2
        exact ⟨past HB.out HB3.out, .inl ⟨HF.out, rfl⟩⟩
      | true =>
        rw [hmb] at HMY
        have HAT : Hid (allP ls = if buildP l = ls then some l else none) := hid (by rw [HAP.out, hmb]; simp)
        have hlb : (buildP l).length ≤ 1000 := by
          have h600 : l.length ≤ 600 := by unfold mayP at hmb; simp at hmb; exact hmb.2
          have h1 := above7_le _ h600
          have h2 := pagesF_le (aboveN l.length 7) (aboveN l.length 7)
          rw [build_len]
          omega
        obtain ⟨m, hm⟩ : ∃ m, (buildP l).length = m := ⟨_, rfl⟩
        obtain ⟨os, hos⟩ : ∃ os, buildP l = os := ⟨_, rfl⟩
        rw [hos] at hm HAT HBD hlb
        rw [hm] at hlb
        have HOM := hid hm
        clear hmb HAP hos hm
        by_cases hmn : m = j
        · subst hmn
          have g3 : ((m : Int) != (m : Int)) = false := by simp
          go_wp2_with (first
            | (go_at_call 11; refine HMY.out.mono ?_; rintro e w3 ⟨rfl, b3⟩; have HB3 := hid b3; clear b3)
            | (go_at_call 8; refine (HBD.out _ HB3.out).mono ?_; rintro e w4 ⟨b4, A4, m4, c4, rfl, h5, h6⟩; have HB4 := hid (past HB3.out b4); obtain rfl : m = m4 := (by rw [← h5, HOM.out]); have H6 := hid (Row.of_own h6); clear b4 h5 h6))
          have J0 : Hid (os.take 0 = ls.take 0) := hid rfl
          go_loopw [7] (fun v7 wz => ∃ k : Nat, k ≤ m ∧ v7 = .int .i64 (k : Int) ∧ Hid (os.take k = ls.take k) ∧ Hid (Below w4.heap.size w4 wz)) (fun v7 wz => m - (intOf v7).toNat)
          case atStart => exact ⟨0, Nat.zero_le _, rfl, J0, hid (Below.refl _ _)⟩
          case round =>
            clear J0
            obtain ⟨k, hk, rfl, HTK, HBK⟩ := hrel
            rename World => wz
            by_cases hlt2 : k < m
            · have e1 := lt_t hlt2
              have e1n := lt_nt hlt2
              have k0 : (0 : Int) ≤ (k : Int) := by omega
              have k1 : (k : Int) < (m : Int) := by omega
              have k2 : (k : Int).toNat = k := by omega
              have hk1 : k < os.length := by rw [HOM.out]; exact hlt2
              have hk2 : k < ls.length := by rw [HN.out]; exact hlt2
              obtain ⟨bx, ox, rfl, rx⟩ := sv_at H6.out hk1
              obtain ⟨by_, oy, rfl, ry⟩ := sv_at HR.out hk2
              have hx := cells_keep HBK.out (rx k hk1)
              have hy := cells_keep (past (past HB.out HB4.out) HBK.out) (ry k hk2)
              obtain ⟨x, hxe⟩ : ∃ x, os[k] = x := ⟨_, rfl⟩
              obtain ⟨y, hye⟩ : ∃ y, ls[k] = y := ⟨_, rfl⟩
              rw [hxe] at hx
              rw [hye] at hy
              have HST : Hid (os.take (k + 1) = ls.take (k + 1) ↔ x = y) := hid (by
                rw [List.take_succ_eq_append_getElem hk1, List.take_succ_eq_append_getElem hk2, HTK.out, hxe, hye]
                constructor
                · intro h
                  have := List.append_cancel_left h
                  injection this
                · intro h
                  rw [h])
              clear rx ry hxe hye hk1 hk2
              by_cases hxy : x = y
              · have hne := str_ne hxy
                have hbe : (x == y) = true := by rw [beq_iff_eq]; exact hxy
                have HNX : Hid (os.take (k + 1) = ls.take (k + 1)) := hid (HST.out.2 hxy)
                clear hxy HST
                go_upto_region 16 with fail
                go_quiet (fail)
                go_wp2_with fail
                go_roundw
                case rel => exact ⟨k + 1, by omega, by go_num, HNX, hid (bq HBK.out _)⟩
                case measure => simp [intOf]; omega
              · have hne : (str x != str y) = true := by rw [bne, str_eqv, decide_eq_false hxy]; rfl
                have hbe : (x == y) = false := by rw [beq_eq_false_iff_ne]; exact hxy
                have HF : Hid (allP ls = none) := hid (by
                  rw [HAT.out, if_neg]
                  rintro h
                  exact hxy (HST.out.1 (by rw [h])))
                clear hxy HST
                go_upto_region 16 with fail
                go_quiet (fail)
                go_wp2_with fail
                go_ret2
                exact ⟨bq (past (past HB.out HB4.out) HBK.out) _, .inl ⟨HF.out, rfl⟩⟩
            · have e1 := lt_f hlt2
              have e1n := lt_nf hlt2
              have hkm : k = m := by omega
              have HF : Hid (allP ls = some l) := hid (by
                have h := HTK.out
                rw [List.take_of_length_le (by rw [HOM.out]; omega), List.take_of_length_le (by rw [HN.out]; omega)] at h
                rw [HAT.out, if_pos h])
              go_wp2_with fail
              go_ret2
              exact ⟨past (past HB.out HB4.out) HBK.out, .inr ⟨l, A1, q, c1, HF.out, rfl, HLN.out, HRW.out.below (past HB4.out HBK.out)⟩⟩
        · have g3 : ((m : Int) != (j : Int)) = true := by rw [bne_iff_ne]; omega
          have g3n : (m != j) = true := by rw [bne_iff_ne]; exact hmn
          have HF : Hid (allP ls = none) := hid (by
            rw [HAT.out, if_neg]
            rintro h
            exact hmn (by rw [← HOM.out, h, HN.out]))
          go_wp2_with (first
            | (go_at_call 11; refine HMY.out.mono ?_; rintro e w3 ⟨rfl, b3⟩; have HB3 := hid b3; clear b3)
            | (go_at_call 8; refine (HBD.out _ HB3.out).mono ?_; rintro e w4 ⟨b4, A4, m4, c4, rfl, h5, h6⟩; have HB4 := hid (past HB3.out b4); obtain rfl : m = m4 := (by rw [← h5, HOM.out]); clear b4 h5 h6))
          go_ret2
          exact ⟨past HB.out HB4.out, .inl ⟨HF.out, rfl⟩⟩
end
end Go.Proofs.Ytlhngieinmgooaa
