/-
  A header's fields: the document's walk. A part of the proof: see the head of the text that ends in 'Law'.
-/
import Derived.Test.YtonjadmldgloaaaGreatDoorHeC
namespace Go.Proofs.YtonjadmldgloaaaGreatDoor.D17
open Go.RowKit Go.Shelf
set_option linter.unusedVariables false
set_option linter.unusedSimpArgs false
attribute [local go_sem] Oper.semAt_some

theorem fdS : SliceT Tryz.prog 64 67 (.agg #[.string ⟨#[]⟩, .int .i64 0, .int .i64 0, .int .i64 0]) 4 40 := ⟨Tryz.underlying64, by kernel_rfl, rfl, by decide⟩
theorem own_rowN {w : World} {base : Nat} {e : TypeId} {z n c : Nat} {A : Option Addr} {xs : List Value} (h : w.ownsRow base e z (.slice A n c) n xs) (h0 : 0 < n) : ∃ g, A = some ⟨g, 0, none⟩ ∧ base ≤ g ∧ OwnC w g e xs := by
  rcases h.2 with ⟨hv, h1⟩ | ⟨g, cap, cur, hv, hg, hh, h1, h2, h3, h4⟩
  · omega
  · injection hv with hA _ _
    subst hA
    refine ⟨g, rfl, hg, cur, hh, fun j u hu => ?_⟩
    have := h.cells (g := g) rfl j u hu
    rwa [Addr.add_mid, Nat.zero_add, cell_of_row w g j cur _ _ hh] at this
theorem head_cons (x : List UInt8) (h : x ≠ []) : ∃ c r, x = c :: r := by
  cases x with
  | nil => exact absurd rfl h
  | cons c r => exact ⟨c, r, rfl⟩
set_option maxRecDepth 100000 in
set_option maxHeartbeats 8000000 in
theorem rfields_any (l : List UInt8) (w : World) (hl : l.length ≤ 100000) :
    Calls Tryz.prog 30 #[.string (str l)] w fun e w' => ∃ B n c, e = .returned (.slice B n c) ∧ (fieldsL l).length = n ∧ n ≤ c ∧ w'.ownsRow w.heap.size 67 4 (.slice B n c) n ((fieldsL l).flatMap fdC) ∧ Below w.heap.size w w' := by
  have HL := hid hl
  have hml := cutL_len l
  have I0 : Hid (FlI l 0 0 [] false) := hid (FlI.start l)
  go_enter Tryz.func30, Tryz.ntmps30
  go_wp2_with (go_at_call 55; refine (rcut_any l _ HL.out).mono ?_; rintro e w1 ⟨A, m, d, rfl, hm, hmd, ho, hb⟩; have HOL := hid ho; have HB := hid hb; clear ho hb)
  rw [hm] at hml
  have HM := hid hm
  clear hm
  go_loopw [3, 5, 6, 7] (fun v3 v5 v6 v7 wr => ∃ (k a n : Nat) (B : Option Addr) (c : Nat) (out : List Fd) (o : Bool), k ≤ m ∧ v3 = .slice B n c ∧ v5 = .int .i64 (a : Int) ∧ v6 = .bool o ∧ v7 = .int .i64 (k : Int) ∧ Hid (out.length = n) ∧ Hid (n ≤ c) ∧ Hid (FlI l k a out o) ∧ Hid (wr.ownsRow w1.heap.size 67 4 (.slice B n c) n (out.flatMap fdC)) ∧ Hid (Below w1.heap.size w1 wr)) (fun v3 v5 v6 v7 wr => m - (intOf v7).toNat)
  case atStart => exact ⟨0, 0, 0, none, 0, [], false, Nat.zero_le _, rfl, rfl, rfl, rfl, hid rfl, hid (Nat.le_refl _), I0, hid (World.ownsRow_nil _ _ _ _), hid (Below.refl _ _)⟩
  case round =>
    clear I0
    obtain ⟨k, a, n, B, c, out, o, hk2, rfl, rfl, rfl, rfl, HL3, HL4, HI, HO, HB3⟩ := hrel
    have hal : a ≤ l.length := HI.out.sp.le
    have hnk : n ≤ k := by rw [← HL3.out]; exact HI.out.ml
    by_cases hlt : k < m
    · have d1 := lt_t hlt
      have d1' := lt_nt hlt
      have e0 : (0 : Int) ≤ (k : Int) := by omega
      have e1 : (k : Int) < (m : Int) := by omega
      have e3 : (k : Int).toNat = k := by omega
      have hkl : k < (cutL l).length := by rw [HM.out]; exact hlt
      obtain ⟨x, hx⟩ : ∃ x, (cutL l)[k]'hkl = x := ⟨_, rfl⟩
      obtain ⟨g, rfl, hc⟩ := text_at HOL.out HB3.out k hkl HM.out
      have HT : Hid (∀ W, Below w1.heap.size w1 W → W.cell? ⟨g, k, none⟩ = some (.string (str x))) := hid (fun W hW => by
        obtain ⟨g', h1, h2⟩ := text_at HOL.out hW k hkl HM.out
        injection h1 with h1
        injection h1 with h1
        rw [h1, ← hx]
        exact h2)
      rw [hx] at hc
      have hxl : a + x.length ≤ l.length := (HI.out.sp.step hkl x hx).le
      obtain ⟨t, ht⟩ : ∃ t, emptyB x = t := ⟨_, rfl⟩
      have HE := hid (fun X => rempty_any x X)
      rw [ht] at HE
      have hxne : x ≠ [] := hx ▸ cutL_ne l _ (List.getElem_mem hkl)
      obtain ⟨z, r, hzr⟩ := head_cons x hxne
      have hx0 : 0 < (str x).size := by rw [hzr]; exact Nat.succ_pos _
      have hz : (str x)[0]'hx0 = z := by subst hzr; rfl
      have hhd : x.headD 0 = z := by rw [hzr]; rfl
      have HBL := hid (fun X => rblank_any z X)
      unfold B8 at HBL
      have HNA := hid (fun X => rname_any x X (by have := HL.out; omega))
      obtain ⟨b, hb⟩ : ∃ b, bl z = b := ⟨_, rfl⟩
      rw [hb] at HBL
      obtain ⟨xn, hxn⟩ : ∃ xn, x.length = xn := ⟨_, rfl⟩
      have hsx : (str x).size = xn := hxn
      have e4 : (0 : Int) < ((str x).size : Int) := by omega
      have HKL := hid hkl
      have HX : Hid ((cutL l)[k]'HKL.out = x) := hid hx
      have HXN := hid hxn
      have HH : Hid (bl (x.headD 0) = b) := hid (by rw [hhd, hb])
      rw [hxn] at hxl
      clear hx hxne hzr hhd hb hxn hkl
      cases t with
      | true =>
        have HF : Hid (fieldsL l = out) := hid (HI.out.stop HKL.out x HX.out ht)
        clear HI ht
        go_wp2_with (first  | (go_at_call 56; refine (HE.out _).mono ?_; rintro e w3 ⟨rfl, rfl⟩)  | (go_at_call 57; refine (HBL.out _).mono ?_; rintro e w4 ⟨rfl, rfl⟩)  | (go_at_call 58; refine (HNA.out _).mono ?_; rintro e w5 ⟨rfl, rfl⟩))
        go_ret
        exact ⟨B, n, c, rfl, by rw [HF.out]; exact HL3.out, HL4.out, by rw [HF.out]; exact own_low HO.out HB.out.size, past HB.out HB3.out⟩
      | false =>
        cases b with
        | true =>
          cases o with
          | false =>
            have HI2 : Hid (FlI l (k + 1) (a + xn) out false) := hid (by rw [← HXN.out]; exact HI.out.skip HKL.out x HX.out ht HH.out)
            have HO2 := HO
            clear HI ht
            go_wp2_with (first  | (go_at_call 56; refine (HE.out _).mono ?_; rintro e w3 ⟨rfl, rfl⟩)  | (go_at_call 57; refine (HBL.out _).mono ?_; rintro e w4 ⟨rfl, rfl⟩)  | (go_at_call 58; refine (HNA.out _).mono ?_; rintro e w5 ⟨rfl, rfl⟩))
            go_roundw
            case rel => exact ⟨(k + 1), (a + xn), n, B, c, out, false, by omega, by go_num, by go_num, by go_num, by go_num, HL3, HL4, HI2, HO2, HB3⟩
            case measure => simp [intOf]; omega
          | true =>
            obtain ⟨ini, f, hof, hfa⟩ := HI.out.last rfl
            have hI2 := (hof ▸ HI.out).more HKL.out x HX.out ht HH.out
            rw [HXN.out] at hI2
            obtain ⟨p, hp⟩ : ∃ p, ini.length = p := ⟨_, rfl⟩
            obtain rfl : n = p + 1 := by rw [← HL3.out, hof, List.length_append, hp]; rfl
            obtain ⟨g2, rfl, hg2, og⟩ := own_rowN HO.out (Nat.succ_pos _)
            have x0 : wr.cell? ⟨g2, p * 4 + 2, none⟩ = some (.int .i64 (a : Int)) := og.cell (by
              rw [fdC_get out p (by rw [HL3.out]; omega) 2 (by omega)]
              subst hof
              rw [List.getElem_append_right (by omega)]
              simp [fdC, hp, hfa])
            have HS := hid (HO.out.stored (p * 4 + 2) (.int .i64 ((a : Int) + (xn : Int))))
            have hst := HS.out.1
            have hse : (out.flatMap fdC).set (p * 4 + 2) (.int .i64 ((a : Int) + (xn : Int))) = (ini ++ [{ f with te := a + xn }]).flatMap fdC := by
              rw [hof, ← hp]
              exact fdC_set ini f (a + xn)
            rw [hse] at hst
            have HO2 := hid hst
            have HI2 := hid hI2
            have HL32 : Hid ((ini ++ [{ f with te := a + xn }]).length = p + 1) := hid (by rw [List.length_append, hp]; rfl)
            have OG := hid og
            have x1 := og.frozen (p * 4 + 2)
            have HG := hid hg2
            have m0 : (0 : Int) ≤ (p : Int) := by omega
            have m1 : (p : Int) < (p : Int) + 1 := by omega
            have m2 : (p : Int).toNat = p := by omega
            have mw : IntKind.i64.wrap (p : Int) = (p : Int) := by rw [IntKind.wrap_i64]; omega
            have aw : IntKind.i64.wrap ((a : Int) + (xn : Int)) = (a : Int) + (xn : Int) := by rw [IntKind.wrap_i64]; omega
            clear HI ht hof hfa hse hst og hg2 hI2 hp
            go_upto_region 10 with (first  | (go_at_call 56; refine (HE.out _).mono ?_; rintro e w3 ⟨rfl, rfl⟩)  | (go_at_call 57; refine (HBL.out _).mono ?_; rintro e w4 ⟨rfl, rfl⟩)  | (go_at_call 58; refine (HNA.out _).mono ?_; rintro e w5 ⟨rfl, rfl⟩))
            have HB5 := hid (HB3.out.setCell (p := ⟨g2, p * 4 + 2, none⟩) HG.out (.int .i64 ((a : Int) + (xn : Int))))
            have hS : wr.drew.cell? ⟨g, k, none⟩ = some (.string (str x)) := hc
            have hS2 : (wr.setCell ⟨g2, p * 4 + 2, none⟩ (.int .i64 ((a : Int) + (xn : Int)))).drew.cell? ⟨g, k, none⟩ = some (.string (str x)) := HT.out _ (bq HB5.out 1)
            refine wp_region_noPanic ?_
            refine wp_region_held_drew (S := (fun W => W.cell? ⟨g, k, none⟩ = some (.string (str x)))) (by kernel_rfl) (by first | assumption | trivial) (fun hHeld => ?_)
            refine wpAnyH_take (i := 0) (v := ?_) rfl (by kernel_rfl) (by kernel_rfl) (by kernel_rfl) (fun _ _ _ h => h) (Or.inl ⟨by kernel_rfl, ?_⟩) (by first | assumption | trivial) ?_
            rotate_left
            · (intro wS hSw; (try dsimp only at hSw); go_simp; try with_reducible rfl)
            (try simp only [List.append_eq, List.cons_append, List.nil_append, List.getElem_toArray, List.getElem_cons_succ, List.getElem_cons_zero, Act.put, List.setIfInBounds_toArray, List.set_cons_zero, List.set_cons_succ])
            refine wpAnyH_take (i := 1) (v := ?_) rfl (by kernel_rfl) (by kernel_rfl) (by kernel_rfl) (fun _ _ _ h => h) (Or.inl ⟨by kernel_rfl, ?_⟩) (by first | assumption | trivial) ?_
            rotate_left
            · (intro wS hSw; (try dsimp only at hSw); go_simp; try with_reducible rfl)
            (try simp only [List.append_eq, List.cons_append, List.nil_append, List.getElem_toArray, List.getElem_cons_succ, List.getElem_cons_zero, Act.put, List.setIfInBounds_toArray, List.set_cons_zero, List.set_cons_succ])
            refine wpAnyH_take (i := 2) (v := ?_) rfl (by kernel_rfl) (by kernel_rfl) (by kernel_rfl) (fun _ _ _ h => h) (Or.inl ⟨by kernel_rfl, ?_⟩) (by first | assumption | trivial) ?_
            rotate_left
            · (intro wS hSw; (try dsimp only at hSw); go_simp; try with_reducible rfl)
            (try simp only [List.append_eq, List.cons_append, List.nil_append, List.getElem_toArray, List.getElem_cons_succ, List.getElem_cons_zero, Act.put, List.setIfInBounds_toArray, List.set_cons_zero, List.set_cons_succ])
            refine wpAnyH_take (i := 3) (v := ?_) rfl (by kernel_rfl) (by kernel_rfl) (by kernel_rfl) (fun _ _ _ h => h) (Or.inl ⟨by kernel_rfl, ?_⟩) (by first | assumption | trivial) ?_
            rotate_left
            · (intro wS hSw; (try dsimp only at hSw); go_simp; try with_reducible rfl)
            (try simp only [List.append_eq, List.cons_append, List.nil_append, List.getElem_toArray, List.getElem_cons_succ, List.getElem_cons_zero, Act.put, List.setIfInBounds_toArray, List.set_cons_zero, List.set_cons_succ])
            refine wpAnyH_take (i := 4) (v := ?_) rfl (by kernel_rfl) (by kernel_rfl) (by kernel_rfl) (fun _ _ _ h => h) (Or.inl ⟨by kernel_rfl, ?_⟩) (by first | assumption | trivial) ?_
            rotate_left
            · (intro wS hSw; (try dsimp only at hSw); go_simp; try with_reducible rfl)
            (try simp only [List.append_eq, List.cons_append, List.nil_append, List.getElem_toArray, List.getElem_cons_succ, List.getElem_cons_zero, Act.put, List.setIfInBounds_toArray, List.set_cons_zero, List.set_cons_succ])
            refine wpAnyH_take (i := 5) (v := ?_) rfl (by kernel_rfl) (by kernel_rfl) (by kernel_rfl) (fun _ _ _ h => h) (Or.inl ⟨by kernel_rfl, ?_⟩) (by first | assumption | trivial) ?_
            rotate_left
            · (intro wS hSw; (try dsimp only at hSw); go_simp; try with_reducible rfl)
            (try simp only [List.append_eq, List.cons_append, List.nil_append, List.getElem_toArray, List.getElem_cons_succ, List.getElem_cons_zero, Act.put, List.setIfInBounds_toArray, List.set_cons_zero, List.set_cons_succ])
            refine wpAnyH_take (i := 7) (v := ?_) rfl (by kernel_rfl) (by kernel_rfl) (by kernel_rfl) (fun _ _ _ h => h) (Or.inl ⟨by kernel_rfl, ?_⟩) (by first | assumption | trivial) ?_
            rotate_left
            · (intro wS hSw; (try dsimp only at hSw); go_simp; try with_reducible rfl)
            (try simp only [List.append_eq, List.cons_append, List.nil_append, List.getElem_toArray, List.getElem_cons_succ, List.getElem_cons_zero, Act.put, List.setIfInBounds_toArray, List.set_cons_zero, List.set_cons_succ])
            refine wpAnyH_take (i := 8) (v := ?_) rfl (by kernel_rfl) (by kernel_rfl) (by kernel_rfl) (fun _ _ _ h => h) (Or.inl ⟨by kernel_rfl, ?_⟩) (by first | assumption | trivial) ?_
            rotate_left
            · (intro wS hSw; (try dsimp only at hSw); go_simp; try with_reducible rfl)
            (try simp only [List.append_eq, List.cons_append, List.nil_append, List.getElem_toArray, List.getElem_cons_succ, List.getElem_cons_zero, Act.put, List.setIfInBounds_toArray, List.set_cons_zero, List.set_cons_succ])
            refine wpAnyH_take (i := 9) (v := ?_) rfl (by kernel_rfl) (by kernel_rfl) (by kernel_rfl) (fun _ _ _ h => h) (Or.inl ⟨by kernel_rfl, ?_⟩) (by first | assumption | trivial) ?_
            rotate_left
            · (intro wS hSw; (try dsimp only at hSw); go_simp; try with_reducible rfl)
            (try simp only [List.append_eq, List.cons_append, List.nil_append, List.getElem_toArray, List.getElem_cons_succ, List.getElem_cons_zero, Act.put, List.setIfInBounds_toArray, List.set_cons_zero, List.set_cons_succ])
            refine wpAnyH_take (i := 10) (v := ?_) rfl (by kernel_rfl) (by kernel_rfl) (by kernel_rfl) (fun _ _ _ h => h) (Or.inl ⟨by kernel_rfl, ?_⟩) (by first | assumption | trivial) ?_
            rotate_left
            · (intro wS hSw; (try dsimp only at hSw); go_simp; try with_reducible rfl)
            (try simp only [List.append_eq, List.cons_append, List.nil_append, List.getElem_toArray, List.getElem_cons_succ, List.getElem_cons_zero, Act.put, List.setIfInBounds_toArray, List.set_cons_zero, List.set_cons_succ])
            refine wpAnyH_take (i := 11) (v := ?_) rfl (by kernel_rfl) (by kernel_rfl) (by kernel_rfl) (fun _ _ _ h => h) (Or.inl ⟨by kernel_rfl, ?_⟩) (by first | assumption | trivial) ?_
            rotate_left
            · (intro wS hSw; (try dsimp only at hSw); go_simp; try with_reducible rfl)
            (try simp only [List.append_eq, List.cons_append, List.nil_append, List.getElem_toArray, List.getElem_cons_succ, List.getElem_cons_zero, Act.put, List.setIfInBounds_toArray, List.set_cons_zero, List.set_cons_succ])
            refine wpAnyH_ready (rs := [6]) (by kernel_rfl) (by simp) ?_
            refine AllReadyH.cons rfl (fun K hK => ?_) AllReadyH.nil
            go_simp
            skip
            go_wp2_with fail
            refine hK.out _ _ (by first | assumption | trivial) (fun hHeld => ?_)
            clear hK K
            (try simp only [List.append_eq, List.cons_append, List.nil_append, List.getElem_toArray, List.getElem_cons_succ, List.getElem_cons_zero, Act.put, List.setIfInBounds_toArray, List.set_cons_zero, List.set_cons_succ])
            refine wpAnyH_take (i := 12) (v := ?_) rfl (by kernel_rfl) (by kernel_rfl) (by kernel_rfl) (fun _ _ _ h => h) (Or.inl ⟨by kernel_rfl, ?_⟩) (by first | assumption | trivial) ?_
            rotate_left
            · (intro wS hSw; (try dsimp only at hSw); go_simp; try with_reducible rfl)
            (try simp only [List.append_eq, List.cons_append, List.nil_append, List.getElem_toArray, List.getElem_cons_succ, List.getElem_cons_zero, Act.put, List.setIfInBounds_toArray, List.set_cons_zero, List.set_cons_succ])
            refine wpAnyH_take (i := 13) (v := ?_) rfl (by kernel_rfl) (by kernel_rfl) (by kernel_rfl) (fun _ _ _ h => h) (Or.inl ⟨by kernel_rfl, ?_⟩) (by first | assumption | trivial) ?_
            rotate_left
            · (intro wS hSw; (try dsimp only at hSw); go_simp; try with_reducible rfl)
            (try simp only [List.append_eq, List.cons_append, List.nil_append, List.getElem_toArray, List.getElem_cons_succ, List.getElem_cons_zero, Act.put, List.setIfInBounds_toArray, List.set_cons_zero, List.set_cons_succ])
            refine wpAnyH_take (i := 14) (v := ?_) rfl (by kernel_rfl) (by kernel_rfl) (by kernel_rfl) (fun _ _ _ h => h) (Or.inl ⟨by kernel_rfl, ?_⟩) (by first | assumption | trivial) ?_
            rotate_left
            · (intro wS hSw; (try dsimp only at hSw); go_simp; try with_reducible rfl)
            (try simp only [List.append_eq, List.cons_append, List.nil_append, List.getElem_toArray, List.getElem_cons_succ, List.getElem_cons_zero, Act.put, List.setIfInBounds_toArray, List.set_cons_zero, List.set_cons_succ])
            refine wpAnyH_ready (rs := [15]) (by kernel_rfl) (by simp) ?_
            refine AllReadyH.cons rfl (fun K hK => ?_) AllReadyH.nil
            go_simp
            skip
            go_wp2_with fail
            refine hK.out _ _ (by first | assumption | trivial) (fun hHeld => ?_)
            clear hK K
            (try simp only [List.append_eq, List.cons_append, List.nil_append, List.getElem_toArray, List.getElem_cons_succ, List.getElem_cons_zero, Act.put, List.setIfInBounds_toArray, List.set_cons_zero, List.set_cons_succ])
            refine wpAnyH_done (by kernel_rfl) ?_ _
            refine NoPanic.normal ?_
            clear mw aw
            have HB4 := hid (bq HB5.out 1)
            have hc2 : (wr.setCell ⟨g2, p * 4 + 2, none⟩ (.int .i64 ((a : Int) + (xn : Int)))).cell? ⟨g, k, none⟩ = some (.string (str x)) := HT.out _ HB5.out
            go_wp2_with fail
            go_roundw
            case rel => exact ⟨k + 1, a + xn, p + 1, some ⟨g2, 0, none⟩, c, ini ++ [{ f with te := a + xn }], true, by omega, by go_num, by go_num, by go_num, by go_num, HL32, HL4, HI2, hid HO2.out.drew, HB4⟩
            case measure => simp [intOf]; omega
        | false =>
          obtain ⟨nm, hnm⟩ : ∃ nm, nameL x = nm := ⟨_, rfl⟩
          rw [hnm] at HNA
          cases nm with
          | none =>
            have HI2 : Hid (FlI l (k + 1) (a + xn) out false) := hid (by rw [← HXN.out]; exact HI.out.none HKL.out x HX.out ht HH.out hnm)
            have HO2 := HO
            have hz0 : decide ((0 : Int) < 0) = false := rfl
            unfold rnmV at HNA
            clear HI ht hnm
            go_wp2_with (first  | (go_at_call 56; refine (HE.out _).mono ?_; rintro e w3 ⟨rfl, rfl⟩)  | (go_at_call 57; refine (HBL.out _).mono ?_; rintro e w4 ⟨rfl, rfl⟩)  | (go_at_call 58; refine (HNA.out _).mono ?_; rintro e w5 ⟨rfl, rfl⟩))
            go_roundw
            case rel => exact ⟨(k + 1), (a + xn), n, B, c, out, false, by omega, by go_num, by go_num, by go_num, by go_num, HL3, HL4, HI2, HO2, HB3⟩
            case measure => simp [intOf]; omega
          | some v =>
            obtain ⟨q, j⟩ := v
            have HI2 : Hid (FlI l (k + 1) (a + xn) (out ++ [(⟨q, a, a + xn, a + j⟩ : Fd)]) true) := hid (by rw [← HXN.out]; exact HI.out.some HKL.out x HX.out ht HH.out q j hnm)
            have hjb := nameL_bounds hnm
            have hjx : j ≤ xn := by rw [← HXN.out]; exact hjb.2.2.1
            have hj0 : 0 < j := by omega
            have q0 : decide ((0 : Int) < (j : Int)) = true := lt_t (a := 0) hj0
            have q0' : decide (0 < j) = true := lt_nt hj0
            unfold rnmV at HNA
            have hln := HL.out
            have HL32 : Hid ((out ++ [(⟨q, a, a + xn, a + j⟩ : Fd)]).length = n + 1) := hid (by rw [List.length_append, HL3.out]; rfl)
            clear HI ht hnm hjb
            go_wp2_with (first
              | (go_at_call 56; refine (HE.out _).mono ?_; rintro e w3 ⟨rfl, rfl⟩)
              | (go_at_call 57; refine (HBL.out _).mono ?_; rintro e w4 ⟨rfl, rfl⟩)
              | (go_at_call 58; refine (HNA.out _).mono ?_; rintro e w5 ⟨rfl, rfl⟩)
              | (refine wpList_append_row _ rfl (.tmp 59) (.tmp 73) fdS rfl w1.heap.size (.slice B n c) n (out.flatMap fdC) rfl (own_below HO.out ((Below.refl _ wr).alloc (Nat.le_refl _) (.cells #[.string (str q), .int .i64 (a : Int), .int .i64 ((a : Int) + (xn : Int)), .int .i64 ((a : Int) + (j : Int))] 67))) (some ⟨wr.heap.size, 0, none⟩) 1 1 [.string (str q), .int .i64 (a : Int), .int .i64 ((a : Int) + (xn : Int)), .int .i64 ((a : Int) + (j : Int))] rfl rfl (Row.of_block (heap_alloc_new wr (Obj.cells #[.string (str q), .int .i64 (a : Int), .int .i64 ((a : Int) + (xn : Int)), .int .i64 ((a : Int) + (j : Int))] 67))) (by simp [Value.oneCell']) (by simp only [maxLen]; omega) (by omega) (by have := HB3.out.size; simp; omega) ?_
                 intro A2 c2 w6 ho2 hg2 hh2
                 have HB4 := hid ((HB3.out.alloc HB3.out.size (.cells #[.string (str q), .int .i64 (a : Int), .int .i64 ((a : Int) + (xn : Int)), .int .i64 ((a : Int) + (j : Int))] 67)).grown hg2 (by have := HB3.out.size; simp; omega) (own_base HO.out))
                 have HO2 : Hid (w6.ownsRow w1.heap.size 67 4 (.slice A2 (n + 1) c2) (n + 1) ((out ++ [(⟨q, a, a + xn, a + j⟩ : Fd)]).flatMap fdC)) := hid (by rw [List.flatMap_append]; exact ho2)
                 have hc6 := HT.out _ HB4.out
                 clear ho2 hg2 hh2))
            go_roundw
            case rel => exact ⟨k + 1, a + xn, n + 1, A2, c2, out ++ [(⟨q, a, a + xn, a + j⟩ : Fd)], true, by omega, by go_num, by go_num, by go_num, by go_num, HL32, hid (own_cap HO2.out).1, HI2, HO2, HB4⟩
            case measure => simp [intOf]; omega
    · have hkm : k = m := by omega
      subst hkm
      have d1 := lt_f hlt
      have d1' := lt_nf hlt
      have HF : Hid (fieldsL l = out) := hid (HI.out.fin (by rw [HM.out]; exact Nat.le_refl _))
      clear HI
      go_wp2_with fail
      go_ret
      exact ⟨B, n, c, rfl, by rw [HF.out]; exact HL3.out, HL4.out, by rw [HF.out]; exact own_low HO.out HB.out.size, past HB.out HB3.out⟩
end Go.Proofs.YtonjadmldgloaaaGreatDoor.D17
