/-
  DiskReads: the walk. A part of the proof: see the head of the text that ends in 'Law'.
-/
import Derived.Test.YtkadehdbnkinlaaDk21
import Derived.Test.YtkadehdbnkinlaaDkArg
namespace Go.Proofs.Ytkadehdbnkinlaa
open Go.RowKit
set_option linter.unusedVariables false
set_option linter.unusedSimpArgs false
attribute [local go_sem] Oper.semAt_some

theorem actC_len (a : ActV) : (actC a).length = 5 := rfl
/-- The acts that are handed in. -/
def ActsIn (w : World) (A : Option Addr) (n c : Nat) (l : List ActV) : Prop := n ≤ c ∧ c ≤ maxLen ∧ l.length = n ∧ Row w A (l.flatMap actC) ∧ ∀ a ∈ l, in64 a.1 ∧ in64 a.2.1 ∧ True ∧ True ∧ a.2.2.2.2.Ok (fun b : Bool => [.bool b]) (fun _ => True) w
/-- The cells of an act. -/
theorem ActsIn.cell {w : World} {A : Option Addr} {n c : Nat} {l : List ActV} (h : ActsIn w A n c l) (hn : 0 < n) : ∃ b off, A = some ⟨b, off, none⟩ ∧ ∀ (j : Nat) (hj : j < l.length), w.cell? ⟨b, off + j * 5, none⟩ = some (.int .i64 l[j].1) ∧ w.cell? ⟨b, off + j * 5 + 1, none⟩ = some (.int .i64 l[j].2.1) ∧ w.cell? ⟨b, off + j * 5 + 2, none⟩ = some (B8 l[j].2.2.1) ∧ w.cell? ⟨b, off + j * 5 + 3, none⟩ = some (.bool l[j].2.2.2.1) ∧ w.cell? ⟨b, off + j * 5 + 4, none⟩ = some l[j].2.2.2.2.val := by
  obtain ⟨_, _, hl, hr, _⟩ := h
  have hne : l.flatMap actC ≠ [] := by
    cases l with
    | nil => simp at hl; omega
    | cons a l => rw [List.flatMap_cons]; unfold actC; simp
  obtain ⟨b, off, hA, hc⟩ := hr hne
  refine ⟨b, off, hA, fun j hj => ?_⟩
  have g := fun k hk => flatMap_get actC 5 actC_len l j k hj hk
  exact ⟨hc (j * 5 + 0) _ ((g 0 (by omega)).trans rfl), hc (j * 5 + 1) _ ((g 1 (by omega)).trans rfl), hc (j * 5 + 2) _ ((g 2 (by omega)).trans rfl), hc (j * 5 + 3) _ ((g 3 (by omega)).trans rfl), hc (j * 5 + 4) _ ((g 4 (by omega)).trans rfl)⟩
theorem str_ne {a b : List UInt8} (h : a = b) : (str a != str b) = false := by rw [h, bne, str_self]; rfl
/-- Where the power is on and no budget is. -/
structure Free (D : Dsk) (m : Nat) : Prop where
  has : D.has.length = 4
  w : D.waits.length ≤ m
  bud : D.bud = -1
  off : D.off = false
theorem Free.on {D : Dsk} {m : Nat} (h : Free D m) : onD D = true ∧ spendD D = D := by
  unfold onD spendD
  rw [h.bud, h.off]
  exact ⟨rfl, rfl⟩
theorem Free.flush {D : Dsk} {m : Nat} (h : Free D m) : flushD D = ({ D with has := doneK (fun _ => true) D.waits D.has D.waits.length, waits := [] }, 0) := by
  unfold flushD
  rw [if_pos h.on.1, h.on.2]
theorem Free.write {D : Dsk} {m : Nat} (h : Free D m) (i : Int) (s : List UInt8) (hi : 0 ≤ i ∧ i < 4) : writeD D i s = ({ D with waits := D.waits ++ [(i, s)] }, 0) := by
  unfold writeD
  rw [h.has, if_pos (show 0 ≤ i ∧ i < ((4 : Nat) : Int) from hi), if_pos h.on.1, h.on.2]
theorem Free.write_no {D : Dsk} {m : Nat} (h : Free D m) (i : Int) (s : List UInt8) (hi : ¬ (0 ≤ i ∧ i < 4)) : writeD D i s = (D, 4) := by
  unfold writeD
  rw [h.has]
  exact if_neg hi
theorem allC {w0 W : World} {d hb : Nat} {D : Dsk} (h : St w0 W d hb D) (c : UInt8) :
    Calls Try.prog 9 #[B8 c] W fun e w' => ∃ g, e = .returned (.slice (some ⟨g, 0, none⟩) 128 128) ∧ OwnC w' g 5 ((secA c).map B8) ∧ St w0 w' d hb D ∧ Below W.heap.size W w' := all_st h c
set_option maxRecDepth 100000 in
set_option maxHeartbeats 4000000 in
theorem readsU (s : SlOf ActV) (x : UInt8) (w : World) (hs : s.Ok actC (fun a => in64 a.1 ∧ in64 a.2.1 ∧ True ∧ True ∧ a.2.2.2.2.Ok (fun b : Bool => [.bool b]) (fun _ => True) w) w) :
    Calls Try.prog 4 #[.slice s.A s.n s.c, B8 x] w fun e w' => e = .returned (.bool true) ∧ Below w.heap.size w w' := by
  obtain ⟨A, n, c, l⟩ := s
  have hA : ActsIn w A n c l := ⟨hs.nc, hs.cm, hs.len, hs.row, hs.good⟩
  dsimp only
  have HA := hid hA
  have hln : l.length = n := hA.2.2.1
  have HLN := hid hln
  obtain ⟨q, hq⟩ : ∃ q, x.toNat % 4 = q := ⟨_, rfl⟩
  have hq4 : q < 4 := by omega
  have m1 : IntKind.u8.wrap ((x.toNat : Int).tmod 4) = (q : Int) := by
    have := x.toNat_lt
    rw [show (x.toNat : Int).tmod 4 = (q : Int) by rw [Int.tmod_eq_emod_of_nonneg (by omega)]; omega]
    rw [IntKind.wrap_u8]; omega
  have m2 : (x.toNat : Int).tmod 4 = (q : Int) := by rw [Int.tmod_eq_emod_of_nonneg (by omega)]; omega
  have m3 : (x.toNat : Int) % 4 = (q : Int) := by omega
  clear hs hA hln hq
  unfold B8
  go_enter Try.func4, Try.ntmps4
  go_upto_region 5 with (go_at_call 7; refine (new_st 4 (by omega) (by omega) w w (Below.refl _ _)).mono ?_; rintro e w1 ⟨d, hb, rfl, s1, b1⟩; have S := hid s1; clear s1 b1)
  go_wp2_with (go_at_call 9; refine (all_lit S.out 0 _ (by decide)).mono ?_; rintro e w2 ⟨g, rfl, o2, s2, b2⟩; have co := strC o2 (secA_len _); have S := hid s2; clear o2 s2 b2)
  clear co
  have HQ := hid m1
  clear m1 m2 m3
  go_loopw [8, 9, 10, 11] (fun v k b f wr => ∃ (j : Nat) (D : Dsk), j ≤ 40 ∧ k = .int .i64 (j : Int) ∧ v = .string (str (readD D q)) ∧ Hid (St w wr d hb D ∧ Free D j)) (fun v k b f wr => 40 - (intOf k).toNat)
  case atStart =>
    refine ⟨0, newD 4, by omega, rfl, ?_, hid ⟨S.out, ⟨rfl, Nat.le_refl _, rfl, rfl⟩⟩⟩
    have : readD (newD 4) q = secA 0 := by
      have h4 : q = 0 ∨ q = 1 ∨ q = 2 ∨ q = 3 := by omega
      rcases h4 with rfl | rfl | rfl | rfl <;> rfl
    rw [this]
  case round =>
    obtain ⟨j, D, hj, rfl, rfl, hI⟩ := hrel
    by_cases hlt : j < n ∧ j < 40
    · obtain ⟨ab, ao, rfl, hcell⟩ := HA.out.cell (by omega)
      have hjl : j < l.length := by rw [HLN.out]; exact hlt.1
      have hc := hcell j hjl
      obtain ⟨a, ha⟩ : ∃ a, l[j]'hjl = a := ⟨_, rfl⟩
      rw [ha] at hc
      obtain ⟨aD, aI, aC, aS, aK⟩ := a
      dsimp only at hc
      have HC := hid hc
      have bel := hI.out.1.bel
      have y0 := cells_keep bel hc.1
      have hF := hI.out.2
      have S := hid hI.out.1
      have d1 : decide ((j : Int) < (n : Int)) = true := by simp; omega
      have d2 : decide ((j : Int) < 40) = true := by simp; omega
      have d1' : decide (j < n) = true := by simp; omega
      have d2' : decide (j < 40) = true := by simp; omega
      have i0 : (0 : Int) ≤ (j : Int) := by omega
      have i1 : (j : Int) < (n : Int) := by omega
      have i2 : (j : Int).toNat = j := by omega
      clear hI bel hc hcell ha hjl
      by_cases hdo : aD = 2
      · subst hdo
        have HFL := hid (fun (W : World) (k : St w W d hb D) => flush_good k (by have := hF.w; omega) hF.flush)
        have hwl := hF.w
        have HLEN := hid S.out.len
        obtain ⟨D', hD'⟩ : ∃ D', ({ D with has := doneK (fun _ => true) D.waits D.has D.waits.length, waits := [] } : Dsk) = D' := ⟨_, rfl⟩
        rw [hD'] at HFL
        have hF' : Free D' (j + 1) := by
          rw [← hD']
          exact ⟨by show (doneK _ _ _ _).length = 4; rw [doneK_len]; exact hF.has, by simp, hF.bud, hF.off⟩
        have hse : readD D q = readD D' q := by
          rw [← hD', read_flush D.has D.waits D.bud D.bud D.off D.off D.ys D.cp q (by rw [hF.has]; exact hq4) (fun p hp => (HLEN.out.2.1 p hp).2.1)]
        have HSE := hid hse
        clear hF hse
        go_upto_region 14 with (go_at_call 10; (with_reducible refine (HFL.out _ S.out).mono ?_); rintro e w5 ⟨rfl, s5, k5⟩; have S := hid s5; clear s5 k5)
        rw [HSE.out]
        have hF := hF'
        clear hF' hD' hwl
        have HRD := hid (fun (W : World) (k : St w W d hb D') => read_good (s := readD D' q) k q (by rw [hF.has]; exact hq4) hF.off (by have := hF.w; omega) rfl)
        have hrl : (readD D' q).length = 128 := readD_len S.out q (by rw [hF.has]; exact hq4)
        have HF := hid hF
        have HRL := hid hrl
        obtain ⟨r, hr⟩ : ∃ r, readD D' q = r := ⟨_, rfl⟩
        rw [hr] at HRD HRL ⊢
        have HR := hid hr
        have hss := str_ne (rfl : r = r)
        clear hF hrl hr
        go_wp2_with (go_at_call 11; (with_reducible refine (HRD.out _ S.out).mono ?_); rintro e w6 ⟨g6, rfl, q6, s6, b6⟩; have S := hid s6; have c6 := strS q6.own HRL.out; clear s6 q6 b6)
        go_roundw
        case rel => exact ⟨j + 1, D', by omega, by go_num, by rw [HR.out], hid ⟨S.out, HF.out⟩⟩
        case measure => simp [intOf]; omega
      · have d3 : (aD == 2) = false := by simpa using hdo
        go_upto_region 12 with fail
        have hKS : ∀ X, Below w.heap.size w X → (X.cell? ⟨ab, ao + j * 5 + 1, none⟩ = some (.int .i64 aI) ∧ X.cell? ⟨ab, ao + j * 5 + 2, none⟩ = some (B8 aC)) := fun X hX => ⟨cells_keep hX HC.out.2.1, cells_keep hX HC.out.2.2.1⟩
        have HKS := hid hKS
        have hS := HKS.out _ S.out.drew.bel
        have S := hid S.out.drew
        clear hKS
        have hwl := hF.w
        by_cases hin : 0 ≤ aI ∧ aI < 4
        · have HWR := hid (fun (W : World) (k : St w W d hb D) (g : Nat) (o : OwnC W g 5 ((secA aC).map B8)) => write_good k aI g (secA aC) (secA_len aC) o (by omega) (hF.write aI (secA aC) hin))
          obtain ⟨D', hD'⟩ : ∃ D', ({ D with waits := D.waits ++ [(aI, secA aC)] } : Dsk) = D' := ⟨_, rfl⟩
          rw [hD'] at HWR
          have hF' : Free D' (j + 1) := by
            rw [← hD']
            exact ⟨hF.has, by show (D.waits ++ [(aI, secA aC)]).length ≤ _; rw [List.length_append, List.length_singleton]; omega, hF.bud, hF.off⟩
          have hse : readD D' q = if aI = (q : Int) then secA aC else readD D q := by
            rw [← hD']
            exact read_write D.has D.waits D.bud D.off D.ys D.cp aI (secA aC) q
          by_cases hat : aI = (q : Int)
          · have d4 : (aI == (q : Int)) = true := by simpa using hat
            rw [if_pos hat] at hse
            have HSE := hid hse
            have HF0 := hid hF
            clear hse hD' hwl hin hF hat
            refine wp_region_noPanic ?_
            refine wp_region_held_drew (S := (fun X => X.cell? ⟨ab, ao + j * 5 + 1, none⟩ = some (.int .i64 aI) ∧ X.cell? ⟨ab, ao + j * 5 + 2, none⟩ = some (B8 aC))) (by kernel_rfl) (by first | assumption | trivial) (fun hHeld => ?_)
            refine wpAnyH_take (i := 0) (v := ?_) rfl (by kernel_rfl) (by kernel_rfl) (by kernel_rfl) (fun _ _ _ h => h) (Or.inl ⟨by kernel_rfl, ?_⟩) (by first | assumption | trivial) ?_
            rotate_left
            · (intro wS hSw; (try dsimp only at hSw); go_simp; try with_reducible rfl)
            (try simp only [List.append_eq, List.cons_append, List.nil_append, List.getElem_toArray, List.getElem_cons_succ, List.getElem_cons_zero, Act.put, List.setIfInBounds_toArray, List.set_cons_zero, List.set_cons_succ])
            refine wpAnyH_take (i := 1) (v := ?_) rfl (by kernel_rfl) (by kernel_rfl) (by kernel_rfl) (fun _ _ _ h => h) (Or.inl ⟨by kernel_rfl, ?_⟩) (by first | assumption | trivial) ?_
            rotate_left
            · (intro wS hSw; (try dsimp only at hSw); go_simp; try with_reducible rfl)
            (try simp only [List.append_eq, List.cons_append, List.nil_append, List.getElem_toArray, List.getElem_cons_succ, List.getElem_cons_zero, Act.put, List.setIfInBounds_toArray, List.set_cons_zero, List.set_cons_succ])
            refine wpAnyH_take (i := 2) (v := ?_) rfl (by kernel_rfl) (by kernel_rfl) (by kernel_rfl) (fun _ _ _ h => h) (Or.inl ⟨by kernel_rfl, ?_⟩) (by first | assumption | trivial) ?_
            rotate_left
            · (intro wS hSw; (try dsimp only at hSw); go_simp; try with_reducible rfl)
            (try simp only [List.append_eq, List.cons_append, List.nil_append, List.getElem_toArray, List.getElem_cons_succ, List.getElem_cons_zero, Act.put, List.setIfInBounds_toArray, List.set_cons_zero, List.set_cons_succ])
            refine wpAnyH_take (i := 3) (v := ?_) rfl (by kernel_rfl) (by kernel_rfl) (by kernel_rfl) (fun _ _ _ h => h) (Or.inl ⟨by kernel_rfl, ?_⟩) (by first | assumption | trivial) ?_
            rotate_left
            · (intro wS hSw; (try dsimp only at hSw); go_simp; try with_reducible rfl)
            (try simp only [List.append_eq, List.cons_append, List.nil_append, List.getElem_toArray, List.getElem_cons_succ, List.getElem_cons_zero, Act.put, List.setIfInBounds_toArray, List.set_cons_zero, List.set_cons_succ])
            refine wpAnyH_take (i := 4) (v := ?_) rfl (by kernel_rfl) (by kernel_rfl) (by kernel_rfl) (fun _ _ _ h => h) (Or.inl ⟨by kernel_rfl, ?_⟩) (by first | assumption | trivial) ?_
            rotate_left
            · (intro wS hSw; (try dsimp only at hSw); go_simp; try with_reducible rfl)
            (try simp only [List.append_eq, List.cons_append, List.nil_append, List.getElem_toArray, List.getElem_cons_succ, List.getElem_cons_zero, Act.put, List.setIfInBounds_toArray, List.set_cons_zero, List.set_cons_succ])
            refine wpAnyH_take (i := 5) (v := ?_) rfl (by kernel_rfl) (by kernel_rfl) (by kernel_rfl) (fun _ _ _ h => h) (Or.inl ⟨by kernel_rfl, ?_⟩) (by first | assumption | trivial) ?_
            rotate_left
            · (intro wS hSw; (try dsimp only at hSw); go_simp; try with_reducible rfl)
            (try simp only [List.append_eq, List.cons_append, List.nil_append, List.getElem_toArray, List.getElem_cons_succ, List.getElem_cons_zero, Act.put, List.setIfInBounds_toArray, List.set_cons_zero, List.set_cons_succ])
            refine wpAnyH_take (i := 6) (v := ?_) rfl (by kernel_rfl) (by kernel_rfl) (by kernel_rfl) (fun _ _ _ h => h) (Or.inl ⟨by kernel_rfl, ?_⟩) (by first | assumption | trivial) ?_
            rotate_left
            · (intro wS hSw; (try dsimp only at hSw); go_simp; try with_reducible rfl)
            (try simp only [List.append_eq, List.cons_append, List.nil_append, List.getElem_toArray, List.getElem_cons_succ, List.getElem_cons_zero, Act.put, List.setIfInBounds_toArray, List.set_cons_zero, List.set_cons_succ])
            refine wpAnyH_take (i := 7) (v := ?_) rfl (by kernel_rfl) (by kernel_rfl) (by kernel_rfl) (fun _ _ _ h => h) (Or.inl ⟨by kernel_rfl, ?_⟩) (by first | assumption | trivial) ?_
            rotate_left
            · (intro wS hSw; (try dsimp only at hSw); go_simp; try with_reducible rfl)
            (try simp only [List.append_eq, List.cons_append, List.nil_append, List.getElem_toArray, List.getElem_cons_succ, List.getElem_cons_zero, Act.put, List.setIfInBounds_toArray, List.set_cons_zero, List.set_cons_succ])
            refine wpAnyH_take (i := 8) (v := ?_) rfl (by kernel_rfl) (by kernel_rfl) (by kernel_rfl) (fun _ _ _ h => h) (Or.inl ⟨by kernel_rfl, ?_⟩) (by first | assumption | trivial) ?_
            rotate_left
            · (intro wS hSw; (try dsimp only at hSw); go_simp; try with_reducible rfl)
            (try simp only [List.append_eq, List.cons_append, List.nil_append, List.getElem_toArray, List.getElem_cons_succ, List.getElem_cons_zero, Act.put, List.setIfInBounds_toArray, List.set_cons_zero, List.set_cons_succ])
            refine wpAnyH_take (i := 9) (v := ?_) rfl (by kernel_rfl) (by kernel_rfl) (by kernel_rfl) (fun _ _ _ h => h) (Or.inl ⟨by kernel_rfl, ?_⟩) (by first | assumption | trivial) ?_
            rotate_left
            · (intro wS hSw; (try dsimp only at hSw); go_simp; try with_reducible rfl)
            (try simp only [List.append_eq, List.cons_append, List.nil_append, List.getElem_toArray, List.getElem_cons_succ, List.getElem_cons_zero, Act.put, List.setIfInBounds_toArray, List.set_cons_zero, List.set_cons_succ])
            refine wpAnyH_take (i := 10) (v := ?_) rfl (by kernel_rfl) (by kernel_rfl) (by kernel_rfl) (fun _ _ _ h => h) (Or.inl ⟨by kernel_rfl, ?_⟩) (by first | assumption | trivial) ?_
            rotate_left
            · (intro wS hSw; (try dsimp only at hSw); go_simp; try with_reducible rfl)
            (try simp only [List.append_eq, List.cons_append, List.nil_append, List.getElem_toArray, List.getElem_cons_succ, List.getElem_cons_zero, Act.put, List.setIfInBounds_toArray, List.set_cons_zero, List.set_cons_succ])
            refine wpAnyH_ready (rs := [11]) (by kernel_rfl) (by simp) ?_
            refine AllReadyH.cons rfl (fun K hK => ?_) AllReadyH.nil
            go_simp
            (go_at_call 9; refine (allC S.out aC).mono ?_; rintro e w3 ⟨g3, rfl, o3, s3, b3⟩; have O3 := hid o3; have hS := HKS.out _ s3.bel; have S := hid s3; clear o3 s3 b3 hHeld)
            go_wp2_with fail
            refine hK.out _ _ (by first | assumption | trivial) (fun hHeld => ?_)
            clear hK K
            (try simp only [List.append_eq, List.cons_append, List.nil_append, List.getElem_toArray, List.getElem_cons_succ, List.getElem_cons_zero, Act.put, List.setIfInBounds_toArray, List.set_cons_zero, List.set_cons_succ])
            refine wpAnyH_ready (rs := [12]) (by kernel_rfl) (by simp) ?_
            refine AllReadyH.cons rfl (fun K hK => ?_) AllReadyH.nil
            go_simp
            (go_at_call 8; refine (HWR.out _ S.out g3 O3.out).mono ?_; rintro e w4 ⟨rfl, s4, k4⟩; have hS := HKS.out _ s4.bel; have S := hid s4; clear s4 k4 hHeld)
            go_wp2_with fail
            refine hK.out _ _ (by first | assumption | trivial) (fun hHeld => ?_)
            clear hK K
            (try simp only [List.append_eq, List.cons_append, List.nil_append, List.getElem_toArray, List.getElem_cons_succ, List.getElem_cons_zero, Act.put, List.setIfInBounds_toArray, List.set_cons_zero, List.set_cons_succ])
            refine wpAnyH_take (i := 13) (v := ?_) rfl (by kernel_rfl) (by kernel_rfl) (by kernel_rfl) (fun _ _ _ h => h) (Or.inl ⟨by kernel_rfl, ?_⟩) (by first | assumption | trivial) ?_
            rotate_left
            · (intro wS hSw; (try dsimp only at hSw); go_simp; try with_reducible rfl)
            (try simp only [List.append_eq, List.cons_append, List.nil_append, List.getElem_toArray, List.getElem_cons_succ, List.getElem_cons_zero, Act.put, List.setIfInBounds_toArray, List.set_cons_zero, List.set_cons_succ])
            refine wpAnyH_take (i := 14) (v := ?_) rfl (by kernel_rfl) (by kernel_rfl) (by kernel_rfl) (fun _ _ _ h => h) (Or.inl ⟨by kernel_rfl, ?_⟩) (by first | assumption | trivial) ?_
            rotate_left
            · (intro wS hSw; (try dsimp only at hSw); go_simp; try with_reducible rfl)
            (try simp only [List.append_eq, List.cons_append, List.nil_append, List.getElem_toArray, List.getElem_cons_succ, List.getElem_cons_zero, Act.put, List.setIfInBounds_toArray, List.set_cons_zero, List.set_cons_succ])
            refine wpAnyH_take (i := 15) (v := ?_) rfl (by kernel_rfl) (by kernel_rfl) (by kernel_rfl) (fun _ _ _ h => h) (Or.inl ⟨by kernel_rfl, ?_⟩) (by first | assumption | trivial) ?_
            rotate_left
            · (intro wS hSw; (try dsimp only at hSw); go_simp; try with_reducible rfl)
            (try simp only [List.append_eq, List.cons_append, List.nil_append, List.getElem_toArray, List.getElem_cons_succ, List.getElem_cons_zero, Act.put, List.setIfInBounds_toArray, List.set_cons_zero, List.set_cons_succ])
            refine wpAnyH_take (i := 16) (v := ?_) rfl (by kernel_rfl) (by kernel_rfl) (by kernel_rfl) (fun _ _ _ h => h) (Or.inl ⟨by kernel_rfl, ?_⟩) (by first | assumption | trivial) ?_
            rotate_left
            · (intro wS hSw; (try dsimp only at hSw); go_simp; try with_reducible rfl)
            (try simp only [List.append_eq, List.cons_append, List.nil_append, List.getElem_toArray, List.getElem_cons_succ, List.getElem_cons_zero, Act.put, List.setIfInBounds_toArray, List.set_cons_zero, List.set_cons_succ])
            refine wpAnyH_take (i := 17) (v := ?_) rfl (by kernel_rfl) (by kernel_rfl) (by kernel_rfl) (fun _ _ _ h => h) (Or.inl ⟨by kernel_rfl, ?_⟩) (by first | assumption | trivial) ?_
            rotate_left
            · (intro wS hSw; (try dsimp only at hSw); go_simp; try with_reducible rfl)
            (try simp only [List.append_eq, List.cons_append, List.nil_append, List.getElem_toArray, List.getElem_cons_succ, List.getElem_cons_zero, Act.put, List.setIfInBounds_toArray, List.set_cons_zero, List.set_cons_succ])
            refine wpAnyH_take (i := 18) (v := ?_) rfl (by kernel_rfl) (by kernel_rfl) (by kernel_rfl) (fun _ _ _ h => h) (Or.inl ⟨by kernel_rfl, ?_⟩) (by first | assumption | trivial) ?_
            rotate_left
            · (intro wS hSw; (try dsimp only at hSw); go_simp; try with_reducible rfl)
            (try simp only [List.append_eq, List.cons_append, List.nil_append, List.getElem_toArray, List.getElem_cons_succ, List.getElem_cons_zero, Act.put, List.setIfInBounds_toArray, List.set_cons_zero, List.set_cons_succ])
            refine wpAnyH_take (i := 19) (v := ?_) rfl (by kernel_rfl) (by kernel_rfl) (by kernel_rfl) (fun _ _ _ h => h) (Or.inl ⟨by kernel_rfl, ?_⟩) (by first | assumption | trivial) ?_
            rotate_left
            · (intro wS hSw; (try dsimp only at hSw); go_simp; try with_reducible rfl)
            (try simp only [List.append_eq, List.cons_append, List.nil_append, List.getElem_toArray, List.getElem_cons_succ, List.getElem_cons_zero, Act.put, List.setIfInBounds_toArray, List.set_cons_zero, List.set_cons_succ])
            refine wpAnyH_take (i := 20) (v := ?_) rfl (by kernel_rfl) (by kernel_rfl) (by kernel_rfl) (fun _ _ _ h => h) (Or.inl ⟨by kernel_rfl, ?_⟩) (by first | assumption | trivial) ?_
            rotate_left
            · (intro wS hSw; (try dsimp only at hSw); go_simp; try with_reducible rfl)
            (try simp only [List.append_eq, List.cons_append, List.nil_append, List.getElem_toArray, List.getElem_cons_succ, List.getElem_cons_zero, Act.put, List.setIfInBounds_toArray, List.set_cons_zero, List.set_cons_succ])
            refine wpAnyH_take (i := 21) (v := ?_) rfl (by kernel_rfl) (by kernel_rfl) (by kernel_rfl) (fun _ _ _ h => h) (Or.inl ⟨by kernel_rfl, ?_⟩) (by first | assumption | trivial) ?_
            rotate_left
            · (intro wS hSw; (try dsimp only at hSw); go_simp; try with_reducible rfl)
            (try simp only [List.append_eq, List.cons_append, List.nil_append, List.getElem_toArray, List.getElem_cons_succ, List.getElem_cons_zero, Act.put, List.setIfInBounds_toArray, List.set_cons_zero, List.set_cons_succ])
            refine wpAnyH_take (i := 22) (v := ?_) rfl (by kernel_rfl) (by kernel_rfl) (by kernel_rfl) (fun _ _ _ h => h) (Or.inl ⟨by kernel_rfl, ?_⟩) (by first | assumption | trivial) ?_
            rotate_left
            · (intro wS hSw; (try dsimp only at hSw); go_simp; try with_reducible rfl)
            (try simp only [List.append_eq, List.cons_append, List.nil_append, List.getElem_toArray, List.getElem_cons_succ, List.getElem_cons_zero, Act.put, List.setIfInBounds_toArray, List.set_cons_zero, List.set_cons_succ])
            refine wpAnyH_done (by kernel_rfl) ?_ _
            refine NoPanic.normal ?_
            have y2 := hHeld.2
            go_upto_region 14 with (go_at_call 9; refine (allC S.out aC).mono ?_; rintro e w5 ⟨g5, rfl, o5, s5, b5⟩; have c5 := strC o5 (secA_len _); have S := hid s5; clear o5 s5 b5)
            rw [← HSE.out]
            have hF := hF'
            clear hF'
            have HRD := hid (fun (W : World) (k : St w W d hb D') => read_good (s := readD D' q) k q (by rw [hF.has]; exact hq4) hF.off (by have := hF.w; omega) rfl)
            have hrl : (readD D' q).length = 128 := readD_len S.out q (by rw [hF.has]; exact hq4)
            have HF := hid hF
            have HRL := hid hrl
            obtain ⟨r, hr⟩ : ∃ r, readD D' q = r := ⟨_, rfl⟩
            rw [hr] at HRD HRL ⊢
            have HR := hid hr
            have hss := str_ne (rfl : r = r)
            clear hF hrl hr
            go_wp2_with (go_at_call 11; (with_reducible refine (HRD.out _ S.out).mono ?_); rintro e w6 ⟨g6, rfl, q6, s6, b6⟩; have S := hid s6; have c6 := strS q6.own HRL.out; clear s6 q6 b6)
            go_roundw
            case rel => exact ⟨j + 1, D', by omega, by go_num, by rw [HR.out], hid ⟨S.out, HF.out⟩⟩
            case measure => simp [intOf]; omega
          · have d4 : (aI == (q : Int)) = false := by simpa using hat
            rw [if_neg hat] at hse
            have HSE := hid hse
            have HF0 := hid hF
            clear hse hD' hwl hin hF hat
            refine wp_region_noPanic ?_
            refine wp_region_held_drew (S := (fun X => X.cell? ⟨ab, ao + j * 5 + 1, none⟩ = some (.int .i64 aI) ∧ X.cell? ⟨ab, ao + j * 5 + 2, none⟩ = some (B8 aC))) (by kernel_rfl) (by first | assumption | trivial) (fun hHeld => ?_)
            refine wpAnyH_take (i := 0) (v := ?_) rfl (by kernel_rfl) (by kernel_rfl) (by kernel_rfl) (fun _ _ _ h => h) (Or.inl ⟨by kernel_rfl, ?_⟩) (by first | assumption | trivial) ?_
            rotate_left
            · (intro wS hSw; (try dsimp only at hSw); go_simp; try with_reducible rfl)
            (try simp only [List.append_eq, List.cons_append, List.nil_append, List.getElem_toArray, List.getElem_cons_succ, List.getElem_cons_zero, Act.put, List.setIfInBounds_toArray, List.set_cons_zero, List.set_cons_succ])
            refine wpAnyH_take (i := 1) (v := ?_) rfl (by kernel_rfl) (by kernel_rfl) (by kernel_rfl) (fun _ _ _ h => h) (Or.inl ⟨by kernel_rfl, ?_⟩) (by first | assumption | trivial) ?_
            rotate_left
            · (intro wS hSw; (try dsimp only at hSw); go_simp; try with_reducible rfl)
            (try simp only [List.append_eq, List.cons_append, List.nil_append, List.getElem_toArray, List.getElem_cons_succ, List.getElem_cons_zero, Act.put, List.setIfInBounds_toArray, List.set_cons_zero, List.set_cons_succ])
            refine wpAnyH_take (i := 2) (v := ?_) rfl (by kernel_rfl) (by kernel_rfl) (by kernel_rfl) (fun _ _ _ h => h) (Or.inl ⟨by kernel_rfl, ?_⟩) (by first | assumption | trivial) ?_
            rotate_left
            · (intro wS hSw; (try dsimp only at hSw); go_simp; try with_reducible rfl)
            (try simp only [List.append_eq, List.cons_append, List.nil_append, List.getElem_toArray, List.getElem_cons_succ, List.getElem_cons_zero, Act.put, List.setIfInBounds_toArray, List.set_cons_zero, List.set_cons_succ])
            refine wpAnyH_take (i := 3) (v := ?_) rfl (by kernel_rfl) (by kernel_rfl) (by kernel_rfl) (fun _ _ _ h => h) (Or.inl ⟨by kernel_rfl, ?_⟩) (by first | assumption | trivial) ?_
            rotate_left
            · (intro wS hSw; (try dsimp only at hSw); go_simp; try with_reducible rfl)
            (try simp only [List.append_eq, List.cons_append, List.nil_append, List.getElem_toArray, List.getElem_cons_succ, List.getElem_cons_zero, Act.put, List.setIfInBounds_toArray, List.set_cons_zero, List.set_cons_succ])
            refine wpAnyH_take (i := 4) (v := ?_) rfl (by kernel_rfl) (by kernel_rfl) (by kernel_rfl) (fun _ _ _ h => h) (Or.inl ⟨by kernel_rfl, ?_⟩) (by first | assumption | trivial) ?_
            rotate_left
            · (intro wS hSw; (try dsimp only at hSw); go_simp; try with_reducible rfl)
            (try simp only [List.append_eq, List.cons_append, List.nil_append, List.getElem_toArray, List.getElem_cons_succ, List.getElem_cons_zero, Act.put, List.setIfInBounds_toArray, List.set_cons_zero, List.set_cons_succ])
            refine wpAnyH_take (i := 5) (v := ?_) rfl (by kernel_rfl) (by kernel_rfl) (by kernel_rfl) (fun _ _ _ h => h) (Or.inl ⟨by kernel_rfl, ?_⟩) (by first | assumption | trivial) ?_
            rotate_left
            · (intro wS hSw; (try dsimp only at hSw); go_simp; try with_reducible rfl)
            (try simp only [List.append_eq, List.cons_append, List.nil_append, List.getElem_toArray, List.getElem_cons_succ, List.getElem_cons_zero, Act.put, List.setIfInBounds_toArray, List.set_cons_zero, List.set_cons_succ])
            refine wpAnyH_take (i := 6) (v := ?_) rfl (by kernel_rfl) (by kernel_rfl) (by kernel_rfl) (fun _ _ _ h => h) (Or.inl ⟨by kernel_rfl, ?_⟩) (by first | assumption | trivial) ?_
            rotate_left
            · (intro wS hSw; (try dsimp only at hSw); go_simp; try with_reducible rfl)
            (try simp only [List.append_eq, List.cons_append, List.nil_append, List.getElem_toArray, List.getElem_cons_succ, List.getElem_cons_zero, Act.put, List.setIfInBounds_toArray, List.set_cons_zero, List.set_cons_succ])
            refine wpAnyH_take (i := 7) (v := ?_) rfl (by kernel_rfl) (by kernel_rfl) (by kernel_rfl) (fun _ _ _ h => h) (Or.inl ⟨by kernel_rfl, ?_⟩) (by first | assumption | trivial) ?_
            rotate_left
            · (intro wS hSw; (try dsimp only at hSw); go_simp; try with_reducible rfl)
            (try simp only [List.append_eq, List.cons_append, List.nil_append, List.getElem_toArray, List.getElem_cons_succ, List.getElem_cons_zero, Act.put, List.setIfInBounds_toArray, List.set_cons_zero, List.set_cons_succ])
            refine wpAnyH_take (i := 8) (v := ?_) rfl (by kernel_rfl) (by kernel_rfl) (by kernel_rfl) (fun _ _ _ h => h) (Or.inl ⟨by kernel_rfl, ?_⟩) (by first | assumption | trivial) ?_
            rotate_left
            · (intro wS hSw; (try dsimp only at hSw); go_simp; try with_reducible rfl)
            (try simp only [List.append_eq, List.cons_append, List.nil_append, List.getElem_toArray, List.getElem_cons_succ, List.getElem_cons_zero, Act.put, List.setIfInBounds_toArray, List.set_cons_zero, List.set_cons_succ])
            refine wpAnyH_take (i := 9) (v := ?_) rfl (by kernel_rfl) (by kernel_rfl) (by kernel_rfl) (fun _ _ _ h => h) (Or.inl ⟨by kernel_rfl, ?_⟩) (by first | assumption | trivial) ?_
            rotate_left
            · (intro wS hSw; (try dsimp only at hSw); go_simp; try with_reducible rfl)
            (try simp only [List.append_eq, List.cons_append, List.nil_append, List.getElem_toArray, List.getElem_cons_succ, List.getElem_cons_zero, Act.put, List.setIfInBounds_toArray, List.set_cons_zero, List.set_cons_succ])
            refine wpAnyH_take (i := 10) (v := ?_) rfl (by kernel_rfl) (by kernel_rfl) (by kernel_rfl) (fun _ _ _ h => h) (Or.inl ⟨by kernel_rfl, ?_⟩) (by first | assumption | trivial) ?_
            rotate_left
            · (intro wS hSw; (try dsimp only at hSw); go_simp; try with_reducible rfl)
            (try simp only [List.append_eq, List.cons_append, List.nil_append, List.getElem_toArray, List.getElem_cons_succ, List.getElem_cons_zero, Act.put, List.setIfInBounds_toArray, List.set_cons_zero, List.set_cons_succ])
            refine wpAnyH_ready (rs := [11]) (by kernel_rfl) (by simp) ?_
            refine AllReadyH.cons rfl (fun K hK => ?_) AllReadyH.nil
            go_simp
            (go_at_call 9; refine (allC S.out aC).mono ?_; rintro e w3 ⟨g3, rfl, o3, s3, b3⟩; have O3 := hid o3; have hS := HKS.out _ s3.bel; have S := hid s3; clear o3 s3 b3 hHeld)
            go_wp2_with fail
            refine hK.out _ _ (by first | assumption | trivial) (fun hHeld => ?_)
            clear hK K
            (try simp only [List.append_eq, List.cons_append, List.nil_append, List.getElem_toArray, List.getElem_cons_succ, List.getElem_cons_zero, Act.put, List.setIfInBounds_toArray, List.set_cons_zero, List.set_cons_succ])
            refine wpAnyH_ready (rs := [12]) (by kernel_rfl) (by simp) ?_
            refine AllReadyH.cons rfl (fun K hK => ?_) AllReadyH.nil
            go_simp
            (go_at_call 8; refine (HWR.out _ S.out g3 O3.out).mono ?_; rintro e w4 ⟨rfl, s4, k4⟩; have hS := HKS.out _ s4.bel; have S := hid s4; clear s4 k4 hHeld)
            go_wp2_with fail
            refine hK.out _ _ (by first | assumption | trivial) (fun hHeld => ?_)
            clear hK K
            (try simp only [List.append_eq, List.cons_append, List.nil_append, List.getElem_toArray, List.getElem_cons_succ, List.getElem_cons_zero, Act.put, List.setIfInBounds_toArray, List.set_cons_zero, List.set_cons_succ])
            refine wpAnyH_take (i := 13) (v := ?_) rfl (by kernel_rfl) (by kernel_rfl) (by kernel_rfl) (fun _ _ _ h => h) (Or.inl ⟨by kernel_rfl, ?_⟩) (by first | assumption | trivial) ?_
            rotate_left
            · (intro wS hSw; (try dsimp only at hSw); go_simp; try with_reducible rfl)
            (try simp only [List.append_eq, List.cons_append, List.nil_append, List.getElem_toArray, List.getElem_cons_succ, List.getElem_cons_zero, Act.put, List.setIfInBounds_toArray, List.set_cons_zero, List.set_cons_succ])
            refine wpAnyH_take (i := 14) (v := ?_) rfl (by kernel_rfl) (by kernel_rfl) (by kernel_rfl) (fun _ _ _ h => h) (Or.inl ⟨by kernel_rfl, ?_⟩) (by first | assumption | trivial) ?_
            rotate_left
            · (intro wS hSw; (try dsimp only at hSw); go_simp; try with_reducible rfl)
            (try simp only [List.append_eq, List.cons_append, List.nil_append, List.getElem_toArray, List.getElem_cons_succ, List.getElem_cons_zero, Act.put, List.setIfInBounds_toArray, List.set_cons_zero, List.set_cons_succ])
            refine wpAnyH_take (i := 15) (v := ?_) rfl (by kernel_rfl) (by kernel_rfl) (by kernel_rfl) (fun _ _ _ h => h) (Or.inl ⟨by kernel_rfl, ?_⟩) (by first | assumption | trivial) ?_
            rotate_left
            · (intro wS hSw; (try dsimp only at hSw); go_simp; try with_reducible rfl)
            (try simp only [List.append_eq, List.cons_append, List.nil_append, List.getElem_toArray, List.getElem_cons_succ, List.getElem_cons_zero, Act.put, List.setIfInBounds_toArray, List.set_cons_zero, List.set_cons_succ])
            refine wpAnyH_take (i := 16) (v := ?_) rfl (by kernel_rfl) (by kernel_rfl) (by kernel_rfl) (fun _ _ _ h => h) (Or.inl ⟨by kernel_rfl, ?_⟩) (by first | assumption | trivial) ?_
            rotate_left
            · (intro wS hSw; (try dsimp only at hSw); go_simp; try with_reducible rfl)
            (try simp only [List.append_eq, List.cons_append, List.nil_append, List.getElem_toArray, List.getElem_cons_succ, List.getElem_cons_zero, Act.put, List.setIfInBounds_toArray, List.set_cons_zero, List.set_cons_succ])
            refine wpAnyH_take (i := 17) (v := ?_) rfl (by kernel_rfl) (by kernel_rfl) (by kernel_rfl) (fun _ _ _ h => h) (Or.inl ⟨by kernel_rfl, ?_⟩) (by first | assumption | trivial) ?_
            rotate_left
            · (intro wS hSw; (try dsimp only at hSw); go_simp; try with_reducible rfl)
            (try simp only [List.append_eq, List.cons_append, List.nil_append, List.getElem_toArray, List.getElem_cons_succ, List.getElem_cons_zero, Act.put, List.setIfInBounds_toArray, List.set_cons_zero, List.set_cons_succ])
            refine wpAnyH_take (i := 18) (v := ?_) rfl (by kernel_rfl) (by kernel_rfl) (by kernel_rfl) (fun _ _ _ h => h) (Or.inl ⟨by kernel_rfl, ?_⟩) (by first | assumption | trivial) ?_
            rotate_left
            · (intro wS hSw; (try dsimp only at hSw); go_simp; try with_reducible rfl)
            (try simp only [List.append_eq, List.cons_append, List.nil_append, List.getElem_toArray, List.getElem_cons_succ, List.getElem_cons_zero, Act.put, List.setIfInBounds_toArray, List.set_cons_zero, List.set_cons_succ])
            refine wpAnyH_take (i := 19) (v := ?_) rfl (by kernel_rfl) (by kernel_rfl) (by kernel_rfl) (fun _ _ _ h => h) (Or.inl ⟨by kernel_rfl, ?_⟩) (by first | assumption | trivial) ?_
            rotate_left
            · (intro wS hSw; (try dsimp only at hSw); go_simp; try with_reducible rfl)
            (try simp only [List.append_eq, List.cons_append, List.nil_append, List.getElem_toArray, List.getElem_cons_succ, List.getElem_cons_zero, Act.put, List.setIfInBounds_toArray, List.set_cons_zero, List.set_cons_succ])
            refine wpAnyH_take (i := 20) (v := ?_) rfl (by kernel_rfl) (by kernel_rfl) (by kernel_rfl) (fun _ _ _ h => h) (Or.inl ⟨by kernel_rfl, ?_⟩) (by first | assumption | trivial) ?_
            rotate_left
            · (intro wS hSw; (try dsimp only at hSw); go_simp; try with_reducible rfl)
            (try simp only [List.append_eq, List.cons_append, List.nil_append, List.getElem_toArray, List.getElem_cons_succ, List.getElem_cons_zero, Act.put, List.setIfInBounds_toArray, List.set_cons_zero, List.set_cons_succ])
            refine wpAnyH_take (i := 21) (v := ?_) rfl (by kernel_rfl) (by kernel_rfl) (by kernel_rfl) (fun _ _ _ h => h) (Or.inl ⟨by kernel_rfl, ?_⟩) (by first | assumption | trivial) ?_
            rotate_left
            · (intro wS hSw; (try dsimp only at hSw); go_simp; try with_reducible rfl)
            (try simp only [List.append_eq, List.cons_append, List.nil_append, List.getElem_toArray, List.getElem_cons_succ, List.getElem_cons_zero, Act.put, List.setIfInBounds_toArray, List.set_cons_zero, List.set_cons_succ])
            refine wpAnyH_take (i := 22) (v := ?_) rfl (by kernel_rfl) (by kernel_rfl) (by kernel_rfl) (fun _ _ _ h => h) (Or.inl ⟨by kernel_rfl, ?_⟩) (by first | assumption | trivial) ?_
            rotate_left
            · (intro wS hSw; (try dsimp only at hSw); go_simp; try with_reducible rfl)
            (try simp only [List.append_eq, List.cons_append, List.nil_append, List.getElem_toArray, List.getElem_cons_succ, List.getElem_cons_zero, Act.put, List.setIfInBounds_toArray, List.set_cons_zero, List.set_cons_succ])
            refine wpAnyH_done (by kernel_rfl) ?_ _
            refine NoPanic.normal ?_
            go_upto_region 14 with fail
            rw [← HSE.out]
            have hF := hF'
            clear hF'
            have HRD := hid (fun (W : World) (k : St w W d hb D') => read_good (s := readD D' q) k q (by rw [hF.has]; exact hq4) hF.off (by have := hF.w; omega) rfl)
            have hrl : (readD D' q).length = 128 := readD_len S.out q (by rw [hF.has]; exact hq4)
            have HF := hid hF
            have HRL := hid hrl
            obtain ⟨r, hr⟩ : ∃ r, readD D' q = r := ⟨_, rfl⟩
            rw [hr] at HRD HRL ⊢
            have HR := hid hr
            have hss := str_ne (rfl : r = r)
            clear hF hrl hr
            go_wp2_with (go_at_call 11; (with_reducible refine (HRD.out _ S.out).mono ?_); rintro e w6 ⟨g6, rfl, q6, s6, b6⟩; have S := hid s6; have c6 := strS q6.own HRL.out; clear s6 q6 b6)
            go_roundw
            case rel => exact ⟨j + 1, D', by omega, by go_num, by rw [HR.out], hid ⟨S.out, HF.out⟩⟩
            case measure => simp [intOf]; omega
        · have HWR := hid (fun (W : World) (k : St w W d hb D) (g : Nat) (o : OwnC W g 5 ((secA aC).map B8)) => write_good k aI g (secA aC) (secA_len aC) o (by omega) (hF.write_no aI (secA aC) hin))
          have hF' : Free D (j + 1) := ⟨hF.has, by have := hF.w; omega, hF.bud, hF.off⟩
          have HF0 := hid hF
          clear hwl hF hin
          refine wp_region_noPanic ?_
          refine wp_region_held_drew (S := (fun X => X.cell? ⟨ab, ao + j * 5 + 1, none⟩ = some (.int .i64 aI) ∧ X.cell? ⟨ab, ao + j * 5 + 2, none⟩ = some (B8 aC))) (by kernel_rfl) (by first | assumption | trivial) (fun hHeld => ?_)
          refine wpAnyH_take (i := 0) (v := ?_) rfl (by kernel_rfl) (by kernel_rfl) (by kernel_rfl) (fun _ _ _ h => h) (Or.inl ⟨by kernel_rfl, ?_⟩) (by first | assumption | trivial) ?_
          rotate_left
          · (intro wS hSw; (try dsimp only at hSw); go_simp; try with_reducible rfl)
          (try simp only [List.append_eq, List.cons_append, List.nil_append, List.getElem_toArray, List.getElem_cons_succ, List.getElem_cons_zero, Act.put, List.setIfInBounds_toArray, List.set_cons_zero, List.set_cons_succ])
          refine wpAnyH_take (i := 1) (v := ?_) rfl (by kernel_rfl) (by kernel_rfl) (by kernel_rfl) (fun _ _ _ h => h) (Or.inl ⟨by kernel_rfl, ?_⟩) (by first | assumption | trivial) ?_
          rotate_left
          · (intro wS hSw; (try dsimp only at hSw); go_simp; try with_reducible rfl)
          (try simp only [List.append_eq, List.cons_append, List.nil_append, List.getElem_toArray, List.getElem_cons_succ, List.getElem_cons_zero, Act.put, List.setIfInBounds_toArray, List.set_cons_zero, List.set_cons_succ])
          refine wpAnyH_take (i := 2) (v := ?_) rfl (by kernel_rfl) (by kernel_rfl) (by kernel_rfl) (fun _ _ _ h => h) (Or.inl ⟨by kernel_rfl, ?_⟩) (by first | assumption | trivial) ?_
          rotate_left
          · (intro wS hSw; (try dsimp only at hSw); go_simp; try with_reducible rfl)
          (try simp only [List.append_eq, List.cons_append, List.nil_append, List.getElem_toArray, List.getElem_cons_succ, List.getElem_cons_zero, Act.put, List.setIfInBounds_toArray, List.set_cons_zero, List.set_cons_succ])
          refine wpAnyH_take (i := 3) (v := ?_) rfl (by kernel_rfl) (by kernel_rfl) (by kernel_rfl) (fun _ _ _ h => h) (Or.inl ⟨by kernel_rfl, ?_⟩) (by first | assumption | trivial) ?_
          rotate_left
          · (intro wS hSw; (try dsimp only at hSw); go_simp; try with_reducible rfl)
          (try simp only [List.append_eq, List.cons_append, List.nil_append, List.getElem_toArray, List.getElem_cons_succ, List.getElem_cons_zero, Act.put, List.setIfInBounds_toArray, List.set_cons_zero, List.set_cons_succ])
          refine wpAnyH_take (i := 4) (v := ?_) rfl (by kernel_rfl) (by kernel_rfl) (by kernel_rfl) (fun _ _ _ h => h) (Or.inl ⟨by kernel_rfl, ?_⟩) (by first | assumption | trivial) ?_
          rotate_left
          · (intro wS hSw; (try dsimp only at hSw); go_simp; try with_reducible rfl)
          (try simp only [List.append_eq, List.cons_append, List.nil_append, List.getElem_toArray, List.getElem_cons_succ, List.getElem_cons_zero, Act.put, List.setIfInBounds_toArray, List.set_cons_zero, List.set_cons_succ])
          refine wpAnyH_take (i := 5) (v := ?_) rfl (by kernel_rfl) (by kernel_rfl) (by kernel_rfl) (fun _ _ _ h => h) (Or.inl ⟨by kernel_rfl, ?_⟩) (by first | assumption | trivial) ?_
          rotate_left
          · (intro wS hSw; (try dsimp only at hSw); go_simp; try with_reducible rfl)
          (try simp only [List.append_eq, List.cons_append, List.nil_append, List.getElem_toArray, List.getElem_cons_succ, List.getElem_cons_zero, Act.put, List.setIfInBounds_toArray, List.set_cons_zero, List.set_cons_succ])
          refine wpAnyH_take (i := 6) (v := ?_) rfl (by kernel_rfl) (by kernel_rfl) (by kernel_rfl) (fun _ _ _ h => h) (Or.inl ⟨by kernel_rfl, ?_⟩) (by first | assumption | trivial) ?_
          rotate_left
          · (intro wS hSw; (try dsimp only at hSw); go_simp; try with_reducible rfl)
          (try simp only [List.append_eq, List.cons_append, List.nil_append, List.getElem_toArray, List.getElem_cons_succ, List.getElem_cons_zero, Act.put, List.setIfInBounds_toArray, List.set_cons_zero, List.set_cons_succ])
          refine wpAnyH_take (i := 7) (v := ?_) rfl (by kernel_rfl) (by kernel_rfl) (by kernel_rfl) (fun _ _ _ h => h) (Or.inl ⟨by kernel_rfl, ?_⟩) (by first | assumption | trivial) ?_
          rotate_left
          · (intro wS hSw; (try dsimp only at hSw); go_simp; try with_reducible rfl)
          (try simp only [List.append_eq, List.cons_append, List.nil_append, List.getElem_toArray, List.getElem_cons_succ, List.getElem_cons_zero, Act.put, List.setIfInBounds_toArray, List.set_cons_zero, List.set_cons_succ])
          refine wpAnyH_take (i := 8) (v := ?_) rfl (by kernel_rfl) (by kernel_rfl) (by kernel_rfl) (fun _ _ _ h => h) (Or.inl ⟨by kernel_rfl, ?_⟩) (by first | assumption | trivial) ?_
          rotate_left
          · (intro wS hSw; (try dsimp only at hSw); go_simp; try with_reducible rfl)
          (try simp only [List.append_eq, List.cons_append, List.nil_append, List.getElem_toArray, List.getElem_cons_succ, List.getElem_cons_zero, Act.put, List.setIfInBounds_toArray, List.set_cons_zero, List.set_cons_succ])
          refine wpAnyH_take (i := 9) (v := ?_) rfl (by kernel_rfl) (by kernel_rfl) (by kernel_rfl) (fun _ _ _ h => h) (Or.inl ⟨by kernel_rfl, ?_⟩) (by first | assumption | trivial) ?_
          rotate_left
          · (intro wS hSw; (try dsimp only at hSw); go_simp; try with_reducible rfl)
          (try simp only [List.append_eq, List.cons_append, List.nil_append, List.getElem_toArray, List.getElem_cons_succ, List.getElem_cons_zero, Act.put, List.setIfInBounds_toArray, List.set_cons_zero, List.set_cons_succ])
          refine wpAnyH_take (i := 10) (v := ?_) rfl (by kernel_rfl) (by kernel_rfl) (by kernel_rfl) (fun _ _ _ h => h) (Or.inl ⟨by kernel_rfl, ?_⟩) (by first | assumption | trivial) ?_
          rotate_left
          · (intro wS hSw; (try dsimp only at hSw); go_simp; try with_reducible rfl)
          (try simp only [List.append_eq, List.cons_append, List.nil_append, List.getElem_toArray, List.getElem_cons_succ, List.getElem_cons_zero, Act.put, List.setIfInBounds_toArray, List.set_cons_zero, List.set_cons_succ])
          refine wpAnyH_ready (rs := [11]) (by kernel_rfl) (by simp) ?_
          refine AllReadyH.cons rfl (fun K hK => ?_) AllReadyH.nil
          go_simp
          (go_at_call 9; refine (allC S.out aC).mono ?_; rintro e w3 ⟨g3, rfl, o3, s3, b3⟩; have O3 := hid o3; have hS := HKS.out _ s3.bel; have S := hid s3; clear o3 s3 b3 hHeld)
          go_wp2_with fail
          refine hK.out _ _ (by first | assumption | trivial) (fun hHeld => ?_)
          clear hK K
          (try simp only [List.append_eq, List.cons_append, List.nil_append, List.getElem_toArray, List.getElem_cons_succ, List.getElem_cons_zero, Act.put, List.setIfInBounds_toArray, List.set_cons_zero, List.set_cons_succ])
          refine wpAnyH_ready (rs := [12]) (by kernel_rfl) (by simp) ?_
          refine AllReadyH.cons rfl (fun K hK => ?_) AllReadyH.nil
          go_simp
          (go_at_call 8; refine (HWR.out _ S.out g3 O3.out).mono ?_; rintro e w4 ⟨rfl, s4, k4⟩; have hS := HKS.out _ s4.bel; have S := hid s4; clear s4 k4 hHeld)
          go_wp2_with fail
          refine hK.out _ _ (by first | assumption | trivial) (fun hHeld => ?_)
          clear hK K
          (try simp only [List.append_eq, List.cons_append, List.nil_append, List.getElem_toArray, List.getElem_cons_succ, List.getElem_cons_zero, Act.put, List.setIfInBounds_toArray, List.set_cons_zero, List.set_cons_succ])
          refine wpAnyH_take (i := 13) (v := ?_) rfl (by kernel_rfl) (by kernel_rfl) (by kernel_rfl) (fun _ _ _ h => h) (Or.inl ⟨by kernel_rfl, ?_⟩) (by first | assumption | trivial) ?_
          rotate_left
          · (intro wS hSw; (try dsimp only at hSw); go_simp; try with_reducible rfl)
          (try simp only [List.append_eq, List.cons_append, List.nil_append, List.getElem_toArray, List.getElem_cons_succ, List.getElem_cons_zero, Act.put, List.setIfInBounds_toArray, List.set_cons_zero, List.set_cons_succ])
          refine wpAnyH_take (i := 14) (v := ?_) rfl (by kernel_rfl) (by kernel_rfl) (by kernel_rfl) (fun _ _ _ h => h) (Or.inl ⟨by kernel_rfl, ?_⟩) (by first | assumption | trivial) ?_
          rotate_left
          · (intro wS hSw; (try dsimp only at hSw); go_simp; try with_reducible rfl)
          (try simp only [List.append_eq, List.cons_append, List.nil_append, List.getElem_toArray, List.getElem_cons_succ, List.getElem_cons_zero, Act.put, List.setIfInBounds_toArray, List.set_cons_zero, List.set_cons_succ])
          refine wpAnyH_take (i := 15) (v := undef) rfl (by kernel_rfl) (by kernel_rfl) (by kernel_rfl) (fun _ _ _ h => h) (Or.inr ⟨by kernel_rfl, rfl⟩) (by first | assumption | trivial) ?_
          (try simp only [List.append_eq, List.cons_append, List.nil_append, List.getElem_toArray, List.getElem_cons_succ, List.getElem_cons_zero, Act.put, List.setIfInBounds_toArray, List.set_cons_zero, List.set_cons_succ])
          refine wpAnyH_take (i := 16) (v := undef) rfl (by kernel_rfl) (by kernel_rfl) (by kernel_rfl) (fun _ _ _ h => h) (Or.inr ⟨by kernel_rfl, rfl⟩) (by first | assumption | trivial) ?_
          (try simp only [List.append_eq, List.cons_append, List.nil_append, List.getElem_toArray, List.getElem_cons_succ, List.getElem_cons_zero, Act.put, List.setIfInBounds_toArray, List.set_cons_zero, List.set_cons_succ])
          refine wpAnyH_take (i := 17) (v := undef) rfl (by kernel_rfl) (by kernel_rfl) (by kernel_rfl) (fun _ _ _ h => h) (Or.inr ⟨by kernel_rfl, rfl⟩) (by first | assumption | trivial) ?_
          (try simp only [List.append_eq, List.cons_append, List.nil_append, List.getElem_toArray, List.getElem_cons_succ, List.getElem_cons_zero, Act.put, List.setIfInBounds_toArray, List.set_cons_zero, List.set_cons_succ])
          refine wpAnyH_take (i := 18) (v := undef) rfl (by kernel_rfl) (by kernel_rfl) (by kernel_rfl) (fun _ _ _ h => h) (Or.inr ⟨by kernel_rfl, rfl⟩) (by first | assumption | trivial) ?_
          (try simp only [List.append_eq, List.cons_append, List.nil_append, List.getElem_toArray, List.getElem_cons_succ, List.getElem_cons_zero, Act.put, List.setIfInBounds_toArray, List.set_cons_zero, List.set_cons_succ])
          refine wpAnyH_take (i := 19) (v := undef) rfl (by kernel_rfl) (by kernel_rfl) (by kernel_rfl) (fun _ _ _ h => h) (Or.inr ⟨by kernel_rfl, rfl⟩) (by first | assumption | trivial) ?_
          (try simp only [List.append_eq, List.cons_append, List.nil_append, List.getElem_toArray, List.getElem_cons_succ, List.getElem_cons_zero, Act.put, List.setIfInBounds_toArray, List.set_cons_zero, List.set_cons_succ])
          refine wpAnyH_take (i := 20) (v := undef) rfl (by kernel_rfl) (by kernel_rfl) (by kernel_rfl) (fun _ _ _ h => h) (Or.inr ⟨by kernel_rfl, rfl⟩) (by first | assumption | trivial) ?_
          (try simp only [List.append_eq, List.cons_append, List.nil_append, List.getElem_toArray, List.getElem_cons_succ, List.getElem_cons_zero, Act.put, List.setIfInBounds_toArray, List.set_cons_zero, List.set_cons_succ])
          refine wpAnyH_take (i := 21) (v := undef) rfl (by kernel_rfl) (by kernel_rfl) (by kernel_rfl) (fun _ _ _ h => h) (Or.inr ⟨by kernel_rfl, rfl⟩) (by first | assumption | trivial) ?_
          (try simp only [List.append_eq, List.cons_append, List.nil_append, List.getElem_toArray, List.getElem_cons_succ, List.getElem_cons_zero, Act.put, List.setIfInBounds_toArray, List.set_cons_zero, List.set_cons_succ])
          refine wpAnyH_take (i := 22) (v := ?_) rfl (by kernel_rfl) (by kernel_rfl) (by kernel_rfl) (fun _ _ _ h => h) (Or.inl ⟨by kernel_rfl, ?_⟩) (by first | assumption | trivial) ?_
          rotate_left
          · (intro wS hSw; (try dsimp only at hSw); go_simp; try with_reducible rfl)
          (try simp only [List.append_eq, List.cons_append, List.nil_append, List.getElem_toArray, List.getElem_cons_succ, List.getElem_cons_zero, Act.put, List.setIfInBounds_toArray, List.set_cons_zero, List.set_cons_succ])
          refine wpAnyH_done (by kernel_rfl) ?_ _
          refine NoPanic.normal ?_
          go_upto_region 14 with fail
          obtain ⟨D', hD'⟩ : ∃ D', D = D' := ⟨_, rfl⟩
          rw [hD'] at S hF' ⊢
          have hF := hF'
          clear hF'
          have HRD := hid (fun (W : World) (k : St w W d hb D') => read_good (s := readD D' q) k q (by rw [hF.has]; exact hq4) hF.off (by have := hF.w; omega) rfl)
          have hrl : (readD D' q).length = 128 := readD_len S.out q (by rw [hF.has]; exact hq4)
          have HF := hid hF
          have HRL := hid hrl
          obtain ⟨r, hr⟩ : ∃ r, readD D' q = r := ⟨_, rfl⟩
          rw [hr] at HRD HRL ⊢
          have HR := hid hr
          have hss := str_ne (rfl : r = r)
          clear hF hrl hr
          go_wp2_with (go_at_call 11; (with_reducible refine (HRD.out _ S.out).mono ?_); rintro e w6 ⟨g6, rfl, q6, s6, b6⟩; have S := hid s6; have c6 := strS q6.own HRL.out; clear s6 q6 b6)
          go_roundw
          case rel => exact ⟨j + 1, D', by omega, by go_num, by rw [HR.out], hid ⟨S.out, HF.out⟩⟩
          case measure => simp [intOf]; omega
    · have hdd : decide ((j : Int) < (n : Int)) = false ∨ decide ((j : Int) < 40) = false := by
        by_cases h1 : j < n
        · exact .inr (by simp; omega)
        · exact .inl (by simp; omega)
      have S := hid hI.out.1
      clear hI
      rcases hdd with d1 | d1
      · have d1' : decide (j < n) = false := by simpa using d1
        go_wp2_with (go_at_call 14; (with_reducible refine (awake_any _).mono ?_); rintro e w7 ⟨rfl, b7⟩; have HB := hid (S.out.below b7).bel; clear b7)
        go_ret
        exact ⟨rfl, HB.out⟩
      · have d0 : decide ((j : Int) < (n : Int)) = true ∨ decide ((j : Int) < (n : Int)) = false := by cases decide ((j : Int) < (n : Int)) <;> simp
        rcases d0 with d0 | d0
        all_goals
          have d0' : decide (j < n) = decide ((j : Int) < (n : Int)) := by simp
          rw [d0] at d0'
          go_wp2_with (go_at_call 14; (with_reducible refine (awake_any _).mono ?_); rintro e w7 ⟨rfl, b7⟩; have HB := hid (S.out.below b7).bel; clear b7)
          go_ret
          exact ⟨rfl, HB.out⟩
theorem u8_of (k : Nat) (hk : (k : Int) ≤ IntKind.u8.max) : Value.int .u8 (k : Int) = B8 (UInt8.ofNat k) := by
  have h : k < 256 := by
    have : IntKind.u8.max = 255 := by decide
    omega
  unfold B8
  rw [UInt8.toNat_ofNat', Nat.mod_eq_of_lt (by simpa using h)]
theorem walkDiskReads (s : SlOf ActV) (k : Nat) (w : World) (hs : s.Ok actC (fun a => in64 a.1 ∧ in64 a.2.1 ∧ True ∧ True ∧ a.2.2.2.2.Ok (fun b : Bool => [.bool b]) (fun _ => True) w) w) (hk : (k : Int) ≤ IntKind.u8.max) :
    Calls Try.prog 4 #[s.val, .int .u8 (k : Int)] w fun e w' => e = .returned (.bool true) ∧ Below w.heap.size w w' := by
  rw [u8_of k hk]
  exact readsU s (UInt8.ofNat k) w hs
end Go.Proofs.Ytkadehdbnkinlaa
