/-
  JournalSettles: the walk. A part of the proof: see the head of the text that ends in 'Law'.
-/
import Derived.Test.YtpppmijohfjigaaJn30
namespace Go.Proofs.Ytpppmijohfjigaa
open Go.RowKit
set_option linter.unusedVariables false
set_option linter.unusedSimpArgs false
set_option maxRecDepth 100000
attribute [local go_sem] Oper.semAt_some

theorem hd_is {w : World} {l : List Iss} {e : Ending} {w' : World} (h : HdPost w l e w') (hm : mayJ l 2048 = true) : ∃ g, e = .returned (.tuple #[.slice (some ⟨g, 0, none⟩) 128 128, .int .i64 0]) ∧ OwnE w' g 5 ((headL l).map B8) ∧ w.heap.size ≤ g ∧ Below w.heap.size w w' := by
  obtain ⟨b, ⟨k, -⟩ | ⟨-, g, h1, h2, h3⟩⟩ := h
  · rw [hm] at k; cases k
  · exact ⟨g, h1, h2, h3, b⟩
theorem cntP_le (p : Nat → Bool) : ∀ k, cntP p k ≤ k
  | 0 => Nat.le_refl _
  | k + 1 => by have := cntP_le p k; unfold cntP; split <;> omega
theorem str_same2 (a : List UInt8) : (str a == str a) = true := str_self a
/-- A transaction laid on a disk, and its head. -/
structure SetW (w W : World) (d hb : Nat) (B : Option Addr) (m : Nat) (us : List PuV) (g : Nat) (hd : List UInt8) (D : Dsk) : Prop where
  st : St w W d hb D
  p : PutsT W B m us
  o : OwnE W g 5 (hd.map B8)
theorem SetW.lets {w W w' : World} {d hb m g : Nat} {B : Option Addr} {us : List PuV} {hd : List UInt8} {D D' : Dsk} (h : SetW w W d hb B m us g hd D) (s : St w w' d hb D') (k : Lets d hb W w') : SetW w w' d hb B m us g hd D' := ⟨s, h.p.lets h.st k, h.o.lets_ty h.st k (by decide) (by decide) (by decide)⟩
set_option maxHeartbeats 16000000 in
theorem settles_walk (A : Option Addr) (n c : Nat) (as_ : List ActV) (w : World) (h : ActsIn w A n as_) :
    Calls Try.prog 5 #[.slice A n c] w fun e w' => e = .returned (.bool true) ∧ Below w.heap.size w w' := by
  have F := hid h
  have HMD : Hid (Calls Try.prog 12 #[.int .i64 50] w fun e w' => ∃ d hb, e = .returned (.pointer (some ⟨d, 0, none⟩)) ∧ St w w' d hb (madeD 50)) := hid (made_any 50 (by omega) (by omega) w)
  clear h
  go_enter Try.func5, Try.ntmps5
  go_wp2_with (go_at_call 12; (with_reducible refine HMD.out.mono ?_); rintro e w1 ⟨d, hb, rfl, s1⟩; have S0 := hid s1; clear s1)
  clear HMD
  go_loopw [4, 5, 6, 7, 8] (fun i a5 a6 a7 a8 wr => ∃ (j : Nat) (D : Dsk), j ≤ 20 ∧ i = .int .i64 (j : Int) ∧ Hid (St w wr d hb D ∧ Fre 50 (41 * j) D)) (fun i a5 a6 a7 a8 wr => 20 - (intOf i).toNat)
  case atStart => exact ⟨0, madeD 50, by omega, rfl, hid ⟨S0.out, fre_made 50 (by omega)⟩⟩
  case round =>
    clear S0
    obtain ⟨j, D, hj, rfl, hI⟩ := hrel
    rename World => wr
    have S := hid hI.out.1
    have FR := hid hI.out.2
    clear hI
    by_cases hlt : j < n ∧ j < 20
    · have q1 : decide ((j : Int) < (n : Int)) = true := by simp; omega
      have q2 : decide ((j : Int) < 20) = true := by simp; omega
      have q1' : decide (j < n) = true := by simp; omega
      have q2' : decide (j < 20) = true := by simp; omega
      have i0 : (0 : Int) ≤ (j : Int) := by omega
      have i1 : (j : Int) < (n : Int) := by omega
      have i2 : (j : Int).toNat = j := by omega
      have hja : j < as_.length := by rw [F.out.len]; exact hlt.1
      obtain ⟨ab, ao, rfl, hac⟩ := act_at F.out.row hja
      have hc := hac j hja
      obtain ⟨a, ha⟩ : ∃ a, as_[j]'hja = a := ⟨_, rfl⟩
      have ham : a ∈ as_ := ha ▸ List.getElem_mem _
      rw [ha] at hc
      have hp := F.out.puts a ham
      obtain ⟨aD, aI, aC, pA, pn, pc, vs, KA, kn, kc, ks⟩ := a
      dsimp only at hc hp
      have HC := hid hc
      have HFW := hid (fun (X : World) (b : Below w.heap.size w X) => few_any pA pn pc vs X (hp.1.below b) hp.2)
      obtain ⟨l, hl⟩ : ∃ l, fewI (vs.map PuV.p) = l := ⟨_, rfl⟩
      rw [hl] at HFW
      clear hl hp ham ha hc hac hja
      have x0 := cells_keep S.out.bel HC.out.1
      have x3 := cells_keep S.out.bel HC.out.2.2.2.1
      go_upto_region 7 with fail
      go_cut [50] from 26 to 95 (fun t wx => ∃ b : Bool, t = .bool b ∧ Hid (St w wx d hb D ∧ (b = true → mayJ l 50 = true)))
      case first =>
        by_cases hdo : aD = 0
        · have e0 : (aD == 0) = true := by simpa using hdo
          obtain ⟨r, hr⟩ : ∃ r, mayJ l 50 = r := ⟨_, rfl⟩
          have HMY := hid (fun (X : World) (B : Option Addr) (m c1 : Nat) (us : List PuV) (hm : m ≤ 42) (hp : PutsT X B m us) (he : us.map PuV.p = l) => (by have := rmay_any B m c1 us 50 X hp.puts (by omega); rw [he, hr] at this; exact this : Calls Try.prog 9 #[.slice B m c1, .int .i64 50] X fun e w' => e = .returned (.bool r) ∧ Below X.heap.size X w'))
          have HR := hid hr
          clear hr hdo
          go_wp2_with first
            | (go_at_call 7; (with_reducible refine (HFW.out _ S.out.bel).mono ?_); rintro e w2 ⟨b2, B, m, c1, us, rfl, hm, p2, l2, f2⟩; have P := hid p2; have L := hid l2; have S := hid (S.out.below b2); clear b2 p2 l2)
            | (go_at_call 9; (with_reducible refine (HMY.out _ _ _ _ us hm P.out L.out).mono ?_); rintro e w3 ⟨rfl, b3⟩; have S := hid (S.out.below b3); clear b3)
          go_meet
          exact ⟨r, rfl, hid ⟨S.out, fun e => HR.out.trans e⟩⟩
        · have e0 : (aD == 0) = false := by simpa using hdo
          go_wp2_with fail
          go_meet
          exact ⟨false, rfl, hid ⟨S.out, fun e => by cases e⟩⟩
      case rest =>
      obtain ⟨b, rfl, hT⟩ := hcut
      rename World => w3
      clear x0 x3 S
      have S := hid hT.out.1
      have HM := hid hT.out.2
      clear hT
      cases b with
      | true =>
        have hmy := HM.out rfl
        have hMJ := mayJ_true hmy
        have HMJ := hid hMJ
        have h20 := mayJ_2048 l 50 (by omega) hmy
        have H20 := hid h20
        have hHL := headL_len l hMJ.l40
        have HHL := hid hHL
        obtain ⟨hd, hhd⟩ : ∃ hd, headL l = hd := ⟨_, rfl⟩
        have HHD := hid hhd
        rw [hhd] at HHL
        have x3 := cells_keep S.out.bel HC.out.2.2.2.1
        clear HM hmy hMJ h20 hHL hhd
        go_upto_region 9 with (go_at_call 7; (with_reducible refine (HFW.out _ S.out.bel).mono ?_); rintro e w4 ⟨b4, B, m, c1, us, rfl, hm, p4, l4, f4⟩; have P := hid p4; have L := hid l4; have S := hid (S.out.below b4); clear b4 p4 l4)
        have HHEAD := hid (head_any B m c1 us w4 P.out.puts (by omega))
        rw [L.out] at HHEAD
        clear x3 HFW
        have hml : l.length = m := by rw [← L.out, List.length_map]; exact P.out.len
        have hm40 : m ≤ 40 := by rw [← hml]; exact HMJ.out.l40
        go_upto_region 10 with (go_at_call 8; (with_reducible refine HHEAD.out.mono ?_); intro e w5 hP; have hq := hd_is hP H20.out; obtain ⟨g, rfl, og, hg, b5⟩ := hq; rw [HHD.out] at og; have hgd := S.out.dl; have hgh := S.out.hbl; have T0 := hid (⟨S.out.below b5, P.out.below b5, og⟩ : SetW w w5 d hb B m us g hd D); clear b5 og hP S P)
        have HG : Hid (g ≠ d ∧ g ≠ hb) := hid ⟨by omega, by omega⟩
        clear HHEAD hg hgd hgh H20 HHD
        go_wp2_with fail
        go_loopw [8] (fun k wr => ∃ (k0 : Nat) (D2 : Dsk), k0 ≤ m ∧ k = .int .i64 (k0 : Int) ∧ Hid (SetW w wr d hb B m us g hd D2 ∧ Fre 50 (41 * j + k0) D2)) (fun k wr => m - (intOf k).toNat)
        case atStart => exact ⟨0, D, Nat.zero_le _, rfl, hid ⟨T0.out, FR.out⟩⟩
        case round =>
          clear T0 FR
          obtain ⟨k0, D2, hk0, rfl, hI⟩ := hrel
          rename World => wr
          have T := hid hI.out.1
          have FR := hid hI.out.2
          clear hI
          by_cases hkl : k0 < m
          · have z1 := lt_t hkl
            have z1' := lt_nt hkl
            have p0 : (0 : Int) ≤ (k0 : Int) := by omega
            have p1 : (k0 : Int) < (m : Int) := by omega
            have p2 : (k0 : Int).toNat = k0 := by omega
            have jw : IntKind.i64.wrap ((1 : Int) + (k0 : Int)) = 1 + (k0 : Int) := by rw [IntKind.wrap_i64]; omega
            have hP := T.out.p
            have hku : k0 < us.length := by rw [hP.len]; exact hkl
            obtain ⟨pb, po, rfl, hpc⟩ := pu_at hP.puts.row hku
            have y1 := (hpc k0 hku).2
            obtain ⟨pv, hpv⟩ : ∃ pv, us[k0]'hku = pv := ⟨_, rfl⟩
            have hpm : pv ∈ us := hpv ▸ List.getElem_mem _
            rw [hpv] at y1
            have ho := (hP.putsD T.out.st).oct pv hpm
            have hcp := hP.cap pv hpm
            have hll : pv.p ∈ l := by rw [← L.out]; exact List.mem_map.2 ⟨pv, hpm, rfl⟩
            have h128 : pv.l.length = 128 := (HMJ.out.one _ hll).2.2
            have hn128 : pv.n = 128 := (hP.ol pv hpm).symm.trans h128
            obtain ⟨at_, qA, qn, qc, ql⟩ := pv
            dsimp only at y1 ho hcp h128 hn128
            subst hn128
            have HWR := hid (write_d T.out.st (1 + (k0 : Int)) qA qc ql ho hcp (by have := FR.out.w; omega))
            have FR2 := hid (FR.out.write (1 + (k0 : Int)) ql)
            clear hP hku hpc hpv hpm ho hcp hll h128 FR
            go_wp2_with (go_at_call 19; (with_reducible refine HWR.out.mono ?_); rintro e w6 ⟨rfl, s6, k6⟩; have T := hid (T.out.lets s6 k6); clear s6 k6)
            go_roundw
            case rel => exact ⟨k0 + 1, _, by omega, by go_num, hid ⟨T.out, FR2.out⟩⟩
            case measure => simp [intOf]; omega
          · have z1 := lt_f hkl
            have z1' := lt_nf hkl
            have ho : OctD d hb wr (some ⟨g, 0, none⟩) 128 hd := by have := OctD.of_own T.out.o HG.out.1 HG.out.2 ⟨by decide, by decide⟩; rw [HHL.out] at this; exact this
            have HWR := hid (write_d T.out.st 0 (some ⟨g, 0, none⟩) 128 hd ho (Nat.le_refl _) (by have := FR.out.w; omega))
            have FR2 := hid ((FR.out.write 0 hd).mono (show 41 * j + k0 + 1 ≤ 41 * (j + 1) by omega))
            clear ho
            go_wp2_with (go_at_call 19; (with_reducible refine HWR.out.mono ?_); rintro e w6 ⟨rfl, s6, k6⟩; have S := hid s6; clear s6 k6)
            go_roundw
            case rel => exact ⟨j + 1, _, by omega, by go_num, hid ⟨S.out, FR2.out⟩⟩
            case measure => simp [intOf]; omega
      | false =>
        clear HM HFW
        have FR2 := hid ((FR.out.write aI (secA aC)).mono (show 41 * j + 1 ≤ 41 * (j + 1) by omega))
        have HWR := hid (fun (X : World) (k : St w X d hb D) (g : Nat) (o : OwnC X g 5 ((secA aC).map B8)) => write_st k aI g (secA aC) (secA_len aC) o (by have := FR.out.w; omega))
        have hKS : ∀ X, Below w.heap.size w X → (X.cell? ⟨ab, ao + j * 5 + 1, none⟩ = some (.int .i64 aI) ∧ X.cell? ⟨ab, ao + j * 5 + 2, none⟩ = some (B8 aC)) := fun X hX => ⟨cells_keep hX HC.out.2.1, cells_keep hX HC.out.2.2.1⟩
        have HKS := hid hKS
        clear hKS
        go_upto_region 16 with fail
        have S := hid S.out.drew
        have hS := HKS.out _ S.out.bel
        refine wp_region_noPanic ?_
        refine wp_region_held_drew (S := (fun X => X.cell? ⟨ab, ao + j * 5 + 1, none⟩ = some (.int .i64 aI) ∧ X.cell? ⟨ab, ao + j * 5 + 2, none⟩ = some (B8 aC))) (by kernel_rfl) (by first | assumption | trivial) (fun hHeld => ?_)
        refine wpAnyH_take (i := 0) (v := ?_) rfl (by kernel_rfl) (by kernel_rfl) (by kernel_rfl) (fun _ _ _ h => h) (Or.inl ⟨by kernel_rfl, ?_⟩) (by first | assumption | trivial) ?_
        rotate_left
        · (intro wS hSw; (try dsimp only at hSw); go_simp; try with_reducible rfl)
        (try simp only [List.append_eq, List.cons_append, List.nil_append, List.getElem_toArray, List.getElem_cons_succ, List.getElem_cons_zero, Act.put, List.setIfInBounds_toArray, List.set_cons_zero, List.set_cons_succ])
        refine wpAnyH_take (i := 1) (v := ?_) rfl (by kernel_rfl) (by kernel_rfl) (by kernel_rfl) (fun _ _ _ h => h) (Or.inl ⟨by kernel_rfl, ?_⟩) (by first | assumption | trivial) ?_
        rotate_left
        · (intro wS hSw; (try dsimp only at hSw); go_simp; try with_reducible rfl)
        (try simp only [List.append_eq, List.cons_append, List.nil_append, List.getElem_toArray, List.getElem_cons_succ, List.getElem_cons_zero, Act.put, List.setIfInBounds_toArray, List.set_cons_zero, List.set_cons_succ])
        refine wpAnyH_take (i := 2) (v := ?_) rfl (by kernel_rfl) (by kernel_rfl) (by kernel_rfl) (fun _ _ _ h => h) (Or.inl ⟨by kernel_rfl, ?_⟩) (by first | assumption | trivial) ?_
        rotate_left
        · (intro wS hSw; (try dsimp only at hSw); go_simp; try with_reducible rfl)
        (try simp only [List.append_eq, List.cons_append, List.nil_append, List.getElem_toArray, List.getElem_cons_succ, List.getElem_cons_zero, Act.put, List.setIfInBounds_toArray, List.set_cons_zero, List.set_cons_succ])
        refine wpAnyH_take (i := 3) (v := ?_) rfl (by kernel_rfl) (by kernel_rfl) (by kernel_rfl) (fun _ _ _ h => h) (Or.inl ⟨by kernel_rfl, ?_⟩) (by first | assumption | trivial) ?_
        rotate_left
        · (intro wS hSw; (try dsimp only at hSw); go_simp; try with_reducible rfl)
        (try simp only [List.append_eq, List.cons_append, List.nil_append, List.getElem_toArray, List.getElem_cons_succ, List.getElem_cons_zero, Act.put, List.setIfInBounds_toArray, List.set_cons_zero, List.set_cons_succ])
        refine wpAnyH_take (i := 4) (v := ?_) rfl (by kernel_rfl) (by kernel_rfl) (by kernel_rfl) (fun _ _ _ h => h) (Or.inl ⟨by kernel_rfl, ?_⟩) (by first | assumption | trivial) ?_
        rotate_left
        · (intro wS hSw; (try dsimp only at hSw); go_simp; try with_reducible rfl)
        (try simp only [List.append_eq, List.cons_append, List.nil_append, List.getElem_toArray, List.getElem_cons_succ, List.getElem_cons_zero, Act.put, List.setIfInBounds_toArray, List.set_cons_zero, List.set_cons_succ])
        refine wpAnyH_take (i := 5) (v := ?_) rfl (by kernel_rfl) (by kernel_rfl) (by kernel_rfl) (fun _ _ _ h => h) (Or.inl ⟨by kernel_rfl, ?_⟩) (by first | assumption | trivial) ?_
        rotate_left
        · (intro wS hSw; (try dsimp only at hSw); go_simp; try with_reducible rfl)
        (try simp only [List.append_eq, List.cons_append, List.nil_append, List.getElem_toArray, List.getElem_cons_succ, List.getElem_cons_zero, Act.put, List.setIfInBounds_toArray, List.set_cons_zero, List.set_cons_succ])
        refine wpAnyH_take (i := 6) (v := ?_) rfl (by kernel_rfl) (by kernel_rfl) (by kernel_rfl) (fun _ _ _ h => h) (Or.inl ⟨by kernel_rfl, ?_⟩) (by first | assumption | trivial) ?_
        rotate_left
        · (intro wS hSw; (try dsimp only at hSw); go_simp; try with_reducible rfl)
        (try simp only [List.append_eq, List.cons_append, List.nil_append, List.getElem_toArray, List.getElem_cons_succ, List.getElem_cons_zero, Act.put, List.setIfInBounds_toArray, List.set_cons_zero, List.set_cons_succ])
        refine wpAnyH_take (i := 7) (v := ?_) rfl (by kernel_rfl) (by kernel_rfl) (by kernel_rfl) (fun _ _ _ h => h) (Or.inl ⟨by kernel_rfl, ?_⟩) (by first | assumption | trivial) ?_
        rotate_left
        · (intro wS hSw; (try dsimp only at hSw); go_simp; try with_reducible rfl)
        (try simp only [List.append_eq, List.cons_append, List.nil_append, List.getElem_toArray, List.getElem_cons_succ, List.getElem_cons_zero, Act.put, List.setIfInBounds_toArray, List.set_cons_zero, List.set_cons_succ])
        refine wpAnyH_take (i := 8) (v := ?_) rfl (by kernel_rfl) (by kernel_rfl) (by kernel_rfl) (fun _ _ _ h => h) (Or.inl ⟨by kernel_rfl, ?_⟩) (by first | assumption | trivial) ?_
        rotate_left
        · (intro wS hSw; (try dsimp only at hSw); go_simp; try with_reducible rfl)
        (try simp only [List.append_eq, List.cons_append, List.nil_append, List.getElem_toArray, List.getElem_cons_succ, List.getElem_cons_zero, Act.put, List.setIfInBounds_toArray, List.set_cons_zero, List.set_cons_succ])
        refine wpAnyH_take (i := 9) (v := ?_) rfl (by kernel_rfl) (by kernel_rfl) (by kernel_rfl) (fun _ _ _ h => h) (Or.inl ⟨by kernel_rfl, ?_⟩) (by first | assumption | trivial) ?_
        rotate_left
        · (intro wS hSw; (try dsimp only at hSw); go_simp; try with_reducible rfl)
        (try simp only [List.append_eq, List.cons_append, List.nil_append, List.getElem_toArray, List.getElem_cons_succ, List.getElem_cons_zero, Act.put, List.setIfInBounds_toArray, List.set_cons_zero, List.set_cons_succ])
        refine wpAnyH_take (i := 10) (v := ?_) rfl (by kernel_rfl) (by kernel_rfl) (by kernel_rfl) (fun _ _ _ h => h) (Or.inl ⟨by kernel_rfl, ?_⟩) (by first | assumption | trivial) ?_
        rotate_left
        · (intro wS hSw; (try dsimp only at hSw); go_simp; try with_reducible rfl)
        (try simp only [List.append_eq, List.cons_append, List.nil_append, List.getElem_toArray, List.getElem_cons_succ, List.getElem_cons_zero, Act.put, List.setIfInBounds_toArray, List.set_cons_zero, List.set_cons_succ])
        refine wpAnyH_ready (rs := [11]) (by kernel_rfl) (by simp) ?_
        refine AllReadyH.cons rfl (fun K hK => ?_) AllReadyH.nil
        go_simp
        (go_at_call 20; refine (allC S.out aC).mono ?_; rintro e w4 ⟨g4, rfl, o4, s4, b4⟩; have O4 := hid o4; have hS := HKS.out _ s4.bel; have S := hid s4; clear o4 s4 b4 hHeld)
        go_wp2_with fail
        refine hK.out _ _ (by first | assumption | trivial) (fun hHeld => ?_)
        clear hK K
        (try simp only [List.append_eq, List.cons_append, List.nil_append, List.getElem_toArray, List.getElem_cons_succ, List.getElem_cons_zero, Act.put, List.setIfInBounds_toArray, List.set_cons_zero, List.set_cons_succ])
        refine wpAnyH_ready (rs := [12]) (by kernel_rfl) (by simp) ?_
        refine AllReadyH.cons rfl (fun K hK => ?_) AllReadyH.nil
        go_simp
        (go_at_call 19; refine (HWR.out _ S.out g4 O4.out).mono ?_; rintro e w5 ⟨rfl, s5, k5⟩; have hS := HKS.out _ s5.bel; have S := hid s5; clear s5 k5 hHeld)
        go_wp2_with fail
        refine hK.out _ _ (by first | assumption | trivial) (fun hHeld => ?_)
        clear hK K
        (try simp only [List.append_eq, List.cons_append, List.nil_append, List.getElem_toArray, List.getElem_cons_succ, List.getElem_cons_zero, Act.put, List.setIfInBounds_toArray, List.set_cons_zero, List.set_cons_succ])
        refine wpAnyH_done (by kernel_rfl) ?_ _
        refine NoPanic.normal ?_
        go_wp2_with fail
        go_roundw
        case rel => exact ⟨j + 1, _, by omega, by go_num, hid ⟨S.out, FR2.out⟩⟩
        case measure => simp [intOf]; omega
    · have hdd : decide ((j : Int) < (n : Int)) = false ∨ (decide ((j : Int) < (n : Int)) = true ∧ decide ((j : Int) < 20) = false) := by
        by_cases h1 : j < n
        · exact .inr ⟨by simp; omega, by simp; omega⟩
        · exact .inl (by simp; omega)
      clear hlt
      go_upto_region 5 with fail
      go_cut [26, 27, 28, 29, 30, 31, 32, 33] from 26 to 33 (fun a b c0 e f g h t wx => t = .bool false ∧ wr = wx)
      case first =>
        rcases hdd with q1 | ⟨q1, q2⟩
        · have q1' : decide (j < n) = false := by simpa using q1
          go_wp2_with fail
          go_meet
          exact ⟨rfl, rfl⟩
        · have q1' : decide (j < n) = true := by simpa using q1
          go_wp2_with fail
          go_meet
          exact ⟨rfl, rfl⟩
      case rest =>
      obtain ⟨rfl, hw9⟩ := hcut
      subst hw9
      clear hdd F
      obtain ⟨D6, hD6⟩ : ∃ D6, (flushD D).1 = D6 := ⟨_, rfl⟩
      have hfr := FR.out.flush
      rw [hD6] at hfr
      have FQ := hid hfr.1
      have HW := hid hfr.2
      have HFL := hid (fun (X : World) (k : St w X d hb D) => (by have := flush_st k (by have := FR.out.w; omega); rw [hD6] at this; exact this : Calls Try.prog 21 #[.pointer (some ⟨d, 0, none⟩)] X fun e w' => e = .returned (.int .i64 ((flushD D).2 : Int)) ∧ St w w' d hb D6 ∧ Lets d hb X w'))
      obtain ⟨h0, hh0⟩ : ∃ h0, D6.has = h0 := ⟨_, rfl⟩
      have HH := hid hh0
      have HLN : Hid (h0.length = 50) := hid (by rw [← hh0]; exact hfr.1.len)
      obtain ⟨h1, hh1⟩ : ∃ h1, h0.drop 41 = h1 := ⟨_, rfl⟩
      have HL1 : Hid (h1.length = 9) := hid (by rw [← hh1, List.length_drop, HLN.out])
      have HG1 : Hid (∀ k, h1.getD k [] = h0.getD (41 + k) []) := hid (fun k => by rw [← hh1, List.getD_eq_getElem?_getD, List.getD_eq_getElem?_getD, List.getElem?_drop])
      clear hD6 hfr hh0 hh1 FR
      go_wp2_with (go_at_call 21; (with_reducible refine (HFL.out _ S.out).mono ?_); rintro e w2 ⟨rfl, s2, k2⟩; have S2 := hid s2; clear s2 k2)
      clear HFL S
      have R0 := hid (World.ownsRow_nil w2 w.heap.size 9 1)
      go_loopw [9, 10, 11, 12] (fun ws i b f wr => ∃ (k p c9 : Nat) (A9 : Option Addr), k ≤ 9 ∧ p = 41 + k ∧ i = .int .i64 (p : Int) ∧ ws = .slice A9 k c9 ∧ Hid (St w wr d hb D6 ∧ wr.ownsRow w.heap.size 9 1 (.slice A9 k c9) k ((h1.take k).map SV2))) (fun ws i b f wr => 50 - (intOf i).toNat)
      case atStart => exact ⟨0, 41, 0, none, by omega, rfl, rfl, rfl, hid ⟨S2.out, R0.out⟩⟩
      case round =>
        clear S2 R0
        obtain ⟨k, p, c9, A9, hk, hp, rfl, rfl, hI⟩ := hrel
        rename World => wr
        have S := hid hI.out.1
        have R := hid hI.out.2
        have HP := hid hp
        clear hI
        by_cases hlt : p < 50
        · have q1 : decide ((p : Int) < 50) = true := by simp; omega
          have q1' : decide (p < 50) = true := by simp; omega
          have hk9 : k < 9 := by omega
          obtain ⟨v, hv⟩ : ∃ v, h1.getD k [] = v := ⟨_, rfl⟩
          have hv2 : D6.has.getD p [] = v := by rw [HH.out, hp, ← HG1.out, hv]
          have HRD := hid (fun (X : World) (t : St w X d hb D6) => (by have := read_st t p (by rw [FQ.out.len]; exact hlt) FQ.out.off (by rw [HW.out]; exact Nat.zero_le _); rw [read_q HW.out, hv2] at this; exact this : Calls Try.prog 14 #[.pointer (some ⟨d, 0, none⟩), .int .i64 (p : Int)] X fun e w' => ∃ g, e = .returned (.tuple #[.slice (some ⟨g, 0, none⟩) 128 128, .int .i64 0]) ∧ OwnE w' g 99 (v.map B8) ∧ g ≠ hb ∧ St w w' d hb D6 ∧ Below X.heap.size X w'))
          have HVL : Hid (v.length = 128) := hid (by have := readD_len S.out p (by rw [FQ.out.len]; exact hlt); rw [read_q HW.out, hv2] at this; exact this)
          have HSV : Hid ((h1.take k).map SV2 ++ [SV2 v] = (h1.take (k + 1)).map SV2) := hid (by rw [← hv]; exact sv2_take h1 k (by rw [HL1.out]; exact hk9))
          clear hv hv2 hp
          go_wp2_with (first
            | (go_at_call 14; (with_reducible refine (HRD.out _ S.out).mono ?_); rintro e w6 ⟨g6, rfl, q6, -, -, b6⟩; have S := hid (S.out.below b6); have c6 := strS q6 HVL.out; have R := hid (own_below R.out b6); clear q6 b6)
            | (have hbA : Below w6.heap.size w6 (w6.alloc (.cells #[.string (str v)] 9)) := (Below.refl _ _).alloc (Nat.le_refl _) _
               have R := hid (own_below R.out hbA)
               have S := hid (S.out.below hbA)
               refine wpList_append_row _ rfl (.tmp 108) (.tmp 111) strT rfl w.heap.size (.slice A9 k c9) k ((h1.take k).map SV2) rfl R.out (some ⟨w6.heap.size, 0, none⟩) 1 1 [.string (str v)] rfl rfl (row_box _ _ rfl) (by simp [Value.oneCell']) (by simp only [maxLen]; omega) (by omega) S.out.bel.size ?_
               intro A8 c8 w8 ho8 hg8 hh8
               have S := hid (S.out.append R.out hg8)
               rw [show [Value.string (str v)] = [SV2 v] from rfl, HSV.out] at ho8
               have R := hid ho8
               clear ho8 hg8 hh8 hbA))
          go_roundw
          case rel => exact ⟨k + 1, p + 1, c8, A8, by omega, by rw [HP.out]; omega, by go_num, rfl, hid ⟨S.out, R.out⟩⟩
          case measure => simp [intOf]; omega
        · have q1 : decide ((p : Int) < 50) = false := by simp; omega
          have q1' : decide (p < 50) = false := by simp; omega
          obtain rfl : k = 9 := by omega
          have hr := R.out
          rw [List.take_of_length_le (by rw [HL1.out]; omega)] at hr
          have R := hid hr
          clear hr hlt hk
          have HA9 : Hid (∃ bs os, A9 = some ⟨bs, os, none⟩) := hid (by
            obtain ⟨b, o, e, -⟩ := Row.of_own R.out (by intro e; have := congrArg List.length e; rw [List.length_map, HL1.out] at this; cases this)
            exact ⟨b, o, e⟩)
          obtain ⟨he0, hw7, ho7, hl7, hz7, hag, hcnt⟩ := settles_run 50 D6 FQ.out.off HW.out FQ.out.bud FQ.out.len (by omega)
          obtain ⟨D7, hD7⟩ : ∃ D7, (recoverD D6).1 = D7 := ⟨_, rfl⟩
          rw [hD7] at hw7 ho7 hl7 hz7 hag hcnt
          obtain ⟨nn, hnn⟩ : ∃ nn, (recoverD D6).2.1 = nn := ⟨_, rfl⟩
          rw [hnn] at hcnt
          have HR1 := hid (fun (X : World) (t : St w X d hb D6) => recover_c t (by rw [HW.out]; exact Nat.zero_le _) hD7 (n := (nn : Int)) (by rw [hnn]) (m := 0) (by rw [he0]; rfl))
          have HR2 := hid (fun (X : World) (t : St w X d hb D7) => recover_c t (by rw [hw7]; exact Nat.zero_le _) (R := D7) (n := 0) (m := 0) (by rw [hag]) (by rw [hag]; rfl) (by rw [hag]; rfl))
          have HHS := hid (fun (X : World) (t : St w X d hb D7) => (by have := has_st t 0 (by rw [hl7]; omega); rw [hz7] at this; exact this : Calls Try.prog 22 #[.pointer (some ⟨d, 0, none⟩), .int .i64 0] X fun e w' => ∃ g, e = .returned (.tuple #[.slice (some ⟨g, 0, none⟩) 128 128, .int .i64 0]) ∧ OwnE w' g 99 (zer.map B8) ∧ g ≠ hb ∧ St w w' d hb D7 ∧ Below X.heap.size X w'))
          obtain ⟨f, hf⟩ : ∃ f : Nat → Bool, (fun j => !(D7.has.getD (41 + j) [] == D6.has.getD (41 + j) [])) = f := ⟨_, rfl⟩
          rw [hf] at hcnt
          have HCN := hid (hcnt 9 (by omega))
          have HF := hid (fun j => (congrFun hf j : (!(D7.has.getD (41 + j) [] == D6.has.getD (41 + j) [])) = f j))
          have H7W := hid hw7
          have H7O := hid ho7
          have H7L := hid hl7
          clear he0 hw7 ho7 hl7 hz7 hag hcnt hD7 hnn hf
          go_upto_region 25 with (go_at_call 18; (with_reducible refine (HR1.out _ S.out).mono ?_); rintro e w7 ⟨rfl, s7, k7⟩; have R7 := hid (own_lets S.out R.out k7); have S7 := hid s7; clear s7 k7 R S)
          clear HR1 q1 q1' HP hp
          go_wp2_with fail
          go_loopw [15, 16, 17, 18] (fun ch i b g wr => ∃ (k p : Nat), k ≤ 9 ∧ p = 41 + k ∧ i = .int .i64 (p : Int) ∧ ch = .int .i64 (cntP f k : Int) ∧ Hid (St w wr d hb D7 ∧ wr.ownsRow w.heap.size 9 1 (.slice A9 9 c9) 9 (h1.map SV2))) (fun ch i b g wr => 50 - (intOf i).toNat)
          case atStart => exact ⟨0, 41, by omega, rfl, rfl, rfl, hid ⟨S7.out, R7.out⟩⟩
          case round =>
            clear S7 R7
            obtain ⟨k, p, hk, hp, rfl, rfl, hI⟩ := hrel
            rename World => wr
            have S := hid hI.out.1
            have R := hid hI.out.2
            have HP := hid hp
            clear hI
            by_cases hlt : p < 50
            · have q1 : decide ((p : Int) < 50) = true := by simp; omega
              have q1' : decide (p < 50) = true := by simp; omega
              have hk9 : k < 9 := by omega
              obtain ⟨bs, os, hA9⟩ := HA9.out
              have hwc : ∀ (X : World), X.ownsRow w.heap.size 9 1 (.slice A9 9 c9) 9 (h1.map SV2) → X.cell? ⟨bs, os + k, none⟩ = some (.string (str (h1.getD k []))) := fun X hX => by rw [hA9] at hX; exact was_cell hX (by rw [HL1.out]; exact hk9)
              obtain ⟨v, hv⟩ : ∃ v, D7.has.getD p [] = v := ⟨_, rfl⟩
              obtain ⟨u, hu⟩ : ∃ u, h1.getD k [] = u := ⟨_, rfl⟩
              have hfk : (!(v == u)) = f k := by rw [← HF.out k, ← hv, ← hu, hp, HG1.out, HH.out]
              have HRD := hid (fun (X : World) (t : St w X d hb D7) => (by have := read_st t p (by rw [H7L.out]; exact hlt) H7O.out (by rw [H7W.out]; exact Nat.zero_le _); rw [read_q H7W.out, hv] at this; exact this : Calls Try.prog 14 #[.pointer (some ⟨d, 0, none⟩), .int .i64 (p : Int)] X fun e w' => ∃ g, e = .returned (.tuple #[.slice (some ⟨g, 0, none⟩) 128 128, .int .i64 0]) ∧ OwnE w' g 99 (v.map B8) ∧ g ≠ hb ∧ St w w' d hb D7 ∧ Below X.heap.size X w'))
              have HVL : Hid (v.length = 128) := hid (by have := readD_len S.out p (by rw [H7L.out]; exact hlt); rw [read_q H7W.out, hv] at this; exact this)
              rw [hu] at hwc
              have HWC := hid hwc
              have HFK := hid hfk
              subst hA9
              clear hwc hfk hv hu hp
              go_upto_region 30 with (go_at_call 14; (with_reducible refine (HRD.out _ S.out).mono ?_); rintro e w13 ⟨g6, rfl, q6, -, -, b6⟩; have S13 := hid (S.out.below b6); have O13 := hid q6; have R13 := hid (own_below R.out b6); clear q6 b6 S R)
              clear HRD
              obtain ⟨eo, heo⟩ : ∃ eo, (str v == str u) = eo := ⟨_, rfl⟩
              have heo2 : (v == u) = eo := beq_str heo
              have HFE : Hid (f k = !eo) := hid (by rw [← HFK.out, heo2])
              have i1 : IntKind.i64.wrap ((p : Int) - 41) = (k : Int) := by rw [IntKind.wrap_i64]; have := HP.out; omega
              have i0 : (0 : Int) ≤ (k : Int) := by omega
              have i2 : (k : Int) < 9 := by omega
              have i3 : (k : Int).toNat = k := by omega
              have j0 : decide ((0 : Int) ≤ (k : Int)) = true := by simp
              have j1 : decide ((k : Int) < 9) = true := by simp; omega
              have dR := own_below R13.out (drew_below w13)
              have hS : (convert 24 9 (.slice (some ⟨g6, 0, none⟩) 128 128)).run Try.prog w13.drew = .ok (.string (str v)) w13.drew ∧ w13.drew.cell? ⟨bs, os + k, none⟩ = some (.string (str u)) := ⟨strS (O13.out.below (drew_below w13)) HVL.out, HWC.out _ dR⟩
              have DR := hid dR
              have S := hid S13.out.drew
              clear dR HWC HFK S13 R13 O13
              refine wp_region_noPanic ?_
              refine wp_region_held_drew (S := (fun X => (convert 24 9 (.slice (some ⟨g6, 0, none⟩) 128 128)).run Try.prog X = .ok (.string (str v)) X ∧ X.cell? ⟨bs, os + k, none⟩ = some (.string (str u)))) (by kernel_rfl) (by first | assumption | trivial) (fun hHeld => ?_)
              refine wpAnyH_take (i := 0) (v := ?_) rfl (by kernel_rfl) (by kernel_rfl) (by kernel_rfl) (fun _ _ _ h => h) (Or.inl ⟨by kernel_rfl, ?_⟩) (by first | assumption | trivial) ?_
              rotate_left
              · (intro wS hSw; (try dsimp only at hSw); go_simp; try with_reducible rfl)
              (try simp only [List.append_eq, List.cons_append, List.nil_append, List.getElem_toArray, List.getElem_cons_succ, List.getElem_cons_zero, Act.put, List.setIfInBounds_toArray, List.set_cons_zero, List.set_cons_succ])
              refine wpAnyH_take (i := 1) (v := ?_) rfl (by kernel_rfl) (by kernel_rfl) (by kernel_rfl) (fun _ _ _ h => h) (Or.inl ⟨by kernel_rfl, ?_⟩) (by first | assumption | trivial) ?_
              rotate_left
              · (intro wS hSw; (try dsimp only at hSw); go_simp; try with_reducible rfl)
              (try simp only [List.append_eq, List.cons_append, List.nil_append, List.getElem_toArray, List.getElem_cons_succ, List.getElem_cons_zero, Act.put, List.setIfInBounds_toArray, List.set_cons_zero, List.set_cons_succ])
              refine wpAnyH_take (i := 2) (v := ?_) rfl (by kernel_rfl) (by kernel_rfl) (by kernel_rfl) (fun _ _ _ h => h) (Or.inl ⟨by kernel_rfl, ?_⟩) (by first | assumption | trivial) ?_
              rotate_left
              · (intro wS hSw; (try dsimp only at hSw); go_simp; try with_reducible rfl)
              (try simp only [List.append_eq, List.cons_append, List.nil_append, List.getElem_toArray, List.getElem_cons_succ, List.getElem_cons_zero, Act.put, List.setIfInBounds_toArray, List.set_cons_zero, List.set_cons_succ])
              refine wpAnyH_take (i := 3) (v := ?_) rfl (by kernel_rfl) (by kernel_rfl) (by kernel_rfl) (fun _ _ _ h => h) (Or.inl ⟨by kernel_rfl, ?_⟩) (by first | assumption | trivial) ?_
              rotate_left
              · (intro wS hSw; (try dsimp only at hSw); go_simp; try with_reducible rfl)
              (try simp only [List.append_eq, List.cons_append, List.nil_append, List.getElem_toArray, List.getElem_cons_succ, List.getElem_cons_zero, Act.put, List.setIfInBounds_toArray, List.set_cons_zero, List.set_cons_succ])
              refine wpAnyH_take (i := 4) (v := ?_) rfl (by kernel_rfl) (by kernel_rfl) (by kernel_rfl) (fun _ _ _ h => h) (Or.inl ⟨by kernel_rfl, ?_⟩) (by first | assumption | trivial) ?_
              rotate_left
              · (intro wS hSw; (try dsimp only at hSw); go_simp; try with_reducible rfl)
              (try simp only [List.append_eq, List.cons_append, List.nil_append, List.getElem_toArray, List.getElem_cons_succ, List.getElem_cons_zero, Act.put, List.setIfInBounds_toArray, List.set_cons_zero, List.set_cons_succ])
              refine wpAnyH_take (i := 5) (v := ?_) rfl (by kernel_rfl) (by kernel_rfl) (by kernel_rfl) (fun _ _ _ h => h) (Or.inl ⟨by kernel_rfl, ?_⟩) (by first | assumption | trivial) ?_
              rotate_left
              · (intro wS hSw; (try dsimp only at hSw); go_simp; try with_reducible rfl)
              (try simp only [List.append_eq, List.cons_append, List.nil_append, List.getElem_toArray, List.getElem_cons_succ, List.getElem_cons_zero, Act.put, List.setIfInBounds_toArray, List.set_cons_zero, List.set_cons_succ])
              refine wpAnyH_take (i := 6) (v := ?_) rfl (by kernel_rfl) (by kernel_rfl) (by kernel_rfl) (fun _ _ _ h => h) (Or.inl ⟨by kernel_rfl, ?_⟩) (by first | assumption | trivial) ?_
              rotate_left
              · (intro wS hSw; (try dsimp only at hSw); go_simp; try with_reducible rfl)
              (try simp only [List.append_eq, List.cons_append, List.nil_append, List.getElem_toArray, List.getElem_cons_succ, List.getElem_cons_zero, Act.put, List.setIfInBounds_toArray, List.set_cons_zero, List.set_cons_succ])
              refine wpAnyH_take (i := 7) (v := ?_) rfl (by kernel_rfl) (by kernel_rfl) (by kernel_rfl) (fun _ _ _ h => h) (Or.inl ⟨by kernel_rfl, ?_⟩) (by first | assumption | trivial) ?_
              rotate_left
              · (intro wS hSw; (try dsimp only at hSw); go_simp; try with_reducible rfl)
              (try simp only [List.append_eq, List.cons_append, List.nil_append, List.getElem_toArray, List.getElem_cons_succ, List.getElem_cons_zero, Act.put, List.setIfInBounds_toArray, List.set_cons_zero, List.set_cons_succ])
              refine wpAnyH_done (by kernel_rfl) ?_ _
              refine NoPanic.normal ?_
              cases eo with
              | true =>
                go_wp2_with fail
                go_roundw
                case rel => exact ⟨k + 1, p + 1, by omega, by rw [HP.out]; omega, by go_num, by show Value.int .i64 _ = _; rw [cntP, HFE.out]; rfl, hid ⟨S.out, DR.out⟩⟩
                case measure => simp [intOf]; omega
              | false =>
                have hcl := cntP_le f k
                have hs : cntP f (k + 1) = cntP f k + 1 := by rw [cntP, HFE.out]; rfl
                obtain ⟨cc, hcc⟩ : ∃ cc, cntP f k = cc := ⟨_, rfl⟩
                rw [hcc] at hs hcl ⊢
                have hcb : cc ≤ 9 := by omega
                have HSS := hid hs
                clear hcc hs hcl
                go_wp2_with fail
                go_roundw
                case rel => exact ⟨k + 1, p + 1, by omega, by rw [HP.out]; omega, by go_num, by rw [HSS.out]; go_num, hid ⟨S.out, DR.out⟩⟩
                case measure => simp [intOf]; omega
            · have q1 : decide ((p : Int) < 50) = false := by simp; omega
              have q1' : decide (p < 50) = false := by simp; omega
              obtain rfl : k = 9 := by omega
              obtain ⟨cn, hcn⟩ : ∃ cn, cntP f 9 = cn := ⟨_, rfl⟩
              have hle := HCN.out
              rw [hcn] at hle ⊢
              have l1 : decide ((cn : Int) ≤ (nn : Int)) = true := by simp; omega
              have l1' : decide (cn ≤ nn) = true := by simpa using hle
              clear hle hcn HCN
              go_upto_region 34 with first
                | (go_at_call 22; (with_reducible refine (HHS.out _ S.out).mono ?_); rintro e w8 ⟨g8, rfl, q8, hg8, -, b8⟩; have S8 := hid (S.out.below b8); have O8 := hid q8; have HG8 := hid hg8; clear q8 hg8 b8 S R)
                | (go_at_call 18; (with_reducible refine (HR2.out _ S8.out).mono ?_); rintro e w9 ⟨rfl, s9, k9⟩; have O9 := hid (O8.out.lets k9 (S8.out.ty_d O8.out (by decide)) HG8.out (by decide)); have S9 := hid s9; clear s9 k9 S8 O8 HG8)
              clear HHS HR2
              have hS : (convert 24 9 (.slice (some ⟨g8, 0, none⟩) 128 128)).run Try.prog w9.drew = .ok (.string (str zer)) w9.drew := strS (O9.out.below (drew_below w9)) zer_len
              have S := hid S9.out.drew
              have hss := str_same2 zer
              have O := hid (O9.out.below (drew_below w9))
              have HZ := hid (fun (X : World) (g : Nat) (o : OwnC X g 5 ((secA 0).map B8)) => (strC o (secA_len 0) : (convert 24 9 (.slice (some ⟨g, 0, none⟩) 128 128)).run Try.prog X = .ok (.string (str zer)) X))
              obtain ⟨zz, hzz⟩ : ∃ zz, zer = zz := ⟨_, rfl⟩
              have HL := hid (show zz.length = 128 by rw [← hzz]; exact zer_len)
              rw [hzz] at hS hss O HZ
              clear hzz S9 O9
              refine wp_region_noPanic ?_
              refine wp_region_held_drew (S := (fun X => (convert 24 9 (.slice (some ⟨g8, 0, none⟩) 128 128)).run Try.prog X = .ok (.string (str zz)) X)) (by kernel_rfl) (by first | assumption | trivial) (fun hHeld => ?_)
              refine wpAnyH_take (i := 0) (v := ?_) rfl (by kernel_rfl) (by kernel_rfl) (by kernel_rfl) (fun _ _ _ h => h) (Or.inl ⟨by kernel_rfl, ?_⟩) (by first | assumption | trivial) ?_
              rotate_left
              · (intro wS hSw; (try dsimp only at hSw); go_simp; try with_reducible rfl)
              (try simp only [List.append_eq, List.cons_append, List.nil_append, List.getElem_toArray, List.getElem_cons_succ, List.getElem_cons_zero, Act.put, List.setIfInBounds_toArray, List.set_cons_zero, List.set_cons_succ])
              refine wpAnyH_take (i := 1) (v := ?_) rfl (by kernel_rfl) (by kernel_rfl) (by kernel_rfl) (fun _ _ _ h => h) (Or.inl ⟨by kernel_rfl, ?_⟩) (by first | assumption | trivial) ?_
              rotate_left
              · (intro wS hSw; (try dsimp only at hSw); go_simp; try with_reducible rfl)
              (try simp only [List.append_eq, List.cons_append, List.nil_append, List.getElem_toArray, List.getElem_cons_succ, List.getElem_cons_zero, Act.put, List.setIfInBounds_toArray, List.set_cons_zero, List.set_cons_succ])
              refine wpAnyH_take (i := 2) (v := ?_) rfl (by kernel_rfl) (by kernel_rfl) (by kernel_rfl) (fun _ _ _ h => h) (Or.inl ⟨by kernel_rfl, ?_⟩) (by first | assumption | trivial) ?_
              rotate_left
              · (intro wS hSw; (try dsimp only at hSw); go_simp; try with_reducible rfl)
              (try simp only [List.append_eq, List.cons_append, List.nil_append, List.getElem_toArray, List.getElem_cons_succ, List.getElem_cons_zero, Act.put, List.setIfInBounds_toArray, List.set_cons_zero, List.set_cons_succ])
              refine wpAnyH_take (i := 3) (v := ?_) rfl (by kernel_rfl) (by kernel_rfl) (by kernel_rfl) (fun _ _ _ h => h) (Or.inl ⟨by kernel_rfl, ?_⟩) (by first | assumption | trivial) ?_
              rotate_left
              · (intro wS hSw; (try dsimp only at hSw); go_simp; try with_reducible rfl)
              (try simp only [List.append_eq, List.cons_append, List.nil_append, List.getElem_toArray, List.getElem_cons_succ, List.getElem_cons_zero, Act.put, List.setIfInBounds_toArray, List.set_cons_zero, List.set_cons_succ])
              refine wpAnyH_take (i := 4) (v := ?_) rfl (by kernel_rfl) (by kernel_rfl) (by kernel_rfl) (fun _ _ _ h => h) (Or.inl ⟨by kernel_rfl, ?_⟩) (by first | assumption | trivial) ?_
              rotate_left
              · (intro wS hSw; (try dsimp only at hSw); go_simp; try with_reducible rfl)
              (try simp only [List.append_eq, List.cons_append, List.nil_append, List.getElem_toArray, List.getElem_cons_succ, List.getElem_cons_zero, Act.put, List.setIfInBounds_toArray, List.set_cons_zero, List.set_cons_succ])
              refine wpAnyH_take (i := 5) (v := ?_) rfl (by kernel_rfl) (by kernel_rfl) (by kernel_rfl) (fun _ _ _ h => h) (Or.inl ⟨by kernel_rfl, ?_⟩) (by first | assumption | trivial) ?_
              rotate_left
              · (intro wS hSw; (try dsimp only at hSw); go_simp; try with_reducible rfl)
              (try simp only [List.append_eq, List.cons_append, List.nil_append, List.getElem_toArray, List.getElem_cons_succ, List.getElem_cons_zero, Act.put, List.setIfInBounds_toArray, List.set_cons_zero, List.set_cons_succ])
              refine wpAnyH_take (i := 6) (v := ?_) rfl (by kernel_rfl) (by kernel_rfl) (by kernel_rfl) (fun _ _ _ h => h) (Or.inl ⟨by kernel_rfl, ?_⟩) (by first | assumption | trivial) ?_
              rotate_left
              · (intro wS hSw; (try dsimp only at hSw); go_simp; try with_reducible rfl)
              (try simp only [List.append_eq, List.cons_append, List.nil_append, List.getElem_toArray, List.getElem_cons_succ, List.getElem_cons_zero, Act.put, List.setIfInBounds_toArray, List.set_cons_zero, List.set_cons_succ])
              refine wpAnyH_take (i := 7) (v := ?_) rfl (by kernel_rfl) (by kernel_rfl) (by kernel_rfl) (fun _ _ _ h => h) (Or.inl ⟨by kernel_rfl, ?_⟩) (by first | assumption | trivial) ?_
              rotate_left
              · (intro wS hSw; (try dsimp only at hSw); go_simp; try with_reducible rfl)
              (try simp only [List.append_eq, List.cons_append, List.nil_append, List.getElem_toArray, List.getElem_cons_succ, List.getElem_cons_zero, Act.put, List.setIfInBounds_toArray, List.set_cons_zero, List.set_cons_succ])
              refine wpAnyH_take (i := 8) (v := ?_) rfl (by kernel_rfl) (by kernel_rfl) (by kernel_rfl) (fun _ _ _ h => h) (Or.inl ⟨by kernel_rfl, ?_⟩) (by first | assumption | trivial) ?_
              rotate_left
              · (intro wS hSw; (try dsimp only at hSw); go_simp; try with_reducible rfl)
              (try simp only [List.append_eq, List.cons_append, List.nil_append, List.getElem_toArray, List.getElem_cons_succ, List.getElem_cons_zero, Act.put, List.setIfInBounds_toArray, List.set_cons_zero, List.set_cons_succ])
              refine wpAnyH_take (i := 9) (v := ?_) rfl (by kernel_rfl) (by kernel_rfl) (by kernel_rfl) (fun _ _ _ h => h) (Or.inl ⟨by kernel_rfl, ?_⟩) (by first | assumption | trivial) ?_
              rotate_left
              · (intro wS hSw; (try dsimp only at hSw); go_simp; try with_reducible rfl)
              (try simp only [List.append_eq, List.cons_append, List.nil_append, List.getElem_toArray, List.getElem_cons_succ, List.getElem_cons_zero, Act.put, List.setIfInBounds_toArray, List.set_cons_zero, List.set_cons_succ])
              refine wpAnyH_ready (rs := [10]) (by kernel_rfl) (by simp) ?_
              refine AllReadyH.cons rfl (fun K hK => ?_) AllReadyH.nil
              go_simp
              (go_at_call 20; (with_reducible refine (all_c 0 0 (by decide) _).mono ?_); rintro e w10 ⟨g10, rfl, -, o10, b10⟩; have hS10 : (convert 24 9 (.slice (some ⟨g8, 0, none⟩) 128 128)).run Try.prog w10 = .ok (.string (str zz)) w10 := strS (O.out.below b10) HL.out; have S := hid (S.out.below b10); have O := hid (O.out.below b10); have co := HZ.out _ _ o10; clear o10 b10 hHeld hS)
              go_wp2_with fail
              refine hK.out _ _ (by first | assumption | trivial) (fun hHeld => ?_)
              clear hK K
              (try simp only [List.append_eq, List.cons_append, List.nil_append, List.getElem_toArray, List.getElem_cons_succ, List.getElem_cons_zero, Act.put, List.setIfInBounds_toArray, List.set_cons_zero, List.set_cons_succ])
              refine wpAnyH_ready (rs := [11]) (by kernel_rfl) (by simp) ?_
              refine AllReadyH.cons rfl (fun K hK => ?_) AllReadyH.nil
              go_simp
              skip
              go_wp2_with fail
              refine hK.out _ _ (by first | assumption | trivial) (fun hHeld => ?_)
              clear hK K
              (try simp only [List.append_eq, List.cons_append, List.nil_append, List.getElem_toArray, List.getElem_cons_succ, List.getElem_cons_zero, Act.put, List.setIfInBounds_toArray, List.set_cons_zero, List.set_cons_succ])
              refine wpAnyH_take (i := 12) (v := ?_) rfl (by kernel_rfl) (by kernel_rfl) (by kernel_rfl) (fun _ _ _ h => h) (Or.inl ⟨by kernel_rfl, ?_⟩) (by first | assumption | trivial) ?_
              rotate_left
              · (intro wS hSw; (try dsimp only at hSw); go_simp; try with_reducible rfl)
              (try simp only [List.append_eq, List.cons_append, List.nil_append, List.getElem_toArray, List.getElem_cons_succ, List.getElem_cons_zero, Act.put, List.setIfInBounds_toArray, List.set_cons_zero, List.set_cons_succ])
              refine wpAnyH_take (i := 13) (v := ?_) rfl (by kernel_rfl) (by kernel_rfl) (by kernel_rfl) (fun _ _ _ h => h) (Or.inl ⟨by kernel_rfl, ?_⟩) (by first | assumption | trivial) ?_
              rotate_left
              · (intro wS hSw; (try dsimp only at hSw); go_simp; try with_reducible rfl)
              (try simp only [List.append_eq, List.cons_append, List.nil_append, List.getElem_toArray, List.getElem_cons_succ, List.getElem_cons_zero, Act.put, List.setIfInBounds_toArray, List.set_cons_zero, List.set_cons_succ])
              refine wpAnyH_take (i := 14) (v := ?_) rfl (by kernel_rfl) (by kernel_rfl) (by kernel_rfl) (fun _ _ _ h => h) (Or.inl ⟨by kernel_rfl, ?_⟩) (by first | assumption | trivial) ?_
              rotate_left
              · (intro wS hSw; (try dsimp only at hSw); go_simp; try with_reducible rfl)
              (try simp only [List.append_eq, List.cons_append, List.nil_append, List.getElem_toArray, List.getElem_cons_succ, List.getElem_cons_zero, Act.put, List.setIfInBounds_toArray, List.set_cons_zero, List.set_cons_succ])
              refine wpAnyH_take (i := 15) (v := ?_) rfl (by kernel_rfl) (by kernel_rfl) (by kernel_rfl) (fun _ _ _ h => h) (Or.inl ⟨by kernel_rfl, ?_⟩) (by first | assumption | trivial) ?_
              rotate_left
              · (intro wS hSw; (try dsimp only at hSw); go_simp; try with_reducible rfl)
              (try simp only [List.append_eq, List.cons_append, List.nil_append, List.getElem_toArray, List.getElem_cons_succ, List.getElem_cons_zero, Act.put, List.setIfInBounds_toArray, List.set_cons_zero, List.set_cons_succ])
              refine wpAnyH_take (i := 16) (v := ?_) rfl (by kernel_rfl) (by kernel_rfl) (by kernel_rfl) (fun _ _ _ h => h) (Or.inl ⟨by kernel_rfl, ?_⟩) (by first | assumption | trivial) ?_
              rotate_left
              · (intro wS hSw; (try dsimp only at hSw); go_simp; try with_reducible rfl)
              (try simp only [List.append_eq, List.cons_append, List.nil_append, List.getElem_toArray, List.getElem_cons_succ, List.getElem_cons_zero, Act.put, List.setIfInBounds_toArray, List.set_cons_zero, List.set_cons_succ])
              refine wpAnyH_take (i := 17) (v := ?_) rfl (by kernel_rfl) (by kernel_rfl) (by kernel_rfl) (fun _ _ _ h => h) (Or.inl ⟨by kernel_rfl, ?_⟩) (by first | assumption | trivial) ?_
              rotate_left
              · (intro wS hSw; (try dsimp only at hSw); go_simp; try with_reducible rfl)
              (try simp only [List.append_eq, List.cons_append, List.nil_append, List.getElem_toArray, List.getElem_cons_succ, List.getElem_cons_zero, Act.put, List.setIfInBounds_toArray, List.set_cons_zero, List.set_cons_succ])
              refine wpAnyH_take (i := 18) (v := ?_) rfl (by kernel_rfl) (by kernel_rfl) (by kernel_rfl) (fun _ _ _ h => h) (Or.inl ⟨by kernel_rfl, ?_⟩) (by first | assumption | trivial) ?_
              rotate_left
              · (intro wS hSw; (try dsimp only at hSw); go_simp; try with_reducible rfl)
              (try simp only [List.append_eq, List.cons_append, List.nil_append, List.getElem_toArray, List.getElem_cons_succ, List.getElem_cons_zero, Act.put, List.setIfInBounds_toArray, List.set_cons_zero, List.set_cons_succ])
              refine wpAnyH_take (i := 19) (v := ?_) rfl (by kernel_rfl) (by kernel_rfl) (by kernel_rfl) (fun _ _ _ h => h) (Or.inl ⟨by kernel_rfl, ?_⟩) (by first | assumption | trivial) ?_
              rotate_left
              · (intro wS hSw; (try dsimp only at hSw); go_simp; try with_reducible rfl)
              (try simp only [List.append_eq, List.cons_append, List.nil_append, List.getElem_toArray, List.getElem_cons_succ, List.getElem_cons_zero, Act.put, List.setIfInBounds_toArray, List.set_cons_zero, List.set_cons_succ])
              refine wpAnyH_take (i := 20) (v := ?_) rfl (by kernel_rfl) (by kernel_rfl) (by kernel_rfl) (fun _ _ _ h => h) (Or.inl ⟨by kernel_rfl, ?_⟩) (by first | assumption | trivial) ?_
              rotate_left
              · (intro wS hSw; (try dsimp only at hSw); go_simp; try with_reducible rfl)
              (try simp only [List.append_eq, List.cons_append, List.nil_append, List.getElem_toArray, List.getElem_cons_succ, List.getElem_cons_zero, Act.put, List.setIfInBounds_toArray, List.set_cons_zero, List.set_cons_succ])
              refine wpAnyH_take (i := 21) (v := ?_) rfl (by kernel_rfl) (by kernel_rfl) (by kernel_rfl) (fun _ _ _ h => h) (Or.inl ⟨by kernel_rfl, ?_⟩) (by first | assumption | trivial) ?_
              rotate_left
              · (intro wS hSw; (try dsimp only at hSw); go_simp; try with_reducible rfl)
              (try simp only [List.append_eq, List.cons_append, List.nil_append, List.getElem_toArray, List.getElem_cons_succ, List.getElem_cons_zero, Act.put, List.setIfInBounds_toArray, List.set_cons_zero, List.set_cons_succ])
              refine wpAnyH_take (i := 22) (v := ?_) rfl (by kernel_rfl) (by kernel_rfl) (by kernel_rfl) (fun _ _ _ h => h) (Or.inl ⟨by kernel_rfl, ?_⟩) (by first | assumption | trivial) ?_
              rotate_left
              · (intro wS hSw; (try dsimp only at hSw); go_simp; try with_reducible rfl)
              (try simp only [List.append_eq, List.cons_append, List.nil_append, List.getElem_toArray, List.getElem_cons_succ, List.getElem_cons_zero, Act.put, List.setIfInBounds_toArray, List.set_cons_zero, List.set_cons_succ])
              refine wpAnyH_take (i := 23) (v := ?_) rfl (by kernel_rfl) (by kernel_rfl) (by kernel_rfl) (fun _ _ _ h => h) (Or.inl ⟨by kernel_rfl, ?_⟩) (by first | assumption | trivial) ?_
              rotate_left
              · (intro wS hSw; (try dsimp only at hSw); go_simp; try with_reducible rfl)
              (try simp only [List.append_eq, List.cons_append, List.nil_append, List.getElem_toArray, List.getElem_cons_succ, List.getElem_cons_zero, Act.put, List.setIfInBounds_toArray, List.set_cons_zero, List.set_cons_succ])
              refine wpAnyH_take (i := 24) (v := ?_) rfl (by kernel_rfl) (by kernel_rfl) (by kernel_rfl) (fun _ _ _ h => h) (Or.inl ⟨by kernel_rfl, ?_⟩) (by first | assumption | trivial) ?_
              rotate_left
              · (intro wS hSw; (try dsimp only at hSw); go_simp; try with_reducible rfl)
              (try simp only [List.append_eq, List.cons_append, List.nil_append, List.getElem_toArray, List.getElem_cons_succ, List.getElem_cons_zero, Act.put, List.setIfInBounds_toArray, List.set_cons_zero, List.set_cons_succ])
              refine wpAnyH_take (i := 25) (v := ?_) rfl (by kernel_rfl) (by kernel_rfl) (by kernel_rfl) (fun _ _ _ h => h) (Or.inl ⟨by kernel_rfl, ?_⟩) (by first | assumption | trivial) ?_
              rotate_left
              · (intro wS hSw; (try dsimp only at hSw); go_simp; try with_reducible rfl)
              (try simp only [List.append_eq, List.cons_append, List.nil_append, List.getElem_toArray, List.getElem_cons_succ, List.getElem_cons_zero, Act.put, List.setIfInBounds_toArray, List.set_cons_zero, List.set_cons_succ])
              refine wpAnyH_take (i := 26) (v := ?_) rfl (by kernel_rfl) (by kernel_rfl) (by kernel_rfl) (fun _ _ _ h => h) (Or.inl ⟨by kernel_rfl, ?_⟩) (by first | assumption | trivial) ?_
              rotate_left
              · (intro wS hSw; (try dsimp only at hSw); go_simp; try with_reducible rfl)
              (try simp only [List.append_eq, List.cons_append, List.nil_append, List.getElem_toArray, List.getElem_cons_succ, List.getElem_cons_zero, Act.put, List.setIfInBounds_toArray, List.set_cons_zero, List.set_cons_succ])
              refine wpAnyH_ready (rs := [27]) (by kernel_rfl) (by simp) ?_
              refine AllReadyH.cons rfl (fun K hK => ?_) AllReadyH.nil
              go_simp
              (go_at_call 10; (with_reducible refine (awake_any _).mono ?_); rintro e w11 ⟨rfl, b11⟩; have hS11 : (convert 24 9 (.slice (some ⟨g8, 0, none⟩) 128 128)).run Try.prog w11 = .ok (.string (str zz)) w11 := strS (O.out.below b11) HL.out; have S := hid (S.out.below b11); clear b11 hHeld hS10 co)
              go_wp2_with fail
              refine hK.out _ _ (by first | assumption | trivial) (fun hHeld => ?_)
              clear hK K
              (try simp only [List.append_eq, List.cons_append, List.nil_append, List.getElem_toArray, List.getElem_cons_succ, List.getElem_cons_zero, Act.put, List.setIfInBounds_toArray, List.set_cons_zero, List.set_cons_succ])
              refine wpAnyH_take (i := 28) (v := ?_) rfl (by kernel_rfl) (by kernel_rfl) (by kernel_rfl) (fun _ _ _ h => h) (Or.inl ⟨by kernel_rfl, ?_⟩) (by first | assumption | trivial) ?_
              rotate_left
              · (intro wS hSw; (try dsimp only at hSw); go_simp; try with_reducible rfl)
              (try simp only [List.append_eq, List.cons_append, List.nil_append, List.getElem_toArray, List.getElem_cons_succ, List.getElem_cons_zero, Act.put, List.setIfInBounds_toArray, List.set_cons_zero, List.set_cons_succ])
              refine wpAnyH_take (i := 29) (v := ?_) rfl (by kernel_rfl) (by kernel_rfl) (by kernel_rfl) (fun _ _ _ h => h) (Or.inl ⟨by kernel_rfl, ?_⟩) (by first | assumption | trivial) ?_
              rotate_left
              · (intro wS hSw; (try dsimp only at hSw); go_simp; try with_reducible rfl)
              (try simp only [List.append_eq, List.cons_append, List.nil_append, List.getElem_toArray, List.getElem_cons_succ, List.getElem_cons_zero, Act.put, List.setIfInBounds_toArray, List.set_cons_zero, List.set_cons_succ])
              refine wpAnyH_done (by kernel_rfl) ?_ _
              refine NoPanic.normal ?_
              go_wp2_with fail
              go_ret
              exact ⟨rfl, S.out.bel⟩
theorem walkJournalSettles (s : SlOf ActA) (w : World) (h : s.Ok actA (okAct w) w) :
    Calls Try.prog 5 #[s.val] w fun e w' => e = .returned (.bool true) ∧ Below w.heap.size w w' :=
  settles_walk s.A s.n s.c _ w (acts_of h)
end Go.Proofs.Ytpppmijohfjigaa
