/-
  The finder keeps the places ahead of one: the walk. A part of the proof: see the head of the text that ends in 'Law'.
-/
import Derived.Test.YtaoigplmkckieaaMa5
namespace Go.Proofs.Ytaoigplmkckieaa
open Go.RowKit
set_option linter.unusedVariables false

theorem sliceI : SliceT Try.prog 56 3 (.int .i64 0) 1 8 := ⟨Try.underlying56, by kernel_rfl, rfl, by decide⟩
def KeepI (w0 w wr : World) (fb mb : Nat) (A : Option Addr) (n c k j : Nat) (R : Nat → Prop) (l : List UInt8) : Prop :=
  ∃ R', Fnd w0 wr fb mb A n c R' k j l ∧ (∀ g, R' g → R g ∨ w.heap.size ≤ g) ∧ Only (Mine fb mb R) w wr
theorem KeepI.set {w0 w wr : World} {fb mb n c k j : Nat} {A : Option Addr} {R : Nat → Prop} {l : List UInt8} (h : KeepI w0 w wr fb mb A n c k j R l) (v : Nat) : KeepI w0 w (wr.setCell ⟨fb, 2, none⟩ (.int .i64 (v : Int))) fb mb A n c v j R l := by
  obtain ⟨R', h1, h2, h3⟩ := h
  exact ⟨R', h1.set v, h2, h3.trans (Only.of_set (T := fun g => g = fb) _ _ _ rfl) (fun g hg => Or.inl (Or.inl hg))⟩
/-- What else the call makes touches none of it. -/
theorem KeepI.far {w0 w wr w' : World} {fb mb n c k j : Nat} {A : Option Addr} {R : Nat → Prop} {l : List UInt8} (h : KeepI w0 w wr fb mb A n c k j R l) (hb : Below wr.heap.size wr w') : KeepI w0 w w' fb mb A n c k j R l := by
  obtain ⟨R', h1, h2, h3⟩ := h
  have ho : Only (fun _ => False) wr w' := Only.of_below hb
  exact ⟨R', h1.only ho (fun g hg => hg.elim), h2, h3.trans ho (fun g hg => hg.elim)⟩
theorem KeepI.out_ {w0 w wr : World} {fb mb n c k : Nat} {A : Option Addr} {R : Nat → Prop} {l : List UInt8} (h : KeepI w0 w wr fb mb A n c k k R l) (hk : l.length < k + 3) : KeepI w0 w wr fb mb A n c k (k + 1) R l := by
  obtain ⟨R', h1, h2, h3⟩ := h
  refine ⟨R', ⟨h1.bel, h1.hf, h1.hm, h1.ne, h1.hr, h1.hl, h1.cells, ?_⟩, h2, h3⟩
  rw [placesL_out l k hk]
  exact h1.grp.more (by omega)
theorem KeepI.drewN {w0 w wr : World} {fb mb n c k j : Nat} {A : Option Addr} {R : Nat → Prop} {l : List UInt8} (h : KeepI w0 w wr fb mb A n c k j R l) (m : Nat) : KeepI w0 w (wr.drewN m) fb mb A n c k j R l := h.far (bq (Below.refl _ _) m)
def uptoOf (w : World) (fb : Nat) : Nat := match w.cell? ⟨fb, 2, none⟩ with | some (.int _ x) => x.toNat | _ => 0
theorem KeepI.upto {w0 w wr : World} {fb mb n c k j : Nat} {A : Option Addr} {R : Nat → Prop} {l : List UInt8} (h : KeepI w0 w wr fb mb A n c k j R l) : uptoOf wr fb = k := by
  obtain ⟨R', h1, _⟩ := h
  unfold uptoOf
  rw [h1.cells.cell (j := 2) rfl]
  simp

/-- One place more: what the map's entry, the append and the store leave. -/
theorem keep_step {w0 w W1 : World} {fb mb n c k : Nat} {A : Option Addr} {R : Nat → Prop} {l : List UInt8} {xa xb xc : UInt8} (hI : KeepI w0 w W1 fb mb A n c k k R l) (hk : k < 65536) (hP : placesL l (k + 1) = putG (placesL l k) xa xb xc k) :
    ∃ (v : Value) (st : Int) (w1 : World) (m : Nat) (xs : List Value), (Instr.mapEntry TM (.map (some mb)) (kv xa xb xc)).run Try.prog W1 = .ok (.tuple #[v, goInt st]) w1 ∧ W1.grownBy w1 (some mb) ∧ w1.ownsRow (mb + 1) TI 1 v m xs ∧ m ≤ 65536 ∧ mb + 1 ≤ w1.heap.size ∧
      (∀ g, v.ownBlock = some g → w0.heap.size ≤ g ∧ g ≠ fb ∧ g ≠ mb ∧ (R g ∨ w.heap.size ≤ g)) ∧
      ∀ (w2 : World) (v' : Value), w1.grownBy w2 v.ownBlock → w2.ownsRow (mb + 1) TI 1 v' (m + 1) (xs ++ [.int .i64 (k : Int)]) → (v'.ownBlock = v.ownBlock ∨ v'.ownBlock = some w1.heap.size) →
        ∃ w3, (Instr.entryStore TM (.map (some mb)) (goInt st) v').run Try.prog w2 = .ok () w3 ∧ w2.grownBy w3 (some mb) ∧ KeepI w0 w w3 fb mb A n c k (k + 1) R l := by
  obtain ⟨R', F, hR, hO⟩ := hI
  have hfl := F.cells.lt
  have hml := F.grp.lt
  obtain ⟨v, st, w1, hrun, hg1, hsz, hlen, hown, hvR, hback⟩ := F.grp.entry (by omega) xa xb xc k (by omega)
  refine ⟨v, st, w1, _, _, hrun, hg1, hown, by omega, by omega, fun g hg => ⟨(F.hr g (hvR g hg)).1, (F.hr g (hvR g hg)).2.1, (F.hr g (hvR g hg)).2.2, hR g (hvR g hg)⟩, ?_⟩
  intro w2 v' hg2 hown2 hloc
  obtain ⟨w3, hrun3, hg3, hgrp⟩ := hback w2 v' hg2 hown2 (hloc.imp id (fun h => ⟨_, h, Nat.le_refl _⟩))
  refine ⟨w3, hrun3, hg3, fun g => R' g ∨ v'.ownBlock = some g, ?_, ?_, ?_⟩
  · have hnew : ∀ g, v'.ownBlock = some g → R' g ∨ W1.heap.size ≤ g := fun g hg => by
      rcases hloc with h | h
      · exact Or.inl (hvR g (h ▸ hg))
      · rw [h] at hg; cases hg; exact Or.inr (by omega)
    have o1 : Only (Mine fb mb R') W1 w3 := ((Only.of_grown hg1 (fun g hg => by cases hg; exact Or.inr (Or.inl rfl))).trans (Only.of_grown hg2 (fun g hg => Or.inr (Or.inr (hvR g hg)))) (fun g hg => Or.inl hg)).trans
      (Only.of_grown hg3 (fun g hg => by cases hg; exact Or.inr (Or.inl rfl))) (fun g hg => Or.inl hg)
    have s1 := F.bel.size
    refine ⟨F.bel.trans (o1.below F.bel.size ?_), F.hf, F.hm, F.ne, ?_, ?_, ?_, ?_⟩
    · rintro g (rfl | rfl | hg)
      · exact F.hf
      · exact F.hm
      · exact (F.hr g hg).1
    · rintro g (hg | hg)
      · exact F.hr g hg
      · rcases hnew g hg with h | h
        · exact F.hr g h
        · exact ⟨by omega, by omega, by omega⟩
    · rintro g (hg | hg)
      · exact Nat.lt_of_lt_of_le (F.hl g hg) o1.size
      · exact Nat.lt_of_lt_of_le (hown2.lt g hg).2 hg3.size
    · exact ((F.cells.grown hg1 (fun h => by cases h; exact F.ne rfl)).grown hg2 (fun h => (F.hr fb (hvR fb h)).2.1 rfl)).grown hg3 (fun h => by cases h; exact F.ne rfl)
    · rw [hP]; exact hgrp
  · rintro g (hg | hg)
    · exact hR g hg
    · rcases hloc with h | h
      · exact hR g (hvR g (h ▸ hg))
      · rw [h] at hg; cases hg; exact Or.inr (by have := hO.size; omega)
  · have t1 : ∀ g, Mine fb mb R' g → Mine fb mb R g ∨ w.heap.size ≤ g := by
      rintro g (rfl | rfl | hg)
      · exact Or.inl (Or.inl rfl)
      · exact Or.inl (Or.inr (Or.inl rfl))
      · rcases hR g hg with h | h
        · exact Or.inl (Or.inr (Or.inr h))
        · exact Or.inr h
    have o1 : Only (Mine fb mb R') W1 w3 := ((Only.of_grown hg1 (fun g hg => by cases hg; exact Or.inr (Or.inl rfl))).trans (Only.of_grown hg2 (fun g hg => Or.inr (Or.inr (hvR g hg)))) (fun g hg => Or.inl hg)).trans
      (Only.of_grown hg3 (fun g hg => by cases hg; exact Or.inr (Or.inl rfl))) (fun g hg => Or.inl hg)
    exact hO.trans o1 t1

set_option maxHeartbeats 2000000 in
theorem keep_any {w0 w : World} {fb mb n c u : Nat} {A : Option Addr} {R : Nat → Prop} {l : List UInt8} (F : Fnd w0 w fb mb A n c R u u l) (ho : Oct w0 A n l) (hnc : n ≤ c) (hc : c ≤ maxLen) (hn : n ≤ 65536) (at_ : Nat) (hat : at_ ≤ 65536) (hu : u ≤ 65536) :
    Calls Try.prog 21 #[.pointer (some ⟨fb, 0, none⟩), .int .i64 (at_ : Int)] w fun e w' => e = .returned (.tuple #[]) ∧ KeepI w0 w w' fb mb A n c (max u at_) (max u at_) R l := by
  have HF := hid F
  have HO := hid ho
  have hl := ho.1
  have hcm : c ≤ 9223372036854775807 := by unfold maxLen at hc; omega
  clear F ho
  go_enter Try.func21, Try.ntmps21
  go_wp2
  go_loopw [] (fun wr => ∃ k : Nat, u ≤ k ∧ k ≤ max u at_ ∧ Hid (KeepI w0 w wr fb mb A n c k k R l)) (fun wr => at_ - uptoOf wr fb)
  case atStart => exact ⟨u, by omega, by omega, hid ⟨R, HF.out, fun g hg => Or.inl hg, Only.refl _ _⟩⟩
  case round =>
    obtain ⟨k, hk1, hk2, hI⟩ := hrel
    have hC := hI.out.choose_spec.1.cells
    have c0 := hC.cell (j := 0) rfl
    have c1 := hC.cell (j := 1) rfl
    have c2 := hC.cell (j := 2) rfl
    have fz := hC.frozen 2
    clear hC
    by_cases hlt : k < at_
    · have d1 : decide ((k : Int) < at_) = true := by simpa using hlt
      by_cases hin : k + 3 ≤ n
      · have d2 : decide ((k : Int) + 3 ≤ n) = true := by simp; omega
        go_upto_region 2 with fail
        go_quiet (fail)
        go_upto_region 3 with fail
        have hO := HO.out.below hI.out.choose_spec.1.bel
        obtain ⟨b, off, rfl, hcell⟩ := hO.at_ (by omega)
        have p0 := hcell k (by omega)
        have p1 := hcell (k + 1) (by omega)
        have p2 := hcell (k + 2) (by omega)
        obtain ⟨xa, hxa⟩ : ∃ x, l[k]'(by omega) = x := ⟨_, rfl⟩
        obtain ⟨xb, hxb⟩ : ∃ x, l[k + 1]'(by omega) = x := ⟨_, rfl⟩
        obtain ⟨xc, hxc⟩ : ∃ x, l[k + 2]'(by omega) = x := ⟨_, rfl⟩
        rw [hxa] at p0
        rw [hxb] at p1
        rw [hxc] at p2
        rw [← Nat.add_assoc] at p1 p2
        have hP := placesL_in l k (by omega)
        rw [hxa, hxb, hxc] at hP
        have HP := hid hP
        clear hO hcell hxa hxb hxc hP
        go_cut [4] (fun x wx => ∃ g, x = .pointer (some ⟨g, 0, none⟩) ∧ Hid (OwnC wx g T3 [.int .u8 (xa.toNat : Int), .int .u8 (xb.toNat : Int), .int .u8 (xc.toNat : Int)] ∧ wr.heap.size ≤ g ∧ g ≠ fb ∧ Below wr.heap.size wr wx))
        case first =>
          have e1 : ¬ c = k := by omega
          have e2 : IntKind.i64.wrap ((k : Int) + 3) = (k : Int) + 3 := by rw [IntKind.wrap_i64]; omega
          have e3 : (0 : Int) ≤ (k : Int) + 3 := by omega
          have e4 : (k : Int) + 3 ≤ c := by omega
          have e5 : ((k : Int) + 3).toNat = k + 3 := by omega
          have e6 : k ≤ k + 3 := by omega
          have e7 : k + 3 - k = 3 := by omega
          have e8 := run_arrayAt3 (some ⟨b, off + k, none⟩) (c - k)
          have hfb := hI.out.choose_spec.1.cells.lt
          have hbb := World.block_lt_of_cell? _ _ p0
          refine wp_region_noPanic ?_
          refine wp_region_held_drew (S := (fun W => W.cell? ⟨fb, 0, none⟩ = some (.slice (some ⟨b, off, none⟩) n c) ∧ W.cell? ⟨fb, 2, none⟩ = some (.int .i64 (k : Int)) ∧ W.cell? ⟨b, off + k, none⟩ = some (.int .u8 (xa.toNat : Int)) ∧ W.cell? ⟨b, off + k + 1, none⟩ = some (.int .u8 (xb.toNat : Int)) ∧ W.cell? ⟨b, off + k + 2, none⟩ = some (.int .u8 (xc.toNat : Int)))) (by kernel_rfl) (by first | assumption | trivial) (fun hHeld => ?_)
          refine wpAnyH_take (i := 0) (v := ?_) rfl (by kernel_rfl) (by kernel_rfl) (by kernel_rfl) (fun _ _ _ h => h) (Or.inl ⟨by kernel_rfl, ?_⟩) (by first | assumption | trivial) ?_
          rotate_left
          · (intro wS hSw; (try dsimp only at hSw); go_simp; try with_reducible rfl)
          (try simp only [List.getElem_toArray, List.getElem_cons_succ, List.getElem_cons_zero, Act.put, List.setIfInBounds_toArray, List.set_cons_zero, List.set_cons_succ])
          refine wpAnyH_take (i := 1) (v := ?_) rfl (by kernel_rfl) (by kernel_rfl) (by kernel_rfl) (fun _ _ _ h => h) (Or.inl ⟨by kernel_rfl, ?_⟩) (by first | assumption | trivial) ?_
          rotate_left
          · (intro wS hSw; (try dsimp only at hSw); go_simp; try with_reducible rfl)
          (try simp only [List.getElem_toArray, List.getElem_cons_succ, List.getElem_cons_zero, Act.put, List.setIfInBounds_toArray, List.set_cons_zero, List.set_cons_succ])
          refine wpAnyH_take (i := 2) (v := ?_) rfl (by kernel_rfl) (by kernel_rfl) (by kernel_rfl) (fun _ _ _ h => h) (Or.inl ⟨by kernel_rfl, ?_⟩) (by first | assumption | trivial) ?_
          rotate_left
          · (intro wS hSw; (try dsimp only at hSw); go_simp; try with_reducible rfl)
          (try simp only [List.getElem_toArray, List.getElem_cons_succ, List.getElem_cons_zero, Act.put, List.setIfInBounds_toArray, List.set_cons_zero, List.set_cons_succ])
          refine wpAnyH_take (i := 3) (v := ?_) rfl (by kernel_rfl) (by kernel_rfl) (by kernel_rfl) (fun _ _ _ h => h) (Or.inl ⟨by kernel_rfl, ?_⟩) (by first | assumption | trivial) ?_
          rotate_left
          · (intro wS hSw; (try dsimp only at hSw); go_simp; try with_reducible rfl)
          (try simp only [List.getElem_toArray, List.getElem_cons_succ, List.getElem_cons_zero, Act.put, List.setIfInBounds_toArray, List.set_cons_zero, List.set_cons_succ])
          refine wpAnyH_take (i := 4) (v := ?_) rfl (by kernel_rfl) (by kernel_rfl) (by kernel_rfl) (fun _ _ _ h => h) (Or.inl ⟨by kernel_rfl, ?_⟩) (by first | assumption | trivial) ?_
          rotate_left
          · (intro wS hSw; (try dsimp only at hSw); go_simp; try with_reducible rfl)
          (try simp only [List.getElem_toArray, List.getElem_cons_succ, List.getElem_cons_zero, Act.put, List.setIfInBounds_toArray, List.set_cons_zero, List.set_cons_succ])
          refine wpAnyH_take (i := 5) (v := ?_) rfl (by kernel_rfl) (by kernel_rfl) (by kernel_rfl) (fun _ _ _ h => h) (Or.inl ⟨by kernel_rfl, ?_⟩) (by first | assumption | trivial) ?_
          rotate_left
          · (intro wS hSw; (try dsimp only at hSw); go_simp; try with_reducible rfl)
          (try simp only [List.getElem_toArray, List.getElem_cons_succ, List.getElem_cons_zero, Act.put, List.setIfInBounds_toArray, List.set_cons_zero, List.set_cons_succ])
          refine wpAnyH_take (i := 6) (v := ?_) rfl (by kernel_rfl) (by kernel_rfl) (by kernel_rfl) (fun _ _ _ h => h) (Or.inl ⟨by kernel_rfl, ?_⟩) (by first | assumption | trivial) ?_
          rotate_left
          · (intro wS hSw; (try dsimp only at hSw); go_simp; try with_reducible rfl)
          (try simp only [List.getElem_toArray, List.getElem_cons_succ, List.getElem_cons_zero, Act.put, List.setIfInBounds_toArray, List.set_cons_zero, List.set_cons_succ])
          refine wpAnyH_take (i := 7) (v := ?_) rfl (by kernel_rfl) (by kernel_rfl) (by kernel_rfl) (fun _ _ _ h => h) (Or.inl ⟨by kernel_rfl, ?_⟩) (by first | assumption | trivial) ?_
          rotate_left
          · (intro wS hSw; (try dsimp only at hSw); go_simp; try with_reducible rfl)
          (try simp only [List.getElem_toArray, List.getElem_cons_succ, List.getElem_cons_zero, Act.put, List.setIfInBounds_toArray, List.set_cons_zero, List.set_cons_succ])
          refine wpAnyH_take (i := 8) (v := ?_) rfl (by kernel_rfl) (by kernel_rfl) (by kernel_rfl) (fun _ _ _ h => h) (Or.inl ⟨by kernel_rfl, ?_⟩) (by first | assumption | trivial) ?_
          rotate_left
          · (intro wS hSw; (try dsimp only at hSw); go_simp; try with_reducible rfl)
          (try simp only [List.getElem_toArray, List.getElem_cons_succ, List.getElem_cons_zero, Act.put, List.setIfInBounds_toArray, List.set_cons_zero, List.set_cons_succ])
          refine wpAnyH_take (i := 9) (v := ?_) rfl (by kernel_rfl) (by kernel_rfl) (by kernel_rfl) (fun _ _ _ h => h) (Or.inl ⟨by kernel_rfl, ?_⟩) (by first | assumption | trivial) ?_
          rotate_left
          · (intro wS hSw; (try dsimp only at hSw); go_simp; try with_reducible rfl)
          (try simp only [List.getElem_toArray, List.getElem_cons_succ, List.getElem_cons_zero, Act.put, List.setIfInBounds_toArray, List.set_cons_zero, List.set_cons_succ])
          refine wpAnyH_take (i := 10) (v := ?_) rfl (by kernel_rfl) (by kernel_rfl) (by kernel_rfl) (fun _ _ _ h => h) (Or.inl ⟨by kernel_rfl, ?_⟩) (by first | assumption | trivial) ?_
          rotate_left
          · (intro wS hSw; (try dsimp only at hSw); go_simp; try with_reducible rfl)
          (try simp only [List.getElem_toArray, List.getElem_cons_succ, List.getElem_cons_zero, Act.put, List.setIfInBounds_toArray, List.set_cons_zero, List.set_cons_succ])
          refine wpAnyH_take (i := 11) (v := ?_) rfl (by kernel_rfl) (by kernel_rfl) (by kernel_rfl) (fun _ _ _ h => h) (Or.inl ⟨by kernel_rfl, ?_⟩) (by first | assumption | trivial) ?_
          rotate_left
          · (intro wS hSw; (try dsimp only at hSw); go_simp; try with_reducible rfl)
          (try simp only [List.getElem_toArray, List.getElem_cons_succ, List.getElem_cons_zero, Act.put, List.setIfInBounds_toArray, List.set_cons_zero, List.set_cons_succ])
          refine wpAnyH_take (i := 12) (v := ?_) rfl (by kernel_rfl) (by kernel_rfl) (by kernel_rfl) (fun _ _ _ h => h) (Or.inl ⟨by kernel_rfl, ?_⟩) (by first | assumption | trivial) ?_
          rotate_left
          · (intro wS hSw; (try dsimp only at hSw); go_simp; try with_reducible rfl)
          (try simp only [List.getElem_toArray, List.getElem_cons_succ, List.getElem_cons_zero, Act.put, List.setIfInBounds_toArray, List.set_cons_zero, List.set_cons_succ])
          refine wpAnyH_take (i := 13) (v := ?_) rfl (by kernel_rfl) (by kernel_rfl) (by kernel_rfl) (fun _ _ _ h => h) (Or.inl ⟨by kernel_rfl, ?_⟩) (by first | assumption | trivial) ?_
          rotate_left
          · (intro wS hSw; (try dsimp only at hSw); go_simp; try with_reducible rfl)
          (try simp only [List.getElem_toArray, List.getElem_cons_succ, List.getElem_cons_zero, Act.put, List.setIfInBounds_toArray, List.set_cons_zero, List.set_cons_succ])
          refine wpAnyH_take (i := 14) (v := ?_) rfl (by kernel_rfl) (by kernel_rfl) (by kernel_rfl) (fun _ _ _ h => h) (Or.inl ⟨by kernel_rfl, ?_⟩) (by first | assumption | trivial) ?_
          rotate_left
          · (intro wS hSw; (try dsimp only at hSw); go_simp; try with_reducible rfl)
          (try simp only [List.getElem_toArray, List.getElem_cons_succ, List.getElem_cons_zero, Act.put, List.setIfInBounds_toArray, List.set_cons_zero, List.set_cons_succ])
          refine wpAnyH_take (i := 15) (v := ?_) rfl (by kernel_rfl) (by kernel_rfl) (by kernel_rfl) (fun _ _ _ h => h) (Or.inl ⟨by kernel_rfl, ?_⟩) (by first | assumption | trivial) ?_
          rotate_left
          · (intro wS hSw; (try dsimp only at hSw); go_simp; try with_reducible rfl)
          (try simp only [List.getElem_toArray, List.getElem_cons_succ, List.getElem_cons_zero, Act.put, List.setIfInBounds_toArray, List.set_cons_zero, List.set_cons_succ])
          refine wpAnyH_ready (rs := [16]) (by kernel_rfl) (by simp) ?_
          refine AllReadyH.cons rfl (fun K hK => ?_) AllReadyH.nil
          go_simp
          generalize hW : (wr.drewN (nq + 1)).alloc (Obj.cells #[Value.int IntKind.u8 0, Value.int IntKind.u8 0, Value.int IntKind.u8 0] T3) = W1
          have hC1 : OwnC W1 wr.heap.size T3 [.int .u8 0, .int .u8 0, .int .u8 0] := by rw [← hW]; exact OwnC.new_ (wr.drewN (nq + 1)) _ _
          have hb1 : Below wr.heap.size wr W1 := by rw [← hW]; exact (bq (Below.refl _ _) _).alloc (Nat.le_refl _) _
          refine hK.out _ _ ⟨cells_keep hb1 c0, cells_keep hb1 c2, cells_keep hb1 p0, cells_keep hb1 p1, cells_keep hb1 p2⟩ (fun hHeld => ?_)
          clear hK K
          (try simp only [List.getElem_toArray, List.getElem_cons_succ, List.getElem_cons_zero, Act.put, List.setIfInBounds_toArray, List.set_cons_zero, List.set_cons_succ])
          have q0 := hC1.cell (j := 0) rfl
          have q1 := hC1.cell (j := 1) rfl
          have q2 := hC1.cell (j := 2) rfl
          have f0 := hC1.frozen 0
          have f1 := hC1.frozen 1
          have f2 := hC1.frozen 2
          refine wpAnyH_ready (rs := [17]) (by kernel_rfl) (by simp) ?_
          refine AllReadyH.cons rfl (fun K hK => ?_) AllReadyH.nil
          go_simp
          have hC2 := ((hC1.set 0 (.int .u8 (xa.toNat : Int))).set 1 (.int .u8 (xb.toNat : Int))).set 2 (.int .u8 (xc.toNat : Int))
          have hb2 := ((hb1.setCell (p := ⟨wr.heap.size, 0, none⟩) (Nat.le_refl _) (.int .u8 (xa.toNat : Int))).setCell (p := ⟨wr.heap.size, 1, none⟩) (Nat.le_refl _) (.int .u8 (xb.toNat : Int))).setCell (p := ⟨wr.heap.size, 2, none⟩) (Nat.le_refl _) (.int .u8 (xc.toNat : Int))
          refine hK.out _ _ ⟨cells_keep hb2 c0, cells_keep hb2 c2, cells_keep hb2 p0, cells_keep hb2 p1, cells_keep hb2 p2⟩ (fun hHeld => ?_)
          clear hK K
          (try simp only [List.getElem_toArray, List.getElem_cons_succ, List.getElem_cons_zero, Act.put, List.setIfInBounds_toArray, List.set_cons_zero, List.set_cons_succ])
          refine wpAnyH_done (by kernel_rfl) ?_ _
          refine NoPanic.normal ?_
          go_wp2_with fail
          go_meet
          exact ⟨_, rfl, hid ⟨hC2, Nat.le_refl _, by omega, hb2⟩⟩
        case rest =>
        obtain ⟨g, rfl, hB⟩ := hcut
        have hJ := hid (hI.out.far hB.out.2.2.2)
        have F1 := hJ.out.choose_spec.1.cells
        have G1 := hB.out.1
        have c1 := F1.cell (j := 1) rfl
        have c2 := F1.cell (j := 2) rfl
        have g0 := G1.cell (j := 0) rfl
        have g1 := G1.cell (j := 1) rfl
        have g2 := G1.cell (j := 2) rfl
        have hgf : g ≠ fb := hB.out.2.2.1
        have hg0 : wr.heap.size ≤ g := hB.out.2.1
        have hmb : g ≠ mb := by have := hI.out.choose_spec.1.grp.lt; omega
        have hgl := G1.lt
        go_upto_region 4 with fail
        refine wp_region_noPanic ?_
        refine wp_region_held_drew (S := (fun W => W.cell? ⟨fb, 1, none⟩ = some (.map (some mb)) ∧ W.cell? ⟨fb, 2, none⟩ = some (.int .i64 (k : Int)) ∧ W.cell? ⟨g, 0, none⟩ = some (.int .u8 (xa.toNat : Int)) ∧ W.cell? ⟨g, 1, none⟩ = some (.int .u8 (xb.toNat : Int)) ∧ W.cell? ⟨g, 2, none⟩ = some (.int .u8 (xc.toNat : Int)))) (by kernel_rfl) (by first | assumption | trivial) (fun hHeld => ?_)
        refine wpAnyH_take (i := 0) (v := ?_) rfl (by kernel_rfl) (by kernel_rfl) (by kernel_rfl) (fun _ _ _ h => h) (Or.inl ⟨by kernel_rfl, ?_⟩) (by first | assumption | trivial) ?_
        rotate_left
        · (intro wS hSw; (try dsimp only at hSw); go_simp; try with_reducible rfl)
        (try simp only [List.getElem_toArray, List.getElem_cons_succ, List.getElem_cons_zero, Act.put, List.setIfInBounds_toArray, List.set_cons_zero, List.set_cons_succ])
        refine wpAnyH_take (i := 1) (v := ?_) rfl (by kernel_rfl) (by kernel_rfl) (by kernel_rfl) (fun _ _ _ h => h) (Or.inl ⟨by kernel_rfl, ?_⟩) (by first | assumption | trivial) ?_
        rotate_left
        · (intro wS hSw; (try dsimp only at hSw); go_simp; try with_reducible rfl)
        (try simp only [List.getElem_toArray, List.getElem_cons_succ, List.getElem_cons_zero, Act.put, List.setIfInBounds_toArray, List.set_cons_zero, List.set_cons_succ])
        refine wpAnyH_take (i := 2) (v := ?_) rfl (by kernel_rfl) (by kernel_rfl) (by kernel_rfl) (fun _ _ _ h => h) (Or.inl ⟨by kernel_rfl, ?_⟩) (by first | assumption | trivial) ?_
        rotate_left
        · (intro wS hSw; (try dsimp only at hSw); go_simp; try with_reducible rfl)
        (try simp only [List.getElem_toArray, List.getElem_cons_succ, List.getElem_cons_zero, Act.put, List.setIfInBounds_toArray, List.set_cons_zero, List.set_cons_succ])
        refine wpAnyH_take (i := 3) (v := ?_) rfl (by kernel_rfl) (by kernel_rfl) (by kernel_rfl) (fun _ _ _ h => h) (Or.inl ⟨by kernel_rfl, ?_⟩) (by first | assumption | trivial) ?_
        rotate_left
        · (intro wS hSw; (try dsimp only at hSw); go_simp; try with_reducible rfl)
        (try simp only [List.getElem_toArray, List.getElem_cons_succ, List.getElem_cons_zero, Act.put, List.setIfInBounds_toArray, List.set_cons_zero, List.set_cons_succ])
        refine wpAnyH_take (i := 4) (v := ?_) rfl (by kernel_rfl) (by kernel_rfl) (by kernel_rfl) (fun _ _ _ h => h) (Or.inl ⟨by kernel_rfl, ?_⟩) (by first | assumption | trivial) ?_
        rotate_left
        · (intro wS hSw; (try dsimp only at hSw); go_simp; try with_reducible rfl)
        (try simp only [List.getElem_toArray, List.getElem_cons_succ, List.getElem_cons_zero, Act.put, List.setIfInBounds_toArray, List.set_cons_zero, List.set_cons_succ])
        refine wpAnyH_take (i := 5) (v := ?_) rfl (by kernel_rfl) (by kernel_rfl) (by kernel_rfl) (fun _ _ _ h => h) (Or.inl ⟨by kernel_rfl, ?_⟩) (by first | assumption | trivial) ?_
        rotate_left
        · (intro wS hSw; (try dsimp only at hSw); go_simp; try with_reducible rfl)
        (try simp only [List.getElem_toArray, List.getElem_cons_succ, List.getElem_cons_zero, Act.put, List.setIfInBounds_toArray, List.set_cons_zero, List.set_cons_succ])
        refine wpAnyH_take (i := 6) (v := ?_) rfl (by kernel_rfl) (by kernel_rfl) (by kernel_rfl) (fun _ _ _ h => h) (Or.inl ⟨by kernel_rfl, ?_⟩) (by first | assumption | trivial) ?_
        rotate_left
        · (intro wS hSw; (try dsimp only at hSw); go_simp; try with_reducible rfl)
        (try simp only [List.getElem_toArray, List.getElem_cons_succ, List.getElem_cons_zero, Act.put, List.setIfInBounds_toArray, List.set_cons_zero, List.set_cons_succ])
        refine wpAnyH_take (i := 7) (v := ?_) rfl (by kernel_rfl) (by kernel_rfl) (by kernel_rfl) (fun _ _ _ h => h) (Or.inl ⟨by kernel_rfl, ?_⟩) (by first | assumption | trivial) ?_
        rotate_left
        · (intro wS hSw; (try dsimp only at hSw); go_simp; try with_reducible rfl)
        (try simp only [List.getElem_toArray, List.getElem_cons_succ, List.getElem_cons_zero, Act.put, List.setIfInBounds_toArray, List.set_cons_zero, List.set_cons_succ])
        refine wpAnyH_take (i := 8) (v := ?_) rfl (by kernel_rfl) (by kernel_rfl) (by kernel_rfl) (fun _ _ _ h => h) (Or.inl ⟨by kernel_rfl, ?_⟩) (by first | assumption | trivial) ?_
        rotate_left
        · (intro wS hSw; (try dsimp only at hSw); go_simp; try with_reducible rfl)
        (try simp only [List.getElem_toArray, List.getElem_cons_succ, List.getElem_cons_zero, Act.put, List.setIfInBounds_toArray, List.set_cons_zero, List.set_cons_succ])
        refine wpAnyH_ready (rs := [9]) (by kernel_rfl) (by simp) ?_
        refine AllReadyH.cons rfl (fun K hK => ?_) AllReadyH.nil
        go_simp
        generalize hW : (wc.alloc (Obj.cells #[Value.int IntKind.i64 (k : Int)] TI)).drew = W1
        have N1 : OwnC W1 wc.heap.size TI [.int .i64 (k : Int)] := by rw [← hW]; exact OwnC.new_ wc _ _
        have hb1 : Below wc.heap.size wc W1 := by rw [← hW]; exact bq ((Below.refl _ _).alloc (Nat.le_refl _) _) 1
        clear hW
        refine hK.out _ _ ⟨cells_keep hb1 c1, cells_keep hb1 c2, cells_keep hb1 g0, cells_keep hb1 g1, cells_keep hb1 g2⟩ (fun hHeld => ?_)
        clear hK K
        (try simp only [List.getElem_toArray, List.getElem_cons_succ, List.getElem_cons_zero, Act.put, List.setIfInBounds_toArray, List.set_cons_zero, List.set_cons_succ])
        obtain ⟨v, st, w1, m, xs, hrun, hg1, hown, hm, hms, hv, hback⟩ := keep_step (hJ.out.far hb1) (by omega) HP.out
        have F2 := F1.below hb1
        have G2 := G1.below hb1
        have hnm : fb ≠ mb := hJ.out.choose_spec.1.ne
        have hml := hJ.out.choose_spec.1.grp.lt
        have F3 := F2.grown hg1 (fun h => by cases h; exact hnm rfl)
        have G3 := G2.grown hg1 (fun h => by cases h; exact hmb rfl)
        have N3 := N1.grown hg1 (fun h => by cases h; omega)
        refine wpAnyH_ready (rs := [10]) (by kernel_rfl) (by simp) ?_
        refine AllReadyH.cons rfl (fun K hK => ?_) AllReadyH.nil
        rw [if_pos (by kernel_rfl)]
        (refine wp_mapEntry TM (.tmp 48) (.tmp 49) rfl hrun ?_; have hS3 : w1.cell? ⟨fb, 1, none⟩ = some (.map (some mb)) ∧ w1.cell? ⟨fb, 2, none⟩ = some (.int .i64 (k : Int)) ∧ w1.cell? ⟨g, 0, none⟩ = some (.int .u8 (xa.toNat : Int)) ∧ w1.cell? ⟨g, 1, none⟩ = some (.int .u8 (xb.toNat : Int)) ∧ w1.cell? ⟨g, 2, none⟩ = some (.int .u8 (xc.toNat : Int)) := ⟨F3.cell (j := 1) rfl, F3.cell (j := 2) rfl, G3.cell (j := 0) rfl, G3.cell (j := 1) rfl, G3.cell (j := 2) rfl⟩)
        refine hK.out _ _ (by first | assumption | trivial) (fun hHeld => ?_)
        clear hK K
        (try simp only [List.getElem_toArray, List.getElem_cons_succ, List.getElem_cons_zero, Act.put, List.setIfInBounds_toArray, List.set_cons_zero, List.set_cons_succ])
        refine wpAnyH_take (i := 11) (v := ?_) rfl (by kernel_rfl) (by kernel_rfl) (by kernel_rfl) (fun _ _ _ h => h) (Or.inl ⟨by kernel_rfl, ?_⟩) (by first | assumption | trivial) ?_
        rotate_left
        · (intro wS hSw; (try dsimp only at hSw); go_simp; try with_reducible rfl)
        (try simp only [List.getElem_toArray, List.getElem_cons_succ, List.getElem_cons_zero, Act.put, List.setIfInBounds_toArray, List.set_cons_zero, List.set_cons_succ])
        refine wpAnyH_take (i := 13) (v := ?_) rfl (by kernel_rfl) (by kernel_rfl) (by kernel_rfl) (fun _ _ _ h => h) (Or.inl ⟨by kernel_rfl, ?_⟩) (by first | assumption | trivial) ?_
        rotate_left
        · (intro wS hSw; (try dsimp only at hSw); go_simp; try with_reducible rfl)
        (try simp only [List.getElem_toArray, List.getElem_cons_succ, List.getElem_cons_zero, Act.put, List.setIfInBounds_toArray, List.set_cons_zero, List.set_cons_succ])
        refine wpAnyH_ready (rs := [12]) (by kernel_rfl) (by simp) ?_
        refine AllReadyH.cons rfl (fun K hK => ?_) AllReadyH.nil
        rw [if_pos (by kernel_rfl)]
        (refine wp_append_row _ (.tmp 50) (.tmp 55) sliceI rfl (mb + 1) v m xs rfl hown (some ⟨wc.heap.size, 0, none⟩) 1 1 [.int .i64 (k : Int)] rfl rfl N3.row (by simp [Value.oneCell']) (by unfold maxLen; omega) (by omega) hms ?_; intro A2 c2' w2 hown2 hg2 hloc2; have F4 := F3.grown hg2 (own_ne hown F3 (by decide)); have G4 := G3.grown hg2 (own_ne hown G3 (by decide)); have hS4 : w2.cell? ⟨fb, 1, none⟩ = some (.map (some mb)) ∧ w2.cell? ⟨fb, 2, none⟩ = some (.int .i64 (k : Int)) ∧ w2.cell? ⟨g, 0, none⟩ = some (.int .u8 (xa.toNat : Int)) ∧ w2.cell? ⟨g, 1, none⟩ = some (.int .u8 (xb.toNat : Int)) ∧ w2.cell? ⟨g, 2, none⟩ = some (.int .u8 (xc.toNat : Int)) := ⟨F4.cell (j := 1) rfl, F4.cell (j := 2) rfl, G4.cell (j := 0) rfl, G4.cell (j := 1) rfl, G4.cell (j := 2) rfl⟩)
        refine hK.out _ _ (by first | assumption | trivial) (fun hHeld => ?_)
        clear hK K
        (try simp only [List.getElem_toArray, List.getElem_cons_succ, List.getElem_cons_zero, Act.put, List.setIfInBounds_toArray, List.set_cons_zero, List.set_cons_succ])
        obtain ⟨w3, hrun3, hg3, hK3⟩ := hback _ _ hg2 hown2 hloc2
        have F5 := F4.grown hg3 (fun h => by cases h; exact hnm rfl)
        have G5 := G4.grown hg3 (fun h => by cases h; exact hmb rfl)
        refine wpAnyH_ready (rs := [14]) (by kernel_rfl) (by simp) ?_
        refine AllReadyH.cons rfl (fun K hK => ?_) AllReadyH.nil
        rw [if_pos (by kernel_rfl)]
        (refine wp_entryStore TM (.tmp 48) (.tmp 58) (.tmp 57) rfl hrun3 ?_; have hS5 : w3.cell? ⟨fb, 1, none⟩ = some (.map (some mb)) ∧ w3.cell? ⟨fb, 2, none⟩ = some (.int .i64 (k : Int)) ∧ w3.cell? ⟨g, 0, none⟩ = some (.int .u8 (xa.toNat : Int)) ∧ w3.cell? ⟨g, 1, none⟩ = some (.int .u8 (xb.toNat : Int)) ∧ w3.cell? ⟨g, 2, none⟩ = some (.int .u8 (xc.toNat : Int)) := ⟨F5.cell (j := 1) rfl, F5.cell (j := 2) rfl, G5.cell (j := 0) rfl, G5.cell (j := 1) rfl, G5.cell (j := 2) rfl⟩)
        refine hK.out _ _ (by first | assumption | trivial) (fun hHeld => ?_)
        clear hK K
        (try simp only [List.getElem_toArray, List.getElem_cons_succ, List.getElem_cons_zero, Act.put, List.setIfInBounds_toArray, List.set_cons_zero, List.set_cons_succ])
        refine wpAnyH_done (by kernel_rfl) ?_ _
        refine NoPanic.normal ?_
        have H3 := hid hK3
        have c2 := F5.cell (j := 2) rfl
        have fz := F5.frozen 2
        clear hK3 hrun hrun3 hback hown hown2
        go_wp2
        go_roundw
        case rel => exact ⟨k + 1, by omega, by omega, hid (H3.out.set (k + 1))⟩
        case measure =>
          have h9 := (H3.out.set (k + 1)).upto
          rw [show ((k + 1 : Nat) : Int) = (k : Int) + 1 by omega] at h9
          rw [hI.out.upto, h9]
          omega
      · have d2 : decide ((k : Int) + 3 ≤ n) = false := by simp; omega
        go_upto_region 2 with fail
        go_quiet (fail)
        go_wp2
        go_roundw
        case rel => exact ⟨k + 1, by omega, by omega, hid (((hI.out.out_ (by omega)).drewN _).set (k + 1))⟩
        case measure =>
          have h9 := (((hI.out.out_ (by omega)).drewN nq).set (k + 1)).upto
          rw [show ((k + 1 : Nat) : Int) = (k : Int) + 1 by omega] at h9
          rw [hI.out.upto, h9]
          omega
    · have d1 : decide ((k : Int) < at_) = false := by simpa using hlt
      go_wp2
      go_end0
      obtain rfl : k = max u at_ := by omega
      exact ⟨rfl, hI.out⟩
end Go.Proofs.Ytaoigplmkckieaa
