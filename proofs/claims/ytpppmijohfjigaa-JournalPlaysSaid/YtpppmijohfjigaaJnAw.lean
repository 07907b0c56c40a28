/-
  The law's made, both and reads; The chapter's examples, what they come to; The chapter's examples, walked; The chapter's examples, walked. A part of the proof: see the head of the text that ends in 'Law'.
-/
import Derived.Test.YtpppmijohfjigaaJnPl
import Derived.Test.YtpppmijohfjigaaJn19
namespace Go.Proofs.Ytpppmijohfjigaa
section
open Go.RowKit
set_option linter.unusedVariables false
set_option linter.unusedSimpArgs false
set_option maxRecDepth 100000
attribute [local go_sem] Oper.semAt_some
theorem St.low {w0 W0 W : World} {d hb : Nat} {D : Dsk} (h : St W0 W d hb D) (hw : Below w0.heap.size w0 W0) : St w0 W d hb D := by
  obtain ⟨V, hV⟩ := h.at_
  exact ⟨⟨V, hV.low hw.size⟩, next hw h.bel, nl_of (hV.low hw.size) (h.nl V hV)⟩
theorem St.h_ge {w0 W : World} {d hb : Nat} {D : Dsk} (h : St w0 W d hb D) : w0.heap.size ≤ hb := by
  obtain ⟨V, hV⟩ := h.at_
  exact hV.h0
/-- A disk that is formatted. -/
def madeD (n : Nat) : Dsk := (formatD (newD n)).1
structure Quiet (n : Nat) (D : Dsk) : Prop where
  w : D.waits = []
  off : D.off = false
  len : D.has.length = n
structure Made (n : Nat) (D : Dsk) : Prop extends Quiet n D where
  bud : D.bud = -1
  old : OldS n (fun _ => zer) D.has
theorem made_ok (n : Nat) (h : 41 < n) : (formatD (newD n)).2 = 0 ∧ Made n (madeD n) := by
  have hl : (newD n).has.length = n := List.length_replicate
  have e : formatD (newD n) = runD formatS (newD n) := by unfold formatD; rw [if_neg (by omega)]
  unfold madeD
  rw [e, format_parts]
  rcases phase [(0, zer)] (newD n) rfl rfl (fun p hp => by rw [List.mem_singleton.1 hp, hl]; omega) with ⟨c1, c2, c3, c4⟩ | ⟨c1, c2, c3, j, c4⟩
  · have c3' : (runD (wrS [(0, zer)] ++ [.fl]) (newD n)).1.has = (newD n).has.set 0 zer := c3
    have c5 : (runD (wrS [(0, zer)] ++ [.fl]) (newD n)).1.has.length = n := by rw [c3', List.length_set]; exact hl
    refine ⟨c1, ⟨c4, c2.off, c5⟩, c2.bud rfl, c5, by rw [c3', set_getD _ _ _ _ (by omega), if_pos rfl], fun i h1 h2 => ?_⟩
    rw [c3', set_getD _ _ _ _ (by omega), if_neg (by omega)]
    show (List.replicate n zer).getD i [] = zer
    rw [List.getD_eq_getElem?_getD, List.getElem?_replicate, if_pos h2]
    rfl
  · exact absurd rfl c2
theorem made_any (n : Nat) (h1 : 41 < n) (h2 : n ≤ 2048) (W : World) :
    Calls Try.prog 12 #[.int .i64 (n : Int)] W fun e w' => ∃ d hb, e = .returned (.pointer (some ⟨d, 0, none⟩)) ∧ St W w' d hb (madeD n) := by
  have HM := hid (made_ok n h1).1
  obtain ⟨D, hD⟩ : ∃ D, newD n = D := ⟨_, rfl⟩
  have HD := hid hD
  have HW : Hid (D.waits = []) := hid (by rw [← hD]; rfl)
  clear hD
  go_enter Try.func12, Try.ntmps12
  go_upto_region 2 with (go_at_call 23; refine (new_st n (by omega) h2 W W (Below.refl _ _)).mono ?_; rintro e w1 ⟨d, hb, rfl, s1, b1⟩; rw [HD.out] at s1; have S := hid s1; clear s1 b1)
  go_wp2_with (go_at_call 30; refine (format_any S.out (by rw [HW.out]; exact Nat.zero_le _)).mono ?_; rintro e w2 ⟨rfl, s2, k2⟩; rw [show (formatD D).2 = 0 by rw [← HD.out]; exact HM.out]; have S2 := hid s2; clear s2 k2)
  go_ret
  exact ⟨_, _, rfl, by unfold madeD; rw [HD.out]; exact S2.out⟩
theorem all_c (c : UInt8) (k : Int) (hk : (c.toNat : Int) = k) (W : World) :
    Calls Try.prog 20 #[.int .u8 k] W fun e w' => ∃ g, e = .returned (.slice (some ⟨g, 0, none⟩) 128 128) ∧ g = W.heap.size ∧ OwnC w' g 5 ((secA c).map B8) ∧ Below W.heap.size W w' := by
  subst hk
  exact (all_any c W).mono fun e w' ⟨h1, h2, h3⟩ => ⟨_, h1, rfl, h2, h3⟩
def bothL : List Iss := [(41, secA 7), (42, secA 8)]
theorem cells_ownC {W : World} {g : Nat} {T : TypeId} {xs : List Value} (h : OwnC W g T xs) : CellsT T W (some ⟨g, 0, none⟩) xs := fun _ => by
  obtain ⟨cur, hc, hu⟩ := h
  exact ⟨g, 0, cur, _, rfl, hc, fun j u hj => by rw [Nat.zero_add]; exact hu j u hj⟩
theorem both_end {W w1 w2 w3 : World} {g1 g2 : Nat} {T : TypeId} (hT : T = 47) (o1 : OwnC w1 g1 5 ((secA 7).map B8)) (b1 : Below W.heap.size W w1) (o2 : OwnC w2 g2 5 ((secA 8).map B8)) (b2 : Below w1.heap.size w1 w2)
    (h3 : w3 = w2.alloc (.cells #[.int .i64 41, .slice (some ⟨g1, 0, none⟩) 128 128, .int .i64 42, .slice (some ⟨g2, 0, none⟩) 128 128] T)) :
    Below W.heap.size W w3 ∧ ∃ A c vs, (Value.slice (some ⟨w2.heap.size, 0, none⟩) 2 2) = .slice A 2 c ∧ PutsT w3 A 2 vs ∧ vs.map PuV.p = bothL := by
  subst hT h3
  have b3 : Below w2.heap.size w2 (w2.alloc (.cells #[.int .i64 41, .slice (some ⟨g1, 0, none⟩) 128 128, .int .i64 42, .slice (some ⟨g2, 0, none⟩) 128 128] 47)) := (Below.refl _ w2).alloc (Nat.le_refl _) _
  refine ⟨next (next b1 b2) b3, _, 2, [⟨41, some ⟨g1, 0, none⟩, 128, 128, secA 7⟩, ⟨42, some ⟨g2, 0, none⟩, 128, 128, secA 8⟩], rfl, ⟨rfl, fun _ => ⟨w2.heap.size, 0, _, _, rfl, heap_alloc_new w2 _, fun j u hj => by rw [Nat.zero_add]; rw [← hj]; exact List.getElem?_toArray ..⟩, ?_, ?_, ?_, ?_⟩, rfl⟩
  all_goals (intro v hv; rcases List.mem_cons.1 hv with rfl | hv)
  · exact secA_len _
  · rw [List.mem_singleton.1 hv]; exact secA_len _
  · exact ((cells_ownC o1).below b2).below b3
  · rw [List.mem_singleton.1 hv]; exact (cells_ownC o2).below b3
  · exact ⟨by dsimp only; omega, by dsimp only; omega⟩
  · rw [List.mem_singleton.1 hv]; exact ⟨by dsimp only; omega, by dsimp only; omega⟩
  · exact Nat.le_refl _
  · rw [List.mem_singleton.1 hv]; exact Nat.le_refl _
theorem both_any (W : World) :
    Calls Try.prog 40 #[] W fun e w' => Below W.heap.size W w' ∧ ∃ A c vs, e = .returned (.slice A 2 c) ∧ PutsT w' A 2 vs ∧ vs.map PuV.p = bothL := by
  go_enter Try.func40, Try.ntmps40
  go_wp2_with first
    | (go_at_call 20; (with_reducible refine (all_c 7 7 (by decide) _).mono ?_); rintro e w1 ⟨g1, rfl, -, o1, b1⟩; have O1 := hid o1; have B1 := hid b1; clear o1 b1)
    | (go_at_call 20; (with_reducible refine (all_c 8 8 (by decide) _).mono ?_); rintro e w2 ⟨g2, rfl, -, o2, b2⟩; have O2 := hid o2; have B2 := hid b2; clear o2 b2)
  go_ret
  obtain ⟨h1, A, c, vs, h2, h3, h4⟩ := both_end rfl O1.out B1.out O2.out B2.out rfl
  exact ⟨h1, A, c, vs, congrArg Ending.returned h2, h3, h4⟩
set_option maxHeartbeats 4000000 in
theorem reads_any {w0 W : World} {d hb : Nat} {D : Dsk} (h : St w0 W d hb D) (hoff : D.off = false) (hw : D.waits.length ≤ 100000) (A : Option Addr) (n c : Nat) (l : List UInt8) (hl : Oct W A n l) (hn : n ≤ 100) (hs : 41 + n ≤ D.has.length) (hr : ∀ (i : Nat) (hi : i < l.length), readD D (41 + i) = secA (l[i]'hi)) :
    Calls Try.prog 41 #[.pointer (some ⟨d, 0, none⟩), .slice A n c] W fun e w' => e = .returned (.bool true) ∧ St w0 w' d hb D ∧ Below W.heap.size W w' := by
  have S0 := hid h
  have HO := hid hl
  have HLN : Hid (l.length = n) := hid hl.len
  have HR := hid hr
  have HRD := hid (fun (X : World) (k : St w0 X d hb D) (i : Nat) (hi : i < n) => read_st k (41 + i) (by omega) hoff hw)
  have HRL := hid (fun (i : Nat) (hi : i < n) => readD_len h (41 + i) (by omega))
  clear h hoff hw hl hr
  go_enter Try.func41, Try.ntmps41
  go_wp2_with fail
  go_loopw [5] (fun k wr => ∃ j : Nat, j ≤ n ∧ k = .int .i64 (j : Int) ∧ Hid (St w0 wr d hb D ∧ Below W.heap.size W wr)) (fun k wr => n - (intOf k).toNat)
  case atStart => exact ⟨0, Nat.zero_le _, rfl, hid ⟨S0.out, Below.refl _ _⟩⟩
  case round =>
    obtain ⟨j, hj, rfl, HI⟩ := hrel
    rename World => wr
    have S := hid HI.out.1
    have B := hid HI.out.2
    clear HI
    by_cases hlt : j < n
    · have e1 := lt_t hlt
      have e1n := lt_nt hlt
      have j0 : (0 : Int) ≤ (j : Int) := by omega
      have j1 : (j : Int) < (n : Int) := by omega
      have j2 : (j : Int).toNat = j := by omega
      obtain ⟨m, hm⟩ : ∃ m, 41 + j = m := ⟨_, rfl⟩
      have jw : IntKind.i64.wrap ((41 : Int) + (j : Int)) = (m : Int) := by rw [IntKind.wrap_i64]; omega
      have hjl : j < l.length := by rw [HLN.out]; exact hlt
      obtain ⟨ab, ao, rfl, hoc⟩ := HO.out.at_ (by omega)
      have hbyte : ∀ X, Below W.heap.size W X → X.cell? ⟨ab, ao + j, none⟩ = some (B8 (l[j]'hjl)) := fun X hX => cells_keep hX (hoc j hjl)
      have HB := hid hbyte
      have hsec := HR.out j hjl
      obtain ⟨u, hu⟩ : ∃ u, l[j]'hjl = u := ⟨_, rfl⟩
      rw [hu] at HB hsec
      have HRJ := HRD.out
      have hl128 := HRL.out j hlt
      rw [hsec] at hl128
      have HL128 := hid hl128
      have HRX := hid (fun (X : World) (k : St w0 X d hb D) => by have := HRD.out X k j hlt; rw [hsec] at this; rw [hm] at this; exact this)
      clear hm hbyte hsec hu HRJ hl128 hoc
      go_upto_region 5 with (go_at_call 14; (with_reducible refine (HRX.out _ S.out).mono ?_); rintro e w2 ⟨g2, rfl, o2, -, s2, b2⟩; have S := hid s2; have B := hid (next B.out b2); have O2 := hid o2; clear o2 s2 b2)
      have hSD : (convert 24 9 (.slice (some ⟨g2, 0, none⟩) 128 128)).run Try.prog w2.drew = .ok (.string (str (secA u))) w2.drew ∧ w2.drew.cell? ⟨ab, ao + j, none⟩ = some (B8 u) := ⟨strS (O2.out.below (drew_below w2)) (secA_len u), HB.out _ (next B.out (drew_below w2))⟩
      have S := hid S.out.drew
      have B := hid (next B.out (drew_below w2))
      have hss := str_ne (rfl : secA u = secA u)
      refine wp_region_noPanic ?_
      refine wp_region_held_drew (S := (fun X => (convert 24 9 (.slice (some ⟨g2, 0, none⟩) 128 128)).run Try.prog X = .ok (.string (str (secA u))) X ∧ X.cell? ⟨ab, ao + j, none⟩ = some (B8 u))) (by kernel_rfl) (by first | assumption | trivial) (fun hHeld => ?_)
      refine wpAnyH_take (i := 0) (v := ?_) rfl (by kernel_rfl) (by kernel_rfl) (by kernel_rfl) (fun _ _ _ h => h) (Or.inl ⟨by kernel_rfl, ?_⟩) (by first | assumption | trivial) ?_
      rotate_left
      · (intro wS hSw; (try dsimp only at hSw); go_simp; try with_reducible rfl)
      (try simp only [List.append_eq, List.cons_append, List.nil_append, List.getElem_toArray, List.getElem_cons_succ, List.getElem_cons_zero, Act.put, List.setIfInBounds_toArray, List.set_cons_zero, List.set_cons_succ])
      refine wpAnyH_take (i := 1) (v := ?_) rfl (by kernel_rfl) (by kernel_rfl) (by kernel_rfl) (fun _ _ _ h => h) (Or.inl ⟨by kernel_rfl, ?_⟩) (by first | assumption | trivial) ?_
      rotate_left
      · (intro wS hSw; (try dsimp only at hSw); go_simp; try with_reducible rfl)
      (try simp only [List.append_eq, List.cons_append, List.nil_append, List.getElem_toArray, List.getElem_cons_succ, List.getElem_cons_zero, Act.put, List.setIfInBounds_toArray, List.set_cons_zero, List.set_cons_succ])
      refine wpAnyH_take (i := 2) (v := ?_) rfl (by kernel_rfl) (by kernel_rfl) (by kernel_rfl) (fun _ _ _ h => h) (Or.inl ⟨by kernel_rfl, ?_⟩) (by first | assumption | trivial) ?_
      rotate_left
      · (intro wS hSw; (try dsimp only at hSw); go_simp; try with_reducible rfl)
      (try simp only [List.append_eq, List.cons_append, List.nil_append, List.getElem_toArray, List.getElem_cons_succ, List.getElem_cons_zero, Act.put, List.setIfInBounds_toArray, List.set_cons_zero, List.set_cons_succ])
      refine wpAnyH_take (i := 3) (v := ?_) rfl (by kernel_rfl) (by kernel_rfl) (by kernel_rfl) (fun _ _ _ h => h) (Or.inl ⟨by kernel_rfl, ?_⟩) (by first | assumption | trivial) ?_
      rotate_left
      · (intro wS hSw; (try dsimp only at hSw); go_simp; try with_reducible rfl)
      (try simp only [List.append_eq, List.cons_append, List.nil_append, List.getElem_toArray, List.getElem_cons_succ, List.getElem_cons_zero, Act.put, List.setIfInBounds_toArray, List.set_cons_zero, List.set_cons_succ])
      refine wpAnyH_take (i := 4) (v := ?_) rfl (by kernel_rfl) (by kernel_rfl) (by kernel_rfl) (fun _ _ _ h => h) (Or.inl ⟨by kernel_rfl, ?_⟩) (by first | assumption | trivial) ?_
      rotate_left
      · (intro wS hSw; (try dsimp only at hSw); go_simp; try with_reducible rfl)
      (try simp only [List.append_eq, List.cons_append, List.nil_append, List.getElem_toArray, List.getElem_cons_succ, List.getElem_cons_zero, Act.put, List.setIfInBounds_toArray, List.set_cons_zero, List.set_cons_succ])
      refine wpAnyH_take (i := 5) (v := ?_) rfl (by kernel_rfl) (by kernel_rfl) (by kernel_rfl) (fun _ _ _ h => h) (Or.inl ⟨by kernel_rfl, ?_⟩) (by first | assumption | trivial) ?_
      rotate_left
      · (intro wS hSw; (try dsimp only at hSw); go_simp; try with_reducible rfl)
      (try simp only [List.append_eq, List.cons_append, List.nil_append, List.getElem_toArray, List.getElem_cons_succ, List.getElem_cons_zero, Act.put, List.setIfInBounds_toArray, List.set_cons_zero, List.set_cons_succ])
      refine wpAnyH_ready (rs := [6]) (by kernel_rfl) (by simp) ?_
      refine AllReadyH.cons rfl (fun K hK => ?_) AllReadyH.nil
      go_simp
      (go_at_call 20; refine (allC S.out u).mono ?_; rintro e w3 ⟨g3, rfl, o3, s3, b3⟩; have hS : (convert 24 9 (.slice (some ⟨g2, 0, none⟩) 128 128)).run Try.prog w3 = .ok (.string (str (secA u))) w3 ∧ w3.cell? ⟨ab, ao + j, none⟩ = some (B8 u) := ⟨strS ((O2.out.below (drew_below w2)).below b3) (secA_len u), HB.out _ (next B.out b3)⟩; have S := hid s3; have co := strC o3 (secA_len _); have B := hid (next B.out b3); clear o3 s3 b3 hHeld)
      go_wp2_with fail
      refine hK.out _ _ (by first | assumption | trivial) (fun hHeld => ?_)
      clear hK K
      (try simp only [List.append_eq, List.cons_append, List.nil_append, List.getElem_toArray, List.getElem_cons_succ, List.getElem_cons_zero, Act.put, List.setIfInBounds_toArray, List.set_cons_zero, List.set_cons_succ])
      refine wpAnyH_ready (rs := [7]) (by kernel_rfl) (by simp) ?_
      refine AllReadyH.cons rfl (fun K hK => ?_) AllReadyH.nil
      go_simp
      skip
      go_wp2_with fail
      refine hK.out _ _ (by first | assumption | trivial) (fun hHeld => ?_)
      clear hK K
      (try simp only [List.append_eq, List.cons_append, List.nil_append, List.getElem_toArray, List.getElem_cons_succ, List.getElem_cons_zero, Act.put, List.setIfInBounds_toArray, List.set_cons_zero, List.set_cons_succ])
      refine wpAnyH_take (i := 8) (v := ?_) rfl (by kernel_rfl) (by kernel_rfl) (by kernel_rfl) (fun _ _ _ h => h) (Or.inl ⟨by kernel_rfl, ?_⟩) (by first | assumption | trivial) ?_
      rotate_left
      · (intro wS hSw; (try dsimp only at hSw); go_simp; try with_reducible rfl)
      (try simp only [List.append_eq, List.cons_append, List.nil_append, List.getElem_toArray, List.getElem_cons_succ, List.getElem_cons_zero, Act.put, List.setIfInBounds_toArray, List.set_cons_zero, List.set_cons_succ])
      refine wpAnyH_take (i := 9) (v := ?_) rfl (by kernel_rfl) (by kernel_rfl) (by kernel_rfl) (fun _ _ _ h => h) (Or.inl ⟨by kernel_rfl, ?_⟩) (by first | assumption | trivial) ?_
      rotate_left
      · (intro wS hSw; (try dsimp only at hSw); go_simp; try with_reducible rfl)
      (try simp only [List.append_eq, List.cons_append, List.nil_append, List.getElem_toArray, List.getElem_cons_succ, List.getElem_cons_zero, Act.put, List.setIfInBounds_toArray, List.set_cons_zero, List.set_cons_succ])
      refine wpAnyH_take (i := 10) (v := ?_) rfl (by kernel_rfl) (by kernel_rfl) (by kernel_rfl) (fun _ _ _ h => h) (Or.inl ⟨by kernel_rfl, ?_⟩) (by first | assumption | trivial) ?_
      rotate_left
      · (intro wS hSw; (try dsimp only at hSw); go_simp; try with_reducible rfl)
      (try simp only [List.append_eq, List.cons_append, List.nil_append, List.getElem_toArray, List.getElem_cons_succ, List.getElem_cons_zero, Act.put, List.setIfInBounds_toArray, List.set_cons_zero, List.set_cons_succ])
      refine wpAnyH_take (i := 11) (v := ?_) rfl (by kernel_rfl) (by kernel_rfl) (by kernel_rfl) (fun _ _ _ h => h) (Or.inl ⟨by kernel_rfl, ?_⟩) (by first | assumption | trivial) ?_
      rotate_left
      · (intro wS hSw; (try dsimp only at hSw); go_simp; try with_reducible rfl)
      (try simp only [List.append_eq, List.cons_append, List.nil_append, List.getElem_toArray, List.getElem_cons_succ, List.getElem_cons_zero, Act.put, List.setIfInBounds_toArray, List.set_cons_zero, List.set_cons_succ])
      refine wpAnyH_take (i := 12) (v := ?_) rfl (by kernel_rfl) (by kernel_rfl) (by kernel_rfl) (fun _ _ _ h => h) (Or.inl ⟨by kernel_rfl, ?_⟩) (by first | assumption | trivial) ?_
      rotate_left
      · (intro wS hSw; (try dsimp only at hSw); go_simp; try with_reducible rfl)
      (try simp only [List.append_eq, List.cons_append, List.nil_append, List.getElem_toArray, List.getElem_cons_succ, List.getElem_cons_zero, Act.put, List.setIfInBounds_toArray, List.set_cons_zero, List.set_cons_succ])
      refine wpAnyH_done (by kernel_rfl) ?_ _
      refine NoPanic.normal ?_
      go_wp2_with fail
      go_roundw
      case rel => exact ⟨j + 1, by omega, by go_num, hid ⟨S.out, B.out⟩⟩
      case measure => simp [intOf]; omega
    · have e1 := lt_f hlt
      have e1n := lt_nf hlt
      go_wp2_with fail
      go_ret
      exact ⟨rfl, S.out, B.out⟩
end
section
open Go.RowKit
set_option linter.unusedVariables false
set_option linter.unusedSimpArgs false
set_option maxRecDepth 100000
def exB : Dsk := { madeD 43 with bud := 4 }
def exB1 : Dsk × Nat := commitD exB bothL
theorem ex_a1 : (commitD (madeD 43) bothL).2 = 0 := by decide +kernel
theorem ex_a2 : (commitD (madeD 43) bothL).1.waits = [] := by decide +kernel
theorem ex_a3 : (commitD (madeD 43) bothL).1.off = false := by decide +kernel
theorem ex_a4 : (commitD (madeD 43) bothL).1.has.length = 43 := by decide +kernel
theorem ex_a5 : readD (commitD (madeD 43) bothL).1 41 = secA 7 := by decide +kernel
theorem ex_a6 : readD (commitD (madeD 43) bothL).1 42 = secA 8 := by decide +kernel
theorem ex_b1 : exB1.2 = 10 := by decide +kernel
theorem ex_b2 : exB1.1.waits.length = 1 := by decide +kernel
def exB2 : Dsk := onD' (cutD exB1.1 [true])
theorem ex_b3 : (recoverD exB2).2 = (2, 0) := by decide +kernel
theorem ex_b4 : (recoverD exB2).1.waits = [] := by decide +kernel
theorem ex_b5 : (recoverD exB2).1.off = false := by decide +kernel
theorem ex_b6 : (recoverD exB2).1.has.length = 43 := by decide +kernel
theorem ex_b7 : readD (recoverD exB2).1 41 = secA 7 := by decide +kernel
theorem ex_b8 : readD (recoverD exB2).1 42 = secA 8 := by decide +kernel
def exC2 : Dsk := onD' (cutD exB1.1 [])
theorem ex_c3 : (recoverD exC2).2 = (0, 0) := by decide +kernel
theorem ex_c4 : (recoverD exC2).1.waits = [] := by decide +kernel
theorem ex_c5 : (recoverD exC2).1.off = false := by decide +kernel
theorem ex_c6 : (recoverD exC2).1.has.length = 43 := by decide +kernel
theorem ex_c7 : readD (recoverD exC2).1 41 = secA 0 := by decide +kernel
theorem ex_c8 : readD (recoverD exC2).1 42 = secA 0 := by decide +kernel
theorem ex_d (D : Dsk) (h : D.has.length = 43) : commitD D [(40, secA 1)] = (D, 1) := by
  unfold commitD
  rw [h, if_pos (.inr (by decide +kernel))]
end
section
open Go.RowKit
set_option linter.unusedVariables false
set_option linter.unusedSimpArgs false
set_option maxRecDepth 100000
attribute [local go_sem] Oper.semAt_some
structure Apart (a ha b hb : Nat) : Prop where
  n1 : a ≠ b
  n2 : a ≠ hb
  n3 : ha ≠ b
  n4 : ha ≠ hb
theorem Apart.symm {a ha b hb : Nat} (h : Apart a ha b hb) : Apart b hb a ha := ⟨h.n1.symm, h.n3.symm, h.n2.symm, h.n4.symm⟩
/-- Three disks side by side. -/
structure Tri (w0 W : World) (a ha b hb c hc : Nat) (Da Db Dc : Dsk) : Prop where
  sa : St w0 W a ha Da
  sb : St w0 W b hb Db
  sc : St w0 W c hc Dc
  ab : Apart a ha b hb
  ac : Apart a ha c hc
  bc : Apart b hb c hc
theorem Tri.below {w0 W w' : World} {a ha b hb c hc : Nat} {Da Db Dc : Dsk} (t : Tri w0 W a ha b hb c hc Da Db Dc) (h : Below W.heap.size W w') : Tri w0 w' a ha b hb c hc Da Db Dc :=
  ⟨t.sa.below h, t.sb.below h, t.sc.below h, t.ab, t.ac, t.bc⟩
theorem St.aside {w0 W w' : World} {d hb d' hb' : Nat} {D D' : Dsk} (h : St w0 W d hb D) (hq : D.waits = []) (hL : Lets d' hb' W w') (hA : Apart d hb d' hb') (hs : St w0 w' d' hb' D') : St w0 w' d hb D := h.other hq hL hA.n1 hA.n2 hA.n3 hA.n4 hs.bel
theorem Tri.stepA {w0 W w' : World} {a ha b hb c hc : Nat} {Da Db Dc D' : Dsk} (t : Tri w0 W a ha b hb c hc Da Db Dc) (q1 : Db.waits = []) (q2 : Dc.waits = []) (s : St w0 w' a ha D') (L : Lets a ha W w') : Tri w0 w' a ha b hb c hc D' Db Dc :=
  ⟨s, t.sb.aside q1 L t.ab.symm s, t.sc.aside q2 L t.ac.symm s, t.ab, t.ac, t.bc⟩
theorem Tri.stepB {w0 W w' : World} {a ha b hb c hc : Nat} {Da Db Dc D' : Dsk} (t : Tri w0 W a ha b hb c hc Da Db Dc) (q1 : Da.waits = []) (q2 : Dc.waits = []) (s : St w0 w' b hb D') (L : Lets b hb W w') : Tri w0 w' a ha b hb c hc Da D' Dc :=
  ⟨t.sa.aside q1 L t.ab s, s, t.sc.aside q2 L t.bc.symm s, t.ab, t.ac, t.bc⟩
theorem Tri.stepC {w0 W w' : World} {a ha b hb c hc : Nat} {Da Db Dc D' : Dsk} (t : Tri w0 W a ha b hb c hc Da Db Dc) (q1 : Da.waits = []) (q2 : Db.waits = []) (s : St w0 w' c hc D') (L : Lets c hc W w') : Tri w0 w' a ha b hb c hc Da Db D' :=
  ⟨t.sa.aside q1 L t.ac s, t.sb.aside q2 L t.bc s, s, t.ab, t.ac, t.bc⟩
theorem tri_start {w w1 w2 w3 : World} {a ha b hb c hc : Nat} {Da Db Dc : Dsk} (s1 : St w w1 a ha Da) (s2 : St w1 w2 b hb Db) (s3 : St w2 w3 c hc Dc) : Tri w w3 a ha b hb c hc Da Db Dc := by
  have e1 := s1.hbl
  have e2 := s1.dl
  have f1 := (s1.below s2.bel).hbl
  have f2 := (s1.below s2.bel).dl
  have g1 := s2.hbl
  have g2 := s2.dl
  have h1 := s2.h_ge
  have h2 := s2.d_ge
  have k1 := s3.h_ge
  have k2 := s3.d_ge
  exact ⟨(s1.below s2.bel).below s3.bel, (s2.below s3.bel).low s1.bel, s3.low (next s1.bel s2.bel), ⟨by omega, by omega, by omega, by omega⟩, ⟨by omega, by omega, by omega, by omega⟩, ⟨by omega, by omega, by omega, by omega⟩⟩
theorem commit_c {w0 W : World} {d hb : Nat} {D : Dsk} (h : St w0 W d hb D) {A : Option Addr} {n c : Nat} {vs : List PuV} (hp : PutsT W A n vs) (hn : n ≤ 1000) (hw : D.waits.length ≤ 90000) {l : List Iss} (hl : vs.map PuV.p = l) {R : Dsk} {m : Int} (h1 : (commitD D l).1 = R) (h2 : ((commitD D l).2 : Int) = m) :
    Calls Try.prog 13 #[.pointer (some ⟨d, 0, none⟩), .slice A n c] W fun e w' => e = .returned (.int .i64 m) ∧ St w0 w' d hb R ∧ Lets d hb W w' := by
  subst hl h1 h2
  exact (commit_any h A n c vs (hp.putsD h) hn hw).mono fun e w' k => k
theorem recover_c {w0 W : World} {d hb : Nat} {D : Dsk} (h : St w0 W d hb D) (hw : D.waits.length ≤ 80000) {R : Dsk} {n m : Int} (h1 : (recoverD D).1 = R) (h2 : ((recoverD D).2.1 : Int) = n) (h3 : ((recoverD D).2.2 : Int) = m) :
    Calls Try.prog 18 #[.pointer (some ⟨d, 0, none⟩)] W fun e w' => e = .returned (.tuple #[.int .i64 n, .int .i64 m]) ∧ St w0 w' d hb R ∧ Lets d hb W w' := by
  subst h1 h2 h3
  exact (recover_any h hw).mono fun e w' k => k
theorem cut_one {w0 W : World} {d hb : Nat} {D : Dsk} (h : St w0 W d hb D) (hw : D.waits.length ≤ 100000) {R : Dsk} (hR : cutD D [true] = R) :
    Calls Try.prog 16 #[.pointer (some ⟨d, 0, none⟩), .slice (some ⟨W.heap.size, 0, none⟩) 1 1] (W.alloc (.cells #[.bool true] 4)) fun e w' => e = .returned (.tuple #[]) ∧ St w0 w' d hb R ∧ Lets d hb W w' := by
  subst hR
  have hB : Below W.heap.size W (W.alloc (.cells #[.bool true] 4)) := (Below.refl _ W).alloc (Nat.le_refl _) _
  have e1 := h.hbl
  have e2 := h.dl
  refine (cut_st (h.below hB) hw (some ⟨W.heap.size, 0, none⟩) 1 1 [true] rfl (Row.of_block (heap_alloc_new W _)) (fun a ha => ?_)).mono fun e w' ⟨h1, h2, h3⟩ => ⟨h1, h2, (Lets.of_below hB).trans h3⟩
  injection ha with ha
  subst ha
  refine ⟨?_, ?_, fun cur fr hc => ?_⟩
  · show W.heap.size ≠ d; omega
  · show W.heap.size ≠ hb; omega
  · rw [heap_alloc_new W _] at hc
    injection hc with hc
    injection hc with _ ht
    exact absurd ht (by decide)
theorem reads_two {w0 W : World} {d hb : Nat} {D : Dsk} (h : St w0 W d hb D) (hoff : D.off = false) (hw : D.waits = []) (hlen : D.has.length = 43) (x y : UInt8) {kx ky : Int} (hx : (x.toNat : Int) = kx) (hy : (y.toNat : Int) = ky) (h1 : readD D 41 = secA x) (h2 : readD D 42 = secA y) :
    Calls Try.prog 41 #[.pointer (some ⟨d, 0, none⟩), .slice (some ⟨W.heap.size, 0, none⟩) 2 2] (W.alloc (.cells #[.int .u8 kx, .int .u8 ky] 5)) fun e w' => e = .returned (.bool true) ∧ Below W.heap.size W w' := by
  subst hx hy
  have hB : Below W.heap.size W (W.alloc (.cells #[.int .u8 (x.toNat : Int), .int .u8 (y.toNat : Int)] 5)) := (Below.refl _ W).alloc (Nat.le_refl _) _
  refine (reads_any (h.below hB) hoff (by rw [hw]; exact Nat.zero_le _) (some ⟨W.heap.size, 0, none⟩) 2 2 [x, y] (Oct.of_block [x, y] (heap_alloc_new W _) rfl) (by omega) (by omega) (fun i hi => ?_)).mono fun e w' ⟨k1, k2, k3⟩ => ⟨k1, next hB k3⟩
  match i, hi with
  | 0, _ => exact h1
  | 1, _ => exact h2
theorem commit_no {w0 W : World} {d hb g : Nat} {D : Dsk} (h : St w0 W d hb D) (hw : D.waits = []) (hlen : D.has.length = 43) (ho : OwnC W g 5 ((secA 1).map B8)) :
    Calls Try.prog 13 #[.pointer (some ⟨d, 0, none⟩), .slice (some ⟨W.heap.size, 0, none⟩) 1 1] (W.alloc (.cells #[.int .i64 40, .slice (some ⟨g, 0, none⟩) 128 128] 47)) fun e w' => e = .returned (.int .i64 1) ∧ Below w0.heap.size w0 w' := by
  have hB : Below W.heap.size W (W.alloc (.cells #[.int .i64 40, .slice (some ⟨g, 0, none⟩) 128 128] 47)) := (Below.refl _ W).alloc (Nat.le_refl _) _
  have e := ex_d D hlen
  refine (commit_c (h.below hB) (n := 1) (c := 1) (vs := [⟨40, some ⟨g, 0, none⟩, 128, 128, secA 1⟩]) ⟨rfl, fun _ => ⟨W.heap.size, 0, _, _, rfl, heap_alloc_new W _, fun j u hj => by rw [Nat.zero_add]; rw [← hj]; exact List.getElem?_toArray ..⟩, ?_, ?_, ?_, ?_⟩ (by omega) (by rw [hw]; exact Nat.zero_le _) rfl rfl (m := 1) (show (((commitD D [(40, secA 1)]).2 : Nat) : Int) = 1 by rw [e]; rfl)).mono fun e w' ⟨k1, k2, k3⟩ => ⟨k1, k2.bel⟩
  all_goals (intro v hv; rw [List.mem_singleton.1 hv])
  · exact secA_len _
  · exact (cells_ownC ho).below hB
  · exact ⟨by dsimp only; omega, by dsimp only; omega⟩
  · exact Nat.le_refl _
end
section
open Go.RowKit
set_option linter.unusedVariables false
set_option linter.unusedSimpArgs false
set_option maxRecDepth 100000
attribute [local go_sem] Oper.semAt_some
/-- What a word about one of the three leaves. -/
def Did (w W : World) (d hb : Nat) (v : Value) (R : Dsk) (e : Ending) (w' : World) : Prop := e = .returned v ∧ St w w' d hb R ∧ Lets d hb W w'
/-- The examples' disks, by letters. -/
structure Exs (w : World) (M RA MB XB YB ZB RB YC ZC RC : Dsk) : Prop where
  qm : M.waits = []
  qa : RA.waits = []
  oa : RA.off = false
  la : RA.has.length = 43
  a7 : readD RA 41 = secA 7
  a8 : readD RA 42 = secA 8
  qb : RB.waits = []
  ob : RB.off = false
  lb : RB.has.length = 43
  b7 : readD RB 41 = secA 7
  b8 : readD RB 42 = secA 8
  qc : RC.waits = []
  oc : RC.off = false
  lc : RC.has.length = 43
  c7 : readD RC 41 = secA 0
  c8 : readD RC 42 = secA 0
  cma : ∀ (X : World) (d hb : Nat) (A : Option Addr) (c : Nat) (vs : List PuV), St w X d hb M → PutsT X A 2 vs → vs.map PuV.p = bothL → Calls Try.prog 13 #[.pointer (some ⟨d, 0, none⟩), .slice A 2 c] X (Did w X d hb (.int .i64 0) RA)
  bud : ∀ (X : World) (d hb : Nat), St w X d hb M → Calls Try.prog 15 #[.pointer (some ⟨d, 0, none⟩), .int .i64 4] X (Did w X d hb (.int .i64 0) MB)
  cmb : ∀ (X : World) (d hb : Nat) (A : Option Addr) (c : Nat) (vs : List PuV), St w X d hb MB → PutsT X A 2 vs → vs.map PuV.p = bothL → Calls Try.prog 13 #[.pointer (some ⟨d, 0, none⟩), .slice A 2 c] X (Did w X d hb (.int .i64 10) XB)
  ctb : ∀ (X : World) (d hb : Nat), St w X d hb XB → Calls Try.prog 16 #[.pointer (some ⟨d, 0, none⟩), .slice (some ⟨X.heap.size, 0, none⟩) 1 1] (X.alloc (.cells #[.bool true] 4)) (Did w X d hb (.tuple #[]) YB)
  onb : ∀ (X : World) (d hb : Nat), St w X d hb YB → Calls Try.prog 17 #[.pointer (some ⟨d, 0, none⟩)] X (Did w X d hb (.tuple #[]) ZB)
  rcb : ∀ (X : World) (d hb : Nat), St w X d hb ZB → Calls Try.prog 18 #[.pointer (some ⟨d, 0, none⟩)] X (Did w X d hb (.tuple #[.int .i64 2, .int .i64 0]) RB)
  ctc : ∀ (X : World) (d hb : Nat), St w X d hb XB → Calls Try.prog 16 #[.pointer (some ⟨d, 0, none⟩), .slice none 0 0] X (Did w X d hb (.tuple #[]) YC)
  onc : ∀ (X : World) (d hb : Nat), St w X d hb YC → Calls Try.prog 17 #[.pointer (some ⟨d, 0, none⟩)] X (Did w X d hb (.tuple #[]) ZC)
  rcc : ∀ (X : World) (d hb : Nat), St w X d hb ZC → Calls Try.prog 18 #[.pointer (some ⟨d, 0, none⟩)] X (Did w X d hb (.tuple #[.int .i64 0, .int .i64 0]) RC)
theorem exs_are (w : World) : ∃ M RA MB XB YB ZB RB YC ZC RC, M = madeD 43 ∧ Exs w M RA MB XB YB ZB RB YC ZC RC := by
  have q0 : (madeD 43).waits = [] := (made_ok 43 (by omega)).2.w
  have qb2 : exB2.waits = [] := rfl
  have qc2 : exC2.waits = [] := rfl
  refine ⟨madeD 43, (commitD (madeD 43) bothL).1, exB, exB1.1, cutD exB1.1 [true], exB2, (recoverD exB2).1, cutD exB1.1 [], exC2, (recoverD exC2).1, rfl, q0, ex_a2, ex_a3, ex_a4, ex_a5, ex_a6, ex_b4, ex_b5, ex_b6, ex_b7, ex_b8, ex_c4, ex_c5, ex_c6, ex_c7, ex_c8, ?_, ?_, ?_, ?_, ?_, ?_, ?_, ?_, ?_⟩
  · intro X d hb A c vs h hp hl
    exact commit_c h hp (by omega) (by rw [q0]; exact Nat.zero_le _) hl rfl (by rw [ex_a1]; rfl)
  · intro X d hb h
    exact budget_st h 4 (by omega) (by omega)
  · intro X d hb A c vs h hp hl
    exact commit_c h hp (by omega) (by show (madeD 43).waits.length ≤ _; rw [q0]; exact Nat.zero_le _) hl rfl (by rw [show (commitD exB bothL).2 = 10 from ex_b1]; rfl)
  · intro X d hb h
    exact cut_one h (by rw [ex_b2]; omega) rfl
  · intro X d hb h
    exact on_st h
  · intro X d hb h
    exact recover_c h (by rw [qb2]; exact Nat.zero_le _) rfl (by rw [ex_b3]; rfl) (by rw [ex_b3]; rfl)
  · intro X d hb h
    exact cut_st h (by rw [ex_b2]; omega) none 0 0 [] rfl (Row.nil _ _) (fun a ha => by cases ha)
  · intro X d hb h
    exact on_st h
  · intro X d hb h
    exact recover_c h (by rw [qc2]; exact Nat.zero_le _) rfl (by rw [ex_c3]; rfl) (by rw [ex_c3]; rfl)
set_option maxHeartbeats 8000000 in
theorem awake_any (w : World) : Calls Try.prog 10 #[] w fun e w' => e = .returned (.bool true) ∧ Below w.heap.size w w' := by
  obtain ⟨M, RA, MB, XB, YB, ZB, RB, YC, ZC, RC, hM, hE⟩ := exs_are w
  have E := hid hE
  have HMD := hid (fun (X : World) => (by have := made_any 43 (by omega) (by omega) X; rw [← hM] at this; exact this : Calls Try.prog 12 #[.int .i64 43] X fun e w' => ∃ d hb, e = .returned (.pointer (some ⟨d, 0, none⟩)) ∧ St X w' d hb M))
  clear hM hE
  go_enter Try.func10, Try.ntmps10
  go_upto_region 2 with first
    | (go_at_call 12; (with_reducible refine (HMD.out w2).mono ?_); rintro e w3 ⟨c, hc, rfl, s3⟩; have S3 := hid s3; clear s3)
    | (go_at_call 12; (with_reducible refine (HMD.out w1).mono ?_); rintro e w2 ⟨b, hb, rfl, s2⟩; have S2 := hid s2; clear s2)
    | (go_at_call 12; (with_reducible refine (HMD.out w).mono ?_); rintro e w1 ⟨a, ha, rfl, s1⟩; have S1 := hid s1; clear s1)
  have T := hid (tri_start S1.out S2.out S3.out)
  clear S1 S2 S3 HMD
  go_upto_region 5 with first
    | (go_at_call 40; (with_reducible refine (both_any _).mono ?_); rintro e w4 ⟨b4, A4, c4, vs4, rfl, p4, l4⟩; have T := hid (T.out.below b4); have P := hid p4; have HL := hid l4; clear b4 p4 l4)
    | (go_at_call 13; (with_reducible refine (E.out.cma _ a ha _ _ vs4 T.out.sa P.out HL.out).mono ?_); rintro e w5 ⟨rfl, s5, k5⟩; have T := hid (T.out.stepA E.out.qm E.out.qm s5 k5); clear s5 k5 P HL)
  go_upto_region 6 with (go_at_call 15; (with_reducible refine (E.out.bud _ b hb T.out.sb).mono ?_); rintro e w6 ⟨rfl, s6, k6⟩; have T := hid (T.out.stepB E.out.qa E.out.qm s6 k6); clear s6 k6)
  go_upto_region 7 with first
    | (go_at_call 40; (with_reducible refine (both_any _).mono ?_); rintro e w7 ⟨b7, A7, c7, vs7, rfl, p7, l7⟩; have T := hid (T.out.below b7); have P := hid p7; have HL := hid l7; clear b7 p7 l7)
    | (go_at_call 13; (with_reducible refine (E.out.cmb _ b hb _ _ vs7 T.out.sb P.out HL.out).mono ?_); rintro e w8 ⟨rfl, s8, k8⟩; have T := hid (T.out.stepB E.out.qa E.out.qm s8 k8); clear s8 k8 P HL)
  go_upto_region 8 with (go_at_call 16; (with_reducible refine (E.out.ctb _ b hb T.out.sb).mono ?_); rintro e w9 ⟨rfl, s9, k9⟩; have T := hid (T.out.stepB E.out.qa E.out.qm s9 k9); clear s9 k9)
  go_upto_region 9 with (go_at_call 17; (with_reducible refine (E.out.onb _ b hb T.out.sb).mono ?_); rintro e w10 ⟨rfl, s10, k10⟩; have T := hid (T.out.stepB E.out.qa E.out.qm s10 k10); clear s10 k10)
  go_upto_region 10 with (go_at_call 18; (with_reducible refine (E.out.rcb _ b hb T.out.sb).mono ?_); rintro e w11 ⟨rfl, s11, k11⟩; have T := hid (T.out.stepB E.out.qa E.out.qm s11 k11); clear s11 k11)
  go_upto_region 11 with (go_at_call 15; (with_reducible refine (E.out.bud _ c hc T.out.sc).mono ?_); rintro e w12 ⟨rfl, s12, k12⟩; have T := hid (T.out.stepC E.out.qa E.out.qb s12 k12); clear s12 k12)
  go_upto_region 12 with first
    | (go_at_call 40; (with_reducible refine (both_any _).mono ?_); rintro e w13 ⟨b13, A13, c13, vs13, rfl, p13, l13⟩; have T := hid (T.out.below b13); have P := hid p13; have HL := hid l13; clear b13 p13 l13)
    | (go_at_call 13; (with_reducible refine (E.out.cmb _ c hc _ _ vs13 T.out.sc P.out HL.out).mono ?_); rintro e w14 ⟨rfl, s14, k14⟩; have T := hid (T.out.stepC E.out.qa E.out.qb s14 k14); clear s14 k14 P HL)
  go_upto_region 13 with (go_at_call 16; (with_reducible refine (E.out.ctc _ c hc T.out.sc).mono ?_); rintro e w15 ⟨rfl, s15, k15⟩; have T := hid (T.out.stepC E.out.qa E.out.qb s15 k15); clear s15 k15)
  go_upto_region 14 with (go_at_call 17; (with_reducible refine (E.out.onc _ c hc T.out.sc).mono ?_); rintro e w16 ⟨rfl, s16, k16⟩; have T := hid (T.out.stepC E.out.qa E.out.qb s16 k16); clear s16 k16)
  go_upto_region 15 with (go_at_call 18; (with_reducible refine (E.out.rcc _ c hc T.out.sc).mono ?_); rintro e w17 ⟨rfl, s17, k17⟩; have T := hid (T.out.stepC E.out.qa E.out.qb s17 k17); clear s17 k17)
  go_wp2_with first
    | (go_at_call 41; (with_reducible refine (reads_two T.out.sa E.out.oa E.out.qa E.out.la 7 8 (by decide) (by decide) E.out.a7 E.out.a8).mono ?_); rintro e w18 ⟨rfl, b18⟩; have T := hid (T.out.below b18); clear b18)
    | (go_at_call 41; (with_reducible refine (reads_two T.out.sb E.out.ob E.out.qb E.out.lb 7 8 (by decide) (by decide) E.out.b7 E.out.b8).mono ?_); rintro e w19 ⟨rfl, b19⟩; have T := hid (T.out.below b19); clear b19)
    | (go_at_call 41; (with_reducible refine (reads_two T.out.sc E.out.oc E.out.qc E.out.lc 0 0 (by decide) (by decide) E.out.c7 E.out.c8).mono ?_); rintro e w20 ⟨rfl, b20⟩; have T := hid (T.out.below b20); clear b20)
    | (go_at_call 20; (with_reducible refine (all_c 1 1 (by decide) _).mono ?_); rintro e w21 ⟨g, rfl, -, o21, b21⟩; have T := hid (T.out.below b21); have O := hid o21; clear o21 b21)
    | (go_at_call 13; (with_reducible refine (commit_no T.out.sa E.out.qa E.out.la O.out).mono ?_); rintro e w22 ⟨rfl, b22⟩; have B := hid b22; clear b22)
  go_ret
  exact ⟨rfl, B.out⟩
end
end Go.Proofs.Ytpppmijohfjigaa
