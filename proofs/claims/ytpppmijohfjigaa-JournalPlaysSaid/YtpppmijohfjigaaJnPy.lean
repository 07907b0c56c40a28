/-
  Is a disk as the document's: the law's same; JournalPlays: the walk. A part of the proof: see the head of the text that ends in 'Law'.
-/
import Derived.Test.YtpppmijohfjigaaJn30
namespace Go.Proofs.Ytpppmijohfjigaa
section
open Go.RowKit
set_option linter.unusedVariables false
set_option linter.unusedSimpArgs false
set_option maxRecDepth 100000
attribute [local go_sem] Oper.semAt_some
theorem waits_st {w0 W : World} {d hb : Nat} {D : Dsk} (h : St w0 W d hb D) (hw : D.waits.length ≤ 100000) :
    Calls Try.prog 65 #[.pointer (some ⟨d, 0, none⟩)] W fun e w' => ∃ A c, e = .returned (.slice A D.waits.length c) ∧ w'.ownsRow W.heap.size 3 1 (.slice A D.waits.length c) D.waits.length (D.waits.map atV) ∧ Below W.heap.size W w' := by
  obtain ⟨V, hV⟩ := h.at_
  refine (waits_any hV hw).mono ?_
  rintro e w' ⟨A, c, h1, h2, h3⟩
  exact ⟨A, c, h1, h2, h3⟩
theorem RSt.has0 {w0 W : World} {m : Nat} {D : Dsk} (h : RSt w0 W m D) : ∃ A c, W.cell? ⟨m, 0, none⟩ = some (.slice A D.has.length c) ∧ ∀ (k : Nat), k < D.has.length → ∃ g, A = some ⟨g, 0, none⟩ ∧ W.cell? ⟨g, k, none⟩ = some (.string (str (D.has.getD k []))) := by
  obtain ⟨VH, VL, q⟩ := h
  obtain ⟨A, c, rfl, hA⟩ := own_slice q.hs
  refine ⟨A, c, q.cells.cell (j := 0) rfl, fun k hk => ?_⟩
  obtain ⟨g, rfl⟩ := hA (by omega)
  exact ⟨g, rfl, q.hcell k hk⟩
theorem RSt.wait0 {w0 W : World} {m : Nat} {D : Dsk} (h : RSt w0 W m D) : ∃ A c, W.cell? ⟨m, 1, none⟩ = some (.slice A D.waits.length c) ∧ W.cell? ⟨m, 3, none⟩ = some (.bool D.off) ∧ ∀ (k : Nat) (hk : k < D.waits.length), ∃ g, A = some ⟨g, 0, none⟩ ∧ W.cell? ⟨g, k * 2, none⟩ = some (.int .i64 (D.waits[k]'hk).1) := by
  obtain ⟨VH, VL, q⟩ := h
  obtain ⟨A, c, rfl, hA⟩ := own_slice q.ls
  refine ⟨A, c, q.cells.cell (j := 1) rfl, q.cells.cell (j := 3) rfl, fun k hk => ?_⟩
  obtain ⟨g, rfl⟩ := hA (by omega)
  exact ⟨g, rfl, (q.wcell k hk).1⟩
set_option maxHeartbeats 16000000 in
theorem same_any {w0 W : World} {d hb m : Nat} {D : Dsk} (h : St w0 W d hb D) (r : RSt w0 W m D) (hw : D.waits.length ≤ 100000) :
    Calls Try.prog 33 #[.pointer (some ⟨d, 0, none⟩), .pointer (some ⟨m, 0, none⟩)] W fun e w' => e = .returned (.bool true) ∧ Below W.heap.size W w' := by
  have S := hid h
  have R := hid r
  have H2 := hid h.len.2.2.1
  have HWK := hid hw
  obtain ⟨nw, hnw⟩ : ∃ nw, D.waits.length = nw := ⟨_, rfl⟩
  obtain ⟨n, hn⟩ : ∃ n, D.has.length = n := ⟨_, rfl⟩
  have HNW := hid hnw
  have HN := hid hn
  have HWT := hid (waits_st h hw)
  rw [hnw] at HWT
  have HSZ := hid (fun (X : World) (k : St w0 X d hb D) => (by have := size_st k; rw [hn] at this; exact this : Calls Try.prog 46 #[.pointer (some ⟨d, 0, none⟩)] X fun e w' => e = .returned (.int .i64 (n : Int)) ∧ X = w'))
  obtain ⟨off, hoff⟩ : ∃ b, D.off = b := ⟨_, rfl⟩
  have HOF := hid hoff
  have HPW := hid (fun (X : World) (k : St w0 X d hb D) => (by have := power_st k; rw [hoff] at this; exact this : Calls Try.prog 66 #[.pointer (some ⟨d, 0, none⟩)] X fun e w' => e = .returned (.bool (!off)) ∧ X = w'))
  have hne : ((!off) == off) = false := by cases off <;> rfl
  have hkk : ((nw : Int) != (nw : Int)) = false := by simp
  have hnn : ((n : Int) != (n : Int)) = false := by simp
  clear h r hw hnw hn hoff
  go_enter Try.func33, Try.ntmps33
  go_upto_region 2 with (go_at_call 65; (with_reducible refine HWT.out.mono ?_); rintro e w3 ⟨A3, c3, rfl, o3, b3⟩; have S3 := hid (S.out.below b3); have R3 := hid (R.out.below b3); have B3 := hid b3; have O3 := hid o3; clear o3 b3 S R)
  clear HWT
  have S := hid S3.out.drew
  have R := hid (R3.out.below (drew_below w3))
  have O := hid (own_below O3.out (drew_below w3))
  have B := hid (past B3.out (drew_below w3))
  obtain ⟨AL, cL, t1, t3, -⟩ := R.out.wait0
  obtain ⟨AH, cH, t0, -⟩ := R.out.has0
  rw [HNW.out] at t1
  rw [HOF.out] at t3
  rw [HN.out] at t0
  have hS := And.intro t0 (And.intro t1 t3)
  clear t0 t1 t3 S3 R3 O3 B3
  refine wp_region_noPanic ?_
  refine wp_region_held_drew (S := (fun X => X.cell? ⟨m, 0, none⟩ = some (.slice AH n cH) ∧ X.cell? ⟨m, 1, none⟩ = some (.slice AL nw cL) ∧ X.cell? ⟨m, 3, none⟩ = some (.bool off))) (by kernel_rfl) (by first | assumption | trivial) (fun hHeld => ?_)
  refine wpAnyH_take (i := 0) (v := ?_) rfl (by kernel_rfl) (by kernel_rfl) (by kernel_rfl) (fun _ _ _ h => h) (Or.inl ⟨by kernel_rfl, ?_⟩) (by first | assumption | trivial) ?_
  rotate_left
  · (intro wS hSw; (try dsimp only at hSw); go_simp; try with_reducible rfl)
  (try simp only [List.append_eq, List.cons_append, List.nil_append, List.getElem_toArray, List.getElem_cons_succ, List.getElem_cons_zero, Act.put, List.setIfInBounds_toArray, List.set_cons_zero, List.set_cons_succ])
  refine wpAnyH_take (i := 2) (v := ?_) rfl (by kernel_rfl) (by kernel_rfl) (by kernel_rfl) (fun _ _ _ h => h) (Or.inl ⟨by kernel_rfl, ?_⟩) (by first | assumption | trivial) ?_
  rotate_left
  · (intro wS hSw; (try dsimp only at hSw); go_simp; try with_reducible rfl)
  (try simp only [List.append_eq, List.cons_append, List.nil_append, List.getElem_toArray, List.getElem_cons_succ, List.getElem_cons_zero, Act.put, List.setIfInBounds_toArray, List.set_cons_zero, List.set_cons_succ])
  refine wpAnyH_take (i := 3) (v := ?_) rfl (by kernel_rfl) (by kernel_rfl) (by kernel_rfl) (fun _ _ _ h => h) (Or.inl ⟨by kernel_rfl, ?_⟩) (by first | assumption | trivial) ?_
  rotate_left
  · (intro wS hSw; (try dsimp only at hSw); go_simp; try with_reducible rfl)
  (try simp only [List.append_eq, List.cons_append, List.nil_append, List.getElem_toArray, List.getElem_cons_succ, List.getElem_cons_zero, Act.put, List.setIfInBounds_toArray, List.set_cons_zero, List.set_cons_succ])
  refine wpAnyH_take (i := 4) (v := ?_) rfl (by kernel_rfl) (by kernel_rfl) (by kernel_rfl) (fun _ _ _ h => h) (Or.inl ⟨by kernel_rfl, ?_⟩) (by first | assumption | trivial) ?_
  rotate_left
  · (intro wS hSw; (try dsimp only at hSw); go_simp; try with_reducible rfl)
  (try simp only [List.append_eq, List.cons_append, List.nil_append, List.getElem_toArray, List.getElem_cons_succ, List.getElem_cons_zero, Act.put, List.setIfInBounds_toArray, List.set_cons_zero, List.set_cons_succ])
  refine wpAnyH_take (i := 5) (v := ?_) rfl (by kernel_rfl) (by kernel_rfl) (by kernel_rfl) (fun _ _ _ h => h) (Or.inl ⟨by kernel_rfl, ?_⟩) (by first | assumption | trivial) ?_
  rotate_left
  · (intro wS hSw; (try dsimp only at hSw); go_simp; try with_reducible rfl)
  (try simp only [List.append_eq, List.cons_append, List.nil_append, List.getElem_toArray, List.getElem_cons_succ, List.getElem_cons_zero, Act.put, List.setIfInBounds_toArray, List.set_cons_zero, List.set_cons_succ])
  refine wpAnyH_take (i := 6) (v := ?_) rfl (by kernel_rfl) (by kernel_rfl) (by kernel_rfl) (fun _ _ _ h => h) (Or.inl ⟨by kernel_rfl, ?_⟩) (by first | assumption | trivial) ?_
  rotate_left
  · (intro wS hSw; (try dsimp only at hSw); go_simp; try with_reducible rfl)
  (try simp only [List.append_eq, List.cons_append, List.nil_append, List.getElem_toArray, List.getElem_cons_succ, List.getElem_cons_zero, Act.put, List.setIfInBounds_toArray, List.set_cons_zero, List.set_cons_succ])
  refine wpAnyH_ready (rs := [1]) (by kernel_rfl) (by simp) ?_
  refine AllReadyH.cons rfl (fun K hK => ?_) AllReadyH.nil
  go_simp
  (go_at_call 46; refine (HSZ.out _ S.out).mono ?_; rintro e w4 ⟨rfl, rfl⟩)
  go_wp2_with fail
  refine hK.out _ _ (by first | assumption | trivial) (fun hHeld => ?_)
  clear hK K
  (try simp only [List.append_eq, List.cons_append, List.nil_append, List.getElem_toArray, List.getElem_cons_succ, List.getElem_cons_zero, Act.put, List.setIfInBounds_toArray, List.set_cons_zero, List.set_cons_succ])
  refine wpAnyH_take (i := 7) (v := ?_) rfl (by kernel_rfl) (by kernel_rfl) (by kernel_rfl) (fun _ _ _ h => h) (Or.inl ⟨by kernel_rfl, ?_⟩) (by first | assumption | trivial) ?_
  rotate_left
  · (intro wS hSw; (try dsimp only at hSw); go_simp; try with_reducible rfl)
  (try simp only [List.append_eq, List.cons_append, List.nil_append, List.getElem_toArray, List.getElem_cons_succ, List.getElem_cons_zero, Act.put, List.setIfInBounds_toArray, List.set_cons_zero, List.set_cons_succ])
  refine wpAnyH_take (i := 8) (v := ?_) rfl (by kernel_rfl) (by kernel_rfl) (by kernel_rfl) (fun _ _ _ h => h) (Or.inl ⟨by kernel_rfl, ?_⟩) (by first | assumption | trivial) ?_
  rotate_left
  · (intro wS hSw; (try dsimp only at hSw); go_simp; try with_reducible rfl)
  (try simp only [List.append_eq, List.cons_append, List.nil_append, List.getElem_toArray, List.getElem_cons_succ, List.getElem_cons_zero, Act.put, List.setIfInBounds_toArray, List.set_cons_zero, List.set_cons_succ])
  refine wpAnyH_take (i := 9) (v := ?_) rfl (by kernel_rfl) (by kernel_rfl) (by kernel_rfl) (fun _ _ _ h => h) (Or.inl ⟨by kernel_rfl, ?_⟩) (by first | assumption | trivial) ?_
  rotate_left
  · (intro wS hSw; (try dsimp only at hSw); go_simp; try with_reducible rfl)
  (try simp only [List.append_eq, List.cons_append, List.nil_append, List.getElem_toArray, List.getElem_cons_succ, List.getElem_cons_zero, Act.put, List.setIfInBounds_toArray, List.set_cons_zero, List.set_cons_succ])
  refine wpAnyH_take (i := 11) (v := ?_) rfl (by kernel_rfl) (by kernel_rfl) (by kernel_rfl) (fun _ _ _ h => h) (Or.inl ⟨by kernel_rfl, ?_⟩) (by first | assumption | trivial) ?_
  rotate_left
  · (intro wS hSw; (try dsimp only at hSw); go_simp; try with_reducible rfl)
  (try simp only [List.append_eq, List.cons_append, List.nil_append, List.getElem_toArray, List.getElem_cons_succ, List.getElem_cons_zero, Act.put, List.setIfInBounds_toArray, List.set_cons_zero, List.set_cons_succ])
  refine wpAnyH_take (i := 12) (v := ?_) rfl (by kernel_rfl) (by kernel_rfl) (by kernel_rfl) (fun _ _ _ h => h) (Or.inl ⟨by kernel_rfl, ?_⟩) (by first | assumption | trivial) ?_
  rotate_left
  · (intro wS hSw; (try dsimp only at hSw); go_simp; try with_reducible rfl)
  (try simp only [List.append_eq, List.cons_append, List.nil_append, List.getElem_toArray, List.getElem_cons_succ, List.getElem_cons_zero, Act.put, List.setIfInBounds_toArray, List.set_cons_zero, List.set_cons_succ])
  refine wpAnyH_take (i := 13) (v := ?_) rfl (by kernel_rfl) (by kernel_rfl) (by kernel_rfl) (fun _ _ _ h => h) (Or.inl ⟨by kernel_rfl, ?_⟩) (by first | assumption | trivial) ?_
  rotate_left
  · (intro wS hSw; (try dsimp only at hSw); go_simp; try with_reducible rfl)
  (try simp only [List.append_eq, List.cons_append, List.nil_append, List.getElem_toArray, List.getElem_cons_succ, List.getElem_cons_zero, Act.put, List.setIfInBounds_toArray, List.set_cons_zero, List.set_cons_succ])
  refine wpAnyH_take (i := 14) (v := ?_) rfl (by kernel_rfl) (by kernel_rfl) (by kernel_rfl) (fun _ _ _ h => h) (Or.inl ⟨by kernel_rfl, ?_⟩) (by first | assumption | trivial) ?_
  rotate_left
  · (intro wS hSw; (try dsimp only at hSw); go_simp; try with_reducible rfl)
  (try simp only [List.append_eq, List.cons_append, List.nil_append, List.getElem_toArray, List.getElem_cons_succ, List.getElem_cons_zero, Act.put, List.setIfInBounds_toArray, List.set_cons_zero, List.set_cons_succ])
  refine wpAnyH_ready (rs := [10]) (by kernel_rfl) (by simp) ?_
  refine AllReadyH.cons rfl (fun K hK => ?_) AllReadyH.nil
  go_simp
  (go_at_call 66; refine (HPW.out _ S.out).mono ?_; rintro e w4 ⟨rfl, rfl⟩)
  go_wp2_with fail
  refine hK.out _ _ (by first | assumption | trivial) (fun hHeld => ?_)
  clear hK K
  (try simp only [List.append_eq, List.cons_append, List.nil_append, List.getElem_toArray, List.getElem_cons_succ, List.getElem_cons_zero, Act.put, List.setIfInBounds_toArray, List.set_cons_zero, List.set_cons_succ])
  refine wpAnyH_take (i := 15) (v := ?_) rfl (by kernel_rfl) (by kernel_rfl) (by kernel_rfl) (fun _ _ _ h => h) (Or.inl ⟨by kernel_rfl, ?_⟩) (by first | assumption | trivial) ?_
  rotate_left
  · (intro wS hSw; (try dsimp only at hSw); go_simp; try with_reducible rfl)
  (try simp only [List.append_eq, List.cons_append, List.nil_append, List.getElem_toArray, List.getElem_cons_succ, List.getElem_cons_zero, Act.put, List.setIfInBounds_toArray, List.set_cons_zero, List.set_cons_succ])
  refine wpAnyH_take (i := 16) (v := ?_) rfl (by kernel_rfl) (by kernel_rfl) (by kernel_rfl) (fun _ _ _ h => h) (Or.inl ⟨by kernel_rfl, ?_⟩) (by first | assumption | trivial) ?_
  rotate_left
  · (intro wS hSw; (try dsimp only at hSw); go_simp; try with_reducible rfl)
  (try simp only [List.append_eq, List.cons_append, List.nil_append, List.getElem_toArray, List.getElem_cons_succ, List.getElem_cons_zero, Act.put, List.setIfInBounds_toArray, List.set_cons_zero, List.set_cons_succ])
  refine wpAnyH_take (i := 17) (v := ?_) rfl (by kernel_rfl) (by kernel_rfl) (by kernel_rfl) (fun _ _ _ h => h) (Or.inl ⟨by kernel_rfl, ?_⟩) (by first | assumption | trivial) ?_
  rotate_left
  · (intro wS hSw; (try dsimp only at hSw); go_simp; try with_reducible rfl)
  (try simp only [List.append_eq, List.cons_append, List.nil_append, List.getElem_toArray, List.getElem_cons_succ, List.getElem_cons_zero, Act.put, List.setIfInBounds_toArray, List.set_cons_zero, List.set_cons_succ])
  refine wpAnyH_take (i := 18) (v := ?_) rfl (by kernel_rfl) (by kernel_rfl) (by kernel_rfl) (fun _ _ _ h => h) (Or.inl ⟨by kernel_rfl, ?_⟩) (by first | assumption | trivial) ?_
  rotate_left
  · (intro wS hSw; (try dsimp only at hSw); go_simp; try with_reducible rfl)
  (try simp only [List.append_eq, List.cons_append, List.nil_append, List.getElem_toArray, List.getElem_cons_succ, List.getElem_cons_zero, Act.put, List.setIfInBounds_toArray, List.set_cons_zero, List.set_cons_succ])
  refine wpAnyH_take (i := 19) (v := ?_) rfl (by kernel_rfl) (by kernel_rfl) (by kernel_rfl) (fun _ _ _ h => h) (Or.inl ⟨by kernel_rfl, ?_⟩) (by first | assumption | trivial) ?_
  rotate_left
  · (intro wS hSw; (try dsimp only at hSw); go_simp; try with_reducible rfl)
  (try simp only [List.append_eq, List.cons_append, List.nil_append, List.getElem_toArray, List.getElem_cons_succ, List.getElem_cons_zero, Act.put, List.setIfInBounds_toArray, List.set_cons_zero, List.set_cons_succ])
  refine wpAnyH_take (i := 20) (v := ?_) rfl (by kernel_rfl) (by kernel_rfl) (by kernel_rfl) (fun _ _ _ h => h) (Or.inl ⟨by kernel_rfl, ?_⟩) (by first | assumption | trivial) ?_
  rotate_left
  · (intro wS hSw; (try dsimp only at hSw); go_simp; try with_reducible rfl)
  (try simp only [List.append_eq, List.cons_append, List.nil_append, List.getElem_toArray, List.getElem_cons_succ, List.getElem_cons_zero, Act.put, List.setIfInBounds_toArray, List.set_cons_zero, List.set_cons_succ])
  refine wpAnyH_take (i := 21) (v := ?_) rfl (by kernel_rfl) (by kernel_rfl) (by kernel_rfl) (fun _ _ _ h => h) (Or.inl ⟨by kernel_rfl, ?_⟩) (by first | assumption | trivial) ?_
  rotate_left
  · (intro wS hSw; (try dsimp only at hSw); go_simp; try with_reducible rfl)
  (try simp only [List.append_eq, List.cons_append, List.nil_append, List.getElem_toArray, List.getElem_cons_succ, List.getElem_cons_zero, Act.put, List.setIfInBounds_toArray, List.set_cons_zero, List.set_cons_succ])
  refine wpAnyH_take (i := 22) (v := ?_) rfl (by kernel_rfl) (by kernel_rfl) (by kernel_rfl) (fun _ _ _ h => h) (Or.inl ⟨by kernel_rfl, ?_⟩) (by first | assumption | trivial) ?_
  rotate_left
  · (intro wS hSw; (try dsimp only at hSw); go_simp; try with_reducible rfl)
  (try simp only [List.append_eq, List.cons_append, List.nil_append, List.getElem_toArray, List.getElem_cons_succ, List.getElem_cons_zero, Act.put, List.setIfInBounds_toArray, List.set_cons_zero, List.set_cons_succ])
  refine wpAnyH_take (i := 23) (v := ?_) rfl (by kernel_rfl) (by kernel_rfl) (by kernel_rfl) (fun _ _ _ h => h) (Or.inl ⟨by kernel_rfl, ?_⟩) (by first | assumption | trivial) ?_
  rotate_left
  · (intro wS hSw; (try dsimp only at hSw); go_simp; try with_reducible rfl)
  (try simp only [List.append_eq, List.cons_append, List.nil_append, List.getElem_toArray, List.getElem_cons_succ, List.getElem_cons_zero, Act.put, List.setIfInBounds_toArray, List.set_cons_zero, List.set_cons_succ])
  refine wpAnyH_take (i := 24) (v := ?_) rfl (by kernel_rfl) (by kernel_rfl) (by kernel_rfl) (fun _ _ _ h => h) (Or.inl ⟨by kernel_rfl, ?_⟩) (by first | assumption | trivial) ?_
  rotate_left
  · (intro wS hSw; (try dsimp only at hSw); go_simp; try with_reducible rfl)
  (try simp only [List.append_eq, List.cons_append, List.nil_append, List.getElem_toArray, List.getElem_cons_succ, List.getElem_cons_zero, Act.put, List.setIfInBounds_toArray, List.set_cons_zero, List.set_cons_succ])
  refine wpAnyH_take (i := 25) (v := ?_) rfl (by kernel_rfl) (by kernel_rfl) (by kernel_rfl) (fun _ _ _ h => h) (Or.inl ⟨by kernel_rfl, ?_⟩) (by first | assumption | trivial) ?_
  rotate_left
  · (intro wS hSw; (try dsimp only at hSw); go_simp; try with_reducible rfl)
  (try simp only [List.append_eq, List.cons_append, List.nil_append, List.getElem_toArray, List.getElem_cons_succ, List.getElem_cons_zero, Act.put, List.setIfInBounds_toArray, List.set_cons_zero, List.set_cons_succ])
  refine wpAnyH_take (i := 26) (v := ?_) rfl (by kernel_rfl) (by kernel_rfl) (by kernel_rfl) (fun _ _ _ h => h) (Or.inl ⟨by kernel_rfl, ?_⟩) (by first | assumption | trivial) ?_
  rotate_left
  · (intro wS hSw; (try dsimp only at hSw); go_simp; try with_reducible rfl)
  (try simp only [List.append_eq, List.cons_append, List.nil_append, List.getElem_toArray, List.getElem_cons_succ, List.getElem_cons_zero, Act.put, List.setIfInBounds_toArray, List.set_cons_zero, List.set_cons_succ])
  refine wpAnyH_done (by kernel_rfl) ?_ _
  refine NoPanic.normal ?_
  clear hS hHeld HPW HSZ
  go_wp2_with fail
  have S3 := S
  have R3 := R
  have O3 := O
  have B3 := B
  clear S R O B
  go_loopw [6] (fun kk wx => ∃ j3 : Nat, j3 ≤ nw ∧ kk = .int .i64 (j3 : Int) ∧ Hid (St w0 wx d hb D ∧ RSt w0 wx m D ∧ wx.ownsRow W.heap.size 3 1 (.slice A3 nw c3) nw (D.waits.map atV) ∧ Below W.heap.size W wx)) (fun kk wx => nw - (intOf kk).toNat)
  case atStart => exact ⟨0, by omega, rfl, hid ⟨S3.out, R3.out, O3.out, B3.out⟩⟩
  case round =>
    clear S3 R3 O3 B3
    obtain ⟨j3, hj3, rfl, hI3⟩ := hrel
    rename World => wr
    have S := hid hI3.out.1
    have R := hid hI3.out.2.1
    have O := hid hI3.out.2.2.1
    have B := hid hI3.out.2.2.2
    clear hI3
    by_cases hlt3 : j3 < nw
    · as_aux_lemma =>
        have e1 : decide ((j3 : Int) < (nw : Int)) = true := by simp; omega
        have e1' : decide (j3 < nw) = true := by simp; omega
        have z0 : (0 : Int) ≤ (j3 : Int) := by omega
        have z1 : (j3 : Int) < (nw : Int) := by omega
        have z2 : (j3 : Int).toNat = j3 := by omega
        have z3 : (j3 : Int) < 100001 := by have := HWK.out; have := HNW.out; omega
        have hjw : j3 < D.waits.length := by rw [HNW.out]; exact hlt3
        obtain ⟨at3, hat3⟩ : ∃ a, (D.waits[j3]'hjw).1 = a := ⟨_, rfl⟩
        have haa : (at3 != at3) = false := by simp
        obtain ⟨g3, rfl, -⟩ := own_row O.out (by omega)
        have t0 := (O.out.cellAt j3 (by omega)).trans (show (D.waits.map atV)[j3]? = some (.int .i64 at3) by rw [List.getElem?_map, List.getElem?_eq_getElem hjw, ← hat3]; rfl)
        obtain ⟨AL, cL, t1, -, t2⟩ := R.out.wait0
        obtain ⟨gL, rfl, t5⟩ := t2 j3 hjw
        rw [HNW.out] at t1
        rw [hat3] at t5
        have T012 := hid (And.intro t0 (And.intro t1 t5))
        clear hat3 hjw t0 t1 t2 t5
        go_upto_region 7 with fail
        have S := hid S.out.drew
        have R := hid (R.out.below (drew_below _))
        have O := hid (own_below O.out (drew_below _))
        have B := hid (past B.out (drew_below _))
        have hS : wr.drew.cell? ⟨g3, j3, none⟩ = some (.int .i64 at3) ∧ wr.drew.cell? ⟨m, 1, none⟩ = some (.slice (some ⟨gL, 0, none⟩) nw cL) ∧ wr.drew.cell? ⟨gL, j3 * 2, none⟩ = some (.int .i64 at3) := T012.out
        refine wp_region_noPanic ?_
        refine wp_region_held_drew (S := (fun X => X.cell? ⟨g3, j3, none⟩ = some (.int .i64 at3) ∧ X.cell? ⟨m, 1, none⟩ = some (.slice (some ⟨gL, 0, none⟩) nw cL) ∧ X.cell? ⟨gL, j3 * 2, none⟩ = some (.int .i64 at3))) (by kernel_rfl) (by first | assumption | trivial) (fun hHeld => ?_)
        refine wpAnyH_take (i := 0) (v := ?_) rfl (by kernel_rfl) (by kernel_rfl) (by kernel_rfl) (fun _ _ _ h => h) (Or.inl ⟨by kernel_rfl, ?_⟩) (by first | assumption | trivial) ?_
        rotate_left
        · (intro wS hSw; (try dsimp only at hSw); go_simp; try with_reducible rfl)
        (try simp only [List.append_eq, List.cons_append, List.nil_append, List.getElem_toArray, List.getElem_cons_succ, List.getElem_cons_zero, Act.put, List.setIfInBounds_toArray, List.set_cons_zero, List.set_cons_succ])
        refine wpAnyH_take (i := 1) (v := ?_) rfl (by kernel_rfl) (by kernel_rfl) (by kernel_rfl) (fun _ _ _ h => h) (Or.inl ⟨by kernel_rfl, ?_⟩) (by first | assumption | trivial) ?_
        rotate_left
        · (intro wS hSw; (try dsimp only at hSw); go_simp; try with_reducible rfl)
        (try simp only [List.append_eq, List.cons_append, List.nil_append, List.getElem_toArray, List.getElem_cons_succ, List.getElem_cons_zero, Act.put, List.setIfInBounds_toArray, List.set_cons_zero, List.set_cons_succ])
        refine wpAnyH_take (i := 2) (v := ?_) rfl (by kernel_rfl) (by kernel_rfl) (by kernel_rfl) (fun _ _ _ h => h) (Or.inl ⟨by kernel_rfl, ?_⟩) (by first | assumption | trivial) ?_
        rotate_left
        · (intro wS hSw; (try dsimp only at hSw); go_simp; try with_reducible rfl)
        (try simp only [List.append_eq, List.cons_append, List.nil_append, List.getElem_toArray, List.getElem_cons_succ, List.getElem_cons_zero, Act.put, List.setIfInBounds_toArray, List.set_cons_zero, List.set_cons_succ])
        refine wpAnyH_take (i := 3) (v := ?_) rfl (by kernel_rfl) (by kernel_rfl) (by kernel_rfl) (fun _ _ _ h => h) (Or.inl ⟨by kernel_rfl, ?_⟩) (by first | assumption | trivial) ?_
        rotate_left
        · (intro wS hSw; (try dsimp only at hSw); go_simp; try with_reducible rfl)
        (try simp only [List.append_eq, List.cons_append, List.nil_append, List.getElem_toArray, List.getElem_cons_succ, List.getElem_cons_zero, Act.put, List.setIfInBounds_toArray, List.set_cons_zero, List.set_cons_succ])
        refine wpAnyH_take (i := 4) (v := ?_) rfl (by kernel_rfl) (by kernel_rfl) (by kernel_rfl) (fun _ _ _ h => h) (Or.inl ⟨by kernel_rfl, ?_⟩) (by first | assumption | trivial) ?_
        rotate_left
        · (intro wS hSw; (try dsimp only at hSw); go_simp; try with_reducible rfl)
        (try simp only [List.append_eq, List.cons_append, List.nil_append, List.getElem_toArray, List.getElem_cons_succ, List.getElem_cons_zero, Act.put, List.setIfInBounds_toArray, List.set_cons_zero, List.set_cons_succ])
        refine wpAnyH_take (i := 5) (v := ?_) rfl (by kernel_rfl) (by kernel_rfl) (by kernel_rfl) (fun _ _ _ h => h) (Or.inl ⟨by kernel_rfl, ?_⟩) (by first | assumption | trivial) ?_
        rotate_left
        · (intro wS hSw; (try dsimp only at hSw); go_simp; try with_reducible rfl)
        (try simp only [List.append_eq, List.cons_append, List.nil_append, List.getElem_toArray, List.getElem_cons_succ, List.getElem_cons_zero, Act.put, List.setIfInBounds_toArray, List.set_cons_zero, List.set_cons_succ])
        refine wpAnyH_take (i := 6) (v := ?_) rfl (by kernel_rfl) (by kernel_rfl) (by kernel_rfl) (fun _ _ _ h => h) (Or.inl ⟨by kernel_rfl, ?_⟩) (by first | assumption | trivial) ?_
        rotate_left
        · (intro wS hSw; (try dsimp only at hSw); go_simp; try with_reducible rfl)
        (try simp only [List.append_eq, List.cons_append, List.nil_append, List.getElem_toArray, List.getElem_cons_succ, List.getElem_cons_zero, Act.put, List.setIfInBounds_toArray, List.set_cons_zero, List.set_cons_succ])
        refine wpAnyH_take (i := 7) (v := ?_) rfl (by kernel_rfl) (by kernel_rfl) (by kernel_rfl) (fun _ _ _ h => h) (Or.inl ⟨by kernel_rfl, ?_⟩) (by first | assumption | trivial) ?_
        rotate_left
        · (intro wS hSw; (try dsimp only at hSw); go_simp; try with_reducible rfl)
        (try simp only [List.append_eq, List.cons_append, List.nil_append, List.getElem_toArray, List.getElem_cons_succ, List.getElem_cons_zero, Act.put, List.setIfInBounds_toArray, List.set_cons_zero, List.set_cons_succ])
        refine wpAnyH_take (i := 8) (v := ?_) rfl (by kernel_rfl) (by kernel_rfl) (by kernel_rfl) (fun _ _ _ h => h) (Or.inl ⟨by kernel_rfl, ?_⟩) (by first | assumption | trivial) ?_
        rotate_left
        · (intro wS hSw; (try dsimp only at hSw); go_simp; try with_reducible rfl)
        (try simp only [List.append_eq, List.cons_append, List.nil_append, List.getElem_toArray, List.getElem_cons_succ, List.getElem_cons_zero, Act.put, List.setIfInBounds_toArray, List.set_cons_zero, List.set_cons_succ])
        refine wpAnyH_take (i := 9) (v := ?_) rfl (by kernel_rfl) (by kernel_rfl) (by kernel_rfl) (fun _ _ _ h => h) (Or.inl ⟨by kernel_rfl, ?_⟩) (by first | assumption | trivial) ?_
        rotate_left
        · (intro wS hSw; (try dsimp only at hSw); go_simp; try with_reducible rfl)
        (try simp only [List.append_eq, List.cons_append, List.nil_append, List.getElem_toArray, List.getElem_cons_succ, List.getElem_cons_zero, Act.put, List.setIfInBounds_toArray, List.set_cons_zero, List.set_cons_succ])
        refine wpAnyH_take (i := 10) (v := ?_) rfl (by kernel_rfl) (by kernel_rfl) (by kernel_rfl) (fun _ _ _ h => h) (Or.inl ⟨by kernel_rfl, ?_⟩) (by first | assumption | trivial) ?_
        rotate_left
        · (intro wS hSw; (try dsimp only at hSw); go_simp; try with_reducible rfl)
        (try simp only [List.append_eq, List.cons_append, List.nil_append, List.getElem_toArray, List.getElem_cons_succ, List.getElem_cons_zero, Act.put, List.setIfInBounds_toArray, List.set_cons_zero, List.set_cons_succ])
        refine wpAnyH_take (i := 11) (v := ?_) rfl (by kernel_rfl) (by kernel_rfl) (by kernel_rfl) (fun _ _ _ h => h) (Or.inl ⟨by kernel_rfl, ?_⟩) (by first | assumption | trivial) ?_
        rotate_left
        · (intro wS hSw; (try dsimp only at hSw); go_simp; try with_reducible rfl)
        (try simp only [List.append_eq, List.cons_append, List.nil_append, List.getElem_toArray, List.getElem_cons_succ, List.getElem_cons_zero, Act.put, List.setIfInBounds_toArray, List.set_cons_zero, List.set_cons_succ])
        refine wpAnyH_take (i := 12) (v := ?_) rfl (by kernel_rfl) (by kernel_rfl) (by kernel_rfl) (fun _ _ _ h => h) (Or.inl ⟨by kernel_rfl, ?_⟩) (by first | assumption | trivial) ?_
        rotate_left
        · (intro wS hSw; (try dsimp only at hSw); go_simp; try with_reducible rfl)
        (try simp only [List.append_eq, List.cons_append, List.nil_append, List.getElem_toArray, List.getElem_cons_succ, List.getElem_cons_zero, Act.put, List.setIfInBounds_toArray, List.set_cons_zero, List.set_cons_succ])
        refine wpAnyH_done (by kernel_rfl) ?_ _
        refine NoPanic.normal ?_
        clear hS hHeld
        go_wp2_with fail
        go_roundw
        case rel => exact ⟨j3 + 1, by omega, by go_num, hid ⟨S.out, R.out, O.out, B.out⟩⟩
        case measure => simp [intOf]; omega
    · have e1 : decide ((j3 : Int) < (nw : Int)) = false := by simp; omega
      have e1' : decide (j3 < nw) = false := by simp; omega
      clear O hlt3 hj3
      go_wp2_with fail
      have S3 := S
      have R3 := R
      have B3 := B
      clear S R B
      go_loopw [7, 8, 9] (fun kk b8 e9 wx => ∃ j4 : Nat, j4 ≤ n ∧ kk = .int .i64 (j4 : Int) ∧ Hid (St w0 wx d hb D ∧ RSt w0 wx m D ∧ Below W.heap.size W wx)) (fun kk b8 e9 wx => n - (intOf kk).toNat)
      case atStart => exact ⟨0, by omega, rfl, hid ⟨S3.out, R3.out, B3.out⟩⟩
      case round =>
        clear S3 R3 B3
        obtain ⟨j4, hj4, rfl, hI4⟩ := hrel
        rename World => wr
        have S := hid hI4.out.1
        have R := hid hI4.out.2.1
        have B := hid hI4.out.2.2
        clear hI4
        obtain ⟨AH, cH, q0, q1⟩ := R.out.has0
        rw [HN.out] at q0 q1
        have Q1 := hid q1
        clear q1
        by_cases hlt4 : j4 < n
        · as_aux_lemma =>
            have e1 : decide ((j4 : Int) < (n : Int)) = true := by simp; omega
            have e1' : decide (j4 < n) = true := by simp; omega
            have z0 : (0 : Int) ≤ (j4 : Int) := by omega
            have z1 : (j4 : Int) < (n : Int) := by omega
            have z2 : (j4 : Int).toNat = j4 := by omega
            have z3 : (j4 : Int) < 2049 := by have := H2.out; have := HN.out; omega
            have hjn : j4 < D.has.length := by rw [HN.out]; exact hlt4
            obtain ⟨s, hs⟩ : ∃ s, D.has.getD j4 [] = s := ⟨_, rfl⟩
            have HHP := hid (has_st S.out j4 hjn)
            rw [hs] at HHP
            have hsl : s.length = 128 := by rw [← hs, List.getD_eq_getElem?_getD, List.getElem?_eq_getElem hjn, Option.getD_some]; exact S.out.len.1 _ (List.getElem_mem hjn)
            have HSL := hid hsl
            obtain ⟨gH, rfl, -⟩ := Q1.out j4 hlt4
            have hss := str_ne (rfl : s = s)
            have HS := hid hs
            clear hs hjn hsl
            go_upto_region 13 with (go_at_call 22
                                    refine HHP.out.mono ?_
                                    rintro e w2 ⟨g2, rfl, o2, -, s2, b2⟩
                                    have S2 := hid s2
                                    have R2 := hid (R.out.below b2)
                                    have B2 := hid (past B.out b2)
                                    have O2 := hid o2
                                    clear o2 b2 s2 S R B q0)
            have S := hid S2.out.drew
            have R := hid (R2.out.below (drew_below _))
            have B := hid (past B2.out (drew_below _))
            obtain ⟨AH2, cH2, t0, t1⟩ := R.out.has0
            rw [HN.out] at t0 t1
            obtain ⟨gH2, rfl, t2⟩ := t1 j4 hlt4
            rw [HS.out] at t2
            have hS := And.intro (strS (O2.out.below (drew_below w2)) HSL.out) (And.intro t0 t2)
            clear t0 t1 t2 S2 R2 B2 O2
            refine wp_region_noPanic ?_
            refine wp_region_held_drew (S := (fun X => (convert 24 9 (.slice (some ⟨g2, 0, none⟩) 128 128)).run Try.prog X = .ok (.string (str s)) X ∧ X.cell? ⟨m, 0, none⟩ = some (.slice (some ⟨gH2, 0, none⟩) n cH2) ∧ X.cell? ⟨gH2, j4, none⟩ = some (.string (str s)))) (by kernel_rfl) (by first | assumption | trivial) (fun hHeld => ?_)
            refine wpAnyH_take (i := 0) (v := ?_) rfl (by kernel_rfl) (by kernel_rfl) (by kernel_rfl) (fun _ _ _ h => h) (Or.inl ⟨by kernel_rfl, ?_⟩) (by first | assumption | trivial) ?_
            rotate_left
            · (intro wS hSw; (try dsimp only at hSw); go_simp; try with_reducible rfl)
            (try simp only [List.append_eq, List.cons_append, List.nil_append, List.getElem_toArray, List.getElem_cons_succ, List.getElem_cons_zero, Act.put, List.setIfInBounds_toArray, List.set_cons_zero, List.set_cons_succ])
            refine wpAnyH_take (i := 1) (v := ?_) rfl (by kernel_rfl) (by kernel_rfl) (by kernel_rfl) (fun _ _ _ h => h) (Or.inl ⟨by kernel_rfl, ?_⟩) (by first | assumption | trivial) ?_
            rotate_left
            · (intro wS hSw; (try dsimp only at hSw); go_simp; try with_reducible rfl)
            (try simp only [List.append_eq, List.cons_append, List.nil_append, List.getElem_toArray, List.getElem_cons_succ, List.getElem_cons_zero, Act.put, List.setIfInBounds_toArray, List.set_cons_zero, List.set_cons_succ])
            refine wpAnyH_take (i := 2) (v := ?_) rfl (by kernel_rfl) (by kernel_rfl) (by kernel_rfl) (fun _ _ _ h => h) (Or.inl ⟨by kernel_rfl, ?_⟩) (by first | assumption | trivial) ?_
            rotate_left
            · (intro wS hSw; (try dsimp only at hSw); go_simp; try with_reducible rfl)
            (try simp only [List.append_eq, List.cons_append, List.nil_append, List.getElem_toArray, List.getElem_cons_succ, List.getElem_cons_zero, Act.put, List.setIfInBounds_toArray, List.set_cons_zero, List.set_cons_succ])
            refine wpAnyH_take (i := 3) (v := ?_) rfl (by kernel_rfl) (by kernel_rfl) (by kernel_rfl) (fun _ _ _ h => h) (Or.inl ⟨by kernel_rfl, ?_⟩) (by first | assumption | trivial) ?_
            rotate_left
            · (intro wS hSw; (try dsimp only at hSw); go_simp; try with_reducible rfl)
            (try simp only [List.append_eq, List.cons_append, List.nil_append, List.getElem_toArray, List.getElem_cons_succ, List.getElem_cons_zero, Act.put, List.setIfInBounds_toArray, List.set_cons_zero, List.set_cons_succ])
            refine wpAnyH_take (i := 4) (v := ?_) rfl (by kernel_rfl) (by kernel_rfl) (by kernel_rfl) (fun _ _ _ h => h) (Or.inl ⟨by kernel_rfl, ?_⟩) (by first | assumption | trivial) ?_
            rotate_left
            · (intro wS hSw; (try dsimp only at hSw); go_simp; try with_reducible rfl)
            (try simp only [List.append_eq, List.cons_append, List.nil_append, List.getElem_toArray, List.getElem_cons_succ, List.getElem_cons_zero, Act.put, List.setIfInBounds_toArray, List.set_cons_zero, List.set_cons_succ])
            refine wpAnyH_take (i := 5) (v := ?_) rfl (by kernel_rfl) (by kernel_rfl) (by kernel_rfl) (fun _ _ _ h => h) (Or.inl ⟨by kernel_rfl, ?_⟩) (by first | assumption | trivial) ?_
            rotate_left
            · (intro wS hSw; (try dsimp only at hSw); go_simp; try with_reducible rfl)
            (try simp only [List.append_eq, List.cons_append, List.nil_append, List.getElem_toArray, List.getElem_cons_succ, List.getElem_cons_zero, Act.put, List.setIfInBounds_toArray, List.set_cons_zero, List.set_cons_succ])
            refine wpAnyH_take (i := 6) (v := ?_) rfl (by kernel_rfl) (by kernel_rfl) (by kernel_rfl) (fun _ _ _ h => h) (Or.inl ⟨by kernel_rfl, ?_⟩) (by first | assumption | trivial) ?_
            rotate_left
            · (intro wS hSw; (try dsimp only at hSw); go_simp; try with_reducible rfl)
            (try simp only [List.append_eq, List.cons_append, List.nil_append, List.getElem_toArray, List.getElem_cons_succ, List.getElem_cons_zero, Act.put, List.setIfInBounds_toArray, List.set_cons_zero, List.set_cons_succ])
            refine wpAnyH_take (i := 7) (v := ?_) rfl (by kernel_rfl) (by kernel_rfl) (by kernel_rfl) (fun _ _ _ h => h) (Or.inl ⟨by kernel_rfl, ?_⟩) (by first | assumption | trivial) ?_
            rotate_left
            · (intro wS hSw; (try dsimp only at hSw); go_simp; try with_reducible rfl)
            (try simp only [List.append_eq, List.cons_append, List.nil_append, List.getElem_toArray, List.getElem_cons_succ, List.getElem_cons_zero, Act.put, List.setIfInBounds_toArray, List.set_cons_zero, List.set_cons_succ])
            refine wpAnyH_take (i := 8) (v := ?_) rfl (by kernel_rfl) (by kernel_rfl) (by kernel_rfl) (fun _ _ _ h => h) (Or.inl ⟨by kernel_rfl, ?_⟩) (by first | assumption | trivial) ?_
            rotate_left
            · (intro wS hSw; (try dsimp only at hSw); go_simp; try with_reducible rfl)
            (try simp only [List.append_eq, List.cons_append, List.nil_append, List.getElem_toArray, List.getElem_cons_succ, List.getElem_cons_zero, Act.put, List.setIfInBounds_toArray, List.set_cons_zero, List.set_cons_succ])
            refine wpAnyH_take (i := 9) (v := ?_) rfl (by kernel_rfl) (by kernel_rfl) (by kernel_rfl) (fun _ _ _ h => h) (Or.inl ⟨by kernel_rfl, ?_⟩) (by first | assumption | trivial) ?_
            rotate_left
            · (intro wS hSw; (try dsimp only at hSw); go_simp; try with_reducible rfl)
            (try simp only [List.append_eq, List.cons_append, List.nil_append, List.getElem_toArray, List.getElem_cons_succ, List.getElem_cons_zero, Act.put, List.setIfInBounds_toArray, List.set_cons_zero, List.set_cons_succ])
            refine wpAnyH_take (i := 10) (v := ?_) rfl (by kernel_rfl) (by kernel_rfl) (by kernel_rfl) (fun _ _ _ h => h) (Or.inl ⟨by kernel_rfl, ?_⟩) (by first | assumption | trivial) ?_
            rotate_left
            · (intro wS hSw; (try dsimp only at hSw); go_simp; try with_reducible rfl)
            (try simp only [List.append_eq, List.cons_append, List.nil_append, List.getElem_toArray, List.getElem_cons_succ, List.getElem_cons_zero, Act.put, List.setIfInBounds_toArray, List.set_cons_zero, List.set_cons_succ])
            refine wpAnyH_take (i := 11) (v := ?_) rfl (by kernel_rfl) (by kernel_rfl) (by kernel_rfl) (fun _ _ _ h => h) (Or.inl ⟨by kernel_rfl, ?_⟩) (by first | assumption | trivial) ?_
            rotate_left
            · (intro wS hSw; (try dsimp only at hSw); go_simp; try with_reducible rfl)
            (try simp only [List.append_eq, List.cons_append, List.nil_append, List.getElem_toArray, List.getElem_cons_succ, List.getElem_cons_zero, Act.put, List.setIfInBounds_toArray, List.set_cons_zero, List.set_cons_succ])
            refine wpAnyH_take (i := 12) (v := ?_) rfl (by kernel_rfl) (by kernel_rfl) (by kernel_rfl) (fun _ _ _ h => h) (Or.inl ⟨by kernel_rfl, ?_⟩) (by first | assumption | trivial) ?_
            rotate_left
            · (intro wS hSw; (try dsimp only at hSw); go_simp; try with_reducible rfl)
            (try simp only [List.append_eq, List.cons_append, List.nil_append, List.getElem_toArray, List.getElem_cons_succ, List.getElem_cons_zero, Act.put, List.setIfInBounds_toArray, List.set_cons_zero, List.set_cons_succ])
            refine wpAnyH_take (i := 13) (v := ?_) rfl (by kernel_rfl) (by kernel_rfl) (by kernel_rfl) (fun _ _ _ h => h) (Or.inl ⟨by kernel_rfl, ?_⟩) (by first | assumption | trivial) ?_
            rotate_left
            · (intro wS hSw; (try dsimp only at hSw); go_simp; try with_reducible rfl)
            (try simp only [List.append_eq, List.cons_append, List.nil_append, List.getElem_toArray, List.getElem_cons_succ, List.getElem_cons_zero, Act.put, List.setIfInBounds_toArray, List.set_cons_zero, List.set_cons_succ])
            refine wpAnyH_done (by kernel_rfl) ?_ _
            refine NoPanic.normal ?_
            clear hS hHeld
            go_wp2_with fail
            go_roundw
            case rel => exact ⟨j4 + 1, by omega, by go_num, hid ⟨S.out, R.out, B.out⟩⟩
            case measure => simp [intOf]; omega
        · have e1 : decide ((j4 : Int) < (n : Int)) = false := by simp; omega
          have e1' : decide (j4 < n) = false := by simp; omega
          go_wp2_with fail
          go_ret
          exact ⟨rfl, B.out⟩
end
section
open Go.RowKit
set_option linter.unusedVariables false
set_option linter.unusedSimpArgs false
set_option maxRecDepth 100000
attribute [local go_sem] Oper.semAt_some
theorem RSt.room {w0 W : World} {m : Nat} {R D : Dsk} (h : RSt w0 W m R) (h1 : D.has = R.has) (h2 : D.waits = R.waits) (h3 : D.bud = R.bud) (h4 : D.off = R.off) : RSt w0 W m D := by
  obtain ⟨VH, VL, k⟩ := h
  refine ⟨VH, VL, k.m0, ?_, ?_, ?_, ?_, ?_, ?_⟩
  · rw [h3, h4]; exact k.cells
  · rw [h1]; exact k.hs
  · rw [h2]; exact k.ls
  · rw [h1, h2]; exact k.wl
  · rw [h1]; exact k.nb
  · rw [h3]; exact k.bd
theorem write_hl (D : Dsk) (i : Int) (s : List UInt8) : (writeD D i s).1.has.length = D.has.length := by
  have e := (spend_has D).1
  unfold writeD
  split
  · split
    · show (spendD D).has.length = _; rw [e]
    · show (spendD D).has.length = _; rw [e]
  · rfl
theorem flush_hl (D : Dsk) : (flushD D).1.has.length = D.has.length := by
  have e := (spend_has D).1
  unfold flushD
  split
  · show (doneK _ _ _ _).length = _; rw [doneK_len]
  · show (spendD D).has.length = _; rw [e]
theorem step_hl (D : Dsk) (s : Stp) : (stepD D s).1.has.length = D.has.length := by
  cases s with
  | wr i s => exact write_hl D i s
  | fl => exact flush_hl D
theorem run_hl : ∀ (ss : List Stp) (D : Dsk), (runD ss D).1.has.length = D.has.length
  | [], D => by simp [runD]
  | s :: r, D => by
    have h1 := step_hl D s
    rw [runD]
    split
    · rw [run_hl r, h1]
    · exact h1
theorem commit_hl (D : Dsk) (l : List Iss) : (commitD D l).1.has.length = D.has.length := by
  unfold commitD
  split
  · rfl
  · exact run_hl _ _
theorem recover_hl (D : Dsk) : (recoverD D).1.has.length = D.has.length := by
  unfold recoverD
  split
  · rfl
  · split
    · rfl
    · split
      · exact run_hl _ _
      · split
        · rfl
        · exact run_hl _ _
theorem format_w (D : Dsk) : (runD formatS D).1.waits.length ≤ D.waits.length + 2 := runD_waits formatS D
/-- The disk, the document's, the act's own box, and the transaction. -/
structure Pd (w0 W : World) (d hb m bx : Nat) (D R : Dsk) (bc : List Value) (B : Option Addr) (mm : Nat) (us : List PuV) : Prop where
  st : St w0 W d hb D
  rs : RSt w0 W m R
  box : OwnE W bx 51 bc
  p : PutsT W B mm us
section
variable {w0 W w' : World} {d hb m bx mm : Nat} {D R D' R' : Dsk} {bc : List Value} {B : Option Addr} {us : List PuV}
theorem Pd.below (h : Pd w0 W d hb m bx D R bc B mm us) (b : Below W.heap.size W w') : Pd w0 w' d hb m bx D R bc B mm us := ⟨h.st.below b, h.rs.below b, h.box.below b, h.p.below b⟩
theorem Pd.lets (h : Pd w0 W d hb m bx D R bc B mm us) (s : St w0 w' d hb D') (L : Lets d hb W w') : Pd w0 w' d hb m bx D' R bc B mm us := ⟨s, h.rs.lets h.st L, h.box.lets_ty h.st L (by decide) (by decide) (by decide), h.p.lets h.st L⟩
theorem Pd.rlets (h : Pd w0 W d hb m bx D R bc B mm us) (r : RSt w0 w' m R') (L : RLets w0 W w') : Pd w0 w' d hb m bx D R' bc B mm us := ⟨h.st.rlets L, r, h.box.rlets L (by decide) (by decide) (by decide), h.p.rlets L⟩
theorem Pd.sz (h : Pd w0 W d hb m bx D R bc B mm us) : w0.heap.size ≤ W.heap.size := h.st.bel.size
theorem Pd.bud (h : Pd w0 W d hb m bx D R bc B mm us) (k : Int) (hk : -1 ≤ k ∧ k ≤ 9223372036854775807) : Pd w0 (W.setCell ⟨m, 2, none⟩ (.int .i64 k)) d hb m bx D { R with bud := k } bc B mm us := by
  obtain ⟨VH, VL, q⟩ := h.rs
  have hO : Only (RMine m VH VL) W (W.setCell ⟨m, 2, none⟩ (.int .i64 k)) := Only.of_set W ⟨m, 2, none⟩ _ rm_m
  exact h.rlets ⟨VH, VL, q.bud_set k hk⟩ (RLets.of_only q hO h.st.bel.size)
end
theorem act_info : (Try.prog.info? 51).map (·.size) = some 5 := by kernel_rfl
theorem box_act (w : World) (old xs : Array Value) : (w.alloc (.cells old 51)).setRow w.heap.size xs = w.alloc (.cells xs 51) := World.setRow_alloc_new w _ _ _
set_option maxHeartbeats 16000000 in
theorem plays_walk (x : Int) (A : Option Addr) (n c : Nat) (as_ : List ActV) (w : World) (h : ActsIn w A n as_) :
    Calls Try.prog 6 #[.int .i64 x, .slice A n c] w fun e w' => e = .returned (.bool true) ∧ Below w.heap.size w w' := by
  have F := hid h
  obtain ⟨y, hy⟩ : ∃ y : Int, (if 100 < x then 100 else x) = y := ⟨_, rfl⟩
  have HY : Hid (y ≤ 100) := hid (by rw [← hy]; split <;> omega)
  obtain ⟨q, hq⟩ : ∃ q, decide (100 < x) = q := ⟨_, rfl⟩
  clear h
  go_enter Try.func6, Try.ntmps6
  go_upto_if 18 with fail
  go_cut [0] (fun v wx => v = .int .i64 y ∧ w = wx)
  case first =>
    cases q with
    | true =>
      have e2 : y = 100 := by rw [← hy, if_pos (of_decide_eq_true hq)]
      have E2 := hid e2
      clear hq hy e2
      go_wp2_with fail
      go_meet
      exact ⟨by rw [E2.out], rfl⟩
    | false =>
      have e2 : y = x := by rw [← hy, if_neg (of_decide_eq_false hq)]
      have E2 := hid e2
      clear hq hy e2
      go_wp2_with fail
      go_meet
      exact ⟨by rw [E2.out], rfl⟩
  case rest =>
  obtain ⟨rfl, hw9⟩ := hcut
  subst hw9
  clear hy hq
  by_cases hy1 : y < 1
  · have HNO := hid (new_no y (.inl hy1) w)
    have d1 : decide (y < 1) = true := by simpa using hy1
    clear hy1
    go_wp2_with (first | (go_at_call 23; refine HNO.out.mono ?_; rintro e w1 ⟨rfl, rfl⟩) | (go_at_call 10; (with_reducible refine (awake_any _).mono ?_); rintro e w7 ⟨rfl, b7⟩; have HB := hid b7; clear b7))
    go_ret
    exact ⟨rfl, HB.out⟩
  obtain ⟨N, rfl⟩ : ∃ N : Nat, y = (N : Int) := ⟨y.toNat, by omega⟩
  have H1 : Hid (1 ≤ N) := hid (by omega)
  have H2 : Hid (N ≤ 100) := hid (by have := HY.out; omega)
  clear hy1 HY
  go_wp2_with (first
    | (go_at_call 23; refine (new_st N H1.out (by have := H2.out; omega) w w (Below.refl _ _)).mono ?_; rintro e w1 ⟨d, hb, rfl, s1, b1⟩; have S := hid s1; clear s1 b1)
    | (go_at_call 24; refine (rnew_any N (by have := H2.out; omega) w _ S.out.bel).mono ?_; rintro e w2 ⟨m, rfl, r2, l2⟩; have S := hid (S.out.rlets l2); have R := hid (r2.room (D := newD N) rfl rfl rfl rfl); clear r2 l2))
  go_loopw [8] (fun i wr => ∃ (j : Nat) (D : Dsk), j ≤ 14 ∧ i = .int .i64 (j : Int) ∧ Hid (St w wr d hb D ∧ RSt w wr m D ∧ D.has.length = N ∧ D.waits.length ≤ 100 * j)) (fun i wr => 14 - (intOf i).toNat)
  case atStart => exact ⟨0, newD N, by omega, rfl, hid ⟨S.out, R.out, List.length_replicate, Nat.le_refl _⟩⟩
  case round =>
    clear S R
    obtain ⟨j, D, hj, rfl, hI⟩ := hrel
    rename World => wr
    have S := hid hI.out.1
    have R := hid hI.out.2.1
    have HN := hid hI.out.2.2.1
    have HWJ := hid hI.out.2.2.2
    clear hI
    by_cases hlt : j < n ∧ j < 14
    · have q1 : decide ((j : Int) < (n : Int)) = true := by simp; omega
      have q2 : decide ((j : Int) < 14) = true := by simp; omega
      have q1' : decide (j < n) = true := by simp; omega
      have q2' : decide (j < 14) = true := by simp; omega
      have i0 : (0 : Int) ≤ (j : Int) := by omega
      have i1 : (j : Int) < (n : Int) := by omega
      have i2 : (j : Int).toNat = j := by omega
      have HLT := hid hlt
      have hja : j < as_.length := by rw [F.out.len]; exact hlt.1
      obtain ⟨ab, ao, rfl, hac⟩ := act_at F.out.row hja
      have hc := hac j hja
      obtain ⟨a, ha⟩ : ∃ a, as_[j]'hja = a := ⟨_, rfl⟩
      have ham : a ∈ as_ := ha ▸ List.getElem_mem _
      rw [ha] at hc
      have hp := F.out.puts a ham
      have hkl := F.out.kl a ham
      have hkr := F.out.kr a ham
      have h64 := F.out.i64 a ham
      obtain ⟨aD, aI, aC, pA, pn, pc, vs, KA, kn, kc, ks⟩ := a
      dsimp only at hc hp hkl hkr h64
      have HKL := hid hkl
      have HKR := hid hkr
      have H64 := hid h64
      have HFW := hid (fun (X : World) (b : Below w.heap.size w X) => few_any pA pn pc vs X (hp.1.below b) hp.2)
      obtain ⟨l, hl⟩ : ∃ l, fewI (vs.map PuV.p) = l := ⟨_, rfl⟩
      rw [hl] at HFW
      have c0 := cells_keep S.out.bel hc.1
      have c1 := cells_keep S.out.bel hc.2.1
      have c2 := cells_keep S.out.bel hc.2.2.1
      have c3 := cells_keep S.out.bel hc.2.2.2.1
      have c4 := cells_keep S.out.bel hc.2.2.2.2
      clear hl hp ham ha hc hac hja hlt hkl hkr h64
      have bA : Below wr.heap.size wr (wr.alloc (.cells #[.int .i64 aD, .int .i64 aI, B8 aC, .slice pA pn pc, .slice KA kn kc] 51)) := (Below.refl _ _).alloc (Nat.le_refl _) _
      have QS := hid (S.out.below bA)
      have QR := hid (R.out.below bA)
      have QB : Hid (OwnE (wr.alloc (.cells #[.int .i64 aD, .int .i64 aI, B8 aC, .slice pA pn pc, .slice KA kn kc] 51)) wr.heap.size 51 [.int .i64 aD, .int .i64 aI, B8 aC, .slice pA pn pc, .slice KA kn kc]) := hid (heap_alloc_new wr _)
      clear bA S R
      go_upto_block 2 with first
        | (refine wpList_store_row rfl 51 (.tmp 9) (.tmp 58) rfl wr.heap.size #[.int .i64 aD, .int .i64 aI, B8 aC, .slice pA pn pc, .slice KA kn kc] rfl rfl 51 #[.int .i64 0, .int .i64 0, .int .u8 0, .slice none 0 0, .slice none 0 0] (heap_alloc_new wr _) act_info rfl (by simp [B8, Value.oneCell']) ?_
           rw [box_act]
           have y3 := QB.out.cell (j := 3) rfl)
        | (go_at_call 7; (with_reducible refine (HFW.out _ QS.out.bel).mono ?_); rintro e w4 ⟨b4, B, mm, c9, us, rfl, hm, p4, l4, f4⟩; have P := hid (⟨QS.out.below b4, QR.out.below b4, QB.out.below b4, p4⟩ : Pd w w4 d hb m wr.heap.size D D [.int .i64 aD, .int .i64 aI, B8 aC, .slice pA pn pc, .slice KA kn kc] B mm us); have L := hid l4; have y0 := P.out.box.cell (j := 0) rfl; clear b4 p4 l4 y3)
      clear y0 c0 c1 c2 c3 c4 QS QR QB HFW
      generalize wr.heap.size = bx at P ⊢
      have hw := HWJ.out
      have hj14 := HLT.out.2
      have HW7 : Hid (D.waits.length ≤ 2000) := hid (by omega)
      clear hw hj14
      go_cut [4] (fun r wx => ∃ D2, Hid (St w wx d hb D2 ∧ RSt w wx m D2 ∧ D2.has.length = N ∧ D2.waits.length ≤ D.waits.length + 100))
      case first =>
        have y1 := P.out.box.cell (j := 1) rfl
        have y4 := P.out.box.cell (j := 4) rfl
        have hkk : ∀ k : Int, (k != k) = false := by simp
        by_cases h0 : aD = 0
        · subst h0
          by_cases h41 : N ≤ 41
          · as_aux_lemma =>
              have g1 : decide ((41 : Int) < (N : Int)) = false := by simp; omega
              have g1' : decide (41 < N) = false := by simp; omega
              have hcd : commitD D l = (D, 1) := by unfold commitD; rw [if_pos (.inl (by rw [HN.out]; exact h41))]
              have HCM := hid (commit_c (c := c9) P.out.st P.out.p (by omega) (by have := HW7.out; omega) L.out (R := D) (m := 1) (by rw [hcd]) (by rw [hcd]; rfl))
              clear hcd h41 y1 y4
              go_wp2_with (go_at_call 13; (with_reducible refine HCM.out.mono ?_); rintro e w5 ⟨rfl, s5, k5⟩; have P5 := hid (P.out.lets s5 k5); clear s5 k5)
              go_meet
              exact ⟨D, hid ⟨P5.out.st, P5.out.rs, HN.out, by omega⟩⟩
          · have g1 : decide ((41 : Int) < (N : Int)) = true := by simp; omega
            have g1' : decide (41 < N) = true := by simp; omega
            have HMY := hid (fun (X : World) (q : Pd w X d hb m bx D D [.int .i64 0, .int .i64 aI, B8 aC, .slice pA pn pc, .slice KA kn kc] B mm us) => (by have := rmay_any B mm c9 us (N : Int) X q.p.puts (by omega); rw [L.out] at this; exact this : Calls Try.prog 9 #[.slice B mm c9, .int .i64 (N : Int)] X fun e w' => e = .returned (.bool (mayJ l (N : Int))) ∧ Below X.heap.size X w'))
            cases hmy : mayJ l (N : Int) with
            | false =>
              as_aux_lemma =>
                rw [hmy] at HMY
                have hcd : commitD D l = (D, 1) := by unfold commitD; rw [if_pos (.inr (by rw [HN.out]; exact hmy))]
                have HCM := hid (fun (X : World) (q : Pd w X d hb m bx D D [.int .i64 0, .int .i64 aI, B8 aC, .slice pA pn pc, .slice KA kn kc] B mm us) => commit_c (c := c9) q.st q.p (by omega) (by have := HW7.out; omega) L.out (R := D) (m := 1) (by rw [hcd]) (by rw [hcd]; rfl))
                clear hcd h41 y1 y4 hmy
                go_wp2_with first
                  | (go_at_call 9; (with_reducible refine (HMY.out _ P.out).mono ?_); rintro e w4 ⟨rfl, b4⟩; have P4 := hid (P.out.below b4); clear b4)
                  | (go_at_call 13; (with_reducible refine (HCM.out _ P4.out).mono ?_); rintro e w5 ⟨rfl, s5, k5⟩; have P5 := hid (P4.out.lets s5 k5); clear s5 k5)
                go_meet
                exact ⟨D, hid ⟨P5.out.st, P5.out.rs, HN.out, by omega⟩⟩
            | true =>
              as_aux_lemma =>
                rw [hmy] at HMY
                have hcd : commitD D l = runD (commitS l) D := by unfold commitD; rw [if_neg]; rintro (e | e); (rw [HN.out] at e; omega); (rw [HN.out, hmy] at e; cases e)
                have hl40 := (mayJ_true hmy).l40
                have hcw := commit_w D l (by omega)
                have hch := commit_hl D l
                have h20 := mayJ_2048 l N (by have := H2.out; omega) hmy
                obtain ⟨D2, hD2⟩ : ∃ D2, (commitD D l).1 = D2 := ⟨_, rfl⟩
                obtain ⟨k, hk⟩ : ∃ k : Int, ((commitD D l).2 : Int) = k := ⟨_, rfl⟩
                have HCM := hid (fun (X : World) (R : Dsk) (q : Pd w X d hb m bx D R [.int .i64 0, .int .i64 aI, B8 aC, .slice pA pn pc, .slice KA kn kc] B mm us) => commit_c (c := c9) q.st q.p (by omega) (by have := HW7.out; omega) L.out hD2 hk)
                have HRC := hid (fun (X : World) (q : Pd w X d hb m bx D D [.int .i64 0, .int .i64 aI, B8 aC, .slice pA pn pc, .slice KA kn kc] B mm us) => (by have := rcommit_any q.rs q.sz (by have := HW7.out; omega) B mm c9 us q.p (by rw [L.out]; exact h20); rw [L.out, ← hcd] at this; unfold RunR at this; rw [hD2, hk] at this; exact this : Calls Try.prog 25 #[.pointer (some ⟨m, 0, none⟩), .slice B mm c9] X fun e w' => e = .returned (.int .i64 k) ∧ RSt w w' m D2 ∧ RLets w X w'))
                rw [hD2] at hcw hch
                have HCW := hid hcw
                have HCH := hid hch
                have hkk2 := hkk k
                clear hcd h41 y1 y4 hmy hl40 hcw hch h20 hD2 hk hkk
                go_wp2_with first
                  | (go_at_call 9; (with_reducible refine (HMY.out _ P.out).mono ?_); rintro e w4 ⟨rfl, b4⟩; have P4 := hid (P.out.below b4); clear b4)
                  | (go_at_call 25; (with_reducible refine (HRC.out _ P4.out).mono ?_); rintro e w5 ⟨rfl, r5, k5⟩; have P5 := hid (P4.out.rlets r5 k5); clear r5 k5)
                  | (go_at_call 13; (with_reducible refine (HCM.out _ _ P5.out).mono ?_); rintro e w6 ⟨rfl, s6, k6⟩; have P6 := hid (P5.out.lets s6 k6); clear s6 k6)
                go_meet
                exact ⟨D2, hid ⟨P6.out.st, P6.out.rs, HCH.out.trans HN.out, by have := HCW.out; omega⟩⟩
        have f0 : (aD == 0) = false := by simpa using h0
        by_cases h1 : aD = 1
        · subst h1
          obtain ⟨D2, hD2⟩ : ∃ D2, (recoverD D).1 = D2 := ⟨_, rfl⟩
          obtain ⟨kx, hkx⟩ : ∃ k : Int, ((recoverD D).2.1 : Int) = k := ⟨_, rfl⟩
          obtain ⟨ex, hex⟩ : ∃ k : Int, ((recoverD D).2.2 : Int) = k := ⟨_, rfl⟩
          have hrw := recover_w D
          have hrh := recover_hl D
          rw [hD2] at hrw hrh
          have HRW := hid hrw
          have HRH := hid hrh
          have HRC := hid (recover_c P.out.st (by have := HW7.out; omega) hD2 hkx hex)
          have hk1 := hkk kx
          have hk2 := hkk ex
          by_cases h41 : N ≤ 41
          · as_aux_lemma =>
              have g1 : decide ((41 : Int) < (N : Int)) = false := by simp; omega
              have g1' : decide (41 < N) = false := by simp; omega
              have hr : recoverD D = (D, 0, 1) := by unfold recoverD; rw [if_pos (by rw [HN.out]; exact h41)]
              have e1 : D2 = D := by rw [← hD2, hr]
              have e2 : kx = 0 := by rw [← hkx, hr]; rfl
              have e3 : ex = 1 := by rw [← hex, hr]; rfl
              clear hr hD2 hkx hex hrw hrh h41 y1 y4
              subst e1 e2 e3
              go_wp2_with (go_at_call 18; (with_reducible refine HRC.out.mono ?_); rintro e w5 ⟨rfl, s5, k5⟩; have P5 := hid (P.out.lets s5 k5); clear s5 k5)
              go_meet
              exact ⟨_, hid ⟨P5.out.st, P5.out.rs, HN.out, by omega⟩⟩
          · as_aux_lemma =>
              have g1 : decide ((41 : Int) < (N : Int)) = true := by simp; omega
              have g1' : decide (41 < N) = true := by simp; omega
              have h128 : ∀ k, k < D.has.length → (readD D k).length = 128 := fun k hk => readD_len P.out.st k hk
              have HRR := hid (fun (X : World) (q : Pd w X d hb m bx D2 D [.int .i64 1, .int .i64 aI, B8 aC, .slice pA pn pc, .slice KA kn kc] B mm us) => (by have := rrecover_any q.rs q.sz h128 (by rw [HN.out]; omega) (by have := HW7.out; omega); unfold RecR at this; rw [hD2, hkx, hex] at this; exact this : Calls Try.prog 26 #[.pointer (some ⟨m, 0, none⟩)] X fun e w' => e = .returned (.tuple #[.int .i64 kx, .int .i64 ex]) ∧ RSt w w' m D2 ∧ RLets w X w'))
              clear h128 hD2 hkx hex hrw hrh h41 y1 y4 hkk
              go_wp2_with first
                | (go_at_call 18; (with_reducible refine HRC.out.mono ?_); rintro e w5 ⟨rfl, s5, k5⟩; have P5 := hid (P.out.lets s5 k5); clear s5 k5)
                | (go_at_call 26; (with_reducible refine (HRR.out _ P5.out).mono ?_); rintro e w6 ⟨rfl, r6, k6⟩; have P6 := hid (P5.out.rlets r6 k6); clear r6 k6)
              go_meet
              exact ⟨D2, hid ⟨P6.out.st, P6.out.rs, HRH.out.trans HN.out, by have := HRW.out; omega⟩⟩
        have f1 : (aD == 1) = false := by simpa using h1
        by_cases h2 : aD = 2
        · subst h2
          by_cases hI : aI < -1
          · as_aux_lemma =>
              have HBN := hid (budget_no d)
              clear y4
              go_wp2_with (go_at_call 15; refine (HBN.out _ aI hI).mono ?_; rintro e w2 ⟨rfl, rfl⟩)
              go_meet
              exact ⟨D, hid ⟨P.out.st, P.out.rs, HN.out, by omega⟩⟩
          · as_aux_lemma =>
              have HIB := hid (show -1 ≤ aI ∧ aI ≤ 9223372036854775807 from ⟨by omega, H64.out.2.2⟩)
              have HBG := hid (budget_st P.out.st aI HIB.out.1 HIB.out.2)
              clear hI y4
              go_wp2_with (go_at_call 15
                           (refine HBG.out.mono ?_
                            rintro e w2 ⟨rfl, s2, k2⟩
                            have P2 := hid (P.out.lets s2 k2)
                            have z1 := P2.out.box.cell (j := 1) rfl
                            obtain ⟨VH, VL, q⟩ := P2.out.rs
                            have x2 := q.cells.cell (j := 2) rfl
                            have f2 := q.cells.frozen 2
                            clear s2 k2 q y1))
              go_meet
              have P3 := P2.out.bud aI HIB.out
              exact ⟨{ D with bud := aI }, hid ⟨P3.st, P3.rs, HN.out, by show D.waits.length ≤ _; omega⟩⟩
        have f2 : (aD == 2) = false := by simpa using h2
        by_cases h3 : aD = 3
        · as_aux_lemma =>
            subst h3
            have hcl : (cutD D ks).has.length = D.has.length := doneK_len _ _ _ _
            have HCL := hid hcl
            have HCT := hid (cut_arg P.out.st (by have := HW7.out; omega) KA kn kc ks HKL.out HKR.out)
            have HRC := hid (fun (X : World) (R : Dsk) (q : Pd w X d hb m bx R D [.int .i64 3, .int .i64 aI, B8 aC, .slice pA pn pc, .slice KA kn kc] B mm us) => rcut_any q.rs q.st.bel (by have := HW7.out; omega) KA kn kc ks HKL.out HKR.out)
            clear hcl y1
            go_wp2_with first
              | (go_at_call 16; (with_reducible refine HCT.out.mono ?_); rintro e w5 ⟨rfl, s5, k5⟩; have P5 := hid (P.out.lets s5 k5); have z4 := P5.out.box.cell (j := 4) rfl; clear s5 k5 y4)
              | (go_at_call 27; (with_reducible refine (HRC.out _ _ P5.out).mono ?_); rintro e w6 ⟨rfl, r6, k6⟩; have P6 := hid (P5.out.rlets r6 k6); clear r6 k6)
            go_meet
            exact ⟨cutD D ks, hid ⟨P6.out.st, P6.out.rs, HCL.out.trans HN.out, Nat.zero_le _⟩⟩
        have f3 : (aD == 3) = false := by simpa using h3
        by_cases h4 : aD = 4
        · as_aux_lemma =>
            subst h4
            clear y1 y4
            go_wp2_with first
              | (go_at_call 17; (with_reducible refine (on_st P.out.st).mono ?_); rintro e w5 ⟨rfl, s5, k5⟩; have P5 := hid (P.out.lets s5 k5); clear s5 k5)
              | (go_at_call 28; (with_reducible refine (ron_any P5.out.rs P5.out.sz).mono ?_); rintro e w6 ⟨rfl, r6, k6⟩; have P6 := hid (P5.out.rlets r6 k6); clear r6 k6)
            go_meet
            exact ⟨onD' D, hid ⟨P6.out.st, P6.out.rs, HN.out, Nat.zero_le _⟩⟩
        have f4 : (aD == 4) = false := by simpa using h4
        by_cases h5 : aD = 5
        · subst h5
          have HFM := hid (format_any P.out.st (by have := HW7.out; omega))
          by_cases h41 : N ≤ 41
          · as_aux_lemma =>
              have g1 : decide ((41 : Int) < (N : Int)) = false := by simp; omega
              have g1' : decide (41 < N) = false := by simp; omega
              have hr : formatD D = (D, 1) := by unfold formatD; rw [if_pos (by rw [HN.out]; exact h41)]
              rw [hr] at HFM
              clear hr h41 y1 y4
              go_wp2_with (go_at_call 30; (with_reducible refine HFM.out.mono ?_); rintro e w5 ⟨rfl, s5, k5⟩; have P5 := hid (P.out.lets s5 k5); clear s5 k5)
              go_meet
              exact ⟨_, hid ⟨P5.out.st, P5.out.rs, HN.out, by omega⟩⟩
          · as_aux_lemma =>
              have g1 : decide ((41 : Int) < (N : Int)) = true := by simp; omega
              have g1' : decide (41 < N) = true := by simp; omega
              have hr : formatD D = runD formatS D := by unfold formatD; rw [if_neg (by rw [HN.out]; exact h41)]
              obtain ⟨D2, hD2⟩ : ∃ D2, (runD formatS D).1 = D2 := ⟨_, rfl⟩
              obtain ⟨k, hk⟩ : ∃ k : Int, ((runD formatS D).2 : Int) = k := ⟨_, rfl⟩
              have hfw := format_w D
              have hfh := run_hl formatS D
              rw [hD2] at hfw hfh
              have HFW := hid hfw
              have HFH := hid hfh
              have HF2 := hid (by have := HFM.out; rw [hr] at this; unfold RunP at this; rw [hD2, hk] at this; exact this : Calls Try.prog 30 #[.pointer (some ⟨d, 0, none⟩)] _ fun e w' => e = .returned (.int .i64 k) ∧ St w w' d hb D2 ∧ Lets d hb _ w')
              have HRF := hid (by have := rformat_any P.out.rs P.out.sz (by have := HW7.out; omega); unfold RunR at this; rw [hD2, hk] at this; exact this : Calls Try.prog 29 #[.pointer (some ⟨m, 0, none⟩)] _ fun e w' => e = .returned (.int .i64 k) ∧ RSt w w' m D2 ∧ RLets w _ w')
              have HF3 := hid (fun (X : World) (R : Dsk) (q : Pd w X d hb m bx D R [.int .i64 5, .int .i64 aI, B8 aC, .slice pA pn pc, .slice KA kn kc] B mm us) => (by have := format_any q.st (by have := HW7.out; omega); rw [hr] at this; unfold RunP at this; rw [hD2, hk] at this; exact this : Calls Try.prog 30 #[.pointer (some ⟨d, 0, none⟩)] X fun e w' => e = .returned (.int .i64 k) ∧ St w w' d hb D2 ∧ Lets d hb X w'))
              have hk1 := hkk k
              clear hr h41 y1 y4 hfw hfh hD2 hk hkk HFM HF2
              go_wp2_with first
                | (go_at_call 29; (with_reducible refine HRF.out.mono ?_); rintro e w5 ⟨rfl, r5, k5⟩; have P5 := hid (P.out.rlets r5 k5); clear r5 k5)
                | (go_at_call 30; (with_reducible refine (HF3.out _ _ P5.out).mono ?_); rintro e w6 ⟨rfl, s6, k6⟩; have P6 := hid (P5.out.lets s6 k6); clear s6 k6)
              go_meet
              exact ⟨D2, hid ⟨P6.out.st, P6.out.rs, HFH.out.trans HN.out, by have := HFW.out; omega⟩⟩
        have f5 : (aD == 5) = false := by simpa using h5
        · as_aux_lemma =>
            have HWR := hid (fun (X : World) (R : Dsk) (q : Pd w X d hb m bx D R [.int .i64 aD, .int .i64 aI, B8 aC, .slice pA pn pc, .slice KA kn kc] B mm us) (g : Nat) (o : OwnC X g 5 ((secA aC).map B8)) => write_st q.st aI g (secA aC) (secA_len aC) o (by have := HW7.out; omega))
            have hw1 := step_wl D aI (secA aC)
            have hh1 := write_hl D aI (secA aC)
            have HRW := hid (fun (X : World) (E : Dsk) (q : Pd w X d hb m bx E D [.int .i64 aD, .int .i64 aI, B8 aC, .slice pA pn pc, .slice KA kn kc] B mm us) => rwrite_d q.rs q.sz aI (secA aC) (by have := HW7.out; omega) (secA_len aC))
            obtain ⟨D2, hD2⟩ : ∃ D2, (writeD D aI (secA aC)).1 = D2 := ⟨_, rfl⟩
            rw [hD2] at HWR HRW hw1 hh1
            have hw2 := flush_wl D2
            have hh2 := flush_hl D2
            have HW8 : Hid (D2.waits.length ≤ 3000) := hid (by have := HW7.out; omega)
            have HWL : Hid ((flushD D2).1.waits.length ≤ D.waits.length + 100) := hid (by omega)
            have HHL : Hid ((flushD D2).1.has.length = N) := hid (by rw [hh2, hh1]; exact HN.out)
            have HFL := hid (fun (X : World) (R : Dsk) (q : Pd w X d hb m bx D2 R [.int .i64 aD, .int .i64 aI, B8 aC, .slice pA pn pc, .slice KA kn kc] B mm us) => flush_st q.st (by have := HW8.out; omega))
            have HRF := hid (fun (X : World) (E : Dsk) (q : Pd w X d hb m bx E D2 [.int .i64 aD, .int .i64 aI, B8 aC, .slice pA pn pc, .slice KA kn kc] B mm us) => rflush_any q.rs q.sz (by have := HW8.out; omega))
            obtain ⟨D3, hD3⟩ : ∃ D3, (flushD D2).1 = D3 := ⟨_, rfl⟩
            rw [hD3] at HFL HRF HWL HHL
            clear hw1 hh1 hw2 hh2 hD2 hD3 h0 h1 h2 h3 h4 h5 y1 y4 hkk
            go_upto_region 13 with fail
            have P := hid (P.out.below (drew_below _))
            have hS := And.intro (P.out.box.cell (j := 1) rfl) (P.out.box.cell (j := 2) rfl)
            refine wp_region_noPanic ?_
            refine wp_region_held_drew (S := (fun X => X.cell? ⟨bx, 1, none⟩ = some (.int .i64 aI) ∧ X.cell? ⟨bx, 2, none⟩ = some (B8 aC))) (by kernel_rfl) (by first | assumption | trivial) (fun hHeld => ?_)
            refine wpAnyH_take (i := 0) (v := ?_) rfl (by kernel_rfl) (by kernel_rfl) (by kernel_rfl) (fun _ _ _ h => h) (Or.inl ⟨by kernel_rfl, ?_⟩) (by first | assumption | trivial) ?_
            rotate_left
            · (intro wS hSw; (try dsimp only at hSw); go_simp; try with_reducible rfl)
            (try simp only [List.append_eq, List.cons_append, List.nil_append, List.getElem_toArray, List.getElem_cons_succ, List.getElem_cons_zero, Act.put, List.setIfInBounds_toArray, List.set_cons_zero, List.set_cons_succ])
            refine wpAnyH_take (i := 1) (v := ?_) rfl (by kernel_rfl) (by kernel_rfl) (by kernel_rfl) (fun _ _ _ h => h) (Or.inl ⟨by kernel_rfl, ?_⟩) (by first | assumption | trivial) ?_
            rotate_left
            · (intro wS hSw; (try dsimp only at hSw); go_simp; try with_reducible rfl)
            (try simp only [List.append_eq, List.cons_append, List.nil_append, List.getElem_toArray, List.getElem_cons_succ, List.getElem_cons_zero, Act.put, List.setIfInBounds_toArray, List.set_cons_zero, List.set_cons_succ])
            refine wpAnyH_take (i := 2) (v := ?_) rfl (by kernel_rfl) (by kernel_rfl) (by kernel_rfl) (fun _ _ _ h => h) (Or.inl ⟨by kernel_rfl, ?_⟩) (by first | assumption | trivial) ?_
            rotate_left
            · (intro wS hSw; (try dsimp only at hSw); go_simp; try with_reducible rfl)
            (try simp only [List.append_eq, List.cons_append, List.nil_append, List.getElem_toArray, List.getElem_cons_succ, List.getElem_cons_zero, Act.put, List.setIfInBounds_toArray, List.set_cons_zero, List.set_cons_succ])
            refine wpAnyH_take (i := 3) (v := ?_) rfl (by kernel_rfl) (by kernel_rfl) (by kernel_rfl) (fun _ _ _ h => h) (Or.inl ⟨by kernel_rfl, ?_⟩) (by first | assumption | trivial) ?_
            rotate_left
            · (intro wS hSw; (try dsimp only at hSw); go_simp; try with_reducible rfl)
            (try simp only [List.append_eq, List.cons_append, List.nil_append, List.getElem_toArray, List.getElem_cons_succ, List.getElem_cons_zero, Act.put, List.setIfInBounds_toArray, List.set_cons_zero, List.set_cons_succ])
            refine wpAnyH_take (i := 4) (v := ?_) rfl (by kernel_rfl) (by kernel_rfl) (by kernel_rfl) (fun _ _ _ h => h) (Or.inl ⟨by kernel_rfl, ?_⟩) (by first | assumption | trivial) ?_
            rotate_left
            · (intro wS hSw; (try dsimp only at hSw); go_simp; try with_reducible rfl)
            (try simp only [List.append_eq, List.cons_append, List.nil_append, List.getElem_toArray, List.getElem_cons_succ, List.getElem_cons_zero, Act.put, List.setIfInBounds_toArray, List.set_cons_zero, List.set_cons_succ])
            refine wpAnyH_ready (rs := [5]) (by kernel_rfl) (by simp) ?_
            refine AllReadyH.cons rfl (fun K hK => ?_) AllReadyH.nil
            go_simp
            (go_at_call 20; refine (allC P.out.st aC).mono ?_; rintro e w4 ⟨g4, rfl, o4, s4, b4⟩; have O4 := hid o4; have P := hid (P.out.below b4); have hS := And.intro (P.out.box.cell (j := 1) rfl) (P.out.box.cell (j := 2) rfl); clear o4 s4 b4 hHeld)
            go_wp2_with fail
            refine hK.out _ _ (by first | assumption | trivial) (fun hHeld => ?_)
            clear hK K
            (try simp only [List.append_eq, List.cons_append, List.nil_append, List.getElem_toArray, List.getElem_cons_succ, List.getElem_cons_zero, Act.put, List.setIfInBounds_toArray, List.set_cons_zero, List.set_cons_succ])
            refine wpAnyH_ready (rs := [6]) (by kernel_rfl) (by simp) ?_
            refine AllReadyH.cons rfl (fun K hK => ?_) AllReadyH.nil
            go_simp
            (go_at_call 19; refine (HWR.out _ _ P.out g4 O4.out).mono ?_; rintro e w5 ⟨rfl, s5, k5⟩; have P := hid (P.out.lets s5 k5); have hS := And.intro (P.out.box.cell (j := 1) rfl) (P.out.box.cell (j := 2) rfl); clear s5 k5 hHeld)
            go_wp2_with fail
            refine hK.out _ _ (by first | assumption | trivial) (fun hHeld => ?_)
            clear hK K
            (try simp only [List.append_eq, List.cons_append, List.nil_append, List.getElem_toArray, List.getElem_cons_succ, List.getElem_cons_zero, Act.put, List.setIfInBounds_toArray, List.set_cons_zero, List.set_cons_succ])
            refine wpAnyH_done (by kernel_rfl) ?_ _
            refine NoPanic.normal ?_
            clear hS hHeld O4
            go_upto_region 14 with fail
            have P := hid (P.out.below (drew_below _))
            have hS := And.intro (P.out.box.cell (j := 1) rfl) (P.out.box.cell (j := 2) rfl)
            refine wp_region_noPanic ?_
            refine wp_region_held_drew (S := (fun X => X.cell? ⟨bx, 1, none⟩ = some (.int .i64 aI) ∧ X.cell? ⟨bx, 2, none⟩ = some (B8 aC))) (by kernel_rfl) (by first | assumption | trivial) (fun hHeld => ?_)
            refine wpAnyH_take (i := 0) (v := ?_) rfl (by kernel_rfl) (by kernel_rfl) (by kernel_rfl) (fun _ _ _ h => h) (Or.inl ⟨by kernel_rfl, ?_⟩) (by first | assumption | trivial) ?_
            rotate_left
            · (intro wS hSw; (try dsimp only at hSw); go_simp; try with_reducible rfl)
            (try simp only [List.append_eq, List.cons_append, List.nil_append, List.getElem_toArray, List.getElem_cons_succ, List.getElem_cons_zero, Act.put, List.setIfInBounds_toArray, List.set_cons_zero, List.set_cons_succ])
            refine wpAnyH_take (i := 1) (v := ?_) rfl (by kernel_rfl) (by kernel_rfl) (by kernel_rfl) (fun _ _ _ h => h) (Or.inl ⟨by kernel_rfl, ?_⟩) (by first | assumption | trivial) ?_
            rotate_left
            · (intro wS hSw; (try dsimp only at hSw); go_simp; try with_reducible rfl)
            (try simp only [List.append_eq, List.cons_append, List.nil_append, List.getElem_toArray, List.getElem_cons_succ, List.getElem_cons_zero, Act.put, List.setIfInBounds_toArray, List.set_cons_zero, List.set_cons_succ])
            refine wpAnyH_take (i := 2) (v := ?_) rfl (by kernel_rfl) (by kernel_rfl) (by kernel_rfl) (fun _ _ _ h => h) (Or.inl ⟨by kernel_rfl, ?_⟩) (by first | assumption | trivial) ?_
            rotate_left
            · (intro wS hSw; (try dsimp only at hSw); go_simp; try with_reducible rfl)
            (try simp only [List.append_eq, List.cons_append, List.nil_append, List.getElem_toArray, List.getElem_cons_succ, List.getElem_cons_zero, Act.put, List.setIfInBounds_toArray, List.set_cons_zero, List.set_cons_succ])
            refine wpAnyH_take (i := 3) (v := ?_) rfl (by kernel_rfl) (by kernel_rfl) (by kernel_rfl) (fun _ _ _ h => h) (Or.inl ⟨by kernel_rfl, ?_⟩) (by first | assumption | trivial) ?_
            rotate_left
            · (intro wS hSw; (try dsimp only at hSw); go_simp; try with_reducible rfl)
            (try simp only [List.append_eq, List.cons_append, List.nil_append, List.getElem_toArray, List.getElem_cons_succ, List.getElem_cons_zero, Act.put, List.setIfInBounds_toArray, List.set_cons_zero, List.set_cons_succ])
            refine wpAnyH_take (i := 4) (v := ?_) rfl (by kernel_rfl) (by kernel_rfl) (by kernel_rfl) (fun _ _ _ h => h) (Or.inl ⟨by kernel_rfl, ?_⟩) (by first | assumption | trivial) ?_
            rotate_left
            · (intro wS hSw; (try dsimp only at hSw); go_simp; try with_reducible rfl)
            (try simp only [List.append_eq, List.cons_append, List.nil_append, List.getElem_toArray, List.getElem_cons_succ, List.getElem_cons_zero, Act.put, List.setIfInBounds_toArray, List.set_cons_zero, List.set_cons_succ])
            refine wpAnyH_ready (rs := [5]) (by kernel_rfl) (by simp) ?_
            refine AllReadyH.cons rfl (fun K hK => ?_) AllReadyH.nil
            go_simp
            (go_at_call 20; refine (allC P.out.st aC).mono ?_; rintro e w6 ⟨g6, rfl, o6, s6, b6⟩; have c6 := strC o6 (secA_len aC); have P := hid (P.out.below b6); have hS := And.intro (P.out.box.cell (j := 1) rfl) (P.out.box.cell (j := 2) rfl); clear o6 s6 b6 hHeld)
            go_wp2_with fail
            refine hK.out _ _ (by first | assumption | trivial) (fun hHeld => ?_)
            clear hK K
            (try simp only [List.append_eq, List.cons_append, List.nil_append, List.getElem_toArray, List.getElem_cons_succ, List.getElem_cons_zero, Act.put, List.setIfInBounds_toArray, List.set_cons_zero, List.set_cons_succ])
            refine wpAnyH_ready (rs := [6]) (by kernel_rfl) (by simp) ?_
            refine AllReadyH.cons rfl (fun K hK => ?_) AllReadyH.nil
            go_simp
            skip
            go_wp2_with fail
            refine hK.out _ _ (by first | assumption | trivial) (fun hHeld => ?_)
            clear hK K
            (try simp only [List.append_eq, List.cons_append, List.nil_append, List.getElem_toArray, List.getElem_cons_succ, List.getElem_cons_zero, Act.put, List.setIfInBounds_toArray, List.set_cons_zero, List.set_cons_succ])
            refine wpAnyH_ready (rs := [7]) (by kernel_rfl) (by simp) ?_
            refine AllReadyH.cons rfl (fun K hK => ?_) AllReadyH.nil
            go_simp
            (go_at_call 31; refine (HRW.out _ _ P.out).mono ?_; rintro e w7 ⟨rfl, r7, k7⟩; have P := hid (P.out.rlets r7 k7); have hS := And.intro (P.out.box.cell (j := 1) rfl) (P.out.box.cell (j := 2) rfl); clear r7 k7 hHeld c6)
            go_wp2_with fail
            refine hK.out _ _ (by first | assumption | trivial) (fun hHeld => ?_)
            clear hK K
            (try simp only [List.append_eq, List.cons_append, List.nil_append, List.getElem_toArray, List.getElem_cons_succ, List.getElem_cons_zero, Act.put, List.setIfInBounds_toArray, List.set_cons_zero, List.set_cons_succ])
            refine wpAnyH_done (by kernel_rfl) ?_ _
            refine NoPanic.normal ?_
            clear hS hHeld
            go_wp2_with first
              | (go_at_call 21; (with_reducible refine (HFL.out _ _ P.out).mono ?_); rintro e w8 ⟨rfl, s8, k8⟩; have P8 := hid (P.out.lets s8 k8); clear s8 k8)
              | (go_at_call 32; (with_reducible refine (HRF.out _ _ P8.out).mono ?_); rintro e w9 ⟨rfl, r9, k9⟩; have P9 := hid (P8.out.rlets r9 k9); clear r9 k9)
            go_meet
            exact ⟨D3, hid ⟨P9.out.st, P9.out.rs, HHL.out, HWL.out⟩⟩
      case rest =>
      obtain ⟨D2, hT⟩ := hcut
      rename World => w6
      have S := hid hT.out.1
      have R := hid hT.out.2.1
      have HN2 := hid hT.out.2.2.1
      have HW2 := hid hT.out.2.2.2
      have HSM := hid (same_any S.out R.out (by have := HW2.out; have := HW7.out; omega))
      clear hT P L
      go_wp2_with (go_at_call 33; (with_reducible refine HSM.out.mono ?_); rintro e w7 ⟨rfl, b7⟩; have S := hid (S.out.below b7); have R := hid (R.out.below b7); clear b7)
      go_roundw
      case rel => exact ⟨j + 1, D2, by have := HLT.out.2; omega, by go_num, hid ⟨S.out, R.out, HN2.out, by have := HW2.out; have := HWJ.out; omega⟩⟩
      case measure => have := HLT.out.2; simp [intOf]; omega
    · have hdd : decide ((j : Int) < (n : Int)) = false ∨ (decide ((j : Int) < (n : Int)) = true ∧ decide ((j : Int) < 14) = false) := by
        by_cases h1 : j < n
        · exact .inr ⟨by simp; omega, by simp; omega⟩
        · exact .inl (by simp; omega)
      clear hlt
      go_upto_region 8 with fail
      go_cut [45, 46, 47, 48, 49, 50, 51, 52] from 45 to 52 (fun a b c0 e f g h t wx => t = .bool false ∧ wr = wx)
      case first =>
        rcases hdd with q1 | ⟨q1, q2⟩
        · have q1' : decide (j < n) = false := by simpa using q1
          go_wp2_with fail
          go_meet
          exact ⟨rfl, rfl⟩
        · have q1' : decide (j < n) = true := by simpa using q1
          go_wp2_with fail
          go_meet
          exact ⟨rfl, rfl⟩
      case rest =>
      obtain ⟨rfl, hw9⟩ := hcut
      subst hw9
      clear hdd F R
      go_wp2_with (go_at_call 10; (with_reducible refine (awake_any _).mono ?_); rintro e w7 ⟨rfl, b7⟩; have HB := hid (S.out.below b7).bel; clear b7)
      go_ret
      exact ⟨rfl, HB.out⟩
theorem walkJournalPlays (x : Int) (s : SlOf ActA) (w : World) (hx : in64 x) (h : s.Ok actA (okAct w) w) :
    Calls Try.prog 6 #[.int .i64 x, s.val] w fun e w' => e = .returned (.bool true) ∧ Below w.heap.size w w' :=
  plays_walk x s.A s.n s.c _ w (acts_of h)
end
end Go.Proofs.Ytpppmijohfjigaa
