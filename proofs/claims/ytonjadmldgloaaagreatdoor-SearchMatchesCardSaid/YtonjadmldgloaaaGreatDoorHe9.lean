/-
  The header's length: the program's walk. A part of the proof: see the head of the text that ends in 'Law'.
-/
import Derived.Test.YtonjadmldgloaaaGreatDoorHePlain5
namespace Go.Proofs.YtonjadmldgloaaaGreatDoor.D17
open Go.RowKit Go.Shelf
set_option linter.unusedVariables false
attribute [local go_sem] Oper.semAt_some

abbrev I64 (k : Nat) : Value := .int .i64 (k : Int)
/-- Octets from one place to another one. -/
theorem oct_mid {w : World} {b off n : Nat} {l : List UInt8} (h : Oct w (some ⟨b, off, none⟩) n l) (i j : Nat) (hi : i < j) (hj : j ≤ n) : Oct w (some ⟨b, off + i, none⟩) (j - i) (lineL l (i, j)) := by
  rcases oct_drop h i (i + 1) (by omega) with h1 | h1
  · rw [if_neg (by omega)] at h1
    have := h1.take (j - i) (by omega)
    exact this
  · omega
set_option maxRecDepth 100000 in
set_option maxHeartbeats 4000000 in
theorem split_any (A : Option Addr) (n c : Nat) (l : List UInt8) (w : World) (ho : Oct w A n l) (hnc : n ≤ c) (hl : n ≤ 100000) :
    Calls Tryz.prog 43 #[.slice A n c] w fun e w' => e = .returned (.int .i64 (splitL l : Int)) ∧ Below w.heap.size w w' := by
  have HO := hid ho
  have HN : Hid (l.length = n) := hid ho.1
  have HNC := hid hnc
  have HHL := hid hl
  clear ho hnc
  refine (callsIn_wide (n := 8)).1 (callsIn_of_wp_marks Tryz.func43 rfl trivial ?_ rfl)
  simp only [Tryz.ntmps43, List.size_toArray, List.length_cons, List.length_nil, Nat.reduceAdd, Nat.reduceSub, Array.replicate_succ, Array.replicate_zero, List.push_toArray, List.append_toArray, List.nil_append, List.cons_append]
  refine wpIn_wide.2 ?_
  go_wp2_with (go_at_call 75; refine (lines_any A n c _).mono ?_; rintro e w1 ⟨rfl, rfl⟩)
  obtain ⟨w0, hw0⟩ : ∃ w0, (w.alloc (.cells #[.slice A n c] 28)).alloc (.cells #[.int .i64 0] 3) = w0 := ⟨_, rfl⟩
  have hs0 : w0.heap.size = w.heap.size + 1 + 1 := by rw [← hw0]; simp
  have B0 : Below w.heap.size w w0 := by rw [← hw0]; exact ((Below.refl _ w).alloc (Nat.le_refl _) _).alloc (by simp) _
  have X0 : Boxed w0 w.heap.size 28 (.slice A n c) := by rw [← hw0]; exact (Boxed.new w _ _).alloc _
  have X1 : Boxed w0 (w.heap.size + 1) 3 (.int .i64 0) := by
    rw [← hw0]
    have := Boxed.new (w.alloc (.cells #[.slice A n c] 28)) 3 (.int .i64 0)
    rwa [World.size_alloc] at this
  have B1 : Below w.heap.size w (w0.alloc (.cells #[.slice A n c] 28)) := B0.alloc B0.size _
  rw [hw0]
  rw [show w.heap.size + 1 + 1 = w0.heap.size from hs0.symm]
  refine (wpIn_wide (n := 8)).1 ?_
  refine wpIn_rangeFunc_ownG rfl (by omega) (gf := 102) (lb := #[.pointer (some ⟨w0.heap.size, 0, none⟩)]) rfl trivial (enters_of Tryz.func102 (by kernel_rfl) rfl)
    (lines_stops (8 - 1) (by omega) w0.heap.size l A n c w HO.out HNC.out HHL.out _ B1 (Boxed.new w0 28 (.slice A n c)).cell (by simp)) kpf_t (kpf_b (by simp; omega) (by simp)) (Below.refl _ _) (fun _ => rfl)
    (fun (pre : List (Pr n)) W => (Boxed W w.heap.size 28 (.slice A n c) ∧ Boxed W (w.heap.size + 1) 3 (.int .i64 0)) ∧ (Below w.heap.size w W ∧ (∀ x ∈ pre, emptyB (lineL l x.val) = false)))
    (fun c' (pre : List (Pr n)) W => c' = .ret ∧ ∃ q x, pre = q ++ [x] ∧ ((∀ y ∈ q, emptyB (lineL l y.val) = false) ∧ emptyB (lineL l x.val) = true) ∧ (Boxed W (w.heap.size + 1) 3 (.int .i64 (x.val.2 : Int)) ∧ Below w.heap.size w W))
    (OwnFrom.and (OwnFrom.and (Own.from (boxed_own _ _ (fun _ => .slice A n c)) _) (Own.from (boxed_own _ _ (fun _ => .int .i64 0)) _)) (OwnFrom.and (ownFrom_below (Nat.le_refl _) (by simp; omega)) (ownFrom_pure _ (fun (pre : List (Pr n)) => ∀ x ∈ pre, emptyB (lineL l x.val) = false))))
    (fun c' s X Y row hs hg hr => by
      obtain ⟨h1, q, x, h2, h3, h4, h5⟩ := hs
      exact ⟨h1, q, x, h2, h3, Own.from (boxed_own _ _ (fun _ : Unit => .int .i64 (x.val.2 : Int))) _ () X Y row h4 hg hr, ownFrom_below (β := Unit) (Nat.le_refl _) (by simp; omega) () X Y row h5 hg hr⟩)
    ⟨⟨X0.alloc _, X1.alloc _⟩, B1, fun x hx => by cases hx⟩
    ?a1 ?assign ?body ?done ?stop
  case a1 => exact (fun x => { tmps := #[.slice A n c, .pointer (some ⟨w.heap.size, 0, none⟩), .pointer (some ⟨w.heap.size + 1, 0, none⟩), I64 x.val.1, I64 x.val.2, .slice A n c, .func (.func 102) #[] #[.pointer (some ⟨w0.heap.size, 0, none⟩)], I64 x.val.1, I64 x.val.2, undef, undef, undef, undef, undef, undef, undef, undef], defers := [] })
  case assign =>
    intro lq x W K hK
    dsimp only [I64, prV] at hK ⊢
    gi_wp2
    rw [hs0] at hK
    exact hK
  case body =>
    rintro lq pre ⟨⟨i, j⟩, hij⟩ W ⟨⟨x0, x1⟩, hB, hpre⟩ hlt
    dsimp only [I64]
    have c0 := x0.cell
    have f1 := x1.frozen
    have c1 := x1.cell
    obtain ⟨b, off, rfl, -⟩ := (HO.out.below hB).at_ (by omega)
    have HM := hid (oct_mid (HO.out.below hB) i j hij.1 hij.2)
    have e0 : (0 : Int) ≤ (i : Int) := by omega
    have e1 : (i : Int) ≤ (j : Int) := by omega
    have e2 : (j : Int) ≤ (n : Int) := by omega
    have e2' : (j : Int) ≤ (c : Int) := by have := HNC.out; omega
    have e3 : (i : Int).toNat = i := by omega
    have e4 : (j : Int).toNat = j := by omega
    have e5 : ¬ c = i := by have := HNC.out; omega
    have HE := hid (fun cc => empty_any (some ⟨b, off + i, none⟩) (j - i) cc (lineL l (i, j)) W HM.out)
    obtain ⟨t, ht⟩ : ∃ t, emptyB (lineL l (i, j)) = t := ⟨_, rfl⟩
    rw [ht] at HE
    cases t with
    | false =>
      gi_wp2_with (refine ⟨trivial, ?_⟩; gi_at_call 76; refine (callsIn_wide.2 (HE.out _)).mono ?_; rintro e w3 ⟨rfl, rfl⟩)
      refine ⟨KeepsFrom.refl _ _, ⟨Below.refl _ _, fun _ => rfl⟩, ⟨x0, x1⟩, hB, fun y hy => ?_⟩
      rcases List.mem_append.1 hy with hy | hy
      · exact hpre y hy
      · rw [List.mem_singleton] at hy
        rw [hy]
        exact ht
    | true =>
      gi_wp2_with (refine ⟨trivial, ?_⟩; gi_at_call 76; refine (callsIn_wide.2 (HE.out _)).mono ?_; rintro e w3 ⟨rfl, rfl⟩)
      exact ⟨(KeepsOthers.setCell _ _ _).from _, rfl, pre, _, rfl, ⟨hpre, ht⟩, x1.set _, hB.setCell (p := ⟨w.heap.size + 1, 0, none⟩) (by simp) _⟩
  case done =>
    rintro D q W hD hys ⟨⟨x0, x1⟩, hB, hpre⟩ hK
    have c0 := x0.cell
    have f1 := x1.frozen
    have c1 := x1.cell
    have HF : Hid (splitL l = n) := hid (by
      rw [← HN.out]
      refine split_done (fun y hy => ?_)
      rw [← hys] at hy
      obtain ⟨z, hz, rfl⟩ := List.mem_map.1 hy
      exact hpre z hz)
    go_wp2
    have hDs : D ≠ w.heap.size + 1 := by simp at hD; omega
    have hB2 := hB.setCell (p := ⟨w.heap.size + 1, 0, none⟩) (by simp) (.int .i64 (n : Int))
    have hK2 := (heap_setCell_other W ⟨w.heap.size + 1, 0, none⟩ D (.int .i64 (n : Int)) hDs).trans hK
    have x2 := x1.set (.int .i64 (n : Int))
    have c2 := cell_kept x2.cell (grownBy_putObj' _ D (.deferred none)) (fun r e => by cases e; exact ⟨_, hK2, rfl⟩)
    refine ⟨by simp, .inl ⟨_, _, rfl, run_takeDeferred hK2, ?_⟩⟩
    refine ⟨.int .i64 (n : Int), by simp [results, Tryz.results43, go_sem, c2], ?_⟩
    rw [HF.out]
    exact ⟨rfl, hB2.trans (belowK_b (w := w) (Nat.le_refl _) _ D _ _ (by simp at hD; omega) hK2 rfl rfl)⟩
  case stop =>
    rintro D c' pre W hD hSp ⟨rfl, q, x, rfl, ⟨hq, hx⟩, x1, hB⟩ hK
    have HF : Hid (splitL l = x.val.2) := hid (by
      rw [List.map_append] at hSp
      refine split_stop hSp (fun y hy => ?_) hx
      obtain ⟨z, hz, rfl⟩ := List.mem_map.1 hy
      exact hq z hz)
    have c2 := cell_kept x1.cell (grownBy_putObj' _ D (.deferred none)) (fun r e => by cases e; exact ⟨_, hK, rfl⟩)
    gi_wp2
    refine ⟨by simp, .inl ⟨_, _, rfl, run_takeDeferred hK, ?_⟩⟩
    refine ⟨.int .i64 (x.val.2 : Int), by simp [results, Tryz.results43, go_sem, c2], ?_⟩
    rw [HF.out]
    exact ⟨rfl, hB.trans (belowK_b (w := w) (Nat.le_refl _) _ D _ _ (by simp at hD; omega) hK rfl rfl)⟩
end Go.Proofs.YtonjadmldgloaaaGreatDoor.D17
