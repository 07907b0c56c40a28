/-
  NameStars: the walk. A part of the proof: see the head of the text that ends in 'Law'.
-/
import Derived.Test.YthgopanipmnphaaNa15
import Derived.Test.YthgopanipmnphaaNaPlain6
import Derived.Test.YthgopanipmnphaaRd
import Derived.Test.YthgopanipmnphaaSlim
namespace Go.Proofs.Ythgopanipmnphaa
open Go.RowKit Go.Shelf
set_option linter.unusedVariables false

theorem star4' {s y : List UInt8} (h : isL s = true) (ht : isL y = true) (hl : y.length ≤ 50) : ∃ r1 r2 u : Bool, Hid (metB s (toldL y ++ [47, 42]) = r1) ∧ (toldL s != toldL y) = r2 ∧ Hid (underL s y = u) ∧ (u == (r1 && r2)) = true ∧ u = (r1 && r2) :=
  ⟨_, _, _, hid rfl, rfl, hid rfl, by rw [star4 h ht hl]; exact beq_self_eq_true _, star4 h ht hl⟩

theorem midL_more (t : List UInt8) {i j : Nat} (hij : i ≤ j) (hj : j < t.length) : midL t i (j + 1) = midL t i j ++ [t[j]] := by
  unfold midL
  rw [show j + 1 - i = (j - i) + 1 by omega, List.take_succ_eq_append_getElem (by rw [List.length_drop]; omega)]
  congr 2
  rw [List.getElem_drop]
  congr 1
  omega
theorem midL_none (t : List UInt8) (i : Nat) : midL t i i = [] := by unfold midL; rw [Nat.sub_self]; rfl
theorem has_more (q : List UInt8) (y : UInt8) : (q ++ [y]).contains 47 = (q.contains 47 || !((y.toNat : Int) != 47)) := by
  have h2 : (y == 47) = !((y.toNat : Int) != 47) := by
    rw [Bool.eq_iff_iff, beq_iff_eq, ← UInt8.toNat_inj]
    have e : (47 : UInt8).toNat = 47 := rfl
    simp
    omega
  rw [← h2]
  apply bool_iff
  rw [List.contains_iff_mem, Bool.or_eq_true, List.contains_iff_mem, List.mem_append, List.mem_singleton, beq_iff_eq]
  exact ⟨fun h => h.imp id Eq.symm, fun h => h.imp id Eq.symm⟩

set_option maxRecDepth 20000 in
set_option maxHeartbeats 4000000 in
theorem walkNameStars (l q : List UInt8) (f0 t0 : Nat) (w : World) (hs : l.length ≤ maxLen) (hp : q.length ≤ maxLen) (hf0 : f0 < 256) (ht0 : t0 < 256) (hG : GM w) :
    Calls Try.prog 5 #[.agg #[.string (str l), .string (str q), .int .u8 f0, .int .u8 t0]] w fun e w' => e = .returned (.bool true) ∧ Below w.heap.size w w' := by
  have B := hid ((Below.refl w.heap.size w).alloc (Nat.le_refl _) (Obj.cells #[.string (str l), .string (str q), .int .u8 f0, .int .u8 t0] 32))
  have HG := hid (hG.below ((Below.refl w.heap.size w).alloc (Nat.le_refl _) (Obj.cells #[.string (str l), .string (str q), .int .u8 f0, .int .u8 t0] 32)))
  have c0 := OwnC.new_ w #[.string (str l), .string (str q), .int .u8 f0, .int .u8 t0] 32
  have x0 := c0.cell (j := 0) (u := .string (str l)) rfl
  have x1 := c0.cell (j := 1) (u := .string (str q)) rfl
  have x2 := c0.cell (j := 2) (u := .int .u8 f0) rfl
  have x3 := c0.cell (j := 3) (u := .int .u8 t0) rfl
  have F1 := hid (fun w => few_any l w hs)
  have F2 := hid (fun w => few_any q w hp)
  have hl1 : (l.take 70).length ≤ 1000 := by rw [List.length_take]; omega
  have hq1 : (q.take 70).length ≤ 1000 := by rw [List.length_take]; omega
  generalize l.take 70 = a at *
  generalize q.take 70 = b at *
  clear hG hs hp c0
  go_enter Try.func5, Try.ntmps5
  go_upto_region 1 with fail
  obtain ⟨W1, hW1⟩ : ∃ W1, w.alloc (Obj.cells #[.string (str l), .string (str q), .int .u8 f0, .int .u8 t0] 32) = W1 := ⟨_, rfl⟩
  rw [hW1] at B HG x0 x1 x2 x3 ⊢
  clear hW1
  have b1 := drew_below W1
  ((first | replace HG := HG.far b1 | replace HG := hid (HG.out.below b1) | skip); (first | replace B := B.far b1 | replace B := hid (B.out.below b1) | skip); (first | replace BX := BX.far b1 | replace BX := hid (BX.out.below b1) | skip); (first | replace x0 := cells_keep b1 x0 | skip); (first | replace x1 := cells_keep b1 x1 | skip); (first | replace x2 := cells_keep b1 x2 | skip); (first | replace x3 := cells_keep b1 x3 | skip))
  refine wp_region_noPanic ?_
  refine wp_region_held_drew (S := (fun W => W = W1.drew)) (by kernel_rfl) (by first | assumption | trivial) (fun hHeld => ?_)
  refine wpAnyH_take (i := 0) (v := ?_) rfl (by kernel_rfl) (by kernel_rfl) (by kernel_rfl) (fun _ _ _ h => h) (Or.inl ⟨by kernel_rfl, ?_⟩) (by first | assumption | trivial) ?_
  rotate_left
  · (intro wS hSw; (try dsimp only at hSw); go_simp; try with_reducible rfl)
  (try simp only [List.getElem_toArray, List.getElem_cons_succ, List.getElem_cons_zero, Act.put, List.setIfInBounds_toArray, List.set_cons_zero, List.set_cons_succ])
  refine wpAnyH_take (i := 1) (v := ?_) rfl (by kernel_rfl) (by kernel_rfl) (by kernel_rfl) (fun _ _ _ h => h) (Or.inl ⟨by kernel_rfl, ?_⟩) (by first | assumption | trivial) ?_
  rotate_left
  · (intro wS hSw; (try dsimp only at hSw); go_simp; try with_reducible rfl)
  (try simp only [List.getElem_toArray, List.getElem_cons_succ, List.getElem_cons_zero, Act.put, List.setIfInBounds_toArray, List.set_cons_zero, List.set_cons_succ])
  refine wpAnyH_take (i := 3) (v := ?_) rfl (by kernel_rfl) (by kernel_rfl) (by kernel_rfl) (fun _ _ _ h => h) (Or.inl ⟨by kernel_rfl, ?_⟩) (by first | assumption | trivial) ?_
  rotate_left
  · (intro wS hSw; (try dsimp only at hSw); go_simp; try with_reducible rfl)
  (try simp only [List.getElem_toArray, List.getElem_cons_succ, List.getElem_cons_zero, Act.put, List.setIfInBounds_toArray, List.set_cons_zero, List.set_cons_succ])
  refine wpAnyH_take (i := 4) (v := ?_) rfl (by kernel_rfl) (by kernel_rfl) (by kernel_rfl) (fun _ _ _ h => h) (Or.inl ⟨by kernel_rfl, ?_⟩) (by first | assumption | trivial) ?_
  rotate_left
  · (intro wS hSw; (try dsimp only at hSw); go_simp; try with_reducible rfl)
  (try simp only [List.getElem_toArray, List.getElem_cons_succ, List.getElem_cons_zero, Act.put, List.setIfInBounds_toArray, List.set_cons_zero, List.set_cons_succ])
  refine wpAnyH_take (i := 6) (v := ?_) rfl (by kernel_rfl) (by kernel_rfl) (by kernel_rfl) (fun _ _ _ h => h) (Or.inl ⟨by kernel_rfl, ?_⟩) (by first | assumption | trivial) ?_
  rotate_left
  · (intro wS hSw; (try dsimp only at hSw); go_simp; try with_reducible rfl)
  (try simp only [List.getElem_toArray, List.getElem_cons_succ, List.getElem_cons_zero, Act.put, List.setIfInBounds_toArray, List.set_cons_zero, List.set_cons_succ])
  refine wpAnyH_take (i := 7) (v := ?_) rfl (by kernel_rfl) (by kernel_rfl) (by kernel_rfl) (fun _ _ _ h => h) (Or.inl ⟨by kernel_rfl, ?_⟩) (by first | assumption | trivial) ?_
  rotate_left
  · (intro wS hSw; (try dsimp only at hSw); go_simp; try with_reducible rfl)
  (try simp only [List.getElem_toArray, List.getElem_cons_succ, List.getElem_cons_zero, Act.put, List.setIfInBounds_toArray, List.set_cons_zero, List.set_cons_succ])
  refine wpAnyH_take (i := 8) (v := ?_) rfl (by kernel_rfl) (by kernel_rfl) (by kernel_rfl) (fun _ _ _ h => h) (Or.inl ⟨by kernel_rfl, ?_⟩) (by first | assumption | trivial) ?_
  rotate_left
  · (intro wS hSw; (try dsimp only at hSw); go_simp; try with_reducible rfl)
  (try simp only [List.getElem_toArray, List.getElem_cons_succ, List.getElem_cons_zero, Act.put, List.setIfInBounds_toArray, List.set_cons_zero, List.set_cons_succ])
  refine wpAnyH_take (i := 9) (v := ?_) rfl (by kernel_rfl) (by kernel_rfl) (by kernel_rfl) (fun _ _ _ h => h) (Or.inl ⟨by kernel_rfl, ?_⟩) (by first | assumption | trivial) ?_
  rotate_left
  · (intro wS hSw; (try dsimp only at hSw); go_simp; try with_reducible rfl)
  (try simp only [List.getElem_toArray, List.getElem_cons_succ, List.getElem_cons_zero, Act.put, List.setIfInBounds_toArray, List.set_cons_zero, List.set_cons_succ])
  refine wpAnyH_ready (rs := [2]) (by kernel_rfl) (by simp) ?_
  refine AllReadyH.cons rfl (fun K hK => ?_) AllReadyH.nil
  go_simp
  (go_at_call 7; (with_reducible refine (F1.out _).mono ?_); rintro e w1 ⟨rfl, rfl⟩)
  go_wp2_with fail
  refine hK.out _ _ (by first | assumption | trivial) (fun hHeld => ?_)
  clear hK K
  (try simp only [List.getElem_toArray, List.getElem_cons_succ, List.getElem_cons_zero, Act.put, List.setIfInBounds_toArray, List.set_cons_zero, List.set_cons_succ])
  refine wpAnyH_ready (rs := [5]) (by kernel_rfl) (by simp) ?_
  refine AllReadyH.cons rfl (fun K hK => ?_) AllReadyH.nil
  go_simp
  (go_at_call 7; (with_reducible refine (F2.out _).mono ?_); rintro e w1 ⟨rfl, rfl⟩)
  go_wp2_with fail
  refine hK.out _ _ (by first | assumption | trivial) (fun hHeld => ?_)
  clear hK K
  (try simp only [List.getElem_toArray, List.getElem_cons_succ, List.getElem_cons_zero, Act.put, List.setIfInBounds_toArray, List.set_cons_zero, List.set_cons_succ])
  refine wpAnyH_take (i := 10) (v := ?_) rfl (by kernel_rfl) (by kernel_rfl) (by kernel_rfl) (fun _ _ _ h => h) (Or.inl ⟨by kernel_rfl, ?_⟩) (by first | assumption | trivial) ?_
  rotate_left
  · (intro wS hSw; (try dsimp only at hSw); go_simp; try with_reducible rfl)
  (try simp only [List.getElem_toArray, List.getElem_cons_succ, List.getElem_cons_zero, Act.put, List.setIfInBounds_toArray, List.set_cons_zero, List.set_cons_succ])
  refine wpAnyH_take (i := 11) (v := ?_) rfl (by kernel_rfl) (by kernel_rfl) (by kernel_rfl) (fun _ _ _ h => h) (Or.inl ⟨by kernel_rfl, ?_⟩) (by first | assumption | trivial) ?_
  rotate_left
  · (intro wS hSw; (try dsimp only at hSw); go_simp; try with_reducible rfl)
  (try simp only [List.getElem_toArray, List.getElem_cons_succ, List.getElem_cons_zero, Act.put, List.setIfInBounds_toArray, List.set_cons_zero, List.set_cons_succ])
  refine wpAnyH_take (i := 12) (v := ?_) rfl (by kernel_rfl) (by kernel_rfl) (by kernel_rfl) (fun _ _ _ h => h) (Or.inl ⟨by kernel_rfl, ?_⟩) (by first | assumption | trivial) ?_
  rotate_left
  · (intro wS hSw; (try dsimp only at hSw); go_simp; try with_reducible rfl)
  (try simp only [List.getElem_toArray, List.getElem_cons_succ, List.getElem_cons_zero, Act.put, List.setIfInBounds_toArray, List.set_cons_zero, List.set_cons_succ])
  refine wpAnyH_take (i := 13) (v := ?_) rfl (by kernel_rfl) (by kernel_rfl) (by kernel_rfl) (fun _ _ _ h => h) (Or.inl ⟨by kernel_rfl, ?_⟩) (by first | assumption | trivial) ?_
  rotate_left
  · (intro wS hSw; (try dsimp only at hSw); go_simp; try with_reducible rfl)
  (try simp only [List.getElem_toArray, List.getElem_cons_succ, List.getElem_cons_zero, Act.put, List.setIfInBounds_toArray, List.set_cons_zero, List.set_cons_succ])
  refine wpAnyH_done (by kernel_rfl) ?_ _
  refine NoPanic.normal ?_
  clear x0 x1 x2 x3
  generalize W1.drew = W2 at *
  obtain ⟨ra, hra⟩ : ∃ r, isL a = r := ⟨_, rfl⟩
  have C1 := hid (fun w (hG : GM w) => by have h := is_any a w (by omega) hG; rw [hra] at h; exact h)
  have hza : (str a).size ≤ 1000 := hl1
  cases ra with
  | false =>
    clear hra
    go_wp2_with (first
      | (go_at_call 13; (with_reducible refine (C1.out _ HG.out).mono ?_); rintro e w1 ⟨rfl, b1⟩; ((first | replace HG := HG.far b1 | replace HG := hid (HG.out.below b1) | skip); (first | replace B := B.far b1 | replace B := hid (B.out.below b1) | skip); (first | replace BX := BX.far b1 | replace BX := hid (BX.out.below b1) | skip); (first | replace x0 := cells_keep b1 x0 | skip); (first | replace x1 := cells_keep b1 x1 | skip); (first | replace x2 := cells_keep b1 x2 | skip); (first | replace x3 := cells_keep b1 x3 | skip)); clear b1)
      | (go_at_call 10; (with_reducible refine (awake_any _ HG.out).mono ?_); rintro e w1 ⟨rfl, b1⟩; ((first | replace HG := HG.far b1 | replace HG := hid (HG.out.below b1) | skip); (first | replace B := B.far b1 | replace B := hid (B.out.below b1) | skip); (first | replace BX := BX.far b1 | replace BX := hid (BX.out.below b1) | skip); (first | replace x0 := cells_keep b1 x0 | skip); (first | replace x1 := cells_keep b1 x1 | skip); (first | replace x2 := cells_keep b1 x2 | skip); (first | replace x3 := cells_keep b1 x3 | skip)); clear b1))
    go_ret
    exact ⟨rfl, B.out⟩
  | true =>
    by_cases h50 : 50 < (str a).size
    · have hd : decide (50 < (str a).size) = true := by simpa using h50
      clear hra
      go_wp2_with (first
        | (go_at_call 13; (with_reducible refine (C1.out _ HG.out).mono ?_); rintro e w1 ⟨rfl, b1⟩; ((first | replace HG := HG.far b1 | replace HG := hid (HG.out.below b1) | skip); (first | replace B := B.far b1 | replace B := hid (B.out.below b1) | skip); (first | replace BX := BX.far b1 | replace BX := hid (BX.out.below b1) | skip); (first | replace x0 := cells_keep b1 x0 | skip); (first | replace x1 := cells_keep b1 x1 | skip); (first | replace x2 := cells_keep b1 x2 | skip); (first | replace x3 := cells_keep b1 x3 | skip)); clear b1)
        | (go_at_call 10; (with_reducible refine (awake_any _ HG.out).mono ?_); rintro e w1 ⟨rfl, b1⟩; ((first | replace HG := HG.far b1 | replace HG := hid (HG.out.below b1) | skip); (first | replace B := B.far b1 | replace B := hid (B.out.below b1) | skip); (first | replace BX := BX.far b1 | replace BX := hid (BX.out.below b1) | skip); (first | replace x0 := cells_keep b1 x0 | skip); (first | replace x1 := cells_keep b1 x1 | skip); (first | replace x2 := cells_keep b1 x2 | skip); (first | replace x3 := cells_keep b1 x3 | skip)); clear b1))
      go_ret
      exact ⟨rfl, B.out⟩
    · have hd : decide (50 < (str a).size) = false := by simpa using h50
      have ha50 : a.length ≤ 50 := by rw [str_size] at h50; omega
      have S1 := hid (fun i k (hik : i ≤ k) (hk : k ≤ (toldL a).length) => star1 hra ha50 hik hk)
      have S2 := hid (fun i (hi : i ≤ (toldL a).length) => star2 hra ha50 hi)
      have S3 := hid (fun i k (hik : i ≤ k) (hk : k ≤ (toldL a).length) (hno : (47 : UInt8) ∉ midL (toldL a) i k) => star3 hra ha50 hik hk hno)
      have S4 := hid (fun y (hy : isL y = true) (hy50 : y.length ≤ 50) => star4' hra hy hy50)
      have T1 := hid (fun w (hG : GM w) => told_any a w (by omega) hG)
      have hxl : (toldL a).length ≤ 50 := by rw [toldL_length]; exact ha50
      clear hra
      generalize toldL a = x at *
      have hzx : (str x).size ≤ 50 := hxl
      have HLX : Hid ((str x).size = x.length) := hid rfl
      obtain ⟨i0, hi0⟩ : ∃ i0, f0 % ((str x).size + 1) = i0 := ⟨_, rfl⟩
      obtain ⟨k0, hk0⟩ : ∃ k0, t0 % ((str x).size + 1) = k0 := ⟨_, rfl⟩
      have hi1 : i0 ≤ (str x).size := by have := Nat.mod_lt f0 (show 0 < (str x).size + 1 by omega); omega
      have hk1 : k0 ≤ (str x).size := by have := Nat.mod_lt t0 (show 0 < (str x).size + 1 by omega); omega
      have hm1 : (f0 : Int) % (((str x).size : Int) + 1) = (i0 : Int) := by rw [← hi0]; simp
      have hm2 : (t0 : Int) % (((str x).size : Int) + 1) = (k0 : Int) := by rw [← hk0]; simp
      have hm3 : Int.tmod (f0 : Int) (((str x).size : Int) + 1) = (i0 : Int) := by rw [Int.tmod_eq_emod_of_nonneg (by omega)]; exact hm1
      have hm4 : Int.tmod (t0 : Int) (((str x).size : Int) + 1) = (k0 : Int) := by rw [Int.tmod_eq_emod_of_nonneg (by omega)]; exact hm2
      have hws : IntKind.i64.wrap (((str x).size : Int) + 1) = ((str x).size : Int) + 1 := by rw [IntKind.wrap_i64]; omega
      have hwi : IntKind.i64.wrap (i0 : Int) = (i0 : Int) := by rw [IntKind.wrap_i64]; omega
      have hwk : IntKind.i64.wrap (k0 : Int) = (k0 : Int) := by rw [IntKind.wrap_i64]; omega
      have hwf : IntKind.i64.wrap (f0 : Int) = (f0 : Int) := by rw [IntKind.wrap_i64]; omega
      have hwt : IntKind.i64.wrap (t0 : Int) = (t0 : Int) := by rw [IntKind.wrap_i64]; omega
      have hne : ¬ ((str x).size : Int) + 1 = 0 := by omega
      have hf0' : (0 : Int) ≤ (f0 : Int) := by omega
      have ht0' : (0 : Int) ≤ (t0 : Int) := by omega
      clear hi0 hk0
      go_upto_region 5 with (first
        | (go_at_call 13; (with_reducible refine (C1.out _ HG.out).mono ?_); rintro e w1 ⟨rfl, b1⟩; ((first | replace HG := HG.far b1 | replace HG := hid (HG.out.below b1) | skip); (first | replace B := B.far b1 | replace B := hid (B.out.below b1) | skip); (first | replace BX := BX.far b1 | replace BX := hid (BX.out.below b1) | skip); (first | replace x0 := cells_keep b1 x0 | skip); (first | replace x1 := cells_keep b1 x1 | skip); (first | replace x2 := cells_keep b1 x2 | skip); (first | replace x3 := cells_keep b1 x3 | skip)); clear b1)
        | (go_at_call 14; (with_reducible refine (T1.out _ HG.out).mono ?_); rintro e w1 ⟨rfl, b1⟩; ((first | replace HG := HG.far b1 | replace HG := hid (HG.out.below b1) | skip); (first | replace B := B.far b1 | replace B := hid (B.out.below b1) | skip); (first | replace BX := BX.far b1 | replace BX := hid (BX.out.below b1) | skip); (first | replace x0 := cells_keep b1 x0 | skip); (first | replace x1 := cells_keep b1 x1 | skip); (first | replace x2 := cells_keep b1 x2 | skip); (first | replace x3 := cells_keep b1 x3 | skip)); clear b1))
      go_quiet (fail)
      have bd : Below w1.heap.size w1 (w1.drewN nq) := bq (Below.refl _ _) nq
      ((first | replace HG := HG.far bd | replace HG := hid (HG.out.below bd) | skip); (first | replace B := B.far bd | replace B := hid (B.out.below bd) | skip); (first | replace BX := BX.far bd | replace BX := hid (BX.out.below bd) | skip); (first | replace x0 := cells_keep bd x0 | skip); (first | replace x1 := cells_keep bd x1 | skip); (first | replace x2 := cells_keep bd x2 | skip); (first | replace x3 := cells_keep bd x3 | skip))
      clear bd hm1 hm2 hm3 hm4 hws hwi hwk hwf hwt hne hf0' ht0'
      generalize w1.drewN nq = W3 at *
      go_upto_if 47 with fail
      go_cut [8, 9] (fun u v wx => (∃ i k : Nat, u = .int .i64 i ∧ v = .int .i64 k ∧ Hid (i ≤ k ∧ k ≤ (str x).size)) ∧ W3 = wx)
      case first =>
        by_cases hlt : k0 < i0
        · have hd1 : decide (k0 < i0) = true := by simpa using hlt
          go_wp2_with fail
          go_meet
          exact ⟨⟨k0, i0, rfl, rfl, hid ⟨by omega, hi1⟩⟩, rfl⟩
        · have hd1 : decide (k0 < i0) = false := by simpa using hlt
          go_wp2_with fail
          go_meet
          exact ⟨⟨i0, k0, rfl, rfl, hid ⟨by omega, hk1⟩⟩, rfl⟩
      case rest =>
      obtain ⟨⟨i, k, rfl, rfl, hik⟩, rfl⟩ := hcut
      clear hi1 hk1
      have hik1 := hik.out.1
      have hik2 := hik.out.2
      have hkx : k ≤ x.length := hik2
      have P1 : Hid (∀ w, GM w → Calls Try.prog 8 #[.string (str a), .string (str ([42] ++ midL x i k ++ [42]))] w fun e w' => e = .returned (.bool true) ∧ Below w.heap.size w w') := hid (fun w hG => meetsE (S1.out i k hik1 hkx) hl1 (by rw [List.length_append, List.length_append, midL_len x hik1 hkx]; simp; omega) w hG)
      have P2 : Hid (∀ w, GM w → Calls Try.prog 8 #[.string (str a), .string (str (x.take i ++ [42]))] w fun e w' => e = .returned (.bool true) ∧ Below w.heap.size w w') := hid (fun w hG => meetsE (S2.out i (by omega)) hl1 (by rw [List.length_append, List.length_take]; simp; omega) w hG)
      have hn0 : (0 : Int) ≤ (i : Int) := by omega
      have hn1 : (i : Int) ≤ (k : Int) := by omega
      have hn2 : (k : Int) ≤ ((str x).size : Int) := by omega
      have hn3 : (i : Int) ≤ ((str x).size : Int) := by omega
      have hn4 : (0 : Int) ≤ (k : Int) := by omega
      have hex1 : (str x).extract i k = str (midL x i k) := str_extract x i k
      have hex2 : (str x).extract 0 i = str (x.take i) := by rw [str_extract, List.drop_zero, Nat.sub_zero]
      have hex3 : (str x).extract k (str x).size = str (x.drop k) := by rw [str_extract, str_size, List.take_of_length_le (by simp)]
      have hap1 : (⟨#[42]⟩ : ByteArray) ++ str (midL x i k) = str ([42] ++ midL x i k) := str_append [42] (midL x i k)
      have hap2 : str ([42] ++ midL x i k) ++ (⟨#[42]⟩ : ByteArray) = str ([42] ++ midL x i k ++ [42]) := str_append ([42] ++ midL x i k) [42]
      have hap3 : str (x.take i) ++ (⟨#[42]⟩ : ByteArray) = str (x.take i ++ [42]) := str_append (x.take i) [42]
      have hap4 : str (x.take i) ++ (⟨#[37]⟩ : ByteArray) = str (x.take i ++ [37]) := str_append (x.take i) [37]
      have hap5 : str (x.take i ++ [37]) ++ str (x.drop k) = str (x.take i ++ [37] ++ x.drop k) := str_append (x.take i ++ [37]) (x.drop k)
      have hz1 : (str (midL x i k)).size ≤ 1000 := by rw [str_size, midL_len x hik1 hkx]; omega
      have hz2 : (str ([42] ++ midL x i k)).size ≤ 1001 := by rw [str_size, List.length_append, midL_len x hik1 hkx]; simp; omega
      have hz3 : (str (x.take i)).size ≤ 1000 := by rw [str_size, List.length_take]; omega
      have hz4 : (str (x.drop k)).size ≤ 1000 := by rw [str_size, List.length_drop]; omega
      have hz5 : (str (x.take i ++ [37])).size ≤ 1001 := by rw [str_size, List.length_append, List.length_take]; simp; omega
      have ho1 : ¬ 9223372036854775807 < 1 + (str (midL x i k)).size := by omega
      have ho2 : ¬ 9223372036854775807 < (str ([42] ++ midL x i k)).size + 1 := by omega
      have ho3 : ¬ 9223372036854775807 < (str (x.take i)).size + 1 := by omega
      have ho5 : ¬ 9223372036854775807 < (str (x.take i ++ [37])).size + (str (x.drop k)).size := by omega
      obtain ⟨lv, hlv⟩ : ∃ lv, Hid ((midL x i k).contains 47 = !lv) := ⟨_, hid (by rw [Bool.not_not])⟩
      have P3 : Hid (lv = true → ∀ w, GM w → Calls Try.prog 8 #[.string (str a), .string (str (x.take i ++ [37] ++ x.drop k))] w fun e w' => e = .returned (.bool true) ∧ Below w.heap.size w w') := hid (fun hl w hG => meetsE (S3.out i k hik1 hkx (by
        have h := hlv.out
        rw [hl] at h
        intro hm
        rw [List.contains_iff_mem.2 hm] at h
        cases h)) hl1 (by rw [List.length_append, List.length_append, List.length_take, List.length_drop]; simp; omega) w hG)
      obtain ⟨rb, hrb⟩ : ∃ r, isL b = r := ⟨_, rfl⟩
      have C2 := hid (fun w (hG : GM w) => by have h := is_any b w (by omega) hG; rw [hrb] at h; exact h)
      have HRB := hid hrb
      clear S1 S2 S3 hrb
      generalize [42] ++ midL x i k = p0 at *
      generalize p0 ++ [42] = p1 at *
      generalize x.take i ++ [42] = p2 at *
      generalize x.take i ++ [37] = p4 at *
      generalize p4 ++ x.drop k = p3 at *
      go_wp2_with (first
        | (go_at_call 8; (with_reducible refine (P1.out _ HG.out).mono ?_); rintro e w1 ⟨rfl, b1⟩; ((first | replace HG := HG.far b1 | replace HG := hid (HG.out.below b1) | skip); (first | replace B := B.far b1 | replace B := hid (B.out.below b1) | skip); (first | replace BX := BX.far b1 | replace BX := hid (BX.out.below b1) | skip); (first | replace x0 := cells_keep b1 x0 | skip); (first | replace x1 := cells_keep b1 x1 | skip); (first | replace x2 := cells_keep b1 x2 | skip); (first | replace x3 := cells_keep b1 x3 | skip)); clear b1)
        | (go_at_call 8; (with_reducible refine (P2.out _ HG.out).mono ?_); rintro e w1 ⟨rfl, b1⟩; ((first | replace HG := HG.far b1 | replace HG := hid (HG.out.below b1) | skip); (first | replace B := B.far b1 | replace B := hid (B.out.below b1) | skip); (first | replace BX := BX.far b1 | replace BX := hid (BX.out.below b1) | skip); (first | replace x0 := cells_keep b1 x0 | skip); (first | replace x1 := cells_keep b1 x1 | skip); (first | replace x2 := cells_keep b1 x2 | skip); (first | replace x3 := cells_keep b1 x3 | skip)); clear b1))
      go_loopw [10, 11] (fun u v wr => ∃ (j : Nat) (c : Bool), i ≤ j ∧ j ≤ k ∧ v = .int .i64 j ∧ u = .bool c ∧ Hid ((midL x i j).contains 47 = !c) ∧ w1 = wr) (fun u v wr => k - (intOf v).toNat)
      case atStart => exact ⟨i, true, Nat.le_refl _, hik1, rfl, rfl, hid (by rw [midL_none]; rfl), rfl⟩
      case round =>
        obtain ⟨j, c, hij, hjk, rfl, rfl, hc, rfl⟩ := hrel
        by_cases hlt : j < k
        · have hdj : decide (j < k) = true := by simpa using hlt
          have hjx : j < (str x).size := by omega
          obtain ⟨y, hy⟩ : ∃ y, ((str x)[j]'hjx) = y := ⟨_, rfl⟩
          have hyl := y.toNat_lt
          obtain ⟨f, hf⟩ : ∃ f, ((y.toNat : Int) != 47) = f := ⟨_, rfl⟩
          have hf' : ((((str x)[j]'hjx).toNat : Int) != 47) = f := by rw [hy]; exact hf
          have hmm : Hid ((midL x i (j + 1)).contains 47 = ((!c) || !f)) := hid (by
            have hjl : j < x.length := by rw [← HLX.out]; exact hjx
            rw [midL_more x hij hjl, has_more, hc.out, ← hf, ← hy]
            rfl)
          clear hf hy
          cases c with
          | false =>
            go_wp2_with fail
            go_roundw
            case rel => exact ⟨j + 1, false, by omega, by omega, by go_num, rfl, hid (by rw [hmm.out]; rfl), by first | rfl | trivial⟩
            case measure => simp [intOf]; omega
          | true =>
            cases f with
            | true =>
              go_wp2_with fail
              go_roundw
              case rel => exact ⟨j + 1, true, by omega, by omega, by go_num, rfl, hid (by rw [hmm.out]; rfl), by first | rfl | trivial⟩
              case measure => simp [intOf]; omega
            | false =>
              go_wp2_with fail
              go_roundw
              case rel => exact ⟨j + 1, false, by omega, by omega, by go_num, rfl, hid (by rw [hmm.out]; rfl), by first | rfl | trivial⟩
              case measure => simp [intOf]; omega
        · have hdj : decide (j < k) = false := by simpa using hlt
          have hcl : c = lv := by
            have h1 := hc.out
            have h2 := hlv.out
            rw [show j = k by omega, h2] at h1
            cases c <;> cases lv <;> first | rfl | cases h1
          subst hcl
          clear hc
          cases c with
          | true =>
            go_upto_region 15 with fail
            refine wp_region_noPanic ?_
            refine wp_region_held_drew (S := (fun W => True)) (by kernel_rfl) (by first | assumption | trivial) (fun hHeld => ?_)
            refine wpAnyH_take (i := 0) (v := ?_) rfl (by kernel_rfl) (by kernel_rfl) (by kernel_rfl) (fun _ _ _ h => h) (Or.inl ⟨by kernel_rfl, ?_⟩) (by first | assumption | trivial) ?_
            rotate_left
            · (intro wS hSw; (try dsimp only at hSw); go_simp; try with_reducible rfl)
            (try simp only [List.getElem_toArray, List.getElem_cons_succ, List.getElem_cons_zero, Act.put, List.setIfInBounds_toArray, List.set_cons_zero, List.set_cons_succ])
            refine wpAnyH_take (i := 1) (v := ?_) rfl (by kernel_rfl) (by kernel_rfl) (by kernel_rfl) (fun _ _ _ h => h) (Or.inl ⟨by kernel_rfl, ?_⟩) (by first | assumption | trivial) ?_
            rotate_left
            · (intro wS hSw; (try dsimp only at hSw); go_simp; try with_reducible rfl)
            (try simp only [List.getElem_toArray, List.getElem_cons_succ, List.getElem_cons_zero, Act.put, List.setIfInBounds_toArray, List.set_cons_zero, List.set_cons_succ])
            refine wpAnyH_take (i := 2) (v := ?_) rfl (by kernel_rfl) (by kernel_rfl) (by kernel_rfl) (fun _ _ _ h => h) (Or.inl ⟨by kernel_rfl, ?_⟩) (by first | assumption | trivial) ?_
            rotate_left
            · (intro wS hSw; (try dsimp only at hSw); go_simp; try with_reducible rfl)
            (try simp only [List.getElem_toArray, List.getElem_cons_succ, List.getElem_cons_zero, Act.put, List.setIfInBounds_toArray, List.set_cons_zero, List.set_cons_succ])
            refine wpAnyH_take (i := 3) (v := ?_) rfl (by kernel_rfl) (by kernel_rfl) (by kernel_rfl) (fun _ _ _ h => h) (Or.inl ⟨by kernel_rfl, ?_⟩) (by first | assumption | trivial) ?_
            rotate_left
            · (intro wS hSw; (try dsimp only at hSw); go_simp; try with_reducible rfl)
            (try simp only [List.getElem_toArray, List.getElem_cons_succ, List.getElem_cons_zero, Act.put, List.setIfInBounds_toArray, List.set_cons_zero, List.set_cons_succ])
            refine wpAnyH_take (i := 4) (v := ?_) rfl (by kernel_rfl) (by kernel_rfl) (by kernel_rfl) (fun _ _ _ h => h) (Or.inl ⟨by kernel_rfl, ?_⟩) (by first | assumption | trivial) ?_
            rotate_left
            · (intro wS hSw; (try dsimp only at hSw); go_simp; try with_reducible rfl)
            (try simp only [List.getElem_toArray, List.getElem_cons_succ, List.getElem_cons_zero, Act.put, List.setIfInBounds_toArray, List.set_cons_zero, List.set_cons_succ])
            refine wpAnyH_take (i := 5) (v := ?_) rfl (by kernel_rfl) (by kernel_rfl) (by kernel_rfl) (fun _ _ _ h => h) (Or.inl ⟨by kernel_rfl, ?_⟩) (by first | assumption | trivial) ?_
            rotate_left
            · (intro wS hSw; (try dsimp only at hSw); go_simp; try with_reducible rfl)
            (try simp only [List.getElem_toArray, List.getElem_cons_succ, List.getElem_cons_zero, Act.put, List.setIfInBounds_toArray, List.set_cons_zero, List.set_cons_succ])
            refine wpAnyH_take (i := 6) (v := ?_) rfl (by kernel_rfl) (by kernel_rfl) (by kernel_rfl) (fun _ _ _ h => h) (Or.inl ⟨by kernel_rfl, ?_⟩) (by first | assumption | trivial) ?_
            rotate_left
            · (intro wS hSw; (try dsimp only at hSw); go_simp; try with_reducible rfl)
            (try simp only [List.getElem_toArray, List.getElem_cons_succ, List.getElem_cons_zero, Act.put, List.setIfInBounds_toArray, List.set_cons_zero, List.set_cons_succ])
            refine wpAnyH_take (i := 7) (v := ?_) rfl (by kernel_rfl) (by kernel_rfl) (by kernel_rfl) (fun _ _ _ h => h) (Or.inl ⟨by kernel_rfl, ?_⟩) (by first | assumption | trivial) ?_
            rotate_left
            · (intro wS hSw; (try dsimp only at hSw); go_simp; try with_reducible rfl)
            (try simp only [List.getElem_toArray, List.getElem_cons_succ, List.getElem_cons_zero, Act.put, List.setIfInBounds_toArray, List.set_cons_zero, List.set_cons_succ])
            refine wpAnyH_take (i := 8) (v := ?_) rfl (by kernel_rfl) (by kernel_rfl) (by kernel_rfl) (fun _ _ _ h => h) (Or.inl ⟨by kernel_rfl, ?_⟩) (by first | assumption | trivial) ?_
            rotate_left
            · (intro wS hSw; (try dsimp only at hSw); go_simp; try with_reducible rfl)
            (try simp only [List.getElem_toArray, List.getElem_cons_succ, List.getElem_cons_zero, Act.put, List.setIfInBounds_toArray, List.set_cons_zero, List.set_cons_succ])
            refine wpAnyH_take (i := 9) (v := ?_) rfl (by kernel_rfl) (by kernel_rfl) (by kernel_rfl) (fun _ _ _ h => h) (Or.inl ⟨by kernel_rfl, ?_⟩) (by first | assumption | trivial) ?_
            rotate_left
            · (intro wS hSw; (try dsimp only at hSw); go_simp; try with_reducible rfl)
            (try simp only [List.getElem_toArray, List.getElem_cons_succ, List.getElem_cons_zero, Act.put, List.setIfInBounds_toArray, List.set_cons_zero, List.set_cons_succ])
            refine wpAnyH_take (i := 10) (v := ?_) rfl (by kernel_rfl) (by kernel_rfl) (by kernel_rfl) (fun _ _ _ h => h) (Or.inl ⟨by kernel_rfl, ?_⟩) (by first | assumption | trivial) ?_
            rotate_left
            · (intro wS hSw; (try dsimp only at hSw); go_simp; try with_reducible rfl)
            (try simp only [List.getElem_toArray, List.getElem_cons_succ, List.getElem_cons_zero, Act.put, List.setIfInBounds_toArray, List.set_cons_zero, List.set_cons_succ])
            refine wpAnyH_ready (rs := [11]) (by kernel_rfl) (by simp) ?_
            refine AllReadyH.cons rfl (fun K hK => ?_) AllReadyH.nil
            go_simp
            (go_at_call 8; (with_reducible refine (P3.out rfl _ (GM.below HG.out (drew_below w1))).mono ?_); rintro e w9 ⟨rfl, b9⟩; have b1 := next (drew_below w1) b9; ((first | replace HG := HG.far b1 | replace HG := hid (HG.out.below b1) | skip); (first | replace B := B.far b1 | replace B := hid (B.out.below b1) | skip); (first | replace BX := BX.far b1 | replace BX := hid (BX.out.below b1) | skip); (first | replace x0 := cells_keep b1 x0 | skip); (first | replace x1 := cells_keep b1 x1 | skip); (first | replace x2 := cells_keep b1 x2 | skip); (first | replace x3 := cells_keep b1 x3 | skip)); clear b1 b9)
            go_wp2_with fail
            refine hK.out _ _ (by first | assumption | trivial) (fun hHeld => ?_)
            clear hK K
            (try simp only [List.getElem_toArray, List.getElem_cons_succ, List.getElem_cons_zero, Act.put, List.setIfInBounds_toArray, List.set_cons_zero, List.set_cons_succ])
            refine wpAnyH_take (i := 12) (v := ?_) rfl (by kernel_rfl) (by kernel_rfl) (by kernel_rfl) (fun _ _ _ h => h) (Or.inl ⟨by kernel_rfl, ?_⟩) (by first | assumption | trivial) ?_
            rotate_left
            · (intro wS hSw; (try dsimp only at hSw); go_simp; try with_reducible rfl)
            (try simp only [List.getElem_toArray, List.getElem_cons_succ, List.getElem_cons_zero, Act.put, List.setIfInBounds_toArray, List.set_cons_zero, List.set_cons_succ])
            refine wpAnyH_take (i := 13) (v := ?_) rfl (by kernel_rfl) (by kernel_rfl) (by kernel_rfl) (fun _ _ _ h => h) (Or.inl ⟨by kernel_rfl, ?_⟩) (by first | assumption | trivial) ?_
            rotate_left
            · (intro wS hSw; (try dsimp only at hSw); go_simp; try with_reducible rfl)
            (try simp only [List.getElem_toArray, List.getElem_cons_succ, List.getElem_cons_zero, Act.put, List.setIfInBounds_toArray, List.set_cons_zero, List.set_cons_succ])
            refine wpAnyH_done (by kernel_rfl) ?_ _
            refine NoPanic.normal ?_
            cases rb with
            | false =>
              clear HRB
              go_wp2_with (first
                | (go_at_call 13; (with_reducible refine (C2.out _ HG.out).mono ?_); rintro e w1 ⟨rfl, b1⟩; ((first | replace HG := HG.far b1 | replace HG := hid (HG.out.below b1) | skip); (first | replace B := B.far b1 | replace B := hid (B.out.below b1) | skip); (first | replace BX := BX.far b1 | replace BX := hid (BX.out.below b1) | skip); (first | replace x0 := cells_keep b1 x0 | skip); (first | replace x1 := cells_keep b1 x1 | skip); (first | replace x2 := cells_keep b1 x2 | skip); (first | replace x3 := cells_keep b1 x3 | skip)); clear b1)
                | (go_at_call 10; (with_reducible refine (awake_any _ HG.out).mono ?_); rintro e w1 ⟨rfl, b1⟩; ((first | replace HG := HG.far b1 | replace HG := hid (HG.out.below b1) | skip); (first | replace B := B.far b1 | replace B := hid (B.out.below b1) | skip); (first | replace BX := BX.far b1 | replace BX := hid (BX.out.below b1) | skip); (first | replace x0 := cells_keep b1 x0 | skip); (first | replace x1 := cells_keep b1 x1 | skip); (first | replace x2 := cells_keep b1 x2 | skip); (first | replace x3 := cells_keep b1 x3 | skip)); clear b1))
              go_ret
              exact ⟨rfl, B.out⟩
            | true =>
              by_cases hb50 : 50 < (str b).size
              · have hdb : decide (50 < (str b).size) = true := by simpa using hb50
                go_wp2_with (first
                  | (go_at_call 13; (with_reducible refine (C2.out _ HG.out).mono ?_); rintro e w1 ⟨rfl, b1⟩; ((first | replace HG := HG.far b1 | replace HG := hid (HG.out.below b1) | skip); (first | replace B := B.far b1 | replace B := hid (B.out.below b1) | skip); (first | replace BX := BX.far b1 | replace BX := hid (BX.out.below b1) | skip); (first | replace x0 := cells_keep b1 x0 | skip); (first | replace x1 := cells_keep b1 x1 | skip); (first | replace x2 := cells_keep b1 x2 | skip); (first | replace x3 := cells_keep b1 x3 | skip)); clear b1)
                  | (go_at_call 10; (with_reducible refine (awake_any _ HG.out).mono ?_); rintro e w1 ⟨rfl, b1⟩; ((first | replace HG := HG.far b1 | replace HG := hid (HG.out.below b1) | skip); (first | replace B := B.far b1 | replace B := hid (B.out.below b1) | skip); (first | replace BX := BX.far b1 | replace BX := hid (BX.out.below b1) | skip); (first | replace x0 := cells_keep b1 x0 | skip); (first | replace x1 := cells_keep b1 x1 | skip); (first | replace x2 := cells_keep b1 x2 | skip); (first | replace x3 := cells_keep b1 x3 | skip)); clear b1))
                go_ret
                exact ⟨rfl, B.out⟩
              · have hdb : decide (50 < (str b).size) = false := by simpa using hb50
                obtain ⟨r1, r2, u, hm1, hn2', hu1, hq1', hq2⟩ := S4.out b HRB.out (by rw [str_size] at hb50; omega)
                have U1 : Hid (∀ w, GM w → Calls Try.prog 15 #[.string (str a), .string (str b)] w fun e w' => e = .returned (.bool u) ∧ Below w.heap.size w w') := hid (fun w hG => by have h := under_any a b w (by omega) (by omega) hG; rw [hu1.out] at h; exact h)
                have T2 := hid (fun w (hG : GM w) => told_any b w (by omega) hG)
                have hyl : (toldL b).length ≤ 1000 := by rw [toldL_length]; exact hq1
                have P5 : Hid (∀ w, GM w → Calls Try.prog 8 #[.string (str a), .string (str (toldL b ++ [47, 42]))] w fun e w' => e = .returned (.bool r1) ∧ Below w.heap.size w w') := hid (fun w hG => meetsE hm1.out hl1 (by rw [List.length_append]; have := toldL_length b; simp; rw [str_size] at hb50; omega) w hG)
                have hap6 : str (toldL b) ++ (⟨#[47, 42]⟩ : ByteArray) = str (toldL b ++ [47, 42]) := str_append (toldL b) [47, 42]
                generalize toldL b ++ [47, 42] = p6 at *
                generalize toldL b = y at *
                have hzy : (str y).size ≤ 1000 := hyl
                have ho6 : ¬ 9223372036854775807 < (str y).size + 2 := by omega
                have hn3' : (str x != str y) = r2 := by rw [str_bne]; exact hn2'
                have hn4' : (x == y) = !r2 := by rw [← hn2']; cases hxy : (x == y) <;> simp [bne, hxy]
                subst hq2
                clear hn2' hm1 hu1 S4 HRB
                cases r1 <;> cases r2 <;> (
                  go_wp2_with (first
                    | (go_at_call 13; (with_reducible refine (C2.out _ HG.out).mono ?_); rintro e w1 ⟨rfl, b1⟩; ((first | replace HG := HG.far b1 | replace HG := hid (HG.out.below b1) | skip); (first | replace B := B.far b1 | replace B := hid (B.out.below b1) | skip); (first | replace BX := BX.far b1 | replace BX := hid (BX.out.below b1) | skip); (first | replace x0 := cells_keep b1 x0 | skip); (first | replace x1 := cells_keep b1 x1 | skip); (first | replace x2 := cells_keep b1 x2 | skip); (first | replace x3 := cells_keep b1 x3 | skip)); clear b1)
                    | (go_at_call 15; (with_reducible refine (U1.out _ HG.out).mono ?_); rintro e w1 ⟨rfl, b1⟩; ((first | replace HG := HG.far b1 | replace HG := hid (HG.out.below b1) | skip); (first | replace B := B.far b1 | replace B := hid (B.out.below b1) | skip); (first | replace BX := BX.far b1 | replace BX := hid (BX.out.below b1) | skip); (first | replace x0 := cells_keep b1 x0 | skip); (first | replace x1 := cells_keep b1 x1 | skip); (first | replace x2 := cells_keep b1 x2 | skip); (first | replace x3 := cells_keep b1 x3 | skip)); clear b1)
                    | (go_at_call 14; (with_reducible refine (T1.out _ HG.out).mono ?_); rintro e w1 ⟨rfl, b1⟩; ((first | replace HG := HG.far b1 | replace HG := hid (HG.out.below b1) | skip); (first | replace B := B.far b1 | replace B := hid (B.out.below b1) | skip); (first | replace BX := BX.far b1 | replace BX := hid (BX.out.below b1) | skip); (first | replace x0 := cells_keep b1 x0 | skip); (first | replace x1 := cells_keep b1 x1 | skip); (first | replace x2 := cells_keep b1 x2 | skip); (first | replace x3 := cells_keep b1 x3 | skip)); clear b1)
                    | (go_at_call 14; (with_reducible refine (T2.out _ HG.out).mono ?_); rintro e w1 ⟨rfl, b1⟩; ((first | replace HG := HG.far b1 | replace HG := hid (HG.out.below b1) | skip); (first | replace B := B.far b1 | replace B := hid (B.out.below b1) | skip); (first | replace BX := BX.far b1 | replace BX := hid (BX.out.below b1) | skip); (first | replace x0 := cells_keep b1 x0 | skip); (first | replace x1 := cells_keep b1 x1 | skip); (first | replace x2 := cells_keep b1 x2 | skip); (first | replace x3 := cells_keep b1 x3 | skip)); clear b1)
                    | (go_at_call 8; (with_reducible refine (P5.out _ HG.out).mono ?_); rintro e w1 ⟨rfl, b1⟩; ((first | replace HG := HG.far b1 | replace HG := hid (HG.out.below b1) | skip); (first | replace B := B.far b1 | replace B := hid (B.out.below b1) | skip); (first | replace BX := BX.far b1 | replace BX := hid (BX.out.below b1) | skip); (first | replace x0 := cells_keep b1 x0 | skip); (first | replace x1 := cells_keep b1 x1 | skip); (first | replace x2 := cells_keep b1 x2 | skip); (first | replace x3 := cells_keep b1 x3 | skip)); clear b1)
                    | (go_at_call 10; (with_reducible refine (awake_any _ HG.out).mono ?_); rintro e w1 ⟨rfl, b1⟩; ((first | replace HG := HG.far b1 | replace HG := hid (HG.out.below b1) | skip); (first | replace B := B.far b1 | replace B := hid (B.out.below b1) | skip); (first | replace BX := BX.far b1 | replace BX := hid (BX.out.below b1) | skip); (first | replace x0 := cells_keep b1 x0 | skip); (first | replace x1 := cells_keep b1 x1 | skip); (first | replace x2 := cells_keep b1 x2 | skip); (first | replace x3 := cells_keep b1 x3 | skip)); clear b1))
                  go_ret
                  exact ⟨rfl, B.out⟩)
          | false =>
            go_upto_region 15 with fail
            refine wp_region_noPanic ?_
            refine wp_region_held_drew (S := (fun W => True)) (by kernel_rfl) (by first | assumption | trivial) (fun hHeld => ?_)
            refine wpAnyH_take (i := 0) (v := ?_) rfl (by kernel_rfl) (by kernel_rfl) (by kernel_rfl) (fun _ _ _ h => h) (Or.inl ⟨by kernel_rfl, ?_⟩) (by first | assumption | trivial) ?_
            rotate_left
            · (intro wS hSw; (try dsimp only at hSw); go_simp; try with_reducible rfl)
            (try simp only [List.getElem_toArray, List.getElem_cons_succ, List.getElem_cons_zero, Act.put, List.setIfInBounds_toArray, List.set_cons_zero, List.set_cons_succ])
            refine wpAnyH_take (i := 1) (v := ?_) rfl (by kernel_rfl) (by kernel_rfl) (by kernel_rfl) (fun _ _ _ h => h) (Or.inl ⟨by kernel_rfl, ?_⟩) (by first | assumption | trivial) ?_
            rotate_left
            · (intro wS hSw; (try dsimp only at hSw); go_simp; try with_reducible rfl)
            (try simp only [List.getElem_toArray, List.getElem_cons_succ, List.getElem_cons_zero, Act.put, List.setIfInBounds_toArray, List.set_cons_zero, List.set_cons_succ])
            refine wpAnyH_take (i := 2) (v := undef) rfl (by kernel_rfl) (by kernel_rfl) (by kernel_rfl) (fun _ _ _ h => h) (Or.inr ⟨by kernel_rfl, rfl⟩) (by first | assumption | trivial) ?_
            (try simp only [List.getElem_toArray, List.getElem_cons_succ, List.getElem_cons_zero, Act.put, List.setIfInBounds_toArray, List.set_cons_zero, List.set_cons_succ])
            refine wpAnyH_take (i := 3) (v := undef) rfl (by kernel_rfl) (by kernel_rfl) (by kernel_rfl) (fun _ _ _ h => h) (Or.inr ⟨by kernel_rfl, rfl⟩) (by first | assumption | trivial) ?_
            (try simp only [List.getElem_toArray, List.getElem_cons_succ, List.getElem_cons_zero, Act.put, List.setIfInBounds_toArray, List.set_cons_zero, List.set_cons_succ])
            refine wpAnyH_take (i := 4) (v := undef) rfl (by kernel_rfl) (by kernel_rfl) (by kernel_rfl) (fun _ _ _ h => h) (Or.inr ⟨by kernel_rfl, rfl⟩) (by first | assumption | trivial) ?_
            (try simp only [List.getElem_toArray, List.getElem_cons_succ, List.getElem_cons_zero, Act.put, List.setIfInBounds_toArray, List.set_cons_zero, List.set_cons_succ])
            refine wpAnyH_take (i := 5) (v := undef) rfl (by kernel_rfl) (by kernel_rfl) (by kernel_rfl) (fun _ _ _ h => h) (Or.inr ⟨by kernel_rfl, rfl⟩) (by first | assumption | trivial) ?_
            (try simp only [List.getElem_toArray, List.getElem_cons_succ, List.getElem_cons_zero, Act.put, List.setIfInBounds_toArray, List.set_cons_zero, List.set_cons_succ])
            refine wpAnyH_take (i := 6) (v := undef) rfl (by kernel_rfl) (by kernel_rfl) (by kernel_rfl) (fun _ _ _ h => h) (Or.inr ⟨by kernel_rfl, rfl⟩) (by first | assumption | trivial) ?_
            (try simp only [List.getElem_toArray, List.getElem_cons_succ, List.getElem_cons_zero, Act.put, List.setIfInBounds_toArray, List.set_cons_zero, List.set_cons_succ])
            refine wpAnyH_take (i := 7) (v := undef) rfl (by kernel_rfl) (by kernel_rfl) (by kernel_rfl) (fun _ _ _ h => h) (Or.inr ⟨by kernel_rfl, rfl⟩) (by first | assumption | trivial) ?_
            (try simp only [List.getElem_toArray, List.getElem_cons_succ, List.getElem_cons_zero, Act.put, List.setIfInBounds_toArray, List.set_cons_zero, List.set_cons_succ])
            refine wpAnyH_take (i := 8) (v := undef) rfl (by kernel_rfl) (by kernel_rfl) (by kernel_rfl) (fun _ _ _ h => h) (Or.inr ⟨by kernel_rfl, rfl⟩) (by first | assumption | trivial) ?_
            (try simp only [List.getElem_toArray, List.getElem_cons_succ, List.getElem_cons_zero, Act.put, List.setIfInBounds_toArray, List.set_cons_zero, List.set_cons_succ])
            refine wpAnyH_take (i := 9) (v := undef) rfl (by kernel_rfl) (by kernel_rfl) (by kernel_rfl) (fun _ _ _ h => h) (Or.inr ⟨by kernel_rfl, rfl⟩) (by first | assumption | trivial) ?_
            (try simp only [List.getElem_toArray, List.getElem_cons_succ, List.getElem_cons_zero, Act.put, List.setIfInBounds_toArray, List.set_cons_zero, List.set_cons_succ])
            refine wpAnyH_take (i := 10) (v := undef) rfl (by kernel_rfl) (by kernel_rfl) (by kernel_rfl) (fun _ _ _ h => h) (Or.inr ⟨by kernel_rfl, rfl⟩) (by first | assumption | trivial) ?_
            (try simp only [List.getElem_toArray, List.getElem_cons_succ, List.getElem_cons_zero, Act.put, List.setIfInBounds_toArray, List.set_cons_zero, List.set_cons_succ])
            refine wpAnyH_ready (rs := [11]) (by kernel_rfl) (by simp) ?_
            refine AllReadyH.cons rfl (fun K hK => ?_) AllReadyH.nil
            go_simp
            skip
            go_wp2_with fail
            refine hK.out _ _ (by first | assumption | trivial) (fun hHeld => ?_)
            clear hK K
            (try simp only [List.getElem_toArray, List.getElem_cons_succ, List.getElem_cons_zero, Act.put, List.setIfInBounds_toArray, List.set_cons_zero, List.set_cons_succ])
            refine wpAnyH_take (i := 12) (v := undef) rfl (by kernel_rfl) (by kernel_rfl) (by kernel_rfl) (fun _ _ _ h => h) (Or.inr ⟨by kernel_rfl, rfl⟩) (by first | assumption | trivial) ?_
            (try simp only [List.getElem_toArray, List.getElem_cons_succ, List.getElem_cons_zero, Act.put, List.setIfInBounds_toArray, List.set_cons_zero, List.set_cons_succ])
            refine wpAnyH_take (i := 13) (v := ?_) rfl (by kernel_rfl) (by kernel_rfl) (by kernel_rfl) (fun _ _ _ h => h) (Or.inl ⟨by kernel_rfl, ?_⟩) (by first | assumption | trivial) ?_
            rotate_left
            · (intro wS hSw; (try dsimp only at hSw); go_simp; try with_reducible rfl)
            (try simp only [List.getElem_toArray, List.getElem_cons_succ, List.getElem_cons_zero, Act.put, List.setIfInBounds_toArray, List.set_cons_zero, List.set_cons_succ])
            refine wpAnyH_done (by kernel_rfl) ?_ _
            refine NoPanic.normal ?_
            have bd := drew_below w1
            ((first | replace HG := HG.far bd | replace HG := hid (HG.out.below bd) | skip); (first | replace B := B.far bd | replace B := hid (B.out.below bd) | skip); (first | replace BX := BX.far bd | replace BX := hid (BX.out.below bd) | skip); (first | replace x0 := cells_keep bd x0 | skip); (first | replace x1 := cells_keep bd x1 | skip); (first | replace x2 := cells_keep bd x2 | skip); (first | replace x3 := cells_keep bd x3 | skip))
            clear bd
            cases rb with
            | false =>
              clear HRB
              go_wp2_with (first
                | (go_at_call 13; (with_reducible refine (C2.out _ HG.out).mono ?_); rintro e w1 ⟨rfl, b1⟩; ((first | replace HG := HG.far b1 | replace HG := hid (HG.out.below b1) | skip); (first | replace B := B.far b1 | replace B := hid (B.out.below b1) | skip); (first | replace BX := BX.far b1 | replace BX := hid (BX.out.below b1) | skip); (first | replace x0 := cells_keep b1 x0 | skip); (first | replace x1 := cells_keep b1 x1 | skip); (first | replace x2 := cells_keep b1 x2 | skip); (first | replace x3 := cells_keep b1 x3 | skip)); clear b1)
                | (go_at_call 10; (with_reducible refine (awake_any _ HG.out).mono ?_); rintro e w1 ⟨rfl, b1⟩; ((first | replace HG := HG.far b1 | replace HG := hid (HG.out.below b1) | skip); (first | replace B := B.far b1 | replace B := hid (B.out.below b1) | skip); (first | replace BX := BX.far b1 | replace BX := hid (BX.out.below b1) | skip); (first | replace x0 := cells_keep b1 x0 | skip); (first | replace x1 := cells_keep b1 x1 | skip); (first | replace x2 := cells_keep b1 x2 | skip); (first | replace x3 := cells_keep b1 x3 | skip)); clear b1))
              go_ret
              exact ⟨rfl, B.out⟩
            | true =>
              by_cases hb50 : 50 < (str b).size
              · have hdb : decide (50 < (str b).size) = true := by simpa using hb50
                go_wp2_with (first
                  | (go_at_call 13; (with_reducible refine (C2.out _ HG.out).mono ?_); rintro e w1 ⟨rfl, b1⟩; ((first | replace HG := HG.far b1 | replace HG := hid (HG.out.below b1) | skip); (first | replace B := B.far b1 | replace B := hid (B.out.below b1) | skip); (first | replace BX := BX.far b1 | replace BX := hid (BX.out.below b1) | skip); (first | replace x0 := cells_keep b1 x0 | skip); (first | replace x1 := cells_keep b1 x1 | skip); (first | replace x2 := cells_keep b1 x2 | skip); (first | replace x3 := cells_keep b1 x3 | skip)); clear b1)
                  | (go_at_call 10; (with_reducible refine (awake_any _ HG.out).mono ?_); rintro e w1 ⟨rfl, b1⟩; ((first | replace HG := HG.far b1 | replace HG := hid (HG.out.below b1) | skip); (first | replace B := B.far b1 | replace B := hid (B.out.below b1) | skip); (first | replace BX := BX.far b1 | replace BX := hid (BX.out.below b1) | skip); (first | replace x0 := cells_keep b1 x0 | skip); (first | replace x1 := cells_keep b1 x1 | skip); (first | replace x2 := cells_keep b1 x2 | skip); (first | replace x3 := cells_keep b1 x3 | skip)); clear b1))
                go_ret
                exact ⟨rfl, B.out⟩
              · have hdb : decide (50 < (str b).size) = false := by simpa using hb50
                obtain ⟨r1, r2, u, hm1, hn2', hu1, hq1', hq2⟩ := S4.out b HRB.out (by rw [str_size] at hb50; omega)
                have U1 : Hid (∀ w, GM w → Calls Try.prog 15 #[.string (str a), .string (str b)] w fun e w' => e = .returned (.bool u) ∧ Below w.heap.size w w') := hid (fun w hG => by have h := under_any a b w (by omega) (by omega) hG; rw [hu1.out] at h; exact h)
                have T2 := hid (fun w (hG : GM w) => told_any b w (by omega) hG)
                have hyl : (toldL b).length ≤ 1000 := by rw [toldL_length]; exact hq1
                have P5 : Hid (∀ w, GM w → Calls Try.prog 8 #[.string (str a), .string (str (toldL b ++ [47, 42]))] w fun e w' => e = .returned (.bool r1) ∧ Below w.heap.size w w') := hid (fun w hG => meetsE hm1.out hl1 (by rw [List.length_append]; have := toldL_length b; simp; rw [str_size] at hb50; omega) w hG)
                have hap6 : str (toldL b) ++ (⟨#[47, 42]⟩ : ByteArray) = str (toldL b ++ [47, 42]) := str_append (toldL b) [47, 42]
                generalize toldL b ++ [47, 42] = p6 at *
                generalize toldL b = y at *
                have hzy : (str y).size ≤ 1000 := hyl
                have ho6 : ¬ 9223372036854775807 < (str y).size + 2 := by omega
                have hn3' : (str x != str y) = r2 := by rw [str_bne]; exact hn2'
                have hn4' : (x == y) = !r2 := by rw [← hn2']; cases hxy : (x == y) <;> simp [bne, hxy]
                subst hq2
                clear hn2' hm1 hu1 S4 HRB
                cases r1 <;> cases r2 <;> (
                  go_wp2_with (first
                    | (go_at_call 13; (with_reducible refine (C2.out _ HG.out).mono ?_); rintro e w1 ⟨rfl, b1⟩; ((first | replace HG := HG.far b1 | replace HG := hid (HG.out.below b1) | skip); (first | replace B := B.far b1 | replace B := hid (B.out.below b1) | skip); (first | replace BX := BX.far b1 | replace BX := hid (BX.out.below b1) | skip); (first | replace x0 := cells_keep b1 x0 | skip); (first | replace x1 := cells_keep b1 x1 | skip); (first | replace x2 := cells_keep b1 x2 | skip); (first | replace x3 := cells_keep b1 x3 | skip)); clear b1)
                    | (go_at_call 15; (with_reducible refine (U1.out _ HG.out).mono ?_); rintro e w1 ⟨rfl, b1⟩; ((first | replace HG := HG.far b1 | replace HG := hid (HG.out.below b1) | skip); (first | replace B := B.far b1 | replace B := hid (B.out.below b1) | skip); (first | replace BX := BX.far b1 | replace BX := hid (BX.out.below b1) | skip); (first | replace x0 := cells_keep b1 x0 | skip); (first | replace x1 := cells_keep b1 x1 | skip); (first | replace x2 := cells_keep b1 x2 | skip); (first | replace x3 := cells_keep b1 x3 | skip)); clear b1)
                    | (go_at_call 14; (with_reducible refine (T1.out _ HG.out).mono ?_); rintro e w1 ⟨rfl, b1⟩; ((first | replace HG := HG.far b1 | replace HG := hid (HG.out.below b1) | skip); (first | replace B := B.far b1 | replace B := hid (B.out.below b1) | skip); (first | replace BX := BX.far b1 | replace BX := hid (BX.out.below b1) | skip); (first | replace x0 := cells_keep b1 x0 | skip); (first | replace x1 := cells_keep b1 x1 | skip); (first | replace x2 := cells_keep b1 x2 | skip); (first | replace x3 := cells_keep b1 x3 | skip)); clear b1)
                    | (go_at_call 14; (with_reducible refine (T2.out _ HG.out).mono ?_); rintro e w1 ⟨rfl, b1⟩; ((first | replace HG := HG.far b1 | replace HG := hid (HG.out.below b1) | skip); (first | replace B := B.far b1 | replace B := hid (B.out.below b1) | skip); (first | replace BX := BX.far b1 | replace BX := hid (BX.out.below b1) | skip); (first | replace x0 := cells_keep b1 x0 | skip); (first | replace x1 := cells_keep b1 x1 | skip); (first | replace x2 := cells_keep b1 x2 | skip); (first | replace x3 := cells_keep b1 x3 | skip)); clear b1)
                    | (go_at_call 8; (with_reducible refine (P5.out _ HG.out).mono ?_); rintro e w1 ⟨rfl, b1⟩; ((first | replace HG := HG.far b1 | replace HG := hid (HG.out.below b1) | skip); (first | replace B := B.far b1 | replace B := hid (B.out.below b1) | skip); (first | replace BX := BX.far b1 | replace BX := hid (BX.out.below b1) | skip); (first | replace x0 := cells_keep b1 x0 | skip); (first | replace x1 := cells_keep b1 x1 | skip); (first | replace x2 := cells_keep b1 x2 | skip); (first | replace x3 := cells_keep b1 x3 | skip)); clear b1)
                    | (go_at_call 10; (with_reducible refine (awake_any _ HG.out).mono ?_); rintro e w1 ⟨rfl, b1⟩; ((first | replace HG := HG.far b1 | replace HG := hid (HG.out.below b1) | skip); (first | replace B := B.far b1 | replace B := hid (B.out.below b1) | skip); (first | replace BX := BX.far b1 | replace BX := hid (BX.out.below b1) | skip); (first | replace x0 := cells_keep b1 x0 | skip); (first | replace x1 := cells_keep b1 x1 | skip); (first | replace x2 := cells_keep b1 x2 | skip); (first | replace x3 := cells_keep b1 x3 | skip)); clear b1))
                  go_ret
                  exact ⟨rfl, B.out⟩)
end Go.Proofs.Ythgopanipmnphaa
