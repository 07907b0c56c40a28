/-
  A date as it is formatted: the program's walk. A part of the proof: see the head of the text that ends in 'Law'.
-/
import Derived.Test.YtkjlkkaoaiphcaaDoorDa9
namespace Go.Proofs.YtkjlkkaoaiphcaaDoor
open Go.RowKit Go.Shelf
set_option linter.unusedVariables false
set_option linter.unusedSimpArgs false

/-- A date as it is formatted, out of its numbers. -/
def formP (dd m y t zz : Nat) (neg : Bool) : List UInt8 :=
  (if dd < 10 then 32 :: digL dd 1 else digL dd 2) ++ ([45] ++ (monL (m - 1) ++ ([45] ++ (digL y 4 ++ ([32] ++ (digL (t / 3600) 2 ++ ([58] ++ (digL (t / 60 % 60) 2 ++ ([58] ++ (digL (t % 60) 2 ++ ([32] ++ ((if neg then [45] else [43]) ++ (digL (zz / 60) 2 ++ digL (zz % 60) 2)))))))))))))
noncomputable def formL (s z : Int) : List UInt8 := formP (civ ((s + 60 * z) / 86400)).2.2 (civ ((s + 60 * z) / 86400)).2.1 (civ ((s + 60 * z) / 86400)).1 ((s + 60 * z) % 86400).toNat z.natAbs (decide (z < 0))
theorem join15 (w : World) (g : Nat) (p q r a b c e f i : List UInt8) {T : TypeId} {fr : Nat × Nat}
    (h : w.heap[g]? = some (.cells #[.string (str p), .string ⟨#[45]⟩, .string (str q), .string ⟨#[45]⟩, .string (str r), .string ⟨#[32]⟩, .string (str a), .string ⟨#[58]⟩, .string (str b), .string ⟨#[58]⟩, .string (str c), .string ⟨#[32]⟩, .string (str e), .string (str f), .string (str i)] T fr))
    (hl : p.length + q.length + r.length + a.length + b.length + c.length + e.length + f.length + i.length ≤ 1000) :
    Calls Tryd.prog 32 #[.slice (some ⟨g, 0, none⟩) 15 15, .string ⟨#[]⟩] w fun x w' => x = .returned (.string (str (p ++ ([45] ++ (q ++ ([45] ++ (r ++ ([32] ++ (a ++ ([58] ++ (b ++ ([58] ++ (c ++ ([32] ++ (e ++ (f ++ i)))))))))))))))) ∧ Below w.heap.size w w' := by
  have hj : Lib.join (([str p, ⟨#[45]⟩, str q, ⟨#[45]⟩, str r, ⟨#[32]⟩, str a, ⟨#[58]⟩, str b, ⟨#[58]⟩, str c, ⟨#[32]⟩, str e, str f, str i] : List ByteArray).map (·.data.toList)) (⟨#[]⟩ : ByteArray).data.toList = p ++ ([45] ++ (q ++ ([45] ++ (r ++ ([32] ++ (a ++ ([58] ++ (b ++ ([58] ++ (c ++ ([32] ++ (e ++ (f ++ i))))))))))))) := by
    simp [Lib.join, str]
  have hc := Tryd.strings_Join g 0 15 [str p, ⟨#[45]⟩, str q, ⟨#[45]⟩, str r, ⟨#[32]⟩, str a, ⟨#[58]⟩, str b, ⟨#[58]⟩, str c, ⟨#[32]⟩, str e, str f, str i] ⟨#[]⟩ w (fun j x hx => by
    rw [Nat.zero_add, cell_of_row w g j _ _ _ h]
    match j, hx with
    | 0, hx => cases hx; rfl
    | 1, hx => cases hx; rfl
    | 2, hx => cases hx; rfl
    | 3, hx => cases hx; rfl
    | 4, hx => cases hx; rfl
    | 5, hx => cases hx; rfl
    | 6, hx => cases hx; rfl
    | 7, hx => cases hx; rfl
    | 8, hx => cases hx; rfl
    | 9, hx => cases hx; rfl
    | 10, hx => cases hx; rfl
    | 11, hx => cases hx; rfl
    | 12, hx => cases hx; rfl
    | 13, hx => cases hx; rfl
    | 14, hx => cases hx; rfl
    | j + 15, hx => simp at hx) (lt_of_heap h) (by simp) (by simp) (by rw [hj]; simp; omega)
  rw [hj] at hc
  exact hc
theorem dig2 (v : Nat) (w : World) (h : v ≤ 10000000) : Calls Tryd.prog 31 #[.int .i64 (v : Int), .int .i64 2] w fun e w' => e = .returned (.string (str (digL v 2))) ∧ Below w.heap.size w w' := digits_any v 2 w h (by omega)
theorem dig1 (v : Nat) (w : World) (h : v ≤ 10000000) : Calls Tryd.prog 31 #[.int .i64 (v : Int), .int .i64 1] w fun e w' => e = .returned (.string (str (digL v 1))) ∧ Below w.heap.size w w' := digits_any v 1 w h (by omega)
theorem dig4 (v : Nat) (w : World) (h : v ≤ 10000000) : Calls Tryd.prog 31 #[.int .i64 (v : Int), .int .i64 4] w fun e w' => e = .returned (.string (str (digL v 4))) ∧ Below w.heap.size w w' := digits_any v 4 w h (by omega)
theorem format_no (s z : Int) (w : World) (h : mayD s z = false) (hs : -9223372036854775808 ≤ s ∧ s ≤ 9223372036854775807) (hz : -9223372036854775808 ≤ z ∧ z ≤ 9223372036854775807) :
    Calls Tryd.prog 14 #[.agg #[.int .i64 s, .int .i64 z]] w fun e w' => e = .returned (.tuple #[.string ⟨#[]⟩, .int .i64 1]) ∧ Below w.heap.size w w' := by
  obtain ⟨x0, x1⟩ := date_box w s z
  have HB := hid (box_below w s z)
  have hma := fun w => dmay_any s z w hs hz
  rw [h] at hma
  have HMA := hid hma
  clear hma h hs hz
  go_enter Tryd.func14, Tryd.ntmps14
  go_wp2_with (go_at_call 16; (with_reducible refine (HMA.out _).mono ?_); rintro e w1 ⟨rfl, b1⟩; have HB := hid (next HB.out b1); clear b1)
  go_ret2
  exact ⟨rfl, HB.out⟩
set_option maxHeartbeats 4000000 in
theorem format_yes (s z : Int) (w : World) (h : mayD s z = true) :
    Calls Tryd.prog 14 #[.agg #[.int .i64 s, .int .i64 z]] w fun e w' => e = .returned (.tuple #[.string (str (formL s z)), .int .i64 0]) ∧ Below w.heap.size w w' := by
  obtain ⟨x0, x1⟩ := date_box w s z
  have HB := hid (box_below w s z)
  have hma := fun w => dmay_any s z w (by have := mayD_facts h; omega) (by have := mayD_facts h; omega)
  rw [h] at hma
  have HMA := hid hma
  have HLO := hid (fun w => local_any s z w (by have := mayD_facts h; omega) (by have := mayD_facts h; omega) (by have := mayD_facts h; omega) (by have := mayD_facts h; omega))
  have HSP := hid (fun w => split_any (s + 60 * z) w (by have := mayD_facts h; omega) (by have := mayD_facts h; omega))
  obtain ⟨f1, f2, f3, f4, f5, f6⟩ := mayD_facts h
  have hcv := civ_is f3 f4
  have hci := fun w => civil_yes ((s + 60 * z) / 86400) w f3 f4
  obtain ⟨t, ht⟩ : ∃ t : Nat, (s + 60 * z) % 86400 = t := ⟨((s + 60 * z) % 86400).toNat, by omega⟩
  have htb : t < 86400 := by omega
  have hform : formL s z = formP (civ ((s + 60 * z) / 86400)).2.2 (civ ((s + 60 * z) / 86400)).2.1 (civ ((s + 60 * z) / 86400)).1 t z.natAbs (decide (z < 0)) := by unfold formL; rw [ht]; rfl
  rw [ht] at HSP
  obtain ⟨D, hD⟩ : ∃ D, (s + 60 * z) / 86400 = D := ⟨_, rfl⟩
  rw [hD] at hcv hci hform HSP f3 f4
  obtain ⟨⟨y, m, dd⟩, hy⟩ : ∃ c, civ D = c := ⟨_, rfl⟩
  rw [hy] at hcv hci hform
  obtain ⟨⟨v1, v2, v3, v4, v5, v6⟩, _⟩ := hcv
  dsimp only at v1 v2 v3 v4 v5 v6
  have hll := (long_le y m).2
  have hd31 : dd ≤ 31 := Nat.le_trans v6 hll
  have HCI := hid hci
  rw [hform]
  clear hma h hci hform hy ht hD v6 hll
  by_cases hneg : z < 0
  · obtain ⟨n, rfl⟩ : ∃ n : Nat, z = -(n : Int) := ⟨z.natAbs, by omega⟩
    have e1 : (-(n : Int)).natAbs = n := by omega
    have hd : decide (-(n : Int) < 0) = true := by simpa using hneg
    have hd' : decide (0 < n) = true := by simp; omega
    rw [e1, hd]
    obtain ⟨sg, hsg⟩ : ∃ b, true = b := ⟨_, rfl⟩
    rw [hsg]
    have hn0 : n ≤ 1439 := by omega
    clear e1
    obtain ⟨a, ha⟩ : ∃ a, t / 3600 = a := ⟨_, rfl⟩
    obtain ⟨u, hu⟩ : ∃ u, t / 60 = u := ⟨_, rfl⟩
    obtain ⟨b, hb⟩ : ∃ b, u % 60 = b := ⟨_, rfl⟩
    obtain ⟨c, hc⟩ : ∃ c, t % 60 = c := ⟨_, rfl⟩
    obtain ⟨e, he⟩ : ∃ e, n / 60 = e := ⟨_, rfl⟩
    obtain ⟨f, hf⟩ : ∃ f, n % 60 = f := ⟨_, rfl⟩
    have i1 : (t : Int) / 3600 = (a : Int) := by omega
    have i2 : (t : Int) / 60 = (u : Int) := by omega
    have i3 : (u : Int) % 60 = (b : Int) := by omega
    have i4 : (t : Int) % 60 = (c : Int) := by omega
    have i5 : (n : Int) / 60 = (e : Int) := by omega
    have i6 : (n : Int) % 60 = (f : Int) := by omega
    have j1 : Int.tdiv (t : Int) 3600 = (a : Int) := by rw [Int.tdiv_eq_ediv_of_nonneg (by omega)]; exact i1
    have j2 : Int.tdiv (t : Int) 60 = (u : Int) := by rw [Int.tdiv_eq_ediv_of_nonneg (by omega)]; exact i2
    have j3 : Int.tmod (u : Int) 60 = (b : Int) := by rw [Int.tmod_eq_emod_of_nonneg (by omega)]; exact i3
    have j4 : Int.tmod (t : Int) 60 = (c : Int) := by rw [Int.tmod_eq_emod_of_nonneg (by omega)]; exact i4
    have j5 : Int.tdiv (n : Int) 60 = (e : Int) := by rw [Int.tdiv_eq_ediv_of_nonneg (by omega)]; exact i5
    have j6 : Int.tmod (n : Int) 60 = (f : Int) := by rw [Int.tmod_eq_emod_of_nonneg (by omega)]; exact i6
    have ab : a ≤ 23 := by omega
    have bb : b ≤ 59 := by omega
    have cb : c ≤ 59 := by omega
    have eb : e ≤ 23 := by omega
    have fb : f ≤ 59 := by omega
    have ub : u ≤ 1439 := by omega
    have hform2 : formP dd m y t n sg = (if dd < 10 then 32 :: digL dd 1 else digL dd 2) ++ ([45] ++ (monL (m - 1) ++ ([45] ++ (digL y 4 ++ ([32] ++ (digL a 2 ++ ([58] ++ (digL b 2 ++ ([58] ++ (digL c 2 ++ ([32] ++ ((if sg then [45] else [43]) ++ (digL e 2 ++ digL f 2))))))))))))) := by
      unfold formP
      rw [ha, hu, hb, hc, he, hf]
    rw [hform2]
    have HYB : Hid (y ≤ 9999) := hid v2
    have HM := hid (fun w => months_any w)
    have hix := index_mon (m - 1) (by omega)
    have hm1 : ((m - 1 : Nat) : Int) = (m : Int) - 1 := by omega
    rw [hm1] at hix
    obtain ⟨mv, hmv⟩ : ∃ v, monV = v := ⟨_, rfl⟩
    rw [hmv] at HM hix
    obtain ⟨ml, hml⟩ : ∃ v, monL (m - 1) = v := ⟨_, rfl⟩
    have hmll := monL_len (i := m - 1) (by omega)
    rw [hml] at hix hmll ⊢
    have HML := hid hmll
    clear ha hu hb hc he hf hmv hm1 hform2 hml hmll
    subst hsg
    by_cases h10 : dd < 10
    · have d10 : decide (dd < 10) = true := by simpa using h10
      have d10' : decide ((dd : Int) < 10) = true := by simp; omega
      rw [if_pos h10]
      obtain ⟨F, hF⟩ : ∃ F, 32 :: digL dd 1 = F := ⟨_, rfl⟩
      rw [hF]
      obtain ⟨OUT, hOUT⟩ : ∃ o, F ++ ([45] ++ (ml ++ ([45] ++ (digL y 4 ++ ([32] ++ (digL a 2 ++ ([58] ++ (digL b 2 ++ ([58] ++ (digL c 2 ++ ([32] ++ ((if true = true then [45] else [43]) ++ (digL e 2 ++ digL f 2))))))))))))) = o := ⟨_, rfl⟩
      rw [hOUT]
      have HOUT := hid hOUT
      clear hOUT
      have HF := hid hF
      clear hF
      go_enter Tryd.func14, Tryd.ntmps14
      go_upto_region 6 with (first
        | (go_at_call 16; (with_reducible refine (HMA.out _).mono ?_); rintro e' w1 ⟨rfl, b1⟩; have x0 := cells_keep b1 x0; have x1 := cells_keep b1 x1; have HB := hid (next HB.out b1); clear b1)
        | (go_at_call 30; (with_reducible refine (HLO.out _).mono ?_); rintro e' w2 ⟨rfl, b1⟩; have x0 := cells_keep b1 x0; have x1 := cells_keep b1 x1; have HB := hid (next HB.out b1); clear b1)
        | (go_at_call 29; (with_reducible refine (HSP.out _).mono ?_); rintro e' w3 ⟨rfl, rfl⟩)
        | (go_at_call 10; (with_reducible refine (HCI.out _).mono ?_); rintro e' w4 ⟨rfl, rfl⟩)
        | (go_at_call 31; (with_reducible refine (dig2 dd _ (by omega)).mono ?_); rintro e' w5 ⟨rfl, b1⟩; have x0 := cells_keep b1 x0; have x1 := cells_keep b1 x1; have HB := hid (next HB.out b1); clear b1))
      have hF := HF.out
      obtain ⟨q1, hq1⟩ : ∃ q, digL dd 1 = q := ⟨_, rfl⟩
      have hql : q1.length = 1 := by rw [← hq1, digL_len]
      have HFL := hid (show F.length = 2 by rw [← hF, List.length_cons, digL_len])
      have hd1 := fun w => dig1 dd w (by omega)
      rw [hq1] at hd1 hF
      have HD1 := hid hd1
      have hsz : (str q1).size = 1 := hql
      have hap : (⟨#[32]⟩ : ByteArray) ++ str q1 = str F := by rw [← hF]; exact str_append [32] q1
      have hno : ¬ 9223372036854775807 < 1 + (str q1).size := by omega
      clear hq1 hql hF hd1
      go_upto_region 8 with (go_at_call 31; (with_reducible refine (HD1.out _).mono ?_); rintro e' w5 ⟨rfl, b1⟩; have x0 := cells_keep b1 x0; have x1 := cells_keep b1 x1; have HB := hid (next HB.out b1); clear b1)
      go_quiet (fail)
      have HB := hid (bq HB.out nq)
      generalize w5.drewN nq = w6 at *
      go_upto_region 11 with fail
      have HB : Hid (Below w.heap.size w w6.drew) := hid (bq HB.out 1)
      have yb7 : y ≤ 10000000 := by omega
      have ab7 : a ≤ 10000000 := by omega
      have bb7 : b ≤ 10000000 := by omega
      have cb7 : c ≤ 10000000 := by omega
      have eb7 : e ≤ 10000000 := by omega
      have fb7 : f ≤ 10000000 := by omega
      have k1 : IntKind.i64.wrap ((m : Int) - 1) = (m : Int) - 1 := by rw [IntKind.wrap_i64]; omega
      have k2 : IntKind.i64.wrap (a : Int) = (a : Int) := by rw [IntKind.wrap_i64]; omega
      have k3 : IntKind.i64.wrap (u : Int) = (u : Int) := by rw [IntKind.wrap_i64]; omega
      have k4 : IntKind.i64.wrap (b : Int) = (b : Int) := by rw [IntKind.wrap_i64]; omega
      have k5 : IntKind.i64.wrap (c : Int) = (c : Int) := by rw [IntKind.wrap_i64]; omega
      have k6 : IntKind.i64.wrap (e : Int) = (e : Int) := by rw [IntKind.wrap_i64]; omega
      have k7 : IntKind.i64.wrap (f : Int) = (f : Int) := by rw [IntKind.wrap_i64]; omega
      refine wp_region_noPanic ?_
      refine wp_region_held_drew (S := (fun W => True)) (by kernel_rfl) (by first | assumption | trivial) (fun hHeld => ?_)
      refine wpAnyH_take (i := 0) (v := ?_) rfl (by kernel_rfl) (by kernel_rfl) (by kernel_rfl) (fun _ _ _ h => h) (Or.inl ⟨by kernel_rfl, ?_⟩) (by first | assumption | trivial) ?_
      rotate_left
      · (intro wS hSw; (try dsimp only at hSw); go_simp; try with_reducible rfl)
      (try simp only [List.append_eq, List.cons_append, List.nil_append, List.getElem_toArray, List.getElem_cons_succ, List.getElem_cons_zero, Act.put, List.setIfInBounds_toArray, List.set_cons_zero, List.set_cons_succ])
      refine wpAnyH_take (i := 2) (v := ?_) rfl (by kernel_rfl) (by kernel_rfl) (by kernel_rfl) (fun _ _ _ h => h) (Or.inl ⟨by kernel_rfl, ?_⟩) (by first | assumption | trivial) ?_
      rotate_left
      · (intro wS hSw; (try dsimp only at hSw); go_simp; try with_reducible rfl)
      (try simp only [List.append_eq, List.cons_append, List.nil_append, List.getElem_toArray, List.getElem_cons_succ, List.getElem_cons_zero, Act.put, List.setIfInBounds_toArray, List.set_cons_zero, List.set_cons_succ])
      refine wpAnyH_take (i := 3) (v := ?_) rfl (by kernel_rfl) (by kernel_rfl) (by kernel_rfl) (fun _ _ _ h => h) (Or.inl ⟨by kernel_rfl, ?_⟩) (by first | assumption | trivial) ?_
      rotate_left
      · (intro wS hSw; (try dsimp only at hSw); go_simp; try with_reducible rfl)
      (try simp only [List.append_eq, List.cons_append, List.nil_append, List.getElem_toArray, List.getElem_cons_succ, List.getElem_cons_zero, Act.put, List.setIfInBounds_toArray, List.set_cons_zero, List.set_cons_succ])
      refine wpAnyH_take (i := 5) (v := ?_) rfl (by kernel_rfl) (by kernel_rfl) (by kernel_rfl) (fun _ _ _ h => h) (Or.inl ⟨by kernel_rfl, ?_⟩) (by first | assumption | trivial) ?_
      rotate_left
      · (intro wS hSw; (try dsimp only at hSw); go_simp; try with_reducible rfl)
      (try simp only [List.append_eq, List.cons_append, List.nil_append, List.getElem_toArray, List.getElem_cons_succ, List.getElem_cons_zero, Act.put, List.setIfInBounds_toArray, List.set_cons_zero, List.set_cons_succ])
      refine wpAnyH_take (i := 7) (v := ?_) rfl (by kernel_rfl) (by kernel_rfl) (by kernel_rfl) (fun _ _ _ h => h) (Or.inl ⟨by kernel_rfl, ?_⟩) (by first | assumption | trivial) ?_
      rotate_left
      · (intro wS hSw; (try dsimp only at hSw); go_simp; try with_reducible rfl)
      (try simp only [List.append_eq, List.cons_append, List.nil_append, List.getElem_toArray, List.getElem_cons_succ, List.getElem_cons_zero, Act.put, List.setIfInBounds_toArray, List.set_cons_zero, List.set_cons_succ])
      refine wpAnyH_take (i := 8) (v := ?_) rfl (by kernel_rfl) (by kernel_rfl) (by kernel_rfl) (fun _ _ _ h => h) (Or.inl ⟨by kernel_rfl, ?_⟩) (by first | assumption | trivial) ?_
      rotate_left
      · (intro wS hSw; (try dsimp only at hSw); go_simp; try with_reducible rfl)
      (try simp only [List.append_eq, List.cons_append, List.nil_append, List.getElem_toArray, List.getElem_cons_succ, List.getElem_cons_zero, Act.put, List.setIfInBounds_toArray, List.set_cons_zero, List.set_cons_succ])
      refine wpAnyH_take (i := 10) (v := ?_) rfl (by kernel_rfl) (by kernel_rfl) (by kernel_rfl) (fun _ _ _ h => h) (Or.inl ⟨by kernel_rfl, ?_⟩) (by first | assumption | trivial) ?_
      rotate_left
      · (intro wS hSw; (try dsimp only at hSw); go_simp; try with_reducible rfl)
      (try simp only [List.append_eq, List.cons_append, List.nil_append, List.getElem_toArray, List.getElem_cons_succ, List.getElem_cons_zero, Act.put, List.setIfInBounds_toArray, List.set_cons_zero, List.set_cons_succ])
      refine wpAnyH_take (i := 11) (v := ?_) rfl (by kernel_rfl) (by kernel_rfl) (by kernel_rfl) (fun _ _ _ h => h) (Or.inl ⟨by kernel_rfl, ?_⟩) (by first | assumption | trivial) ?_
      rotate_left
      · (intro wS hSw; (try dsimp only at hSw); go_simp; try with_reducible rfl)
      (try simp only [List.append_eq, List.cons_append, List.nil_append, List.getElem_toArray, List.getElem_cons_succ, List.getElem_cons_zero, Act.put, List.setIfInBounds_toArray, List.set_cons_zero, List.set_cons_succ])
      refine wpAnyH_take (i := 12) (v := ?_) rfl (by kernel_rfl) (by kernel_rfl) (by kernel_rfl) (fun _ _ _ h => h) (Or.inl ⟨by kernel_rfl, ?_⟩) (by first | assumption | trivial) ?_
      rotate_left
      · (intro wS hSw; (try dsimp only at hSw); go_simp; try with_reducible rfl)
      (try simp only [List.append_eq, List.cons_append, List.nil_append, List.getElem_toArray, List.getElem_cons_succ, List.getElem_cons_zero, Act.put, List.setIfInBounds_toArray, List.set_cons_zero, List.set_cons_succ])
      refine wpAnyH_take (i := 14) (v := ?_) rfl (by kernel_rfl) (by kernel_rfl) (by kernel_rfl) (fun _ _ _ h => h) (Or.inl ⟨by kernel_rfl, ?_⟩) (by first | assumption | trivial) ?_
      rotate_left
      · (intro wS hSw; (try dsimp only at hSw); go_simp; try with_reducible rfl)
      (try simp only [List.append_eq, List.cons_append, List.nil_append, List.getElem_toArray, List.getElem_cons_succ, List.getElem_cons_zero, Act.put, List.setIfInBounds_toArray, List.set_cons_zero, List.set_cons_succ])
      refine wpAnyH_take (i := 15) (v := ?_) rfl (by kernel_rfl) (by kernel_rfl) (by kernel_rfl) (fun _ _ _ h => h) (Or.inl ⟨by kernel_rfl, ?_⟩) (by first | assumption | trivial) ?_
      rotate_left
      · (intro wS hSw; (try dsimp only at hSw); go_simp; try with_reducible rfl)
      (try simp only [List.append_eq, List.cons_append, List.nil_append, List.getElem_toArray, List.getElem_cons_succ, List.getElem_cons_zero, Act.put, List.setIfInBounds_toArray, List.set_cons_zero, List.set_cons_succ])
      refine wpAnyH_take (i := 17) (v := ?_) rfl (by kernel_rfl) (by kernel_rfl) (by kernel_rfl) (fun _ _ _ h => h) (Or.inl ⟨by kernel_rfl, ?_⟩) (by first | assumption | trivial) ?_
      rotate_left
      · (intro wS hSw; (try dsimp only at hSw); go_simp; try with_reducible rfl)
      (try simp only [List.append_eq, List.cons_append, List.nil_append, List.getElem_toArray, List.getElem_cons_succ, List.getElem_cons_zero, Act.put, List.setIfInBounds_toArray, List.set_cons_zero, List.set_cons_succ])
      refine wpAnyH_take (i := 18) (v := ?_) rfl (by kernel_rfl) (by kernel_rfl) (by kernel_rfl) (fun _ _ _ h => h) (Or.inl ⟨by kernel_rfl, ?_⟩) (by first | assumption | trivial) ?_
      rotate_left
      · (intro wS hSw; (try dsimp only at hSw); go_simp; try with_reducible rfl)
      (try simp only [List.append_eq, List.cons_append, List.nil_append, List.getElem_toArray, List.getElem_cons_succ, List.getElem_cons_zero, Act.put, List.setIfInBounds_toArray, List.set_cons_zero, List.set_cons_succ])
      refine wpAnyH_take (i := 19) (v := ?_) rfl (by kernel_rfl) (by kernel_rfl) (by kernel_rfl) (fun _ _ _ h => h) (Or.inl ⟨by kernel_rfl, ?_⟩) (by first | assumption | trivial) ?_
      rotate_left
      · (intro wS hSw; (try dsimp only at hSw); go_simp; try with_reducible rfl)
      (try simp only [List.append_eq, List.cons_append, List.nil_append, List.getElem_toArray, List.getElem_cons_succ, List.getElem_cons_zero, Act.put, List.setIfInBounds_toArray, List.set_cons_zero, List.set_cons_succ])
      refine wpAnyH_take (i := 21) (v := ?_) rfl (by kernel_rfl) (by kernel_rfl) (by kernel_rfl) (fun _ _ _ h => h) (Or.inl ⟨by kernel_rfl, ?_⟩) (by first | assumption | trivial) ?_
      rotate_left
      · (intro wS hSw; (try dsimp only at hSw); go_simp; try with_reducible rfl)
      (try simp only [List.append_eq, List.cons_append, List.nil_append, List.getElem_toArray, List.getElem_cons_succ, List.getElem_cons_zero, Act.put, List.setIfInBounds_toArray, List.set_cons_zero, List.set_cons_succ])
      refine wpAnyH_take (i := 22) (v := ?_) rfl (by kernel_rfl) (by kernel_rfl) (by kernel_rfl) (fun _ _ _ h => h) (Or.inl ⟨by kernel_rfl, ?_⟩) (by first | assumption | trivial) ?_
      rotate_left
      · (intro wS hSw; (try dsimp only at hSw); go_simp; try with_reducible rfl)
      (try simp only [List.append_eq, List.cons_append, List.nil_append, List.getElem_toArray, List.getElem_cons_succ, List.getElem_cons_zero, Act.put, List.setIfInBounds_toArray, List.set_cons_zero, List.set_cons_succ])
      refine wpAnyH_ready (rs := [1]) (by kernel_rfl) (by simp) ?_
      refine AllReadyH.cons rfl (fun K hK => ?_) AllReadyH.nil
      go_simp
      (go_at_call 33; (with_reducible refine (HM.out _).mono ?_); rintro e' w7 ⟨rfl, b1⟩; have HB := hid (next HB.out b1); clear b1)
      go_wp2_with fail
      refine hK.out _ _ (by first | assumption | trivial) (fun hHeld => ?_)
      clear hK K
      (try simp only [List.append_eq, List.cons_append, List.nil_append, List.getElem_toArray, List.getElem_cons_succ, List.getElem_cons_zero, Act.put, List.setIfInBounds_toArray, List.set_cons_zero, List.set_cons_succ])
      refine wpAnyH_take (i := 4) (v := ?_) rfl (by kernel_rfl) (by kernel_rfl) (by kernel_rfl) (fun _ _ _ h => h) (Or.inl ⟨by kernel_rfl, ?_⟩) (by first | assumption | trivial) ?_
      rotate_left
      · (intro wS hSw; (try dsimp only at hSw); go_simp; try with_reducible rfl)
      (try simp only [List.append_eq, List.cons_append, List.nil_append, List.getElem_toArray, List.getElem_cons_succ, List.getElem_cons_zero, Act.put, List.setIfInBounds_toArray, List.set_cons_zero, List.set_cons_succ])
      refine wpAnyH_ready (rs := [6]) (by kernel_rfl) (by simp) ?_
      refine AllReadyH.cons rfl (fun K hK => ?_) AllReadyH.nil
      go_simp
      (go_at_call 31; (with_reducible refine (dig4 y _ yb7).mono ?_); rintro e' w8 ⟨rfl, b1⟩; have HB := hid (next HB.out b1); clear b1)
      go_wp2_with fail
      refine hK.out _ _ (by first | assumption | trivial) (fun hHeld => ?_)
      clear hK K
      (try simp only [List.append_eq, List.cons_append, List.nil_append, List.getElem_toArray, List.getElem_cons_succ, List.getElem_cons_zero, Act.put, List.setIfInBounds_toArray, List.set_cons_zero, List.set_cons_succ])
      refine wpAnyH_ready (rs := [9]) (by kernel_rfl) (by simp) ?_
      refine AllReadyH.cons rfl (fun K hK => ?_) AllReadyH.nil
      go_simp
      (go_at_call 31; (with_reducible refine (dig2 a _ ab7).mono ?_); rintro e' w9 ⟨rfl, b1⟩; have HB := hid (next HB.out b1); clear b1)
      go_wp2_with fail
      refine hK.out _ _ (by first | assumption | trivial) (fun hHeld => ?_)
      clear hK K
      (try simp only [List.append_eq, List.cons_append, List.nil_append, List.getElem_toArray, List.getElem_cons_succ, List.getElem_cons_zero, Act.put, List.setIfInBounds_toArray, List.set_cons_zero, List.set_cons_succ])
      refine wpAnyH_ready (rs := [13]) (by kernel_rfl) (by simp) ?_
      refine AllReadyH.cons rfl (fun K hK => ?_) AllReadyH.nil
      go_simp
      (go_at_call 31; (with_reducible refine (dig2 b _ bb7).mono ?_); rintro e' w10 ⟨rfl, b1⟩; have HB := hid (next HB.out b1); clear b1)
      go_wp2_with fail
      refine hK.out _ _ (by first | assumption | trivial) (fun hHeld => ?_)
      clear hK K
      (try simp only [List.append_eq, List.cons_append, List.nil_append, List.getElem_toArray, List.getElem_cons_succ, List.getElem_cons_zero, Act.put, List.setIfInBounds_toArray, List.set_cons_zero, List.set_cons_succ])
      refine wpAnyH_ready (rs := [16]) (by kernel_rfl) (by simp) ?_
      refine AllReadyH.cons rfl (fun K hK => ?_) AllReadyH.nil
      go_simp
      (go_at_call 31; (with_reducible refine (dig2 c _ cb7).mono ?_); rintro e' w11 ⟨rfl, b1⟩; have HB := hid (next HB.out b1); clear b1)
      go_wp2_with fail
      refine hK.out _ _ (by first | assumption | trivial) (fun hHeld => ?_)
      clear hK K
      (try simp only [List.append_eq, List.cons_append, List.nil_append, List.getElem_toArray, List.getElem_cons_succ, List.getElem_cons_zero, Act.put, List.setIfInBounds_toArray, List.set_cons_zero, List.set_cons_succ])
      refine wpAnyH_ready (rs := [20]) (by kernel_rfl) (by simp) ?_
      refine AllReadyH.cons rfl (fun K hK => ?_) AllReadyH.nil
      go_simp
      (go_at_call 31; (with_reducible refine (dig2 e _ eb7).mono ?_); rintro e' w12 ⟨rfl, b1⟩; have HB := hid (next HB.out b1); clear b1)
      go_wp2_with fail
      refine hK.out _ _ (by first | assumption | trivial) (fun hHeld => ?_)
      clear hK K
      (try simp only [List.append_eq, List.cons_append, List.nil_append, List.getElem_toArray, List.getElem_cons_succ, List.getElem_cons_zero, Act.put, List.setIfInBounds_toArray, List.set_cons_zero, List.set_cons_succ])
      refine wpAnyH_ready (rs := [23]) (by kernel_rfl) (by simp) ?_
      refine AllReadyH.cons rfl (fun K hK => ?_) AllReadyH.nil
      go_simp
      (go_at_call 31; (with_reducible refine (dig2 f _ fb7).mono ?_); rintro e' w13 ⟨rfl, b1⟩; have HB := hid (next HB.out b1); clear b1)
      go_wp2_with fail
      refine hK.out _ _ (by first | assumption | trivial) (fun hHeld => ?_)
      clear hK K
      (try simp only [List.append_eq, List.cons_append, List.nil_append, List.getElem_toArray, List.getElem_cons_succ, List.getElem_cons_zero, Act.put, List.setIfInBounds_toArray, List.set_cons_zero, List.set_cons_succ])
      refine wpAnyH_ready (rs := [24]) (by kernel_rfl) (by simp) ?_
      refine AllReadyH.cons rfl (fun K hK => ?_) AllReadyH.nil
      go_simp
      refine hK.out _ _ trivial (fun hHeld => ?_)
      clear hK K
      (try simp only [List.getElem_toArray, List.getElem_cons_succ, List.getElem_cons_zero, Act.put, List.setIfInBounds_toArray, List.set_cons_zero, List.set_cons_succ])
      refine wpAnyH_ready (rs := [25]) (by kernel_rfl) (by simp) ?_
      refine AllReadyH.cons rfl (fun K hK => ?_) AllReadyH.nil
      go_simp
      (go_at_call 32; refine (join15 _ w13.heap.size F ml (digL y 4) (digL a 2) (digL b 2) (digL c 2) [45] (digL e 2) (digL f 2) (heap_alloc_new w13 _) (by simp only [digL_len, HFL.out, HML.out, List.length_cons, List.length_nil]; decide)).mono ?_; rintro e' w14 ⟨rfl, b1⟩; have HB := hid (next (HB.out.alloc HB.out.size _) b1); clear b1)
      go_wp2_with fail
      refine hK.out _ _ (by first | assumption | trivial) (fun hHeld => ?_)
      clear hK K
      (try simp only [List.append_eq, List.cons_append, List.nil_append, List.getElem_toArray, List.getElem_cons_succ, List.getElem_cons_zero, Act.put, List.setIfInBounds_toArray, List.set_cons_zero, List.set_cons_succ])
      refine wpAnyH_take (i := 26) (v := ?_) rfl (by kernel_rfl) (by kernel_rfl) (by kernel_rfl) (fun _ _ _ h => h) (Or.inl ⟨by kernel_rfl, ?_⟩) (by first | assumption | trivial) ?_
      rotate_left
      · (intro wS hSw; (try dsimp only at hSw); go_simp; try with_reducible rfl)
      (try simp only [List.append_eq, List.cons_append, List.nil_append, List.getElem_toArray, List.getElem_cons_succ, List.getElem_cons_zero, Act.put, List.setIfInBounds_toArray, List.set_cons_zero, List.set_cons_succ])
      refine wpAnyH_take (i := 27) (v := ?_) rfl (by kernel_rfl) (by kernel_rfl) (by kernel_rfl) (fun _ _ _ h => h) (Or.inl ⟨by kernel_rfl, ?_⟩) (by first | assumption | trivial) ?_
      rotate_left
      · (intro wS hSw; (try dsimp only at hSw); go_simp; try with_reducible rfl)
      (try simp only [List.append_eq, List.cons_append, List.nil_append, List.getElem_toArray, List.getElem_cons_succ, List.getElem_cons_zero, Act.put, List.setIfInBounds_toArray, List.set_cons_zero, List.set_cons_succ])
      refine wpAnyH_done (by kernel_rfl) ?_ _
      refine NoPanic.normal ?_
      go_wp2_with fail
      go_ret2
      exact ⟨by rw [← HOUT.out]; rfl, HB.out⟩
    · have d10 : decide (dd < 10) = false := by simpa using h10
      have d10' : decide ((dd : Int) < 10) = false := by simp; omega
      rw [if_neg h10]
      obtain ⟨F, hF⟩ : ∃ F, digL dd 2 = F := ⟨_, rfl⟩
      rw [hF]
      obtain ⟨OUT, hOUT⟩ : ∃ o, F ++ ([45] ++ (ml ++ ([45] ++ (digL y 4 ++ ([32] ++ (digL a 2 ++ ([58] ++ (digL b 2 ++ ([58] ++ (digL c 2 ++ ([32] ++ ((if true = true then [45] else [43]) ++ (digL e 2 ++ digL f 2))))))))))))) = o := ⟨_, rfl⟩
      rw [hOUT]
      have HOUT := hid hOUT
      clear hOUT
      have HF := hid hF
      clear hF
      go_enter Tryd.func14, Tryd.ntmps14
      go_upto_region 6 with (first
        | (go_at_call 16; (with_reducible refine (HMA.out _).mono ?_); rintro e' w1 ⟨rfl, b1⟩; have x0 := cells_keep b1 x0; have x1 := cells_keep b1 x1; have HB := hid (next HB.out b1); clear b1)
        | (go_at_call 30; (with_reducible refine (HLO.out _).mono ?_); rintro e' w2 ⟨rfl, b1⟩; have x0 := cells_keep b1 x0; have x1 := cells_keep b1 x1; have HB := hid (next HB.out b1); clear b1)
        | (go_at_call 29; (with_reducible refine (HSP.out _).mono ?_); rintro e' w3 ⟨rfl, rfl⟩)
        | (go_at_call 10; (with_reducible refine (HCI.out _).mono ?_); rintro e' w4 ⟨rfl, rfl⟩)
        | (go_at_call 31; (with_reducible refine (dig2 dd _ (by omega)).mono ?_); rintro e' w5 ⟨rfl, b1⟩; have x0 := cells_keep b1 x0; have x1 := cells_keep b1 x1; have HB := hid (next HB.out b1); clear b1))
      have hF := HF.out
      have HFL := hid (show F.length = 2 by rw [← hF, digL_len])
      rw [hF]
      clear hF
      go_upto_region 8 with fail
      go_quiet (fail)
      have HB := hid (bq HB.out nq)
      generalize w5.drewN nq = w6 at *
      go_upto_region 11 with fail
      have HB : Hid (Below w.heap.size w w6.drew) := hid (bq HB.out 1)
      have yb7 : y ≤ 10000000 := by omega
      have ab7 : a ≤ 10000000 := by omega
      have bb7 : b ≤ 10000000 := by omega
      have cb7 : c ≤ 10000000 := by omega
      have eb7 : e ≤ 10000000 := by omega
      have fb7 : f ≤ 10000000 := by omega
      have k1 : IntKind.i64.wrap ((m : Int) - 1) = (m : Int) - 1 := by rw [IntKind.wrap_i64]; omega
      have k2 : IntKind.i64.wrap (a : Int) = (a : Int) := by rw [IntKind.wrap_i64]; omega
      have k3 : IntKind.i64.wrap (u : Int) = (u : Int) := by rw [IntKind.wrap_i64]; omega
      have k4 : IntKind.i64.wrap (b : Int) = (b : Int) := by rw [IntKind.wrap_i64]; omega
      have k5 : IntKind.i64.wrap (c : Int) = (c : Int) := by rw [IntKind.wrap_i64]; omega
      have k6 : IntKind.i64.wrap (e : Int) = (e : Int) := by rw [IntKind.wrap_i64]; omega
      have k7 : IntKind.i64.wrap (f : Int) = (f : Int) := by rw [IntKind.wrap_i64]; omega
      refine wp_region_noPanic ?_
      refine wp_region_held_drew (S := (fun W => True)) (by kernel_rfl) (by first | assumption | trivial) (fun hHeld => ?_)
      refine wpAnyH_take (i := 0) (v := ?_) rfl (by kernel_rfl) (by kernel_rfl) (by kernel_rfl) (fun _ _ _ h => h) (Or.inl ⟨by kernel_rfl, ?_⟩) (by first | assumption | trivial) ?_
      rotate_left
      · (intro wS hSw; (try dsimp only at hSw); go_simp; try with_reducible rfl)
      (try simp only [List.append_eq, List.cons_append, List.nil_append, List.getElem_toArray, List.getElem_cons_succ, List.getElem_cons_zero, Act.put, List.setIfInBounds_toArray, List.set_cons_zero, List.set_cons_succ])
      refine wpAnyH_take (i := 2) (v := ?_) rfl (by kernel_rfl) (by kernel_rfl) (by kernel_rfl) (fun _ _ _ h => h) (Or.inl ⟨by kernel_rfl, ?_⟩) (by first | assumption | trivial) ?_
      rotate_left
      · (intro wS hSw; (try dsimp only at hSw); go_simp; try with_reducible rfl)
      (try simp only [List.append_eq, List.cons_append, List.nil_append, List.getElem_toArray, List.getElem_cons_succ, List.getElem_cons_zero, Act.put, List.setIfInBounds_toArray, List.set_cons_zero, List.set_cons_succ])
      refine wpAnyH_take (i := 3) (v := ?_) rfl (by kernel_rfl) (by kernel_rfl) (by kernel_rfl) (fun _ _ _ h => h) (Or.inl ⟨by kernel_rfl, ?_⟩) (by first | assumption | trivial) ?_
      rotate_left
      · (intro wS hSw; (try dsimp only at hSw); go_simp; try with_reducible rfl)
      (try simp only [List.append_eq, List.cons_append, List.nil_append, List.getElem_toArray, List.getElem_cons_succ, List.getElem_cons_zero, Act.put, List.setIfInBounds_toArray, List.set_cons_zero, List.set_cons_succ])
      refine wpAnyH_take (i := 5) (v := ?_) rfl (by kernel_rfl) (by kernel_rfl) (by kernel_rfl) (fun _ _ _ h => h) (Or.inl ⟨by kernel_rfl, ?_⟩) (by first | assumption | trivial) ?_
      rotate_left
      · (intro wS hSw; (try dsimp only at hSw); go_simp; try with_reducible rfl)
      (try simp only [List.append_eq, List.cons_append, List.nil_append, List.getElem_toArray, List.getElem_cons_succ, List.getElem_cons_zero, Act.put, List.setIfInBounds_toArray, List.set_cons_zero, List.set_cons_succ])
      refine wpAnyH_take (i := 7) (v := ?_) rfl (by kernel_rfl) (by kernel_rfl) (by kernel_rfl) (fun _ _ _ h => h) (Or.inl ⟨by kernel_rfl, ?_⟩) (by first | assumption | trivial) ?_
      rotate_left
      · (intro wS hSw; (try dsimp only at hSw); go_simp; try with_reducible rfl)
      (try simp only [List.append_eq, List.cons_append, List.nil_append, List.getElem_toArray, List.getElem_cons_succ, List.getElem_cons_zero, Act.put, List.setIfInBounds_toArray, List.set_cons_zero, List.set_cons_succ])
      refine wpAnyH_take (i := 8) (v := ?_) rfl (by kernel_rfl) (by kernel_rfl) (by kernel_rfl) (fun _ _ _ h => h) (Or.inl ⟨by kernel_rfl, ?_⟩) (by first | assumption | trivial) ?_
      rotate_left
      · (intro wS hSw; (try dsimp only at hSw); go_simp; try with_reducible rfl)
      (try simp only [List.append_eq, List.cons_append, List.nil_append, List.getElem_toArray, List.getElem_cons_succ, List.getElem_cons_zero, Act.put, List.setIfInBounds_toArray, List.set_cons_zero, List.set_cons_succ])
      refine wpAnyH_take (i := 10) (v := ?_) rfl (by kernel_rfl) (by kernel_rfl) (by kernel_rfl) (fun _ _ _ h => h) (Or.inl ⟨by kernel_rfl, ?_⟩) (by first | assumption | trivial) ?_
      rotate_left
      · (intro wS hSw; (try dsimp only at hSw); go_simp; try with_reducible rfl)
      (try simp only [List.append_eq, List.cons_append, List.nil_append, List.getElem_toArray, List.getElem_cons_succ, List.getElem_cons_zero, Act.put, List.setIfInBounds_toArray, List.set_cons_zero, List.set_cons_succ])
      refine wpAnyH_take (i := 11) (v := ?_) rfl (by kernel_rfl) (by kernel_rfl) (by kernel_rfl) (fun _ _ _ h => h) (Or.inl ⟨by kernel_rfl, ?_⟩) (by first | assumption | trivial) ?_
      rotate_left
      · (intro wS hSw; (try dsimp only at hSw); go_simp; try with_reducible rfl)
      (try simp only [List.append_eq, List.cons_append, List.nil_append, List.getElem_toArray, List.getElem_cons_succ, List.getElem_cons_zero, Act.put, List.setIfInBounds_toArray, List.set_cons_zero, List.set_cons_succ])
      refine wpAnyH_take (i := 12) (v := ?_) rfl (by kernel_rfl) (by kernel_rfl) (by kernel_rfl) (fun _ _ _ h => h) (Or.inl ⟨by kernel_rfl, ?_⟩) (by first | assumption | trivial) ?_
      rotate_left
      · (intro wS hSw; (try dsimp only at hSw); go_simp; try with_reducible rfl)
      (try simp only [List.append_eq, List.cons_append, List.nil_append, List.getElem_toArray, List.getElem_cons_succ, List.getElem_cons_zero, Act.put, List.setIfInBounds_toArray, List.set_cons_zero, List.set_cons_succ])
      refine wpAnyH_take (i := 14) (v := ?_) rfl (by kernel_rfl) (by kernel_rfl) (by kernel_rfl) (fun _ _ _ h => h) (Or.inl ⟨by kernel_rfl, ?_⟩) (by first | assumption | trivial) ?_
      rotate_left
      · (intro wS hSw; (try dsimp only at hSw); go_simp; try with_reducible rfl)
      (try simp only [List.append_eq, List.cons_append, List.nil_append, List.getElem_toArray, List.getElem_cons_succ, List.getElem_cons_zero, Act.put, List.setIfInBounds_toArray, List.set_cons_zero, List.set_cons_succ])
      refine wpAnyH_take (i := 15) (v := ?_) rfl (by kernel_rfl) (by kernel_rfl) (by kernel_rfl) (fun _ _ _ h => h) (Or.inl ⟨by kernel_rfl, ?_⟩) (by first | assumption | trivial) ?_
      rotate_left
      · (intro wS hSw; (try dsimp only at hSw); go_simp; try with_reducible rfl)
      (try simp only [List.append_eq, List.cons_append, List.nil_append, List.getElem_toArray, List.getElem_cons_succ, List.getElem_cons_zero, Act.put, List.setIfInBounds_toArray, List.set_cons_zero, List.set_cons_succ])
      refine wpAnyH_take (i := 17) (v := ?_) rfl (by kernel_rfl) (by kernel_rfl) (by kernel_rfl) (fun _ _ _ h => h) (Or.inl ⟨by kernel_rfl, ?_⟩) (by first | assumption | trivial) ?_
      rotate_left
      · (intro wS hSw; (try dsimp only at hSw); go_simp; try with_reducible rfl)
      (try simp only [List.append_eq, List.cons_append, List.nil_append, List.getElem_toArray, List.getElem_cons_succ, List.getElem_cons_zero, Act.put, List.setIfInBounds_toArray, List.set_cons_zero, List.set_cons_succ])
      refine wpAnyH_take (i := 18) (v := ?_) rfl (by kernel_rfl) (by kernel_rfl) (by kernel_rfl) (fun _ _ _ h => h) (Or.inl ⟨by kernel_rfl, ?_⟩) (by first | assumption | trivial) ?_
      rotate_left
      · (intro wS hSw; (try dsimp only at hSw); go_simp; try with_reducible rfl)
      (try simp only [List.append_eq, List.cons_append, List.nil_append, List.getElem_toArray, List.getElem_cons_succ, List.getElem_cons_zero, Act.put, List.setIfInBounds_toArray, List.set_cons_zero, List.set_cons_succ])
      refine wpAnyH_take (i := 19) (v := ?_) rfl (by kernel_rfl) (by kernel_rfl) (by kernel_rfl) (fun _ _ _ h => h) (Or.inl ⟨by kernel_rfl, ?_⟩) (by first | assumption | trivial) ?_
      rotate_left
      · (intro wS hSw; (try dsimp only at hSw); go_simp; try with_reducible rfl)
      (try simp only [List.append_eq, List.cons_append, List.nil_append, List.getElem_toArray, List.getElem_cons_succ, List.getElem_cons_zero, Act.put, List.setIfInBounds_toArray, List.set_cons_zero, List.set_cons_succ])
      refine wpAnyH_take (i := 21) (v := ?_) rfl (by kernel_rfl) (by kernel_rfl) (by kernel_rfl) (fun _ _ _ h => h) (Or.inl ⟨by kernel_rfl, ?_⟩) (by first | assumption | trivial) ?_
      rotate_left
      · (intro wS hSw; (try dsimp only at hSw); go_simp; try with_reducible rfl)
      (try simp only [List.append_eq, List.cons_append, List.nil_append, List.getElem_toArray, List.getElem_cons_succ, List.getElem_cons_zero, Act.put, List.setIfInBounds_toArray, List.set_cons_zero, List.set_cons_succ])
      refine wpAnyH_take (i := 22) (v := ?_) rfl (by kernel_rfl) (by kernel_rfl) (by kernel_rfl) (fun _ _ _ h => h) (Or.inl ⟨by kernel_rfl, ?_⟩) (by first | assumption | trivial) ?_
      rotate_left
      · (intro wS hSw; (try dsimp only at hSw); go_simp; try with_reducible rfl)
      (try simp only [List.append_eq, List.cons_append, List.nil_append, List.getElem_toArray, List.getElem_cons_succ, List.getElem_cons_zero, Act.put, List.setIfInBounds_toArray, List.set_cons_zero, List.set_cons_succ])
      refine wpAnyH_ready (rs := [1]) (by kernel_rfl) (by simp) ?_
      refine AllReadyH.cons rfl (fun K hK => ?_) AllReadyH.nil
      go_simp
      (go_at_call 33; (with_reducible refine (HM.out _).mono ?_); rintro e' w7 ⟨rfl, b1⟩; have HB := hid (next HB.out b1); clear b1)
      go_wp2_with fail
      refine hK.out _ _ (by first | assumption | trivial) (fun hHeld => ?_)
      clear hK K
      (try simp only [List.append_eq, List.cons_append, List.nil_append, List.getElem_toArray, List.getElem_cons_succ, List.getElem_cons_zero, Act.put, List.setIfInBounds_toArray, List.set_cons_zero, List.set_cons_succ])
      refine wpAnyH_take (i := 4) (v := ?_) rfl (by kernel_rfl) (by kernel_rfl) (by kernel_rfl) (fun _ _ _ h => h) (Or.inl ⟨by kernel_rfl, ?_⟩) (by first | assumption | trivial) ?_
      rotate_left
      · (intro wS hSw; (try dsimp only at hSw); go_simp; try with_reducible rfl)
      (try simp only [List.append_eq, List.cons_append, List.nil_append, List.getElem_toArray, List.getElem_cons_succ, List.getElem_cons_zero, Act.put, List.setIfInBounds_toArray, List.set_cons_zero, List.set_cons_succ])
      refine wpAnyH_ready (rs := [6]) (by kernel_rfl) (by simp) ?_
      refine AllReadyH.cons rfl (fun K hK => ?_) AllReadyH.nil
      go_simp
      (go_at_call 31; (with_reducible refine (dig4 y _ yb7).mono ?_); rintro e' w8 ⟨rfl, b1⟩; have HB := hid (next HB.out b1); clear b1)
      go_wp2_with fail
      refine hK.out _ _ (by first | assumption | trivial) (fun hHeld => ?_)
      clear hK K
      (try simp only [List.append_eq, List.cons_append, List.nil_append, List.getElem_toArray, List.getElem_cons_succ, List.getElem_cons_zero, Act.put, List.setIfInBounds_toArray, List.set_cons_zero, List.set_cons_succ])
      refine wpAnyH_ready (rs := [9]) (by kernel_rfl) (by simp) ?_
      refine AllReadyH.cons rfl (fun K hK => ?_) AllReadyH.nil
      go_simp
      (go_at_call 31; (with_reducible refine (dig2 a _ ab7).mono ?_); rintro e' w9 ⟨rfl, b1⟩; have HB := hid (next HB.out b1); clear b1)
      go_wp2_with fail
      refine hK.out _ _ (by first | assumption | trivial) (fun hHeld => ?_)
      clear hK K
      (try simp only [List.append_eq, List.cons_append, List.nil_append, List.getElem_toArray, List.getElem_cons_succ, List.getElem_cons_zero, Act.put, List.setIfInBounds_toArray, List.set_cons_zero, List.set_cons_succ])
      refine wpAnyH_ready (rs := [13]) (by kernel_rfl) (by simp) ?_
      refine AllReadyH.cons rfl (fun K hK => ?_) AllReadyH.nil
      go_simp
      (go_at_call 31; (with_reducible refine (dig2 b _ bb7).mono ?_); rintro e' w10 ⟨rfl, b1⟩; have HB := hid (next HB.out b1); clear b1)
      go_wp2_with fail
      refine hK.out _ _ (by first | assumption | trivial) (fun hHeld => ?_)
      clear hK K
      (try simp only [List.append_eq, List.cons_append, List.nil_append, List.getElem_toArray, List.getElem_cons_succ, List.getElem_cons_zero, Act.put, List.setIfInBounds_toArray, List.set_cons_zero, List.set_cons_succ])
      refine wpAnyH_ready (rs := [16]) (by kernel_rfl) (by simp) ?_
      refine AllReadyH.cons rfl (fun K hK => ?_) AllReadyH.nil
      go_simp
      (go_at_call 31; (with_reducible refine (dig2 c _ cb7).mono ?_); rintro e' w11 ⟨rfl, b1⟩; have HB := hid (next HB.out b1); clear b1)
      go_wp2_with fail
      refine hK.out _ _ (by first | assumption | trivial) (fun hHeld => ?_)
      clear hK K
      (try simp only [List.append_eq, List.cons_append, List.nil_append, List.getElem_toArray, List.getElem_cons_succ, List.getElem_cons_zero, Act.put, List.setIfInBounds_toArray, List.set_cons_zero, List.set_cons_succ])
      refine wpAnyH_ready (rs := [20]) (by kernel_rfl) (by simp) ?_
      refine AllReadyH.cons rfl (fun K hK => ?_) AllReadyH.nil
      go_simp
      (go_at_call 31; (with_reducible refine (dig2 e _ eb7).mono ?_); rintro e' w12 ⟨rfl, b1⟩; have HB := hid (next HB.out b1); clear b1)
      go_wp2_with fail
      refine hK.out _ _ (by first | assumption | trivial) (fun hHeld => ?_)
      clear hK K
      (try simp only [List.append_eq, List.cons_append, List.nil_append, List.getElem_toArray, List.getElem_cons_succ, List.getElem_cons_zero, Act.put, List.setIfInBounds_toArray, List.set_cons_zero, List.set_cons_succ])
      refine wpAnyH_ready (rs := [23]) (by kernel_rfl) (by simp) ?_
      refine AllReadyH.cons rfl (fun K hK => ?_) AllReadyH.nil
      go_simp
      (go_at_call 31; (with_reducible refine (dig2 f _ fb7).mono ?_); rintro e' w13 ⟨rfl, b1⟩; have HB := hid (next HB.out b1); clear b1)
      go_wp2_with fail
      refine hK.out _ _ (by first | assumption | trivial) (fun hHeld => ?_)
      clear hK K
      (try simp only [List.append_eq, List.cons_append, List.nil_append, List.getElem_toArray, List.getElem_cons_succ, List.getElem_cons_zero, Act.put, List.setIfInBounds_toArray, List.set_cons_zero, List.set_cons_succ])
      refine wpAnyH_ready (rs := [24]) (by kernel_rfl) (by simp) ?_
      refine AllReadyH.cons rfl (fun K hK => ?_) AllReadyH.nil
      go_simp
      refine hK.out _ _ trivial (fun hHeld => ?_)
      clear hK K
      (try simp only [List.getElem_toArray, List.getElem_cons_succ, List.getElem_cons_zero, Act.put, List.setIfInBounds_toArray, List.set_cons_zero, List.set_cons_succ])
      refine wpAnyH_ready (rs := [25]) (by kernel_rfl) (by simp) ?_
      refine AllReadyH.cons rfl (fun K hK => ?_) AllReadyH.nil
      go_simp
      (go_at_call 32; refine (join15 _ w13.heap.size F ml (digL y 4) (digL a 2) (digL b 2) (digL c 2) [45] (digL e 2) (digL f 2) (heap_alloc_new w13 _) (by simp only [digL_len, HFL.out, HML.out, List.length_cons, List.length_nil]; decide)).mono ?_; rintro e' w14 ⟨rfl, b1⟩; have HB := hid (next (HB.out.alloc HB.out.size _) b1); clear b1)
      go_wp2_with fail
      refine hK.out _ _ (by first | assumption | trivial) (fun hHeld => ?_)
      clear hK K
      (try simp only [List.append_eq, List.cons_append, List.nil_append, List.getElem_toArray, List.getElem_cons_succ, List.getElem_cons_zero, Act.put, List.setIfInBounds_toArray, List.set_cons_zero, List.set_cons_succ])
      refine wpAnyH_take (i := 26) (v := ?_) rfl (by kernel_rfl) (by kernel_rfl) (by kernel_rfl) (fun _ _ _ h => h) (Or.inl ⟨by kernel_rfl, ?_⟩) (by first | assumption | trivial) ?_
      rotate_left
      · (intro wS hSw; (try dsimp only at hSw); go_simp; try with_reducible rfl)
      (try simp only [List.append_eq, List.cons_append, List.nil_append, List.getElem_toArray, List.getElem_cons_succ, List.getElem_cons_zero, Act.put, List.setIfInBounds_toArray, List.set_cons_zero, List.set_cons_succ])
      refine wpAnyH_take (i := 27) (v := ?_) rfl (by kernel_rfl) (by kernel_rfl) (by kernel_rfl) (fun _ _ _ h => h) (Or.inl ⟨by kernel_rfl, ?_⟩) (by first | assumption | trivial) ?_
      rotate_left
      · (intro wS hSw; (try dsimp only at hSw); go_simp; try with_reducible rfl)
      (try simp only [List.append_eq, List.cons_append, List.nil_append, List.getElem_toArray, List.getElem_cons_succ, List.getElem_cons_zero, Act.put, List.setIfInBounds_toArray, List.set_cons_zero, List.set_cons_succ])
      refine wpAnyH_done (by kernel_rfl) ?_ _
      refine NoPanic.normal ?_
      go_wp2_with fail
      go_ret2
      exact ⟨by rw [← HOUT.out]; rfl, HB.out⟩
  · obtain ⟨n, rfl⟩ : ∃ n : Nat, z = (n : Int) := ⟨z.natAbs, by omega⟩
    have e1 : ((n : Int)).natAbs = n := by omega
    have hd : decide ((n : Int) < 0) = false := by simp
    rw [e1, hd]
    obtain ⟨sg, hsg⟩ : ∃ b, false = b := ⟨_, rfl⟩
    rw [hsg]
    have hn0 : n ≤ 1439 := by omega
    clear e1
    obtain ⟨a, ha⟩ : ∃ a, t / 3600 = a := ⟨_, rfl⟩
    obtain ⟨u, hu⟩ : ∃ u, t / 60 = u := ⟨_, rfl⟩
    obtain ⟨b, hb⟩ : ∃ b, u % 60 = b := ⟨_, rfl⟩
    obtain ⟨c, hc⟩ : ∃ c, t % 60 = c := ⟨_, rfl⟩
    obtain ⟨e, he⟩ : ∃ e, n / 60 = e := ⟨_, rfl⟩
    obtain ⟨f, hf⟩ : ∃ f, n % 60 = f := ⟨_, rfl⟩
    have i1 : (t : Int) / 3600 = (a : Int) := by omega
    have i2 : (t : Int) / 60 = (u : Int) := by omega
    have i3 : (u : Int) % 60 = (b : Int) := by omega
    have i4 : (t : Int) % 60 = (c : Int) := by omega
    have i5 : (n : Int) / 60 = (e : Int) := by omega
    have i6 : (n : Int) % 60 = (f : Int) := by omega
    have j1 : Int.tdiv (t : Int) 3600 = (a : Int) := by rw [Int.tdiv_eq_ediv_of_nonneg (by omega)]; exact i1
    have j2 : Int.tdiv (t : Int) 60 = (u : Int) := by rw [Int.tdiv_eq_ediv_of_nonneg (by omega)]; exact i2
    have j3 : Int.tmod (u : Int) 60 = (b : Int) := by rw [Int.tmod_eq_emod_of_nonneg (by omega)]; exact i3
    have j4 : Int.tmod (t : Int) 60 = (c : Int) := by rw [Int.tmod_eq_emod_of_nonneg (by omega)]; exact i4
    have j5 : Int.tdiv (n : Int) 60 = (e : Int) := by rw [Int.tdiv_eq_ediv_of_nonneg (by omega)]; exact i5
    have j6 : Int.tmod (n : Int) 60 = (f : Int) := by rw [Int.tmod_eq_emod_of_nonneg (by omega)]; exact i6
    have ab : a ≤ 23 := by omega
    have bb : b ≤ 59 := by omega
    have cb : c ≤ 59 := by omega
    have eb : e ≤ 23 := by omega
    have fb : f ≤ 59 := by omega
    have ub : u ≤ 1439 := by omega
    have hform2 : formP dd m y t n sg = (if dd < 10 then 32 :: digL dd 1 else digL dd 2) ++ ([45] ++ (monL (m - 1) ++ ([45] ++ (digL y 4 ++ ([32] ++ (digL a 2 ++ ([58] ++ (digL b 2 ++ ([58] ++ (digL c 2 ++ ([32] ++ ((if sg then [45] else [43]) ++ (digL e 2 ++ digL f 2))))))))))))) := by
      unfold formP
      rw [ha, hu, hb, hc, he, hf]
    rw [hform2]
    have HYB : Hid (y ≤ 9999) := hid v2
    have HM := hid (fun w => months_any w)
    have hix := index_mon (m - 1) (by omega)
    have hm1 : ((m - 1 : Nat) : Int) = (m : Int) - 1 := by omega
    rw [hm1] at hix
    obtain ⟨mv, hmv⟩ : ∃ v, monV = v := ⟨_, rfl⟩
    rw [hmv] at HM hix
    obtain ⟨ml, hml⟩ : ∃ v, monL (m - 1) = v := ⟨_, rfl⟩
    have hmll := monL_len (i := m - 1) (by omega)
    rw [hml] at hix hmll ⊢
    have HML := hid hmll
    clear ha hu hb hc he hf hmv hm1 hform2 hml hmll
    subst hsg
    by_cases h10 : dd < 10
    · have d10 : decide (dd < 10) = true := by simpa using h10
      have d10' : decide ((dd : Int) < 10) = true := by simp; omega
      rw [if_pos h10]
      obtain ⟨F, hF⟩ : ∃ F, 32 :: digL dd 1 = F := ⟨_, rfl⟩
      rw [hF]
      obtain ⟨OUT, hOUT⟩ : ∃ o, F ++ ([45] ++ (ml ++ ([45] ++ (digL y 4 ++ ([32] ++ (digL a 2 ++ ([58] ++ (digL b 2 ++ ([58] ++ (digL c 2 ++ ([32] ++ ((if false = true then [45] else [43]) ++ (digL e 2 ++ digL f 2))))))))))))) = o := ⟨_, rfl⟩
      rw [hOUT]
      have HOUT := hid hOUT
      clear hOUT
      have HF := hid hF
      clear hF
      go_enter Tryd.func14, Tryd.ntmps14
      go_upto_region 6 with (first
        | (go_at_call 16; (with_reducible refine (HMA.out _).mono ?_); rintro e' w1 ⟨rfl, b1⟩; have x0 := cells_keep b1 x0; have x1 := cells_keep b1 x1; have HB := hid (next HB.out b1); clear b1)
        | (go_at_call 30; (with_reducible refine (HLO.out _).mono ?_); rintro e' w2 ⟨rfl, b1⟩; have x0 := cells_keep b1 x0; have x1 := cells_keep b1 x1; have HB := hid (next HB.out b1); clear b1)
        | (go_at_call 29; (with_reducible refine (HSP.out _).mono ?_); rintro e' w3 ⟨rfl, rfl⟩)
        | (go_at_call 10; (with_reducible refine (HCI.out _).mono ?_); rintro e' w4 ⟨rfl, rfl⟩)
        | (go_at_call 31; (with_reducible refine (dig2 dd _ (by omega)).mono ?_); rintro e' w5 ⟨rfl, b1⟩; have x0 := cells_keep b1 x0; have x1 := cells_keep b1 x1; have HB := hid (next HB.out b1); clear b1))
      have hF := HF.out
      obtain ⟨q1, hq1⟩ : ∃ q, digL dd 1 = q := ⟨_, rfl⟩
      have hql : q1.length = 1 := by rw [← hq1, digL_len]
      have HFL := hid (show F.length = 2 by rw [← hF, List.length_cons, digL_len])
      have hd1 := fun w => dig1 dd w (by omega)
      rw [hq1] at hd1 hF
      have HD1 := hid hd1
      have hsz : (str q1).size = 1 := hql
      have hap : (⟨#[32]⟩ : ByteArray) ++ str q1 = str F := by rw [← hF]; exact str_append [32] q1
      have hno : ¬ 9223372036854775807 < 1 + (str q1).size := by omega
      clear hq1 hql hF hd1
      go_upto_region 8 with (go_at_call 31; (with_reducible refine (HD1.out _).mono ?_); rintro e' w5 ⟨rfl, b1⟩; have x0 := cells_keep b1 x0; have x1 := cells_keep b1 x1; have HB := hid (next HB.out b1); clear b1)
      go_quiet (fail)
      have HB := hid (bq HB.out nq)
      generalize w5.drewN nq = w6 at *
      go_upto_region 11 with fail
      have HB : Hid (Below w.heap.size w w6.drew) := hid (bq HB.out 1)
      have yb7 : y ≤ 10000000 := by omega
      have ab7 : a ≤ 10000000 := by omega
      have bb7 : b ≤ 10000000 := by omega
      have cb7 : c ≤ 10000000 := by omega
      have eb7 : e ≤ 10000000 := by omega
      have fb7 : f ≤ 10000000 := by omega
      have k1 : IntKind.i64.wrap ((m : Int) - 1) = (m : Int) - 1 := by rw [IntKind.wrap_i64]; omega
      have k2 : IntKind.i64.wrap (a : Int) = (a : Int) := by rw [IntKind.wrap_i64]; omega
      have k3 : IntKind.i64.wrap (u : Int) = (u : Int) := by rw [IntKind.wrap_i64]; omega
      have k4 : IntKind.i64.wrap (b : Int) = (b : Int) := by rw [IntKind.wrap_i64]; omega
      have k5 : IntKind.i64.wrap (c : Int) = (c : Int) := by rw [IntKind.wrap_i64]; omega
      have k6 : IntKind.i64.wrap (e : Int) = (e : Int) := by rw [IntKind.wrap_i64]; omega
      have k7 : IntKind.i64.wrap (f : Int) = (f : Int) := by rw [IntKind.wrap_i64]; omega
      refine wp_region_noPanic ?_
      refine wp_region_held_drew (S := (fun W => True)) (by kernel_rfl) (by first | assumption | trivial) (fun hHeld => ?_)
      refine wpAnyH_take (i := 0) (v := ?_) rfl (by kernel_rfl) (by kernel_rfl) (by kernel_rfl) (fun _ _ _ h => h) (Or.inl ⟨by kernel_rfl, ?_⟩) (by first | assumption | trivial) ?_
      rotate_left
      · (intro wS hSw; (try dsimp only at hSw); go_simp; try with_reducible rfl)
      (try simp only [List.append_eq, List.cons_append, List.nil_append, List.getElem_toArray, List.getElem_cons_succ, List.getElem_cons_zero, Act.put, List.setIfInBounds_toArray, List.set_cons_zero, List.set_cons_succ])
      refine wpAnyH_take (i := 2) (v := ?_) rfl (by kernel_rfl) (by kernel_rfl) (by kernel_rfl) (fun _ _ _ h => h) (Or.inl ⟨by kernel_rfl, ?_⟩) (by first | assumption | trivial) ?_
      rotate_left
      · (intro wS hSw; (try dsimp only at hSw); go_simp; try with_reducible rfl)
      (try simp only [List.append_eq, List.cons_append, List.nil_append, List.getElem_toArray, List.getElem_cons_succ, List.getElem_cons_zero, Act.put, List.setIfInBounds_toArray, List.set_cons_zero, List.set_cons_succ])
      refine wpAnyH_take (i := 3) (v := ?_) rfl (by kernel_rfl) (by kernel_rfl) (by kernel_rfl) (fun _ _ _ h => h) (Or.inl ⟨by kernel_rfl, ?_⟩) (by first | assumption | trivial) ?_
      rotate_left
      · (intro wS hSw; (try dsimp only at hSw); go_simp; try with_reducible rfl)
      (try simp only [List.append_eq, List.cons_append, List.nil_append, List.getElem_toArray, List.getElem_cons_succ, List.getElem_cons_zero, Act.put, List.setIfInBounds_toArray, List.set_cons_zero, List.set_cons_succ])
      refine wpAnyH_take (i := 5) (v := ?_) rfl (by kernel_rfl) (by kernel_rfl) (by kernel_rfl) (fun _ _ _ h => h) (Or.inl ⟨by kernel_rfl, ?_⟩) (by first | assumption | trivial) ?_
      rotate_left
      · (intro wS hSw; (try dsimp only at hSw); go_simp; try with_reducible rfl)
      (try simp only [List.append_eq, List.cons_append, List.nil_append, List.getElem_toArray, List.getElem_cons_succ, List.getElem_cons_zero, Act.put, List.setIfInBounds_toArray, List.set_cons_zero, List.set_cons_succ])
      refine wpAnyH_take (i := 7) (v := ?_) rfl (by kernel_rfl) (by kernel_rfl) (by kernel_rfl) (fun _ _ _ h => h) (Or.inl ⟨by kernel_rfl, ?_⟩) (by first | assumption | trivial) ?_
      rotate_left
      · (intro wS hSw; (try dsimp only at hSw); go_simp; try with_reducible rfl)
      (try simp only [List.append_eq, List.cons_append, List.nil_append, List.getElem_toArray, List.getElem_cons_succ, List.getElem_cons_zero, Act.put, List.setIfInBounds_toArray, List.set_cons_zero, List.set_cons_succ])
      refine wpAnyH_take (i := 8) (v := ?_) rfl (by kernel_rfl) (by kernel_rfl) (by kernel_rfl) (fun _ _ _ h => h) (Or.inl ⟨by kernel_rfl, ?_⟩) (by first | assumption | trivial) ?_
      rotate_left
      · (intro wS hSw; (try dsimp only at hSw); go_simp; try with_reducible rfl)
      (try simp only [List.append_eq, List.cons_append, List.nil_append, List.getElem_toArray, List.getElem_cons_succ, List.getElem_cons_zero, Act.put, List.setIfInBounds_toArray, List.set_cons_zero, List.set_cons_succ])
      refine wpAnyH_take (i := 10) (v := ?_) rfl (by kernel_rfl) (by kernel_rfl) (by kernel_rfl) (fun _ _ _ h => h) (Or.inl ⟨by kernel_rfl, ?_⟩) (by first | assumption | trivial) ?_
      rotate_left
      · (intro wS hSw; (try dsimp only at hSw); go_simp; try with_reducible rfl)
      (try simp only [List.append_eq, List.cons_append, List.nil_append, List.getElem_toArray, List.getElem_cons_succ, List.getElem_cons_zero, Act.put, List.setIfInBounds_toArray, List.set_cons_zero, List.set_cons_succ])
      refine wpAnyH_take (i := 11) (v := ?_) rfl (by kernel_rfl) (by kernel_rfl) (by kernel_rfl) (fun _ _ _ h => h) (Or.inl ⟨by kernel_rfl, ?_⟩) (by first | assumption | trivial) ?_
      rotate_left
      · (intro wS hSw; (try dsimp only at hSw); go_simp; try with_reducible rfl)
      (try simp only [List.append_eq, List.cons_append, List.nil_append, List.getElem_toArray, List.getElem_cons_succ, List.getElem_cons_zero, Act.put, List.setIfInBounds_toArray, List.set_cons_zero, List.set_cons_succ])
      refine wpAnyH_take (i := 12) (v := ?_) rfl (by kernel_rfl) (by kernel_rfl) (by kernel_rfl) (fun _ _ _ h => h) (Or.inl ⟨by kernel_rfl, ?_⟩) (by first | assumption | trivial) ?_
      rotate_left
      · (intro wS hSw; (try dsimp only at hSw); go_simp; try with_reducible rfl)
      (try simp only [List.append_eq, List.cons_append, List.nil_append, List.getElem_toArray, List.getElem_cons_succ, List.getElem_cons_zero, Act.put, List.setIfInBounds_toArray, List.set_cons_zero, List.set_cons_succ])
      refine wpAnyH_take (i := 14) (v := ?_) rfl (by kernel_rfl) (by kernel_rfl) (by kernel_rfl) (fun _ _ _ h => h) (Or.inl ⟨by kernel_rfl, ?_⟩) (by first | assumption | trivial) ?_
      rotate_left
      · (intro wS hSw; (try dsimp only at hSw); go_simp; try with_reducible rfl)
      (try simp only [List.append_eq, List.cons_append, List.nil_append, List.getElem_toArray, List.getElem_cons_succ, List.getElem_cons_zero, Act.put, List.setIfInBounds_toArray, List.set_cons_zero, List.set_cons_succ])
      refine wpAnyH_take (i := 15) (v := ?_) rfl (by kernel_rfl) (by kernel_rfl) (by kernel_rfl) (fun _ _ _ h => h) (Or.inl ⟨by kernel_rfl, ?_⟩) (by first | assumption | trivial) ?_
      rotate_left
      · (intro wS hSw; (try dsimp only at hSw); go_simp; try with_reducible rfl)
      (try simp only [List.append_eq, List.cons_append, List.nil_append, List.getElem_toArray, List.getElem_cons_succ, List.getElem_cons_zero, Act.put, List.setIfInBounds_toArray, List.set_cons_zero, List.set_cons_succ])
      refine wpAnyH_take (i := 17) (v := ?_) rfl (by kernel_rfl) (by kernel_rfl) (by kernel_rfl) (fun _ _ _ h => h) (Or.inl ⟨by kernel_rfl, ?_⟩) (by first | assumption | trivial) ?_
      rotate_left
      · (intro wS hSw; (try dsimp only at hSw); go_simp; try with_reducible rfl)
      (try simp only [List.append_eq, List.cons_append, List.nil_append, List.getElem_toArray, List.getElem_cons_succ, List.getElem_cons_zero, Act.put, List.setIfInBounds_toArray, List.set_cons_zero, List.set_cons_succ])
      refine wpAnyH_take (i := 18) (v := ?_) rfl (by kernel_rfl) (by kernel_rfl) (by kernel_rfl) (fun _ _ _ h => h) (Or.inl ⟨by kernel_rfl, ?_⟩) (by first | assumption | trivial) ?_
      rotate_left
      · (intro wS hSw; (try dsimp only at hSw); go_simp; try with_reducible rfl)
      (try simp only [List.append_eq, List.cons_append, List.nil_append, List.getElem_toArray, List.getElem_cons_succ, List.getElem_cons_zero, Act.put, List.setIfInBounds_toArray, List.set_cons_zero, List.set_cons_succ])
      refine wpAnyH_take (i := 19) (v := ?_) rfl (by kernel_rfl) (by kernel_rfl) (by kernel_rfl) (fun _ _ _ h => h) (Or.inl ⟨by kernel_rfl, ?_⟩) (by first | assumption | trivial) ?_
      rotate_left
      · (intro wS hSw; (try dsimp only at hSw); go_simp; try with_reducible rfl)
      (try simp only [List.append_eq, List.cons_append, List.nil_append, List.getElem_toArray, List.getElem_cons_succ, List.getElem_cons_zero, Act.put, List.setIfInBounds_toArray, List.set_cons_zero, List.set_cons_succ])
      refine wpAnyH_take (i := 21) (v := ?_) rfl (by kernel_rfl) (by kernel_rfl) (by kernel_rfl) (fun _ _ _ h => h) (Or.inl ⟨by kernel_rfl, ?_⟩) (by first | assumption | trivial) ?_
      rotate_left
      · (intro wS hSw; (try dsimp only at hSw); go_simp; try with_reducible rfl)
      (try simp only [List.append_eq, List.cons_append, List.nil_append, List.getElem_toArray, List.getElem_cons_succ, List.getElem_cons_zero, Act.put, List.setIfInBounds_toArray, List.set_cons_zero, List.set_cons_succ])
      refine wpAnyH_take (i := 22) (v := ?_) rfl (by kernel_rfl) (by kernel_rfl) (by kernel_rfl) (fun _ _ _ h => h) (Or.inl ⟨by kernel_rfl, ?_⟩) (by first | assumption | trivial) ?_
      rotate_left
      · (intro wS hSw; (try dsimp only at hSw); go_simp; try with_reducible rfl)
      (try simp only [List.append_eq, List.cons_append, List.nil_append, List.getElem_toArray, List.getElem_cons_succ, List.getElem_cons_zero, Act.put, List.setIfInBounds_toArray, List.set_cons_zero, List.set_cons_succ])
      refine wpAnyH_ready (rs := [1]) (by kernel_rfl) (by simp) ?_
      refine AllReadyH.cons rfl (fun K hK => ?_) AllReadyH.nil
      go_simp
      (go_at_call 33; (with_reducible refine (HM.out _).mono ?_); rintro e' w7 ⟨rfl, b1⟩; have HB := hid (next HB.out b1); clear b1)
      go_wp2_with fail
      refine hK.out _ _ (by first | assumption | trivial) (fun hHeld => ?_)
      clear hK K
      (try simp only [List.append_eq, List.cons_append, List.nil_append, List.getElem_toArray, List.getElem_cons_succ, List.getElem_cons_zero, Act.put, List.setIfInBounds_toArray, List.set_cons_zero, List.set_cons_succ])
      refine wpAnyH_take (i := 4) (v := ?_) rfl (by kernel_rfl) (by kernel_rfl) (by kernel_rfl) (fun _ _ _ h => h) (Or.inl ⟨by kernel_rfl, ?_⟩) (by first | assumption | trivial) ?_
      rotate_left
      · (intro wS hSw; (try dsimp only at hSw); go_simp; try with_reducible rfl)
      (try simp only [List.append_eq, List.cons_append, List.nil_append, List.getElem_toArray, List.getElem_cons_succ, List.getElem_cons_zero, Act.put, List.setIfInBounds_toArray, List.set_cons_zero, List.set_cons_succ])
      refine wpAnyH_ready (rs := [6]) (by kernel_rfl) (by simp) ?_
      refine AllReadyH.cons rfl (fun K hK => ?_) AllReadyH.nil
      go_simp
      (go_at_call 31; (with_reducible refine (dig4 y _ yb7).mono ?_); rintro e' w8 ⟨rfl, b1⟩; have HB := hid (next HB.out b1); clear b1)
      go_wp2_with fail
      refine hK.out _ _ (by first | assumption | trivial) (fun hHeld => ?_)
      clear hK K
      (try simp only [List.append_eq, List.cons_append, List.nil_append, List.getElem_toArray, List.getElem_cons_succ, List.getElem_cons_zero, Act.put, List.setIfInBounds_toArray, List.set_cons_zero, List.set_cons_succ])
      refine wpAnyH_ready (rs := [9]) (by kernel_rfl) (by simp) ?_
      refine AllReadyH.cons rfl (fun K hK => ?_) AllReadyH.nil
      go_simp
      (go_at_call 31; (with_reducible refine (dig2 a _ ab7).mono ?_); rintro e' w9 ⟨rfl, b1⟩; have HB := hid (next HB.out b1); clear b1)
      go_wp2_with fail
      refine hK.out _ _ (by first | assumption | trivial) (fun hHeld => ?_)
      clear hK K
      (try simp only [List.append_eq, List.cons_append, List.nil_append, List.getElem_toArray, List.getElem_cons_succ, List.getElem_cons_zero, Act.put, List.setIfInBounds_toArray, List.set_cons_zero, List.set_cons_succ])
      refine wpAnyH_ready (rs := [13]) (by kernel_rfl) (by simp) ?_
      refine AllReadyH.cons rfl (fun K hK => ?_) AllReadyH.nil
      go_simp
      (go_at_call 31; (with_reducible refine (dig2 b _ bb7).mono ?_); rintro e' w10 ⟨rfl, b1⟩; have HB := hid (next HB.out b1); clear b1)
      go_wp2_with fail
      refine hK.out _ _ (by first | assumption | trivial) (fun hHeld => ?_)
      clear hK K
      (try simp only [List.append_eq, List.cons_append, List.nil_append, List.getElem_toArray, List.getElem_cons_succ, List.getElem_cons_zero, Act.put, List.setIfInBounds_toArray, List.set_cons_zero, List.set_cons_succ])
      refine wpAnyH_ready (rs := [16]) (by kernel_rfl) (by simp) ?_
      refine AllReadyH.cons rfl (fun K hK => ?_) AllReadyH.nil
      go_simp
      (go_at_call 31; (with_reducible refine (dig2 c _ cb7).mono ?_); rintro e' w11 ⟨rfl, b1⟩; have HB := hid (next HB.out b1); clear b1)
      go_wp2_with fail
      refine hK.out _ _ (by first | assumption | trivial) (fun hHeld => ?_)
      clear hK K
      (try simp only [List.append_eq, List.cons_append, List.nil_append, List.getElem_toArray, List.getElem_cons_succ, List.getElem_cons_zero, Act.put, List.setIfInBounds_toArray, List.set_cons_zero, List.set_cons_succ])
      refine wpAnyH_ready (rs := [20]) (by kernel_rfl) (by simp) ?_
      refine AllReadyH.cons rfl (fun K hK => ?_) AllReadyH.nil
      go_simp
      (go_at_call 31; (with_reducible refine (dig2 e _ eb7).mono ?_); rintro e' w12 ⟨rfl, b1⟩; have HB := hid (next HB.out b1); clear b1)
      go_wp2_with fail
      refine hK.out _ _ (by first | assumption | trivial) (fun hHeld => ?_)
      clear hK K
      (try simp only [List.append_eq, List.cons_append, List.nil_append, List.getElem_toArray, List.getElem_cons_succ, List.getElem_cons_zero, Act.put, List.setIfInBounds_toArray, List.set_cons_zero, List.set_cons_succ])
      refine wpAnyH_ready (rs := [23]) (by kernel_rfl) (by simp) ?_
      refine AllReadyH.cons rfl (fun K hK => ?_) AllReadyH.nil
      go_simp
      (go_at_call 31; (with_reducible refine (dig2 f _ fb7).mono ?_); rintro e' w13 ⟨rfl, b1⟩; have HB := hid (next HB.out b1); clear b1)
      go_wp2_with fail
      refine hK.out _ _ (by first | assumption | trivial) (fun hHeld => ?_)
      clear hK K
      (try simp only [List.append_eq, List.cons_append, List.nil_append, List.getElem_toArray, List.getElem_cons_succ, List.getElem_cons_zero, Act.put, List.setIfInBounds_toArray, List.set_cons_zero, List.set_cons_succ])
      refine wpAnyH_ready (rs := [24]) (by kernel_rfl) (by simp) ?_
      refine AllReadyH.cons rfl (fun K hK => ?_) AllReadyH.nil
      go_simp
      refine hK.out _ _ trivial (fun hHeld => ?_)
      clear hK K
      (try simp only [List.getElem_toArray, List.getElem_cons_succ, List.getElem_cons_zero, Act.put, List.setIfInBounds_toArray, List.set_cons_zero, List.set_cons_succ])
      refine wpAnyH_ready (rs := [25]) (by kernel_rfl) (by simp) ?_
      refine AllReadyH.cons rfl (fun K hK => ?_) AllReadyH.nil
      go_simp
      (go_at_call 32; refine (join15 _ w13.heap.size F ml (digL y 4) (digL a 2) (digL b 2) (digL c 2) [43] (digL e 2) (digL f 2) (heap_alloc_new w13 _) (by simp only [digL_len, HFL.out, HML.out, List.length_cons, List.length_nil]; decide)).mono ?_; rintro e' w14 ⟨rfl, b1⟩; have HB := hid (next (HB.out.alloc HB.out.size _) b1); clear b1)
      go_wp2_with fail
      refine hK.out _ _ (by first | assumption | trivial) (fun hHeld => ?_)
      clear hK K
      (try simp only [List.append_eq, List.cons_append, List.nil_append, List.getElem_toArray, List.getElem_cons_succ, List.getElem_cons_zero, Act.put, List.setIfInBounds_toArray, List.set_cons_zero, List.set_cons_succ])
      refine wpAnyH_take (i := 26) (v := ?_) rfl (by kernel_rfl) (by kernel_rfl) (by kernel_rfl) (fun _ _ _ h => h) (Or.inl ⟨by kernel_rfl, ?_⟩) (by first | assumption | trivial) ?_
      rotate_left
      · (intro wS hSw; (try dsimp only at hSw); go_simp; try with_reducible rfl)
      (try simp only [List.append_eq, List.cons_append, List.nil_append, List.getElem_toArray, List.getElem_cons_succ, List.getElem_cons_zero, Act.put, List.setIfInBounds_toArray, List.set_cons_zero, List.set_cons_succ])
      refine wpAnyH_take (i := 27) (v := ?_) rfl (by kernel_rfl) (by kernel_rfl) (by kernel_rfl) (fun _ _ _ h => h) (Or.inl ⟨by kernel_rfl, ?_⟩) (by first | assumption | trivial) ?_
      rotate_left
      · (intro wS hSw; (try dsimp only at hSw); go_simp; try with_reducible rfl)
      (try simp only [List.append_eq, List.cons_append, List.nil_append, List.getElem_toArray, List.getElem_cons_succ, List.getElem_cons_zero, Act.put, List.setIfInBounds_toArray, List.set_cons_zero, List.set_cons_succ])
      refine wpAnyH_done (by kernel_rfl) ?_ _
      refine NoPanic.normal ?_
      go_wp2_with fail
      go_ret2
      exact ⟨by rw [← HOUT.out]; rfl, HB.out⟩
    · have d10 : decide (dd < 10) = false := by simpa using h10
      have d10' : decide ((dd : Int) < 10) = false := by simp; omega
      rw [if_neg h10]
      obtain ⟨F, hF⟩ : ∃ F, digL dd 2 = F := ⟨_, rfl⟩
      rw [hF]
      obtain ⟨OUT, hOUT⟩ : ∃ o, F ++ ([45] ++ (ml ++ ([45] ++ (digL y 4 ++ ([32] ++ (digL a 2 ++ ([58] ++ (digL b 2 ++ ([58] ++ (digL c 2 ++ ([32] ++ ((if false = true then [45] else [43]) ++ (digL e 2 ++ digL f 2))))))))))))) = o := ⟨_, rfl⟩
      rw [hOUT]
      have HOUT := hid hOUT
      clear hOUT
      have HF := hid hF
      clear hF
      go_enter Tryd.func14, Tryd.ntmps14
      go_upto_region 6 with (first
        | (go_at_call 16; (with_reducible refine (HMA.out _).mono ?_); rintro e' w1 ⟨rfl, b1⟩; have x0 := cells_keep b1 x0; have x1 := cells_keep b1 x1; have HB := hid (next HB.out b1); clear b1)
        | (go_at_call 30; (with_reducible refine (HLO.out _).mono ?_); rintro e' w2 ⟨rfl, b1⟩; have x0 := cells_keep b1 x0; have x1 := cells_keep b1 x1; have HB := hid (next HB.out b1); clear b1)
        | (go_at_call 29; (with_reducible refine (HSP.out _).mono ?_); rintro e' w3 ⟨rfl, rfl⟩)
        | (go_at_call 10; (with_reducible refine (HCI.out _).mono ?_); rintro e' w4 ⟨rfl, rfl⟩)
        | (go_at_call 31; (with_reducible refine (dig2 dd _ (by omega)).mono ?_); rintro e' w5 ⟨rfl, b1⟩; have x0 := cells_keep b1 x0; have x1 := cells_keep b1 x1; have HB := hid (next HB.out b1); clear b1))
      have hF := HF.out
      have HFL := hid (show F.length = 2 by rw [← hF, digL_len])
      rw [hF]
      clear hF
      go_upto_region 8 with fail
      go_quiet (fail)
      have HB := hid (bq HB.out nq)
      generalize w5.drewN nq = w6 at *
      go_upto_region 11 with fail
      have HB : Hid (Below w.heap.size w w6.drew) := hid (bq HB.out 1)
      have yb7 : y ≤ 10000000 := by omega
      have ab7 : a ≤ 10000000 := by omega
      have bb7 : b ≤ 10000000 := by omega
      have cb7 : c ≤ 10000000 := by omega
      have eb7 : e ≤ 10000000 := by omega
      have fb7 : f ≤ 10000000 := by omega
      have k1 : IntKind.i64.wrap ((m : Int) - 1) = (m : Int) - 1 := by rw [IntKind.wrap_i64]; omega
      have k2 : IntKind.i64.wrap (a : Int) = (a : Int) := by rw [IntKind.wrap_i64]; omega
      have k3 : IntKind.i64.wrap (u : Int) = (u : Int) := by rw [IntKind.wrap_i64]; omega
      have k4 : IntKind.i64.wrap (b : Int) = (b : Int) := by rw [IntKind.wrap_i64]; omega
      have k5 : IntKind.i64.wrap (c : Int) = (c : Int) := by rw [IntKind.wrap_i64]; omega
      have k6 : IntKind.i64.wrap (e : Int) = (e : Int) := by rw [IntKind.wrap_i64]; omega
      have k7 : IntKind.i64.wrap (f : Int) = (f : Int) := by rw [IntKind.wrap_i64]; omega
      refine wp_region_noPanic ?_
      refine wp_region_held_drew (S := (fun W => True)) (by kernel_rfl) (by first | assumption | trivial) (fun hHeld => ?_)
      refine wpAnyH_take (i := 0) (v := ?_) rfl (by kernel_rfl) (by kernel_rfl) (by kernel_rfl) (fun _ _ _ h => h) (Or.inl ⟨by kernel_rfl, ?_⟩) (by first | assumption | trivial) ?_
      rotate_left
      · (intro wS hSw; (try dsimp only at hSw); go_simp; try with_reducible rfl)
      (try simp only [List.append_eq, List.cons_append, List.nil_append, List.getElem_toArray, List.getElem_cons_succ, List.getElem_cons_zero, Act.put, List.setIfInBounds_toArray, List.set_cons_zero, List.set_cons_succ])
      refine wpAnyH_take (i := 2) (v := ?_) rfl (by kernel_rfl) (by kernel_rfl) (by kernel_rfl) (fun _ _ _ h => h) (Or.inl ⟨by kernel_rfl, ?_⟩) (by first | assumption | trivial) ?_
      rotate_left
      · (intro wS hSw; (try dsimp only at hSw); go_simp; try with_reducible rfl)
      (try simp only [List.append_eq, List.cons_append, List.nil_append, List.getElem_toArray, List.getElem_cons_succ, List.getElem_cons_zero, Act.put, List.setIfInBounds_toArray, List.set_cons_zero, List.set_cons_succ])
      refine wpAnyH_take (i := 3) (v := ?_) rfl (by kernel_rfl) (by kernel_rfl) (by kernel_rfl) (fun _ _ _ h => h) (Or.inl ⟨by kernel_rfl, ?_⟩) (by first | assumption | trivial) ?_
      rotate_left
      · (intro wS hSw; (try dsimp only at hSw); go_simp; try with_reducible rfl)
      (try simp only [List.append_eq, List.cons_append, List.nil_append, List.getElem_toArray, List.getElem_cons_succ, List.getElem_cons_zero, Act.put, List.setIfInBounds_toArray, List.set_cons_zero, List.set_cons_succ])
      refine wpAnyH_take (i := 5) (v := ?_) rfl (by kernel_rfl) (by kernel_rfl) (by kernel_rfl) (fun _ _ _ h => h) (Or.inl ⟨by kernel_rfl, ?_⟩) (by first | assumption | trivial) ?_
      rotate_left
      · (intro wS hSw; (try dsimp only at hSw); go_simp; try with_reducible rfl)
      (try simp only [List.append_eq, List.cons_append, List.nil_append, List.getElem_toArray, List.getElem_cons_succ, List.getElem_cons_zero, Act.put, List.setIfInBounds_toArray, List.set_cons_zero, List.set_cons_succ])
      refine wpAnyH_take (i := 7) (v := ?_) rfl (by kernel_rfl) (by kernel_rfl) (by kernel_rfl) (fun _ _ _ h => h) (Or.inl ⟨by kernel_rfl, ?_⟩) (by first | assumption | trivial) ?_
      rotate_left
      · (intro wS hSw; (try dsimp only at hSw); go_simp; try with_reducible rfl)
      (try simp only [List.append_eq, List.cons_append, List.nil_append, List.getElem_toArray, List.getElem_cons_succ, List.getElem_cons_zero, Act.put, List.setIfInBounds_toArray, List.set_cons_zero, List.set_cons_succ])
      refine wpAnyH_take (i := 8) (v := ?_) rfl (by kernel_rfl) (by kernel_rfl) (by kernel_rfl) (fun _ _ _ h => h) (Or.inl ⟨by kernel_rfl, ?_⟩) (by first | assumption | trivial) ?_
      rotate_left
      · (intro wS hSw; (try dsimp only at hSw); go_simp; try with_reducible rfl)
      (try simp only [List.append_eq, List.cons_append, List.nil_append, List.getElem_toArray, List.getElem_cons_succ, List.getElem_cons_zero, Act.put, List.setIfInBounds_toArray, List.set_cons_zero, List.set_cons_succ])
      refine wpAnyH_take (i := 10) (v := ?_) rfl (by kernel_rfl) (by kernel_rfl) (by kernel_rfl) (fun _ _ _ h => h) (Or.inl ⟨by kernel_rfl, ?_⟩) (by first | assumption | trivial) ?_
      rotate_left
      · (intro wS hSw; (try dsimp only at hSw); go_simp; try with_reducible rfl)
      (try simp only [List.append_eq, List.cons_append, List.nil_append, List.getElem_toArray, List.getElem_cons_succ, List.getElem_cons_zero, Act.put, List.setIfInBounds_toArray, List.set_cons_zero, List.set_cons_succ])
      refine wpAnyH_take (i := 11) (v := ?_) rfl (by kernel_rfl) (by kernel_rfl) (by kernel_rfl) (fun _ _ _ h => h) (Or.inl ⟨by kernel_rfl, ?_⟩) (by first | assumption | trivial) ?_
      rotate_left
      · (intro wS hSw; (try dsimp only at hSw); go_simp; try with_reducible rfl)
      (try simp only [List.append_eq, List.cons_append, List.nil_append, List.getElem_toArray, List.getElem_cons_succ, List.getElem_cons_zero, Act.put, List.setIfInBounds_toArray, List.set_cons_zero, List.set_cons_succ])
      refine wpAnyH_take (i := 12) (v := ?_) rfl (by kernel_rfl) (by kernel_rfl) (by kernel_rfl) (fun _ _ _ h => h) (Or.inl ⟨by kernel_rfl, ?_⟩) (by first | assumption | trivial) ?_
      rotate_left
      · (intro wS hSw; (try dsimp only at hSw); go_simp; try with_reducible rfl)
      (try simp only [List.append_eq, List.cons_append, List.nil_append, List.getElem_toArray, List.getElem_cons_succ, List.getElem_cons_zero, Act.put, List.setIfInBounds_toArray, List.set_cons_zero, List.set_cons_succ])
      refine wpAnyH_take (i := 14) (v := ?_) rfl (by kernel_rfl) (by kernel_rfl) (by kernel_rfl) (fun _ _ _ h => h) (Or.inl ⟨by kernel_rfl, ?_⟩) (by first | assumption | trivial) ?_
      rotate_left
      · (intro wS hSw; (try dsimp only at hSw); go_simp; try with_reducible rfl)
      (try simp only [List.append_eq, List.cons_append, List.nil_append, List.getElem_toArray, List.getElem_cons_succ, List.getElem_cons_zero, Act.put, List.setIfInBounds_toArray, List.set_cons_zero, List.set_cons_succ])
      refine wpAnyH_take (i := 15) (v := ?_) rfl (by kernel_rfl) (by kernel_rfl) (by kernel_rfl) (fun _ _ _ h => h) (Or.inl ⟨by kernel_rfl, ?_⟩) (by first | assumption | trivial) ?_
      rotate_left
      · (intro wS hSw; (try dsimp only at hSw); go_simp; try with_reducible rfl)
      (try simp only [List.append_eq, List.cons_append, List.nil_append, List.getElem_toArray, List.getElem_cons_succ, List.getElem_cons_zero, Act.put, List.setIfInBounds_toArray, List.set_cons_zero, List.set_cons_succ])
      refine wpAnyH_take (i := 17) (v := ?_) rfl (by kernel_rfl) (by kernel_rfl) (by kernel_rfl) (fun _ _ _ h => h) (Or.inl ⟨by kernel_rfl, ?_⟩) (by first | assumption | trivial) ?_
      rotate_left
      · (intro wS hSw; (try dsimp only at hSw); go_simp; try with_reducible rfl)
      (try simp only [List.append_eq, List.cons_append, List.nil_append, List.getElem_toArray, List.getElem_cons_succ, List.getElem_cons_zero, Act.put, List.setIfInBounds_toArray, List.set_cons_zero, List.set_cons_succ])
      refine wpAnyH_take (i := 18) (v := ?_) rfl (by kernel_rfl) (by kernel_rfl) (by kernel_rfl) (fun _ _ _ h => h) (Or.inl ⟨by kernel_rfl, ?_⟩) (by first | assumption | trivial) ?_
      rotate_left
      · (intro wS hSw; (try dsimp only at hSw); go_simp; try with_reducible rfl)
      (try simp only [List.append_eq, List.cons_append, List.nil_append, List.getElem_toArray, List.getElem_cons_succ, List.getElem_cons_zero, Act.put, List.setIfInBounds_toArray, List.set_cons_zero, List.set_cons_succ])
      refine wpAnyH_take (i := 19) (v := ?_) rfl (by kernel_rfl) (by kernel_rfl) (by kernel_rfl) (fun _ _ _ h => h) (Or.inl ⟨by kernel_rfl, ?_⟩) (by first | assumption | trivial) ?_
      rotate_left
      · (intro wS hSw; (try dsimp only at hSw); go_simp; try with_reducible rfl)
      (try simp only [List.append_eq, List.cons_append, List.nil_append, List.getElem_toArray, List.getElem_cons_succ, List.getElem_cons_zero, Act.put, List.setIfInBounds_toArray, List.set_cons_zero, List.set_cons_succ])
      refine wpAnyH_take (i := 21) (v := ?_) rfl (by kernel_rfl) (by kernel_rfl) (by kernel_rfl) (fun _ _ _ h => h) (Or.inl ⟨by kernel_rfl, ?_⟩) (by first | assumption | trivial) ?_
      rotate_left
      · (intro wS hSw; (try dsimp only at hSw); go_simp; try with_reducible rfl)
      (try simp only [List.append_eq, List.cons_append, List.nil_append, List.getElem_toArray, List.getElem_cons_succ, List.getElem_cons_zero, Act.put, List.setIfInBounds_toArray, List.set_cons_zero, List.set_cons_succ])
      refine wpAnyH_take (i := 22) (v := ?_) rfl (by kernel_rfl) (by kernel_rfl) (by kernel_rfl) (fun _ _ _ h => h) (Or.inl ⟨by kernel_rfl, ?_⟩) (by first | assumption | trivial) ?_
      rotate_left
      · (intro wS hSw; (try dsimp only at hSw); go_simp; try with_reducible rfl)
      (try simp only [List.append_eq, List.cons_append, List.nil_append, List.getElem_toArray, List.getElem_cons_succ, List.getElem_cons_zero, Act.put, List.setIfInBounds_toArray, List.set_cons_zero, List.set_cons_succ])
      refine wpAnyH_ready (rs := [1]) (by kernel_rfl) (by simp) ?_
      refine AllReadyH.cons rfl (fun K hK => ?_) AllReadyH.nil
      go_simp
      (go_at_call 33; (with_reducible refine (HM.out _).mono ?_); rintro e' w7 ⟨rfl, b1⟩; have HB := hid (next HB.out b1); clear b1)
      go_wp2_with fail
      refine hK.out _ _ (by first | assumption | trivial) (fun hHeld => ?_)
      clear hK K
      (try simp only [List.append_eq, List.cons_append, List.nil_append, List.getElem_toArray, List.getElem_cons_succ, List.getElem_cons_zero, Act.put, List.setIfInBounds_toArray, List.set_cons_zero, List.set_cons_succ])
      refine wpAnyH_take (i := 4) (v := ?_) rfl (by kernel_rfl) (by kernel_rfl) (by kernel_rfl) (fun _ _ _ h => h) (Or.inl ⟨by kernel_rfl, ?_⟩) (by first | assumption | trivial) ?_
      rotate_left
      · (intro wS hSw; (try dsimp only at hSw); go_simp; try with_reducible rfl)
      (try simp only [List.append_eq, List.cons_append, List.nil_append, List.getElem_toArray, List.getElem_cons_succ, List.getElem_cons_zero, Act.put, List.setIfInBounds_toArray, List.set_cons_zero, List.set_cons_succ])
      refine wpAnyH_ready (rs := [6]) (by kernel_rfl) (by simp) ?_
      refine AllReadyH.cons rfl (fun K hK => ?_) AllReadyH.nil
      go_simp
      (go_at_call 31; (with_reducible refine (dig4 y _ yb7).mono ?_); rintro e' w8 ⟨rfl, b1⟩; have HB := hid (next HB.out b1); clear b1)
      go_wp2_with fail
      refine hK.out _ _ (by first | assumption | trivial) (fun hHeld => ?_)
      clear hK K
      (try simp only [List.append_eq, List.cons_append, List.nil_append, List.getElem_toArray, List.getElem_cons_succ, List.getElem_cons_zero, Act.put, List.setIfInBounds_toArray, List.set_cons_zero, List.set_cons_succ])
      refine wpAnyH_ready (rs := [9]) (by kernel_rfl) (by simp) ?_
      refine AllReadyH.cons rfl (fun K hK => ?_) AllReadyH.nil
      go_simp
      (go_at_call 31; (with_reducible refine (dig2 a _ ab7).mono ?_); rintro e' w9 ⟨rfl, b1⟩; have HB := hid (next HB.out b1); clear b1)
      go_wp2_with fail
      refine hK.out _ _ (by first | assumption | trivial) (fun hHeld => ?_)
      clear hK K
      (try simp only [List.append_eq, List.cons_append, List.nil_append, List.getElem_toArray, List.getElem_cons_succ, List.getElem_cons_zero, Act.put, List.setIfInBounds_toArray, List.set_cons_zero, List.set_cons_succ])
      refine wpAnyH_ready (rs := [13]) (by kernel_rfl) (by simp) ?_
      refine AllReadyH.cons rfl (fun K hK => ?_) AllReadyH.nil
      go_simp
      (go_at_call 31; (with_reducible refine (dig2 b _ bb7).mono ?_); rintro e' w10 ⟨rfl, b1⟩; have HB := hid (next HB.out b1); clear b1)
      go_wp2_with fail
      refine hK.out _ _ (by first | assumption | trivial) (fun hHeld => ?_)
      clear hK K
      (try simp only [List.append_eq, List.cons_append, List.nil_append, List.getElem_toArray, List.getElem_cons_succ, List.getElem_cons_zero, Act.put, List.setIfInBounds_toArray, List.set_cons_zero, List.set_cons_succ])
      refine wpAnyH_ready (rs := [16]) (by kernel_rfl) (by simp) ?_
      refine AllReadyH.cons rfl (fun K hK => ?_) AllReadyH.nil
      go_simp
      (go_at_call 31; (with_reducible refine (dig2 c _ cb7).mono ?_); rintro e' w11 ⟨rfl, b1⟩; have HB := hid (next HB.out b1); clear b1)
      go_wp2_with fail
      refine hK.out _ _ (by first | assumption | trivial) (fun hHeld => ?_)
      clear hK K
      (try simp only [List.append_eq, List.cons_append, List.nil_append, List.getElem_toArray, List.getElem_cons_succ, List.getElem_cons_zero, Act.put, List.setIfInBounds_toArray, List.set_cons_zero, List.set_cons_succ])
      refine wpAnyH_ready (rs := [20]) (by kernel_rfl) (by simp) ?_
      refine AllReadyH.cons rfl (fun K hK => ?_) AllReadyH.nil
      go_simp
      (go_at_call 31; (with_reducible refine (dig2 e _ eb7).mono ?_); rintro e' w12 ⟨rfl, b1⟩; have HB := hid (next HB.out b1); clear b1)
      go_wp2_with fail
      refine hK.out _ _ (by first | assumption | trivial) (fun hHeld => ?_)
      clear hK K
      (try simp only [List.append_eq, List.cons_append, List.nil_append, List.getElem_toArray, List.getElem_cons_succ, List.getElem_cons_zero, Act.put, List.setIfInBounds_toArray, List.set_cons_zero, List.set_cons_succ])
      refine wpAnyH_ready (rs := [23]) (by kernel_rfl) (by simp) ?_
      refine AllReadyH.cons rfl (fun K hK => ?_) AllReadyH.nil
      go_simp
      (go_at_call 31; (with_reducible refine (dig2 f _ fb7).mono ?_); rintro e' w13 ⟨rfl, b1⟩; have HB := hid (next HB.out b1); clear b1)
      go_wp2_with fail
      refine hK.out _ _ (by first | assumption | trivial) (fun hHeld => ?_)
      clear hK K
      (try simp only [List.append_eq, List.cons_append, List.nil_append, List.getElem_toArray, List.getElem_cons_succ, List.getElem_cons_zero, Act.put, List.setIfInBounds_toArray, List.set_cons_zero, List.set_cons_succ])
      refine wpAnyH_ready (rs := [24]) (by kernel_rfl) (by simp) ?_
      refine AllReadyH.cons rfl (fun K hK => ?_) AllReadyH.nil
      go_simp
      refine hK.out _ _ trivial (fun hHeld => ?_)
      clear hK K
      (try simp only [List.getElem_toArray, List.getElem_cons_succ, List.getElem_cons_zero, Act.put, List.setIfInBounds_toArray, List.set_cons_zero, List.set_cons_succ])
      refine wpAnyH_ready (rs := [25]) (by kernel_rfl) (by simp) ?_
      refine AllReadyH.cons rfl (fun K hK => ?_) AllReadyH.nil
      go_simp
      (go_at_call 32; refine (join15 _ w13.heap.size F ml (digL y 4) (digL a 2) (digL b 2) (digL c 2) [43] (digL e 2) (digL f 2) (heap_alloc_new w13 _) (by simp only [digL_len, HFL.out, HML.out, List.length_cons, List.length_nil]; decide)).mono ?_; rintro e' w14 ⟨rfl, b1⟩; have HB := hid (next (HB.out.alloc HB.out.size _) b1); clear b1)
      go_wp2_with fail
      refine hK.out _ _ (by first | assumption | trivial) (fun hHeld => ?_)
      clear hK K
      (try simp only [List.append_eq, List.cons_append, List.nil_append, List.getElem_toArray, List.getElem_cons_succ, List.getElem_cons_zero, Act.put, List.setIfInBounds_toArray, List.set_cons_zero, List.set_cons_succ])
      refine wpAnyH_take (i := 26) (v := ?_) rfl (by kernel_rfl) (by kernel_rfl) (by kernel_rfl) (fun _ _ _ h => h) (Or.inl ⟨by kernel_rfl, ?_⟩) (by first | assumption | trivial) ?_
      rotate_left
      · (intro wS hSw; (try dsimp only at hSw); go_simp; try with_reducible rfl)
      (try simp only [List.append_eq, List.cons_append, List.nil_append, List.getElem_toArray, List.getElem_cons_succ, List.getElem_cons_zero, Act.put, List.setIfInBounds_toArray, List.set_cons_zero, List.set_cons_succ])
      refine wpAnyH_take (i := 27) (v := ?_) rfl (by kernel_rfl) (by kernel_rfl) (by kernel_rfl) (fun _ _ _ h => h) (Or.inl ⟨by kernel_rfl, ?_⟩) (by first | assumption | trivial) ?_
      rotate_left
      · (intro wS hSw; (try dsimp only at hSw); go_simp; try with_reducible rfl)
      (try simp only [List.append_eq, List.cons_append, List.nil_append, List.getElem_toArray, List.getElem_cons_succ, List.getElem_cons_zero, Act.put, List.setIfInBounds_toArray, List.set_cons_zero, List.set_cons_succ])
      refine wpAnyH_done (by kernel_rfl) ?_ _
      refine NoPanic.normal ?_
      go_wp2_with fail
      go_ret2
      exact ⟨by rw [← HOUT.out]; rfl, HB.out⟩
end Go.Proofs.YtkjlkkaoaiphcaaDoor
