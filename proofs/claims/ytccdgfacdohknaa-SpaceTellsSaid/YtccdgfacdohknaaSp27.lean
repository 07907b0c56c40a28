/-
  SpaceTells: the walk. A part of the proof: see the head of the text that ends in 'Law'.
-/
import Derived.Test.YtccdgfacdohknaaSp26
namespace Go.Proofs.Ytccdgfacdohknaa
open Go.RowKit Go.Shelf
set_option linter.unusedVariables false

/-- Is the page p among the first i, and used? -/
def usedI (l : List Bool) (i : Nat) (p : Int) : Bool := decide (0 ≤ p) && decide (p < i) && l.getD p.toNat false
theorem usedI_zero (l : List Bool) (p : Int) : usedI l 0 p = false := by
  unfold usedI
  by_cases h : 0 ≤ p
  · rw [decide_eq_false (p := p < ((0 : Nat) : Int)) (by omega), Bool.and_false, Bool.false_and]
  · rw [decide_eq_false h, Bool.false_and, Bool.false_and]
theorem usedI_no (l : List Bool) (i : Nat) (p : Int) (h : l.getD i false = false) : usedI l (i + 1) p = usedI l i p := by
  unfold usedI
  by_cases hp : p = i
  · subst hp
    rw [Int.toNat_natCast, h, Bool.and_false, Bool.and_false]
  · rw [show decide (p < ((i + 1 : Nat) : Int)) = decide (p < (i : Int)) from decide_eq_decide.2 (by omega)]
theorem usedI_yes (l : List Bool) (i : Nat) (p : Int) (h : l.getD i false = true) : (usedI l i p || ((i : Int) == p)) = usedI l (i + 1) p := by
  unfold usedI
  by_cases hp : (i : Int) = p
  · subst hp
    rw [Int.toNat_natCast, h, beq_self_eq_true, Bool.or_true, decide_eq_true (by omega), decide_eq_true (by omega)]
    rfl
  · rw [beq_eq_false_iff_ne.2 hp, Bool.or_false, show decide (p < ((i + 1 : Nat) : Int)) = decide (p < (i : Int)) from decide_eq_decide.2 (by omega)]
theorem usedB_all {N : Int} {bits : List UInt8} {l : List Bool} (h : Ok5 N bits l) (p : Int) : usedB N bits p = usedI l l.length p := by
  rw [h.n, h.b, usedB_pack l h.m]
  unfold usedI
  by_cases h0 : p < l.length
  · rw [decide_eq_true (p := p < (l.length : Int)) h0, Bool.and_true]
  · have : l.getD p.toNat false = false := by rw [List.getD_eq_getElem?_getD, List.getElem?_eq_none (by omega)]; rfl
    rw [this, Bool.and_false, Bool.and_false]

/-- 'make([]T, n)' as an operation by itself. -/
theorem wp_make_all {P : Program} (w : World) {o : Oper} {a : Act} {Q : Exit → Act → World → Prop} {K : Act → World → Prop}
    (l c : Operand) (t : TypeId) (hop : o.op = Op.makeSlice t l c)
    (base : Nat) (e : TypeId) (i : TypeInfo) (z : Value) (size : Nat) (h1 : P.underlying t = some (.slice e)) (h2 : P.info? e = some i) (h3 : i.zero = some z) (h4 : i.size = size)
    (kl kc : IntKind) (L C : Int) (n : Nat) (hl : a.eval l = .int kl L) (hc : a.eval c = .int kc C) (hL : L = (n : Int)) (hC : C = (n : Int)) (b2 : i.bytes * n ≤ 281474976710656) (b3 : n ≤ maxLen) (b4 : base ≤ w.heap.size)
    (hK : ∀ w', w'.ownsRow base e size (.slice (some ⟨w.heap.size, 0, none⟩) n n) n (madeCells z.cells (n * size)).toList → w.grownBy w' none → K (a.put o.dst (.slice (some ⟨w.heap.size, 0, none⟩) n n)) w') :
    Oper.wp P o a w K Q := by
  obtain ⟨w', hrun, r1, r2⟩ := run_make_full (P := P) w base t e i z size h1 h2 h3 h4 kl kc n b2 b3 b4
  subst hL
  subst hC
  unfold Oper.wp
  simp [execOp, hop, hl, hc, hrun, Result.andThen]
  exact hK w' r1 r2
/-- Two cells, and the memory they lie in. -/
abbrev Duo (w0 W : World) (a1 a2 : Addr) (v1 v2 : Value) : Prop := W.cell? a1 = some v1 ∧ W.cell? a2 = some v2 ∧ Hid (Below w0.heap.size w0 W)
theorem Duo.bel {w0 W : World} {a1 a2 : Addr} {v1 v2 : Value} (h : Duo w0 W a1 a2 v1 v2) : Below w0.heap.size w0 W := h.2.2.out
theorem Duo.keep {w0 W W' : World} {a1 a2 : Addr} {v1 v2 : Value} (h : Duo w0 W a1 a2 v1 v2) (hb : Below W.heap.size W W') : Duo w0 W' a1 a2 v1 v2 := ⟨cells_keep hb h.1, cells_keep hb h.2.1, hid (next h.bel hb)⟩
/-- New's flags, and its error. -/
def newF (k : Int) : List Bool × Nat := if k < 0 ∨ 2048 < k then ([], 1) else (List.replicate k.toNat false, 0)
theorem new_any (k : Int) (w : World) : Calls Try.prog 20 #[.int .i64 k] w (SpE w (newF k).1 (newF k).2) := by
  unfold newF
  by_cases h : k < 0 ∨ 2048 < k
  · rw [if_pos h]
    exact (new_bad k w h).mono fun e w' h => h.spe
  · rw [if_neg h]
    obtain ⟨n, rfl⟩ : ∃ n : Nat, k = n := ⟨k.toNat, by omega⟩
    exact (new_good n w (by omega)).mono fun e w' h => h.spe
structure TeI (w0 wr : World) (l : List Bool) (j m : Nat) (A2 : Option Addr) (c2 : Nat) : Prop where
  p : wr.ownsRow w0.heap.size 3 1 (.slice A2 m c2) m ((freeL l j).map I8)
  m : m = (freeL l j).length
  b : Below w0.heap.size w0 wr
/-- What a space tells of itself. -/
structure TellF (N : Int) (bits : List UInt8) (l : List Bool) (m : Bool) (cnt : Nat) : Prop where
  may : mayB N bits = m
  cnt_ : (if mayB N bits then popL bits else 0) = cnt
  len : l.length ≤ 2048
  all : cnt + (freeL l l.length).length = l.length
  use : ∀ p, usedB N bits p = usedI l l.length p
  flags : ∀ (A : Option Addr) (n c : Nat) (w : World), Oct w A n bits → n ≤ 4096 → (-9223372036854775808 ≤ N ∧ N ≤ 9223372036854775807) → Calls Try.prog 11 #[.agg #[.int .i64 N, .slice A n c]] w fun e w' => ∃ A' n' c', Hid (n' = l.length) ∧ e = .returned (.tuple #[.slice A' n' c', .bool m]) ∧ BRow w' A' n' l ∧ Below w.heap.size w w'
  free : ∀ (A : Option Addr) (n c : Nat) (w : World), Oct w A n bits → n ≤ 4096 → (-9223372036854775808 ≤ N ∧ N ≤ 9223372036854775807) → Calls Try.prog 22 #[.agg #[.int .i64 N, .slice A n c]] w (FrPost w (freeL l l.length))
theorem tellF (N : Int) (bits : List UInt8) : ∃ l m cnt, TellF N bits l m cnt := by
  obtain ⟨o, hfo⟩ := flO N bits
  cases o with
  | none =>
    have hm := mayB_bad hfo
    exact ⟨[], false, 0, hm, by rw [hm]; rfl, by simp, rfl, fun p => by rw [show ([] : List Bool).length = 0 from rfl, usedI_zero]; unfold usedB; rw [hm]; rfl,
      fun A n c w ho hn hN => (flags_none N A n c bits w hfo ho (by omega) hN).mono fun e w' ⟨he, hb⟩ => ⟨none, 0, 0, hid rfl, he, BRow.nil _ _, hb⟩,
      fun A n c w ho hn hN => free_bad N A n c bits w ho hN hn hm⟩
  | some l =>
    have hok : Ok5 N bits l := hfo
    have hm := mayB_ok hok
    have hp := pop_all l
    refine ⟨l, true, popL (packL l), hm, by rw [hm, hok.b]; rfl, hok.m, hp, usedB_all hok, fun A n c w ho hn hN => flags_some N A n c bits w l hfo ho (by omega) hN, fun A n c w ho hn hN => ?_⟩
    obtain ⟨h1, h2, h3⟩ := hok
    subst h1
    subst h3
    exact free_good l A n c w ho h2

set_option maxRecDepth 20000 in
set_option maxHeartbeats 4000000 in
theorem walkSpaceTells (k N : Int) (A : Option Addr) (n c : Nat) (bits : List UInt8) (p : Int) (w : World) (hk : -9223372036854775808 ≤ k ∧ k ≤ 9223372036854775807) (ho : Oct w A n bits) (hc : n ≤ c) (hcm : c ≤ maxLen) (hN : -9223372036854775808 ≤ N ∧ N ≤ 9223372036854775807)
    (hp : -9223372036854775808 ≤ p ∧ p ≤ 9223372036854775807) :
    Calls Try.prog 6 #[.int .i64 k, .agg #[.int .i64 N, .slice A n c], .int .i64 p] w fun e w' => e = .returned (.bool true) ∧ Below w.heap.size w w' := by
  have HN := hid hN
  have X0 := hid (SpV.new_ N c ho)
  have B0 := hid (varW_below w N A n c)
  have x00 := X0.out.k0
  have x01 := X0.out.k1
  clear ho
  go_enter Try.func6, Try.ntmps6
  go_upto_region 2 with (go_at_call 7; refine (few_any N A n c bits _ X0.out.o hc hcm).mono ?_; rintro e w1 ⟨n', bits', rfl, o1, hn', hcc, b1⟩; have Z1 := hid (X0.out.bx.below b1); have x10 := Z1.out.cell (j := 0) (u := .int .i64 N) rfl; have x11 := Z1.out.cell (j := 1) (u := .slice A n c) rfl; have f10 := Z1.out.frozen 0; have f11 := Z1.out.frozen 1)
  have X2 := SpV.store Z1.out N c (o1.below b1)
  have B1 := (next B0.out b1).setCell (p := ⟨w.heap.size, 0, none⟩) (Nat.le_refl _) (.int .i64 N)
  have B2 := B1.setCell (p := ⟨w.heap.size, 1, none⟩) (Nat.le_refl _) (.slice A n' c)
  obtain ⟨W2, hW2⟩ : ∃ W2, (w1.setCell ⟨w.heap.size, 0, none⟩ (.int .i64 N)).setCell ⟨w.heap.size, 1, none⟩ (.slice A n' c) = W2 := ⟨_, rfl⟩
  rw [hW2] at X2 B2 ⊢
  clear hW2 x10 x11 f10 f11 x00 x01 B1 B0 X0 o1 b1 Z1
  have B2 := hid B2
  have X2 := hid X2
  have hNW := fun W => new_any k W
  obtain ⟨g1, hg1⟩ : ∃ g1, newF k = g1 := ⟨_, rfl⟩
  rw [hg1] at hNW
  obtain ⟨f1, e1⟩ := g1
  have HNW := hid hNW
  have HG1 := hid hg1
  clear hNW hg1
  have x0 := X2.out.k0
  have x1 := X2.out.k1
  go_upto_region 3 with (go_at_call 20; (with_reducible refine (HNW.out _).mono ?_); rintro e w3 ⟨A3, c3, N3, n3, hz3, rfl, o3, b3⟩; have q3 := next b3 (varW_below w3 N3 A3 n3 c3); ((first | replace B2 := B2.far q3 | replace B2 := hid (B2.out.below q3) | skip); (first | replace X2 := X2.far q3 | replace X2 := hid (X2.out.below q3) | skip); (first | replace Va := Va.far q3 | replace Va := hid (Va.out.below q3) | skip); (first | replace F6 := F6.far q3 | replace F6 := hid (F6.out.below q3) | skip); (first | replace RP := RP.far q3 | replace RP := hid (RP.out.below q3) | skip); (first | replace RQ := RQ.far q3 | replace RQ := hid (RQ.out.below q3) | skip); (first | replace x0 := cells_keep q3 x0 | skip); (first | replace x1 := cells_keep q3 x1 | skip); (first | replace xa0 := cells_keep q3 xa0 | skip); (first | replace xa1 := cells_keep q3 xa1 | skip)); have Va := hid (SpV.new_ N3 c3 o3); clear q3 b3 o3)
  have xa0 := Va.out.k0
  have xa1 := Va.out.k1
  obtain ⟨W3, hW3⟩ : ∃ W3, varW w3 (N3 : Int) A3 n3 c3 = W3 := ⟨_, rfl⟩
  rw [hW3] at B2 X2 x0 x1 Va xa0 xa1
  have hW3' : w3.alloc (Obj.cells #[.int .i64 (N3 : Int), .slice A3 n3 c3] 24) = W3 := hW3
  rw [hW3']
  clear hW3 hW3' HNW
  go_cut [27] (fun t wx => t = .bool (decide (k < 0 ∨ 2048 < k)) ∧ W3 = wx)
  case first =>
    by_cases h1 : k < 0
    · have hd1 : decide (k < 0) = true := by simpa using h1
      go_wp2_with fail
      go_meet
      exact ⟨by rw [show decide (k < 0 ∨ 2048 < k) = true from decide_eq_true (.inl h1)], rfl⟩
    · have hd1 : decide (k < 0) = false := by simpa using h1
      by_cases h2 : 2048 < k
      · have hd2 : decide (2048 < k) = true := by simpa using h2
        go_wp2_with fail
        go_meet
        exact ⟨by rw [show decide (k < 0 ∨ 2048 < k) = true from decide_eq_true (.inr h2)], rfl⟩
      · have hd2 : decide (2048 < k) = false := by simpa using h2
        go_wp2_with fail
        go_meet
        exact ⟨by rw [show decide (k < 0 ∨ 2048 < k) = false from decide_eq_false (by omega)], rfl⟩
  case rest =>
  obtain ⟨rfl, rfl⟩ := hcut
  go_upto_if 27 with fail
  go_cut [] (fun wx => Hid (Below W3.heap.size W3 wx))
  case first =>
    by_cases h : k < 0 ∨ 2048 < k
    · rw [show decide (k < 0 ∨ 2048 < k) = true from decide_eq_true h]
      have h1 := HG1.out
      unfold newF at h1
      rw [if_pos h] at h1
      simp only [Prod.mk.injEq] at h1
      obtain ⟨rfl, rfl⟩ := h1
      obtain ⟨rfl, rfl⟩ : N3 = 0 ∧ n3 = 0 := hz3.out
      go_wp2_with fail
      go_meet
      exact hid (Below.refl _ _)
    · rw [show decide (k < 0 ∨ 2048 < k) = false from decide_eq_false h]
      have h1 := HG1.out
      unfold newF at h1
      rw [if_neg h] at h1
      simp only [Prod.mk.injEq] at h1
      obtain ⟨hf1, rfl⟩ := h1
      obtain ⟨kn, rfl⟩ : ∃ kn : Nat, k = kn := ⟨k.toNat, by omega⟩
      have hkn : kn ≤ 2048 := by omega
      rw [Int.toNat_natCast] at hf1
      obtain ⟨i0, hi0, hz0, hz1, hz2⟩ := info_parts boolsT.info
      have Hz1 := hid hz1
      have Hz2 := hid hz2
      have Hi0 := hid hi0
      have Hz0 := hid hz0
      have HF1 := hid hf1
      have hk0 : (0 : Int) ≤ kn := by omega
      clear hz1 hz2 hi0 hz0 hf1 h HG1
      have hS0 : Duo W3 W3.drew ⟨w3.heap.size, 0, none⟩ ⟨w3.heap.size, 1, none⟩ (.int .i64 N3) (.slice A3 n3 c3) := Duo.keep ⟨xa0, xa1, hid (Below.refl _ _)⟩ (drew_below W3)
      go_upto_region 6 with fail
      refine wp_region_noPanic ?_
      refine wp_region_held_drew (S := (fun W => Duo W3 W ⟨w3.heap.size, 0, none⟩ ⟨w3.heap.size, 1, none⟩ (.int .i64 N3) (.slice A3 n3 c3))) (by kernel_rfl) (by assumption) (fun hHeld => ?_)
      refine wpAnyH_take (i := 0) (v := ?_) rfl (by kernel_rfl) (by kernel_rfl) (by kernel_rfl) (fun _ _ _ h => h) (Or.inl ⟨by kernel_rfl, ?_⟩) (by assumption) ?_
      rotate_left
      · (intro wS hSw; (try dsimp only at hSw); go_simp; try with_reducible rfl)
      (try simp only [List.getElem_toArray, List.getElem_cons_succ, List.getElem_cons_zero, Act.put, List.setIfInBounds_toArray, List.set_cons_zero, List.set_cons_succ])
      refine wpAnyH_take (i := 1) (v := ?_) rfl (by kernel_rfl) (by kernel_rfl) (by kernel_rfl) (fun _ _ _ h => h) (Or.inl ⟨by kernel_rfl, ?_⟩) (by assumption) ?_
      rotate_left
      · (intro wS hSw; (try dsimp only at hSw); go_simp; try with_reducible rfl)
      (try simp only [List.getElem_toArray, List.getElem_cons_succ, List.getElem_cons_zero, Act.put, List.setIfInBounds_toArray, List.set_cons_zero, List.set_cons_succ])
      refine wpAnyH_ready (rs := [2]) (by kernel_rfl) (by simp) ?_
      refine AllReadyH.cons rfl (fun K hK => ?_) AllReadyH.nil
      rw [if_pos (by kernel_rfl)]
      (refine wp_make_all _ (.tmp 42) (.tmp 42) 32 rfl W3.heap.size 4 i0 (.bool false) 1 Try.underlying32 Hi0.out Hz0.out Hz1.out .i64 .i64 kn kn kn rfl rfl rfl rfl (by rw [Hz2.out]; omega) (by unfold maxLen; omega) (Nat.le_refl _) ?_; intro w5 ho5 hg5; have b5 := (Below.refl _ _).grown hg5 (Nat.le_refl _) (fun k hk => by cases hk); have hR5 : BRow w5 (some ⟨W3.heap.size, 0, none⟩) kn f1 := ⟨by rw [← HF1.out, List.length_replicate], by rw [← HF1.out, List.map_replicate, ← made_one (.bool false) rfl]; exact Row.of_own ho5⟩; have R5 := hid hR5; have hS5 := Duo.keep hS0 b5; clear b5 hg5 ho5 hR5)
      refine hK.out _ _ (by assumption) (fun hHeld => ?_)
      clear hK K
      (try simp only [List.getElem_toArray, List.getElem_cons_succ, List.getElem_cons_zero, Act.put, List.setIfInBounds_toArray, List.set_cons_zero, List.set_cons_succ])
      refine wpAnyH_ready (rs := [3]) (by kernel_rfl) (by simp) ?_
      refine AllReadyH.cons rfl (fun K hK => ?_) AllReadyH.nil
      go_simp
      (go_at_call 15; (with_reducible refine (of_e f1 (some ⟨W3.heap.size, 0, none⟩) kn kn _ R5.out (by omega)).mono ?_); rintro e w6 ⟨A6, N6, n6, c6, hz6, rfl, o6, b6⟩; have hS6 := Duo.keep hS5 b6; have O6 := hid o6; clear b6 o6)
      go_wp2_with fail
      refine hK.out _ _ (by assumption) (fun hHeld => ?_)
      clear hK K
      (try simp only [List.getElem_toArray, List.getElem_cons_succ, List.getElem_cons_zero, Act.put, List.setIfInBounds_toArray, List.set_cons_zero, List.set_cons_succ])
      refine wpAnyH_ready (rs := [4]) (by kernel_rfl) (by simp) ?_
      refine AllReadyH.cons rfl (fun K hK => ?_) AllReadyH.nil
      go_simp
      (go_at_call 12; (with_reducible refine (same_e f1 N3 N6 n3 n6 A3 A6 c3 c6 _ hz3.out.1 hz6.out.1 (Va.out.o.below (Duo.bel hS6)) O6.out).mono ?_); rintro e w7 ⟨rfl, b7⟩; have hS7 := Duo.keep hS6 b7; clear b7)
      go_wp2_with fail
      refine hK.out _ _ (by assumption) (fun hHeld => ?_)
      clear hK K
      (try simp only [List.getElem_toArray, List.getElem_cons_succ, List.getElem_cons_zero, Act.put, List.setIfInBounds_toArray, List.set_cons_zero, List.set_cons_succ])
      refine wpAnyH_take (i := 5) (v := ?_) rfl (by kernel_rfl) (by kernel_rfl) (by kernel_rfl) (fun _ _ _ h => h) (Or.inl ⟨by kernel_rfl, ?_⟩) (by assumption) ?_
      rotate_left
      · (intro wS hSw; (try dsimp only at hSw); go_simp; try with_reducible rfl)
      (try simp only [List.getElem_toArray, List.getElem_cons_succ, List.getElem_cons_zero, Act.put, List.setIfInBounds_toArray, List.set_cons_zero, List.set_cons_succ])
      refine wpAnyH_take (i := 6) (v := ?_) rfl (by kernel_rfl) (by kernel_rfl) (by kernel_rfl) (fun _ _ _ h => h) (Or.inl ⟨by kernel_rfl, ?_⟩) (by assumption) ?_
      rotate_left
      · (intro wS hSw; (try dsimp only at hSw); go_simp; try with_reducible rfl)
      (try simp only [List.getElem_toArray, List.getElem_cons_succ, List.getElem_cons_zero, Act.put, List.setIfInBounds_toArray, List.set_cons_zero, List.set_cons_succ])
      refine wpAnyH_take (i := 7) (v := ?_) rfl (by kernel_rfl) (by kernel_rfl) (by kernel_rfl) (fun _ _ _ h => h) (Or.inl ⟨by kernel_rfl, ?_⟩) (by assumption) ?_
      rotate_left
      · (intro wS hSw; (try dsimp only at hSw); go_simp; try with_reducible rfl)
      (try simp only [List.getElem_toArray, List.getElem_cons_succ, List.getElem_cons_zero, Act.put, List.setIfInBounds_toArray, List.set_cons_zero, List.set_cons_succ])
      refine wpAnyH_take (i := 8) (v := ?_) rfl (by kernel_rfl) (by kernel_rfl) (by kernel_rfl) (fun _ _ _ h => h) (Or.inl ⟨by kernel_rfl, ?_⟩) (by assumption) ?_
      rotate_left
      · (intro wS hSw; (try dsimp only at hSw); go_simp; try with_reducible rfl)
      (try simp only [List.getElem_toArray, List.getElem_cons_succ, List.getElem_cons_zero, Act.put, List.setIfInBounds_toArray, List.set_cons_zero, List.set_cons_succ])
      refine wpAnyH_take (i := 9) (v := ?_) rfl (by kernel_rfl) (by kernel_rfl) (by kernel_rfl) (fun _ _ _ h => h) (Or.inl ⟨by kernel_rfl, ?_⟩) (by assumption) ?_
      rotate_left
      · (intro wS hSw; (try dsimp only at hSw); go_simp; try with_reducible rfl)
      (try simp only [List.getElem_toArray, List.getElem_cons_succ, List.getElem_cons_zero, Act.put, List.setIfInBounds_toArray, List.set_cons_zero, List.set_cons_succ])
      refine wpAnyH_done (by kernel_rfl) ?_ _
      refine NoPanic.normal ?_
      have hb7 := hid hS7.bel
      go_wp2_with fail
      go_meet
      exact hb7
  case rest =>
  have hb6 := hcut.out
  ((first | replace B2 := B2.far hb6 | replace B2 := hid (B2.out.below hb6) | skip); (first | replace X2 := X2.far hb6 | replace X2 := hid (X2.out.below hb6) | skip); (first | replace Va := Va.far hb6 | replace Va := hid (Va.out.below hb6) | skip); (first | replace F6 := F6.far hb6 | replace F6 := hid (F6.out.below hb6) | skip); (first | replace RP := RP.far hb6 | replace RP := hid (RP.out.below hb6) | skip); (first | replace RQ := RQ.far hb6 | replace RQ := hid (RQ.out.below hb6) | skip); (first | replace x0 := cells_keep hb6 x0 | skip); (first | replace x1 := cells_keep hb6 x1 | skip); (first | replace xa0 := cells_keep hb6 xa0 | skip); (first | replace xa1 := cells_keep hb6 xa1 | skip))
  clear hb6 hcut Va xa0 xa1 HG1 hz3
  obtain ⟨l, m, cnt, hTF⟩ := tellF N bits'
  have TF := hid hTF
  have hll := hTF.len
  clear hTF
  go_upto_region 9 with (go_at_call 11; (with_reducible refine (TF.out.flags A n' c _ X2.out.o (by omega) HN.out).mono ?_); rintro e w6 ⟨A6, n6, c6, hz6, rfl, r6, b6⟩; ((first | replace B2 := B2.far b6 | replace B2 := hid (B2.out.below b6) | skip); (first | replace X2 := X2.far b6 | replace X2 := hid (X2.out.below b6) | skip); (first | replace Va := Va.far b6 | replace Va := hid (Va.out.below b6) | skip); (first | replace F6 := F6.far b6 | replace F6 := hid (F6.out.below b6) | skip); (first | replace RP := RP.far b6 | replace RP := hid (RP.out.below b6) | skip); (first | replace RQ := RQ.far b6 | replace RQ := hid (RQ.out.below b6) | skip); (first | replace x0 := cells_keep b6 x0 | skip); (first | replace x1 := cells_keep b6 x1 | skip); (first | replace xa0 := cells_keep b6 xa0 | skip); (first | replace xa1 := cells_keep b6 xa1 | skip)); have F6 := hid r6; clear b6 r6)
  have hn6 : n6 ≤ 2048 := by have := hz6.out; omega
  go_wp2
  go_loopw [11, 12, 13, 14] (fun cn us fr i wr => ∃ (j m2 ct : Nat) (A2 : Option Addr) (c2 : Nat), j ≤ n6 ∧ cn = .int .i64 ct ∧ us = .bool (usedI l j p) ∧ fr = .slice A2 m2 c2 ∧ i = .int .i64 j ∧ Hid (ct + m2 = j) ∧ Hid (TeI w6 wr l j m2 A2 c2)) (fun cn us fr i wr => n6 - (intOf i).toNat)
  case atStart => exact ⟨0, 0, 0, none, 0, by omega, rfl, by rw [usedI_zero], rfl, rfl, hid rfl, hid ⟨World.ownsRow_nil _ _ _ _, rfl, Below.refl _ _⟩⟩
  case round =>
    obtain ⟨j, m2, ct, A2, c2, hj, rfl, rfl, rfl, rfl, hct, hI⟩ := hrel
    have hctj : ct ≤ j := by have := hct.out; omega
    have hmj : m2 ≤ j := by have := hct.out; omega
    generalize hu : usedI l j p = u
    have HU := hid hu
    clear hu
    by_cases hlt : j < n6
    · have hd : decide ((j : Int) < n6) = true := by simpa using hlt
      have hjl : j < l.length := by have := hz6.out; omega
      obtain ⟨b, off, rfl, hcs⟩ := F6.out.at_ (by omega)
      obtain ⟨bx, hbx, hcx⟩ : ∃ bx, Hid (l.getD j false = bx) ∧ wr.cell? ⟨b, off + j, none⟩ = some (.bool bx) :=
        ⟨l[j], hid (by rw [List.getD_eq_getElem?_getD, List.getElem?_eq_getElem hjl]; rfl), cells_keep hI.out.b (hcs j hjl)⟩
      have hi0 : (0 : Int) ≤ (j : Int) := by omega
      have hi1 : (j : Int) < n6 := by omega
      clear hcs
      cases bx with
      | true =>
        have hmore := usedI_yes l j p hbx.out
        rw [HU.out] at hmore
        have HMO := hid hmore
        have hfe : freeL l (j + 1) = freeL l j := by rw [freeL_succ, hbx.out]; rfl
        have HFE := hid hfe
        clear hmore hfe
        cases u with
        | true =>
          go_wp2
          go_roundw
          case rel => exact ⟨j + 1, m2, ct + 1, A2, c2, by omega, by go_num, by rw [← HMO.out]; rfl, rfl, by go_num, hid (by have := hct.out; omega), hid ⟨by rw [HFE.out]; exact hI.out.p, by rw [HFE.out]; exact hI.out.m, hI.out.b⟩⟩
          case measure => simp [intOf]; omega
        | false =>
          go_wp2
          go_roundw
          case rel => exact ⟨j + 1, m2, ct + 1, A2, c2, by omega, by go_num, by rw [← HMO.out]; rfl, rfl, by go_num, hid (by have := hct.out; omega), hid ⟨by rw [HFE.out]; exact hI.out.p, by rw [HFE.out]; exact hI.out.m, hI.out.b⟩⟩
          case measure => simp [intOf]; omega
      | false =>
        have HMO := hid (usedI_no l j p hbx.out)
        go_wp2_with (
          at_builtin
          refine wpList_append_row _ rfl (.tmp 74) (.tmp 76) intsT rfl w6.heap.size (.slice A2 m2 c2) m2 ((freeL l j).map I8) rfl (own_alloc hI.out.p _) (some ⟨wr.heap.size, 0, none⟩) 1 1 [.int .i64 j] rfl rfl (row_box _ _ (by simp)) (by simp [Value.oneCell']) (by simp only [maxLen]; omega) (by omega) (by have := hI.out.b.size; simp; omega) ?_
          intro A3 c3 w3 hown3 hgr3 hat3
          have B3 := hid ((hI.out.b.alloc (by have := hI.out.b.size; simp; omega) (Obj.cells #[.int .i64 j] 3)).grown hgr3 (by have := hI.out.b.size; simp; omega) (own_base hI.out.p))
          have P3 := hid hown3
          clear hown3 hgr3 hat3)
        go_roundw
        case rel =>
          have hf : freeL l (j + 1) = freeL l j ++ [j] := by rw [freeL_succ, hbx.out]; rfl
          refine ⟨j + 1, m2 + 1, ct, A3, c3, by omega, rfl, by rw [HMO.out, HU.out], by go_num, by go_num, hid (by have := hct.out; omega), hid ⟨?_, ?_, B3.out⟩⟩
          · rw [hf, List.map_append]
            exact P3.out
          · rw [hf, List.length_append, ← hI.out.m]
            rfl
        case measure => simp [intOf]; omega
    · have hd : decide ((j : Int) < n6) = false := by simpa using hlt
      have hd2 : decide (j < n6) = false := by simpa using hlt
      have hjl : j = l.length := by have := hz6.out; omega
      have hm2 : m2 ≤ 100000 := by omega
      have HMAY := hid TF.out.may
      have HCNT : Hid ((if mayB N bits' then popL bits' else 0) = ct) := hid (by
        rw [TF.out.cnt_]
        have h1 := TF.out.all
        have h2 := hct.out
        have h3 := hI.out.m
        rw [hjl] at h2 h3
        omega)
      have HUS : Hid (usedB N bits' p = u) := hid (by rw [TF.out.use p, ← hjl]; exact HU.out)
      have HFR : Hid (∀ W, Oct W A n' bits' → Calls Try.prog 22 #[.agg #[.int .i64 N, .slice A n' c]] W fun e' w' => ∃ A' c', e' = .returned (.slice A' m2 c') ∧ IRow w' A' m2 ((freeL l j).map Int.ofNat) ∧ Below W.heap.size W w') := hid (fun W ho => by
        have h := TF.out.free A n' c W ho (by omega) HN.out
        unfold FrPost at h
        rw [← hjl, ← hI.out.m] at h
        exact h)
      have hW := hI.out.b
      ((first | replace B2 := B2.far hW | replace B2 := hid (B2.out.below hW) | skip); (first | replace X2 := X2.far hW | replace X2 := hid (X2.out.below hW) | skip); (first | replace Va := Va.far hW | replace Va := hid (Va.out.below hW) | skip); (first | replace F6 := F6.far hW | replace F6 := hid (F6.out.below hW) | skip); (first | replace RP := RP.far hW | replace RP := hid (RP.out.below hW) | skip); (first | replace RQ := RQ.far hW | replace RQ := hid (RQ.out.below hW) | skip); (first | replace x0 := cells_keep hW x0 | skip); (first | replace x1 := cells_keep hW x1 | skip); (first | replace xa0 := cells_keep hW xa0 | skip); (first | replace xa1 := cells_keep hW xa1 | skip))
      have RP := hid (irow_nat hI.out.m.symm (Row.of_own hI.out.p))
      clear hW TF HU hct hI hjl hlt F6 hll hctj hmj
      go_wp2_with (first
        | (go_at_call 21; (with_reducible refine (may_any N A n' c bits' _ X2.out.o HN.out (by omega)).mono ?_); rw [HMAY.out]; rintro e w8 ⟨rfl, b8⟩; ((first | replace B2 := B2.far b8 | replace B2 := hid (B2.out.below b8) | skip); (first | replace X2 := X2.far b8 | replace X2 := hid (X2.out.below b8) | skip); (first | replace Va := Va.far b8 | replace Va := hid (Va.out.below b8) | skip); (first | replace F6 := F6.far b8 | replace F6 := hid (F6.out.below b8) | skip); (first | replace RP := RP.far b8 | replace RP := hid (RP.out.below b8) | skip); (first | replace RQ := RQ.far b8 | replace RQ := hid (RQ.out.below b8) | skip); (first | replace x0 := cells_keep b8 x0 | skip); (first | replace x1 := cells_keep b8 x1 | skip); (first | replace xa0 := cells_keep b8 xa0 | skip); (first | replace xa1 := cells_keep b8 xa1 | skip)); clear b8)
        | (go_at_call 19; (with_reducible refine (count_any N A n' c bits' _ X2.out.o HN.out (by omega)).mono ?_); rw [HCNT.out]; rintro e w9 ⟨rfl, b9⟩; ((first | replace B2 := B2.far b9 | replace B2 := hid (B2.out.below b9) | skip); (first | replace X2 := X2.far b9 | replace X2 := hid (X2.out.below b9) | skip); (first | replace Va := Va.far b9 | replace Va := hid (Va.out.below b9) | skip); (first | replace F6 := F6.far b9 | replace F6 := hid (F6.out.below b9) | skip); (first | replace RP := RP.far b9 | replace RP := hid (RP.out.below b9) | skip); (first | replace RQ := RQ.far b9 | replace RQ := hid (RQ.out.below b9) | skip); (first | replace x0 := cells_keep b9 x0 | skip); (first | replace x1 := cells_keep b9 x1 | skip); (first | replace xa0 := cells_keep b9 xa0 | skip); (first | replace xa1 := cells_keep b9 xa1 | skip)); clear b9)
        | (go_at_call 18; (with_reducible refine (used_e HUS.out A n' c _ X2.out.o HN.out (by omega)).mono ?_); rintro e w10 ⟨rfl, b10⟩; ((first | replace B2 := B2.far b10 | replace B2 := hid (B2.out.below b10) | skip); (first | replace X2 := X2.far b10 | replace X2 := hid (X2.out.below b10) | skip); (first | replace Va := Va.far b10 | replace Va := hid (Va.out.below b10) | skip); (first | replace F6 := F6.far b10 | replace F6 := hid (F6.out.below b10) | skip); (first | replace RP := RP.far b10 | replace RP := hid (RP.out.below b10) | skip); (first | replace RQ := RQ.far b10 | replace RQ := hid (RQ.out.below b10) | skip); (first | replace x0 := cells_keep b10 x0 | skip); (first | replace x1 := cells_keep b10 x1 | skip); (first | replace xa0 := cells_keep b10 xa0 | skip); (first | replace xa1 := cells_keep b10 xa1 | skip)); clear b10)
        | (go_at_call 22; (with_reducible refine (HFR.out _ X2.out.o).mono ?_); rintro e w11 ⟨A11, c11, rfl, r11, b11⟩; ((first | replace B2 := B2.far b11 | replace B2 := hid (B2.out.below b11) | skip); (first | replace X2 := X2.far b11 | replace X2 := hid (X2.out.below b11) | skip); (first | replace Va := Va.far b11 | replace Va := hid (Va.out.below b11) | skip); (first | replace F6 := F6.far b11 | replace F6 := hid (F6.out.below b11) | skip); (first | replace RP := RP.far b11 | replace RP := hid (RP.out.below b11) | skip); (first | replace RQ := RQ.far b11 | replace RQ := hid (RQ.out.below b11) | skip); (first | replace x0 := cells_keep b11 x0 | skip); (first | replace x1 := cells_keep b11 x1 | skip); (first | replace xa0 := cells_keep b11 xa0 | skip); (first | replace xa1 := cells_keep b11 xa1 | skip)); have RQ := hid r11; clear b11 r11)
        | (go_at_call 16; (with_reducible refine (ints_any A11 A2 m2 c11 m2 c2 ((freeL l j).map Int.ofNat) ((freeL l j).map Int.ofNat) _ RQ.out RP.out hm2).mono ?_); rw [beq_self_eq_true]; rintro e w12 ⟨rfl, b12⟩; ((first | replace B2 := B2.far b12 | replace B2 := hid (B2.out.below b12) | skip); (first | replace X2 := X2.far b12 | replace X2 := hid (X2.out.below b12) | skip); (first | replace Va := Va.far b12 | replace Va := hid (Va.out.below b12) | skip); (first | replace F6 := F6.far b12 | replace F6 := hid (F6.out.below b12) | skip); (first | replace RP := RP.far b12 | replace RP := hid (RP.out.below b12) | skip); (first | replace RQ := RQ.far b12 | replace RQ := hid (RQ.out.below b12) | skip); (first | replace x0 := cells_keep b12 x0 | skip); (first | replace x1 := cells_keep b12 x1 | skip); (first | replace xa0 := cells_keep b12 xa0 | skip); (first | replace xa1 := cells_keep b12 xa1 | skip)); clear b12)
        | (go_at_call 13; refine (awake_any _).mono ?_; rintro e w13 ⟨rfl, b13⟩; ((first | replace B2 := B2.far b13 | replace B2 := hid (B2.out.below b13) | skip); (first | replace X2 := X2.far b13 | replace X2 := hid (X2.out.below b13) | skip); (first | replace Va := Va.far b13 | replace Va := hid (Va.out.below b13) | skip); (first | replace F6 := F6.far b13 | replace F6 := hid (F6.out.below b13) | skip); (first | replace RP := RP.far b13 | replace RP := hid (RP.out.below b13) | skip); (first | replace RQ := RQ.far b13 | replace RQ := hid (RQ.out.below b13) | skip); (first | replace x0 := cells_keep b13 x0 | skip); (first | replace x1 := cells_keep b13 x1 | skip); (first | replace xa0 := cells_keep b13 xa0 | skip); (first | replace xa1 := cells_keep b13 xa1 | skip)); clear b13))
      go_ret
      exact ⟨rfl, B2.out⟩
end Go.Proofs.Ytccdgfacdohknaa
