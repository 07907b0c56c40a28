/-
  SpaceKeeps: the walk. A part of the proof: see the head of the text that ends in 'Law'.
-/
import Derived.Test.YtccdgfacdohknaaSlim
import Derived.Test.YtccdgfacdohknaaSpPlain4
namespace Go.Proofs.Ytccdgfacdohknaa
open Go.RowKit Go.Shelf
set_option linter.unusedVariables false

/-- Six cells, and the memory they lie in. -/
abbrev Six (w0 W : World) (a1 a2 a3 a4 a5 a6 : Addr) (v1 v2 v3 v4 v5 v6 : Value) : Prop :=
  W.cell? a1 = some v1 ∧ W.cell? a2 = some v2 ∧ W.cell? a3 = some v3 ∧ W.cell? a4 = some v4 ∧ W.cell? a5 = some v5 ∧ W.cell? a6 = some v6 ∧ Hid (Below w0.heap.size w0 W)
section
variable {w0 W W' : World} {a1 a2 a3 a4 a5 a6 : Addr} {v1 v2 v3 v4 v5 v6 : Value}
theorem Six.bel (h : Six w0 W a1 a2 a3 a4 a5 a6 v1 v2 v3 v4 v5 v6) : Below w0.heap.size w0 W := h.2.2.2.2.2.2.out
theorem Six.keep (h : Six w0 W a1 a2 a3 a4 a5 a6 v1 v2 v3 v4 v5 v6) (hb : Below W.heap.size W W') : Six w0 W' a1 a2 a3 a4 a5 a6 v1 v2 v3 v4 v5 v6 :=
  ⟨cells_keep hb h.1, cells_keep hb h.2.1, cells_keep hb h.2.2.1, cells_keep hb h.2.2.2.1, cells_keep hb h.2.2.2.2.1, cells_keep hb h.2.2.2.2.2.1, hid (next h.bel hb)⟩
end
theorem used_e {N p : Int} {bits : List UInt8} {b : Bool} (he : usedB N bits p = b) (A : Option Addr) (n c : Nat) (w : World) (ho : Oct w A n bits) (hN : -9223372036854775808 ≤ N ∧ N ≤ 9223372036854775807) (hn : n ≤ 4096) :
    Calls Try.prog 18 #[.agg #[.int .i64 N, .slice A n c], .int .i64 p] w fun e w' => e = .returned (.bool b) ∧ Below w.heap.size w w' := by
  rw [← he]
  exact used_any N p A n c bits w ho hN (by omega)
theorem count_e {N : Int} {bits : List UInt8} {m : Nat} (h1 : mayB N bits = true) (he : popL bits = m) (A : Option Addr) (n c : Nat) (w : World) (ho : Oct w A n bits) (hN : -9223372036854775808 ≤ N ∧ N ≤ 9223372036854775807) (hn : n ≤ 4096) :
    Calls Try.prog 19 #[.agg #[.int .i64 N, .slice A n c]] w fun e w' => e = .returned (.int .i64 m) ∧ Below w.heap.size w w' := by
  have h := count_any N A n c bits w ho hN hn
  rw [if_pos h1, he] at h
  exact h
theorem same_k {N M : Int} {la lb : List UInt8} (hN : N = M) (hl : la = lb) (A B : Option Addr) (n c m d : Nat) (w : World) (ha : Oct w A n la) (hb : Oct w B m lb) :
    Calls Try.prog 12 #[.agg #[.int .i64 N, .slice A n c], .agg #[.int .i64 M, .slice B m d]] w fun e w' => e = .returned (.bool true) ∧ Below w.heap.size w w' := by
  subst hN
  subst hl
  exact (same_any N N A B n c m d la la w ha hb).mono fun e w' ⟨he, hb⟩ => ⟨by rw [he]; simp, hb⟩

set_option maxRecDepth 20000 in
set_option maxHeartbeats 4000000 in
theorem walkSpaceKeeps (N : Int) (A : Option Addr) (n c : Nat) (bits : List UInt8) (k p : Int) (w : World) (ho : Oct w A n bits) (hc : n ≤ c) (hcm : c ≤ maxLen) (hN : -9223372036854775808 ≤ N ∧ N ≤ 9223372036854775807)
    (hk : -9223372036854775808 ≤ k ∧ k ≤ 9223372036854775807) (hp : -9223372036854775808 ≤ p ∧ p ≤ 9223372036854775807) :
    Calls Try.prog 5 #[.agg #[.int .i64 N, .slice A n c], .int .i64 k, .int .i64 p] w fun e w' => e = .returned (.bool true) ∧ Below w.heap.size w w' := by
  have HN := hid hN
  have X0 := hid (SpV.new_ N c ho)
  have B0 := hid (varW_below w N A n c)
  have x00 := X0.out.k0
  have x01 := X0.out.k1
  clear ho
  go_enter Try.func5, Try.ntmps5
  go_upto_region 2 with (go_at_call 7; refine (few_any N A n c bits _ X0.out.o hc hcm).mono ?_; rintro e w1 ⟨n', bits', rfl, o1, hn', hcc, b1⟩; have Z1 := hid (X0.out.bx.below b1); have x10 := Z1.out.cell (j := 0) (u := .int .i64 N) rfl; have x11 := Z1.out.cell (j := 1) (u := .slice A n c) rfl; have f10 := Z1.out.frozen 0; have f11 := Z1.out.frozen 1)
  have X2 := SpV.store Z1.out N c (o1.below b1)
  have B1 := (next B0.out b1).setCell (p := ⟨w.heap.size, 0, none⟩) (Nat.le_refl _) (.int .i64 N)
  have B2 := B1.setCell (p := ⟨w.heap.size, 1, none⟩) (Nat.le_refl _) (.slice A n' c)
  obtain ⟨W2, hW2⟩ : ∃ W2, (w1.setCell ⟨w.heap.size, 0, none⟩ (.int .i64 N)).setCell ⟨w.heap.size, 1, none⟩ (.slice A n' c) = W2 := ⟨_, rfl⟩
  rw [hW2] at X2 B2 ⊢
  clear hW2 x10 x11 f10 f11 x00 x01 B1 B0 X0 o1 b1 Z1
  have B2 := hid B2
  have X2 := hid X2
  obtain ⟨o, hfo⟩ := flO N bits'
  have hT := fun (W : World) (ho : Oct W A n' bits') => takeZ_any N A n' c bits' k W o hfo ho HN.out (by omega) (by omega)
  have hER := takeZ_err o k
  have hDO := takeZ_done o k
  generalize takeZ o k = T1 at hT hER hDO
  obtain ⟨⟨f1, e1⟩, q1⟩ := T1
  simp only at hT hER hDO
  have HT := hid hT
  have HER := hid hER
  have HDO := hid hDO
  have HFO := hid hfo
  clear hT hER hDO hfo
  have x0 := X2.out.k0
  have x1 := X2.out.k1
  go_upto_region 3 with (go_at_call 8; (with_reducible refine (HT.out _ X2.out.o).mono ?_); rintro e w3 ⟨A3, c3, L3, d3, N3, n3, m3, hz3, rfl, o3, l3, b3⟩; have q3 := next b3 (varW_below w3 N3 A3 n3 c3); ((first | replace B2 := B2.far q3 | replace B2 := hid (B2.out.below q3) | skip); (first | replace X2 := X2.far q3 | replace X2 := hid (X2.out.below q3) | skip); (first | replace Va := Va.far q3 | replace Va := hid (Va.out.below q3) | skip); (first | replace Vb := Vb.far q3 | replace Vb := hid (Vb.out.below q3) | skip); (first | replace Ra := Ra.far q3 | replace Ra := hid (Ra.out.below q3) | skip); (first | replace x0 := cells_keep q3 x0 | skip); (first | replace x1 := cells_keep q3 x1 | skip); (first | replace xa0 := cells_keep q3 xa0 | skip); (first | replace xa1 := cells_keep q3 xa1 | skip); (first | replace xb0 := cells_keep q3 xb0 | skip); (first | replace xb1 := cells_keep q3 xb1 | skip)); have Va := hid (SpV.new_ N3 c3 o3); have Ra := hid (l3.below (varW_below w3 N3 A3 n3 c3)); clear q3 b3 o3 l3)
  have xa0 := Va.out.k0
  have xa1 := Va.out.k1
  clear HT
  by_cases he1 : e1 = 0
  · subst he1
    rw [show ((0 : Nat) : Int) = (0 : Int) from rfl]
    obtain ⟨l, kn, rfl, rfl, hkf, hT2⟩ := HDO.out rfl
    simp only [Prod.mk.injEq] at hT2
    obtain ⟨⟨hf1, -⟩, hq1⟩ := hT2
    obtain ⟨hNl, hl, hbl⟩ := HFO.out
    have hf1 := hf1.symm
    have hq1 := hq1.symm
    have hql : q1.length = kn := by
      rw [← hq1]
      unfold takeL
      rw [List.length_take]
      omega
    have hkl : kn ≤ 2048 := Nat.le_trans hkf (Nat.le_trans (freeL_len l l.length) hl)
    have hN3 : N3 = f1.length := hz3.out.1
    obtain rfl : kn = m3 := by rw [hz3.out.2.2, hql]
    have hqf : ∀ j ∈ q1, j < l.length ∧ l.getD j false = false := by rw [← hq1]; exact takeL_free l kn
    have HU3 : Hid (∀ p : Int, usedB N3 (packL f1) p = (usedB N bits' p || decide (p ∈ q1.map Int.ofNat))) := hid (fun p => by
      rw [hN3, hNl, hbl, ← hf1, ← hq1]
      exact usedB_mark hl (fun j hj => (takeL_free l kn j hj).1) p)
    have HU1 : Hid (∀ x ∈ q1, usedB N bits' (x : Int) = false) := hid (fun x hx => by
      rw [hNl, hbl]
      exact usedB_free hl (hqf x hx).2)
    have HU2 : Hid (∀ x ∈ q1, usedB N3 (packL f1) (x : Int) = true) := hid (fun x hx => by
      have hd : decide ((x : Int) ∈ q1.map Int.ofNat) = true := decide_eq_true (List.mem_map.2 ⟨x, hx, rfl⟩)
      rw [HU3.out x, hd, Bool.or_true])
    have HRI : Hid (q1.Pairwise (· < ·)) := hid (by rw [← hq1]; exact takeL_rise l kn)
    have HCN : Hid (popL (packL f1) = popL bits' + kn) := hid (by rw [hbl, ← hf1]; exact pop_mark l kn hkf)
    have HBK : Hid (turnF f1 (q1.map Int.ofNat) true 6 = (l, 0)) := hid (by rw [← hf1, ← hq1]; exact turn_back _ l (takeL_nodup l kn) (takeL_free l kn))
    have HM : Hid (mayB N bits' = true ∧ mayB N3 (packL f1) = true) := hid ⟨mayB_ok ⟨hNl, hl, hbl⟩, mayB_ok (l := f1) ⟨by rw [hN3], by rw [← hf1, markF_length]; exact hl, rfl⟩⟩
    have HSM : Hid (N = (l.length : Int) ∧ bits' = packL l ∧ l.length ≤ 2048 ∧ f1.length ≤ 2048) := hid ⟨hNl, hbl, hl, by rw [← hf1, markF_length]; exact hl⟩
    have HF1 : Hid (FlO (N3 : Int) (packL f1) (some f1)) := hid ⟨by rw [hN3], by rw [← hf1, markF_length]; exact hl, rfl⟩
    have hn3 : n3 ≤ 4096 := by rw [hz3.out.2.1, ← hf1, markF_length]; omega
    have HN3 : Hid (-9223372036854775808 ≤ (N3 : Int) ∧ (N3 : Int) ≤ 9223372036854775807) := hid (by rw [hN3, ← hf1, markF_length]; omega)
    have HQL := hid hql
    clear HER HDO HFO hz3 hq1 hf1 hNl hl hbl hkf hqf hN3 hql
    obtain ⟨W3, hW3⟩ : ∃ W3, varW w3 (N3 : Int) A3 n3 c3 = W3 := ⟨_, rfl⟩
    rw [hW3] at B2 X2 x0 x1 Va Ra xa0 xa1
    have hW3' : w3.alloc (Obj.cells #[.int .i64 (N3 : Int), .slice A3 n3 c3] 24) = W3 := hW3
    rw [hW3']
    clear hW3 hW3'
    go_wp2
    go_loopw [10, 11] (fun t i wr => ∃ j : Nat, j ≤ kn ∧ i = .int .i64 j ∧ t = .bool (decide (p ∈ (q1.map Int.ofNat).take j)) ∧ Hid (Below W3.heap.size W3 wr)) (fun t i wr => kn - (intOf i).toNat)
    case atStart => exact ⟨0, by omega, rfl, by simp, hid (Below.refl _ _)⟩
    case round =>
      obtain ⟨j, hj, rfl, rfl, hI⟩ := hrel
      generalize htk : decide (p ∈ (q1.map Int.ofNat).take j) = tk
      have HTK := hid htk
      clear htk
      by_cases hlt : j < kn
      · have hd : decide ((j : Int) < kn) = true := by simpa using hlt
        obtain ⟨b, off, rfl, hcs⟩ := Ra.out.at_ (by omega)
        have hjq : j < q1.length := by rw [HQL.out]; exact hlt
        obtain ⟨x, hx, hcx⟩ : ∃ x : Nat, Hid (q1[j]? = some x) ∧ wr.cell? ⟨b, off + j, none⟩ = some (.int .i64 x) := ⟨q1[j], hid (List.getElem?_eq_getElem _), cells_keep hI.out (by have := hcs j (by simpa using hjq); simpa using this)⟩
        have hxm : Hid (x ∈ q1) := hid (List.mem_of_getElem? hx.out)
        rcases Nat.eq_zero_or_pos j with rfl | hj0
        · have hcx : wr.cell? ⟨b, off, none⟩ = some (.int .i64 x) := hcx
          have hS0 : Six W3 wr.drew ⟨w.heap.size, 0, none⟩ ⟨w.heap.size, 1, none⟩ ⟨w3.heap.size, 0, none⟩ ⟨w3.heap.size, 1, none⟩ ⟨b, off, none⟩ ⟨b, off, none⟩ (.int .i64 N) (.slice A n' c) (.int .i64 N3) (.slice A3 n3 c3) (.int .i64 x) (.int .i64 x) :=
            Six.keep ⟨cells_keep hI.out x0, cells_keep hI.out x1, cells_keep hI.out xa0, cells_keep hI.out xa1, hcx, hcx, hI⟩ (drew_below wr)
          clear hcs
          rw [show ((0 : Nat) : Int) = (0 : Int) from rfl]
          have hi1 : (0 : Int) < kn := by omega
          go_upto_region 9 with fail
          refine wp_region_noPanic ?_
          refine wp_region_held_drew (S := (fun W => Six W3 W ⟨w.heap.size, 0, none⟩ ⟨w.heap.size, 1, none⟩ ⟨w3.heap.size, 0, none⟩ ⟨w3.heap.size, 1, none⟩ ⟨b, off, none⟩ ⟨b, off, none⟩ (.int .i64 N) (.slice A n' c) (.int .i64 N3) (.slice A3 n3 c3) (.int .i64 x) (.int .i64 x))) (by kernel_rfl) (by assumption) (fun hHeld => ?_)
          refine wpAnyH_take (i := 0) (v := ?_) rfl (by kernel_rfl) (by kernel_rfl) (by kernel_rfl) (fun _ _ _ h => h) (Or.inl ⟨by kernel_rfl, ?_⟩) (by assumption) ?_
          rotate_left
          · (intro wS hSw; (try dsimp only at hSw); go_simp; try with_reducible rfl)
          (try simp only [List.getElem_toArray, List.getElem_cons_succ, List.getElem_cons_zero, Act.put, List.setIfInBounds_toArray, List.set_cons_zero, List.set_cons_succ])
          refine wpAnyH_take (i := 1) (v := ?_) rfl (by kernel_rfl) (by kernel_rfl) (by kernel_rfl) (fun _ _ _ h => h) (Or.inl ⟨by kernel_rfl, ?_⟩) (by assumption) ?_
          rotate_left
          · (intro wS hSw; (try dsimp only at hSw); go_simp; try with_reducible rfl)
          (try simp only [List.getElem_toArray, List.getElem_cons_succ, List.getElem_cons_zero, Act.put, List.setIfInBounds_toArray, List.set_cons_zero, List.set_cons_succ])
          refine wpAnyH_take (i := 2) (v := ?_) rfl (by kernel_rfl) (by kernel_rfl) (by kernel_rfl) (fun _ _ _ h => h) (Or.inl ⟨by kernel_rfl, ?_⟩) (by assumption) ?_
          rotate_left
          · (intro wS hSw; (try dsimp only at hSw); go_simp; try with_reducible rfl)
          (try simp only [List.getElem_toArray, List.getElem_cons_succ, List.getElem_cons_zero, Act.put, List.setIfInBounds_toArray, List.set_cons_zero, List.set_cons_succ])
          refine wpAnyH_take (i := 3) (v := ?_) rfl (by kernel_rfl) (by kernel_rfl) (by kernel_rfl) (fun _ _ _ h => h) (Or.inl ⟨by kernel_rfl, ?_⟩) (by assumption) ?_
          rotate_left
          · (intro wS hSw; (try dsimp only at hSw); go_simp; try with_reducible rfl)
          (try simp only [List.getElem_toArray, List.getElem_cons_succ, List.getElem_cons_zero, Act.put, List.setIfInBounds_toArray, List.set_cons_zero, List.set_cons_succ])
          refine wpAnyH_take (i := 4) (v := ?_) rfl (by kernel_rfl) (by kernel_rfl) (by kernel_rfl) (fun _ _ _ h => h) (Or.inl ⟨by kernel_rfl, ?_⟩) (by assumption) ?_
          rotate_left
          · (intro wS hSw; (try dsimp only at hSw); go_simp; try with_reducible rfl)
          (try simp only [List.getElem_toArray, List.getElem_cons_succ, List.getElem_cons_zero, Act.put, List.setIfInBounds_toArray, List.set_cons_zero, List.set_cons_succ])
          refine wpAnyH_ready (rs := [5]) (by kernel_rfl) (by simp) ?_
          refine AllReadyH.cons rfl (fun K hK => ?_) AllReadyH.nil
          go_simp
          (go_at_call 18; (with_reducible refine (used_e (HU1.out x hxm.out) A n' c _ (X2.out.o.below (Six.bel (by assumption))) HN.out (by omega)).mono ?_); rintro e w5 ⟨rfl, b5⟩; have hS5 := Six.keep (by assumption) b5; clear b5)
          go_wp2_with fail
          refine hK.out _ _ (by assumption) (fun hHeld => ?_)
          clear hK K
          (try simp only [List.getElem_toArray, List.getElem_cons_succ, List.getElem_cons_zero, Act.put, List.setIfInBounds_toArray, List.set_cons_zero, List.set_cons_succ])
          refine wpAnyH_take (i := 6) (v := ?_) rfl (by kernel_rfl) (by kernel_rfl) (by kernel_rfl) (fun _ _ _ h => h) (Or.inl ⟨by kernel_rfl, ?_⟩) (by assumption) ?_
          rotate_left
          · (intro wS hSw; (try dsimp only at hSw); go_simp; try with_reducible rfl)
          (try simp only [List.getElem_toArray, List.getElem_cons_succ, List.getElem_cons_zero, Act.put, List.setIfInBounds_toArray, List.set_cons_zero, List.set_cons_succ])
          refine wpAnyH_take (i := 7) (v := ?_) rfl (by kernel_rfl) (by kernel_rfl) (by kernel_rfl) (fun _ _ _ h => h) (Or.inl ⟨by kernel_rfl, ?_⟩) (by assumption) ?_
          rotate_left
          · (intro wS hSw; (try dsimp only at hSw); go_simp; try with_reducible rfl)
          (try simp only [List.getElem_toArray, List.getElem_cons_succ, List.getElem_cons_zero, Act.put, List.setIfInBounds_toArray, List.set_cons_zero, List.set_cons_succ])
          refine wpAnyH_take (i := 8) (v := ?_) rfl (by kernel_rfl) (by kernel_rfl) (by kernel_rfl) (fun _ _ _ h => h) (Or.inl ⟨by kernel_rfl, ?_⟩) (by assumption) ?_
          rotate_left
          · (intro wS hSw; (try dsimp only at hSw); go_simp; try with_reducible rfl)
          (try simp only [List.getElem_toArray, List.getElem_cons_succ, List.getElem_cons_zero, Act.put, List.setIfInBounds_toArray, List.set_cons_zero, List.set_cons_succ])
          refine wpAnyH_take (i := 9) (v := ?_) rfl (by kernel_rfl) (by kernel_rfl) (by kernel_rfl) (fun _ _ _ h => h) (Or.inl ⟨by kernel_rfl, ?_⟩) (by assumption) ?_
          rotate_left
          · (intro wS hSw; (try dsimp only at hSw); go_simp; try with_reducible rfl)
          (try simp only [List.getElem_toArray, List.getElem_cons_succ, List.getElem_cons_zero, Act.put, List.setIfInBounds_toArray, List.set_cons_zero, List.set_cons_succ])
          refine wpAnyH_take (i := 10) (v := ?_) rfl (by kernel_rfl) (by kernel_rfl) (by kernel_rfl) (fun _ _ _ h => h) (Or.inl ⟨by kernel_rfl, ?_⟩) (by assumption) ?_
          rotate_left
          · (intro wS hSw; (try dsimp only at hSw); go_simp; try with_reducible rfl)
          (try simp only [List.getElem_toArray, List.getElem_cons_succ, List.getElem_cons_zero, Act.put, List.setIfInBounds_toArray, List.set_cons_zero, List.set_cons_succ])
          refine wpAnyH_take (i := 11) (v := ?_) rfl (by kernel_rfl) (by kernel_rfl) (by kernel_rfl) (fun _ _ _ h => h) (Or.inl ⟨by kernel_rfl, ?_⟩) (by assumption) ?_
          rotate_left
          · (intro wS hSw; (try dsimp only at hSw); go_simp; try with_reducible rfl)
          (try simp only [List.getElem_toArray, List.getElem_cons_succ, List.getElem_cons_zero, Act.put, List.setIfInBounds_toArray, List.set_cons_zero, List.set_cons_succ])
          refine wpAnyH_ready (rs := [12]) (by kernel_rfl) (by simp) ?_
          refine AllReadyH.cons rfl (fun K hK => ?_) AllReadyH.nil
          go_simp
          (go_at_call 18; (with_reducible refine (used_e (HU2.out x hxm.out) A3 n3 c3 _ (Va.out.o.below (Six.bel (by assumption))) HN3.out hn3).mono ?_); rintro e w6 ⟨rfl, b6⟩; have hS6 := Six.keep (by assumption) b6; clear b6)
          go_wp2_with fail
          refine hK.out _ _ (by assumption) (fun hHeld => ?_)
          clear hK K
          (try simp only [List.getElem_toArray, List.getElem_cons_succ, List.getElem_cons_zero, Act.put, List.setIfInBounds_toArray, List.set_cons_zero, List.set_cons_succ])
          refine wpAnyH_take (i := 13) (v := ?_) rfl (by kernel_rfl) (by kernel_rfl) (by kernel_rfl) (fun _ _ _ h => h) (Or.inl ⟨by kernel_rfl, ?_⟩) (by assumption) ?_
          rotate_left
          · (intro wS hSw; (try dsimp only at hSw); go_simp; try with_reducible rfl)
          (try simp only [List.getElem_toArray, List.getElem_cons_succ, List.getElem_cons_zero, Act.put, List.setIfInBounds_toArray, List.set_cons_zero, List.set_cons_succ])
          refine wpAnyH_take (i := 14) (v := ?_) rfl (by kernel_rfl) (by kernel_rfl) (by kernel_rfl) (fun _ _ _ h => h) (Or.inl ⟨by kernel_rfl, ?_⟩) (by assumption) ?_
          rotate_left
          · (intro wS hSw; (try dsimp only at hSw); go_simp; try with_reducible rfl)
          (try simp only [List.getElem_toArray, List.getElem_cons_succ, List.getElem_cons_zero, Act.put, List.setIfInBounds_toArray, List.set_cons_zero, List.set_cons_succ])
          refine wpAnyH_take (i := 15) (v := ?_) rfl (by kernel_rfl) (by kernel_rfl) (by kernel_rfl) (fun _ _ _ h => h) (Or.inl ⟨by kernel_rfl, ?_⟩) (by assumption) ?_
          rotate_left
          · (intro wS hSw; (try dsimp only at hSw); go_simp; try with_reducible rfl)
          (try simp only [List.getElem_toArray, List.getElem_cons_succ, List.getElem_cons_zero, Act.put, List.setIfInBounds_toArray, List.set_cons_zero, List.set_cons_succ])
          refine wpAnyH_take (i := 16) (v := ?_) rfl (by kernel_rfl) (by kernel_rfl) (by kernel_rfl) (fun _ _ _ h => h) (Or.inl ⟨by kernel_rfl, ?_⟩) (by assumption) ?_
          rotate_left
          · (intro wS hSw; (try dsimp only at hSw); go_simp; try with_reducible rfl)
          (try simp only [List.getElem_toArray, List.getElem_cons_succ, List.getElem_cons_zero, Act.put, List.setIfInBounds_toArray, List.set_cons_zero, List.set_cons_succ])
          refine wpAnyH_take (i := 17) (v := ?_) rfl (by kernel_rfl) (by kernel_rfl) (by kernel_rfl) (fun _ _ _ h => h) (Or.inl ⟨by kernel_rfl, ?_⟩) (by assumption) ?_
          rotate_left
          · (intro wS hSw; (try dsimp only at hSw); go_simp; try with_reducible rfl)
          (try simp only [List.getElem_toArray, List.getElem_cons_succ, List.getElem_cons_zero, Act.put, List.setIfInBounds_toArray, List.set_cons_zero, List.set_cons_succ])
          refine wpAnyH_take (i := 18) (v := ?_) rfl (by kernel_rfl) (by kernel_rfl) (by kernel_rfl) (fun _ _ _ h => h) (Or.inl ⟨by kernel_rfl, ?_⟩) (by assumption) ?_
          rotate_left
          · (intro wS hSw; (try dsimp only at hSw); go_simp; try with_reducible rfl)
          (try simp only [List.getElem_toArray, List.getElem_cons_succ, List.getElem_cons_zero, Act.put, List.setIfInBounds_toArray, List.set_cons_zero, List.set_cons_succ])
          refine wpAnyH_take (i := 19) (v := undef) rfl (by kernel_rfl) (by kernel_rfl) (by kernel_rfl) (fun _ _ _ h => h) (Or.inr ⟨by kernel_rfl, rfl⟩) (by assumption) ?_
          (try simp only [List.getElem_toArray, List.getElem_cons_succ, List.getElem_cons_zero, Act.put, List.setIfInBounds_toArray, List.set_cons_zero, List.set_cons_succ])
          refine wpAnyH_take (i := 20) (v := undef) rfl (by kernel_rfl) (by kernel_rfl) (by kernel_rfl) (fun _ _ _ h => h) (Or.inr ⟨by kernel_rfl, rfl⟩) (by assumption) ?_
          (try simp only [List.getElem_toArray, List.getElem_cons_succ, List.getElem_cons_zero, Act.put, List.setIfInBounds_toArray, List.set_cons_zero, List.set_cons_succ])
          refine wpAnyH_take (i := 21) (v := undef) rfl (by kernel_rfl) (by kernel_rfl) (by kernel_rfl) (fun _ _ _ h => h) (Or.inr ⟨by kernel_rfl, rfl⟩) (by assumption) ?_
          (try simp only [List.getElem_toArray, List.getElem_cons_succ, List.getElem_cons_zero, Act.put, List.setIfInBounds_toArray, List.set_cons_zero, List.set_cons_succ])
          refine wpAnyH_take (i := 22) (v := undef) rfl (by kernel_rfl) (by kernel_rfl) (by kernel_rfl) (fun _ _ _ h => h) (Or.inr ⟨by kernel_rfl, rfl⟩) (by assumption) ?_
          (try simp only [List.getElem_toArray, List.getElem_cons_succ, List.getElem_cons_zero, Act.put, List.setIfInBounds_toArray, List.set_cons_zero, List.set_cons_succ])
          refine wpAnyH_take (i := 23) (v := undef) rfl (by kernel_rfl) (by kernel_rfl) (by kernel_rfl) (fun _ _ _ h => h) (Or.inr ⟨by kernel_rfl, rfl⟩) (by assumption) ?_
          (try simp only [List.getElem_toArray, List.getElem_cons_succ, List.getElem_cons_zero, Act.put, List.setIfInBounds_toArray, List.set_cons_zero, List.set_cons_succ])
          refine wpAnyH_take (i := 24) (v := undef) rfl (by kernel_rfl) (by kernel_rfl) (by kernel_rfl) (fun _ _ _ h => h) (Or.inr ⟨by kernel_rfl, rfl⟩) (by assumption) ?_
          (try simp only [List.getElem_toArray, List.getElem_cons_succ, List.getElem_cons_zero, Act.put, List.setIfInBounds_toArray, List.set_cons_zero, List.set_cons_succ])
          refine wpAnyH_take (i := 25) (v := undef) rfl (by kernel_rfl) (by kernel_rfl) (by kernel_rfl) (fun _ _ _ h => h) (Or.inr ⟨by kernel_rfl, rfl⟩) (by assumption) ?_
          (try simp only [List.getElem_toArray, List.getElem_cons_succ, List.getElem_cons_zero, Act.put, List.setIfInBounds_toArray, List.set_cons_zero, List.set_cons_succ])
          refine wpAnyH_take (i := 26) (v := undef) rfl (by kernel_rfl) (by kernel_rfl) (by kernel_rfl) (fun _ _ _ h => h) (Or.inr ⟨by kernel_rfl, rfl⟩) (by assumption) ?_
          (try simp only [List.getElem_toArray, List.getElem_cons_succ, List.getElem_cons_zero, Act.put, List.setIfInBounds_toArray, List.set_cons_zero, List.set_cons_succ])
          refine wpAnyH_take (i := 27) (v := undef) rfl (by kernel_rfl) (by kernel_rfl) (by kernel_rfl) (fun _ _ _ h => h) (Or.inr ⟨by kernel_rfl, rfl⟩) (by assumption) ?_
          (try simp only [List.getElem_toArray, List.getElem_cons_succ, List.getElem_cons_zero, Act.put, List.setIfInBounds_toArray, List.set_cons_zero, List.set_cons_succ])
          refine wpAnyH_take (i := 28) (v := undef) rfl (by kernel_rfl) (by kernel_rfl) (by kernel_rfl) (fun _ _ _ h => h) (Or.inr ⟨by kernel_rfl, rfl⟩) (by assumption) ?_
          (try simp only [List.getElem_toArray, List.getElem_cons_succ, List.getElem_cons_zero, Act.put, List.setIfInBounds_toArray, List.set_cons_zero, List.set_cons_succ])
          refine wpAnyH_take (i := 29) (v := ?_) rfl (by kernel_rfl) (by kernel_rfl) (by kernel_rfl) (fun _ _ _ h => h) (Or.inl ⟨by kernel_rfl, ?_⟩) (by assumption) ?_
          rotate_left
          · (intro wS hSw; (try dsimp only at hSw); go_simp; try with_reducible rfl)
          (try simp only [List.getElem_toArray, List.getElem_cons_succ, List.getElem_cons_zero, Act.put, List.setIfInBounds_toArray, List.set_cons_zero, List.set_cons_succ])
          refine wpAnyH_take (i := 30) (v := ?_) rfl (by kernel_rfl) (by kernel_rfl) (by kernel_rfl) (fun _ _ _ h => h) (Or.inl ⟨by kernel_rfl, ?_⟩) (by assumption) ?_
          rotate_left
          · (intro wS hSw; (try dsimp only at hSw); go_simp; try with_reducible rfl)
          (try simp only [List.getElem_toArray, List.getElem_cons_succ, List.getElem_cons_zero, Act.put, List.setIfInBounds_toArray, List.set_cons_zero, List.set_cons_succ])
          refine wpAnyH_done (by kernel_rfl) ?_ _
          refine NoPanic.normal ?_
          have hmore := take_more (q1.map Int.ofNat) 0 (x : Int) p (by rw [List.getElem?_map, hx.out]; rfl)
          rw [HTK.out] at hmore
          have HMO := hid hmore
          have hcx6 := hS6.2.2.2.2.1
          have hb6 := hid hS6.bel
          clear hS0 hS5 hS6 hmore hcx
          cases tk with
          | true =>
            go_wp2
            go_roundw
            case rel => exact ⟨0 + 1, by omega, by go_num, by rw [← HMO.out]; rfl, hid hb6.out⟩
            case measure => simp [intOf]; omega
          | false =>
            go_wp2
            go_roundw
            case rel => exact ⟨0 + 1, by omega, by go_num, by rw [← HMO.out]; rfl, hid hb6.out⟩
            case measure => simp [intOf]; omega
        · obtain ⟨i, hji⟩ : ∃ i, Hid (j = i + 1) := ⟨j - 1, hid (by omega)⟩
          have hjo := hji.out
          obtain ⟨y, hy, hcy⟩ : ∃ y : Nat, Hid (q1[i]? = some y) ∧ wr.cell? ⟨b, off + i, none⟩ = some (.int .i64 y) := ⟨q1[i]'(by omega), hid (List.getElem?_eq_getElem _), cells_keep hI.out (by have := hcs i (by simp; omega); simpa using this)⟩
          have hyx : decide (x ≤ y) = false := by have := rise_at HRI.out hy.out (hjo ▸ hx.out); simp; omega
          have hS0 : Six W3 wr.drew ⟨w.heap.size, 0, none⟩ ⟨w.heap.size, 1, none⟩ ⟨w3.heap.size, 0, none⟩ ⟨w3.heap.size, 1, none⟩ ⟨b, off + j, none⟩ ⟨b, off + i, none⟩ (.int .i64 N) (.slice A n' c) (.int .i64 N3) (.slice A3 n3 c3) (.int .i64 x) (.int .i64 y) :=
            Six.keep ⟨cells_keep hI.out x0, cells_keep hI.out x1, cells_keep hI.out xa0, cells_keep hI.out xa1, hcx, hcy, hI⟩ (drew_below wr)
          clear hcs
          have hi0 : (0 : Int) ≤ (j : Int) := by omega
          have hi1 : (j : Int) < kn := by omega
          have hi2 : (0 : Int) ≤ (i : Int) := by omega
          have hi3 : (i : Int) < kn := by omega
          have hi4 : decide ((0 : Int) < (j : Int)) = true := by simp; omega
          have hi5 : IntKind.i64.wrap ((j : Int) - 1) = (i : Int) := by rw [IntKind.wrap_i64]; omega
          clear hjo
          go_upto_region 9 with fail
          go_region_held3 (fun W => Six W3 W ⟨w.heap.size, 0, none⟩ ⟨w.heap.size, 1, none⟩ ⟨w3.heap.size, 0, none⟩ ⟨w3.heap.size, 1, none⟩ ⟨b, off + j, none⟩ ⟨b, off + i, none⟩ (.int .i64 N) (.slice A n' c) (.int .i64 N3) (.slice A3 n3 c3) (.int .i64 x) (.int .i64 y)) (assumption) (first
            | (go_at_call 18; (with_reducible refine (used_e (HU1.out x hxm.out) A n' c _ (X2.out.o.below (Six.bel (by assumption))) HN.out (by omega)).mono ?_); rintro e w5 ⟨rfl, b5⟩; have hS5 := Six.keep (by assumption) b5; clear b5)
            | (go_at_call 18; (with_reducible refine (used_e (HU2.out x hxm.out) A3 n3 c3 _ (Va.out.o.below (Six.bel (by assumption))) HN3.out hn3).mono ?_); rintro e w6 ⟨rfl, b6⟩; have hS6 := Six.keep (by assumption) b6; clear b6))
          have hmore := take_more (q1.map Int.ofNat) j (x : Int) p (by rw [List.getElem?_map, hx.out]; rfl)
          rw [HTK.out] at hmore
          have HMO := hid hmore
          have hcx6 := hS6.2.2.2.2.1
          have hb6 := hid hS6.bel
          clear hS0 hS5 hS6 hmore hcx
          cases tk with
          | true =>
            go_wp2
            go_roundw
            case rel => exact ⟨j + 1, by omega, by go_num, by rw [← HMO.out]; rfl, hid hb6.out⟩
            case measure => simp [intOf]; omega
          | false =>
            go_wp2
            go_roundw
            case rel => exact ⟨j + 1, by omega, by go_num, by rw [← HMO.out]; rfl, hid hb6.out⟩
            case measure => simp [intOf]; omega
      · have hd : decide ((j : Int) < kn) = false := by simpa using hlt
        have htk2 : decide (p ∈ q1.map Int.ofNat) = tk := by
          have := HTK.out
          rwa [List.take_of_length_le (by rw [List.length_map, HQL.out]; omega)] at this
        have HUA := HU3.out p
        rw [htk2] at HUA
        generalize hus : usedB N bits' p = us at HUA
        have HUS := hid hus
        have HUA := hid HUA
        have hW := hI.out
        ((first | replace B2 := B2.far hW | replace B2 := hid (B2.out.below hW) | skip); (first | replace X2 := X2.far hW | replace X2 := hid (X2.out.below hW) | skip); (first | replace Va := Va.far hW | replace Va := hid (Va.out.below hW) | skip); (first | replace Vb := Vb.far hW | replace Vb := hid (Vb.out.below hW) | skip); (first | replace Ra := Ra.far hW | replace Ra := hid (Ra.out.below hW) | skip); (first | replace x0 := cells_keep hW x0 | skip); (first | replace x1 := cells_keep hW x1 | skip); (first | replace xa0 := cells_keep hW xa0 | skip); (first | replace xa1 := cells_keep hW xa1 | skip); (first | replace xb0 := cells_keep hW xb0 | skip); (first | replace xb1 := cells_keep hW xb1 | skip))
        have HG : Hid (∀ W, Oct W A3 n3 (packL f1) → IRow W L3 kn (q1.map Int.ofNat) → Calls Try.prog 9 #[.agg #[.int .i64 N3, .slice A3 n3 c3], .slice L3 kn d3] W (SpE W l 0)) := hid (fun W ho hB => by
          have h := give_any N3 A3 n3 c3 (packL f1) W L3 kn d3 (q1.map Int.ofNat) (some f1) HF1.out ho HN3.out hn3 hB (by omega)
          have e : turnO (some f1) (q1.map Int.ofNat) true 6 = (l, 0) := HBK.out
          rw [e] at h
          exact h)
        clear hW hus htk2 HTK HU1 HU2 HU3 HRI HBK hI
        go_upto_region 13 with (go_at_call 9; (with_reducible refine (HG.out _ Va.out.o Ra.out).mono ?_); rintro e w4 ⟨A4, c4, N4, n4, hz4, rfl, o4, b4⟩; have q4 := next b4 (varW_below w4 N4 A4 n4 c4); ((first | replace B2 := B2.far q4 | replace B2 := hid (B2.out.below q4) | skip); (first | replace X2 := X2.far q4 | replace X2 := hid (X2.out.below q4) | skip); (first | replace Va := Va.far q4 | replace Va := hid (Va.out.below q4) | skip); (first | replace Vb := Vb.far q4 | replace Vb := hid (Vb.out.below q4) | skip); (first | replace Ra := Ra.far q4 | replace Ra := hid (Ra.out.below q4) | skip); (first | replace x0 := cells_keep q4 x0 | skip); (first | replace x1 := cells_keep q4 x1 | skip); (first | replace xa0 := cells_keep q4 xa0 | skip); (first | replace xa1 := cells_keep q4 xa1 | skip); (first | replace xb0 := cells_keep q4 xb0 | skip); (first | replace xb1 := cells_keep q4 xb1 | skip)); have Vb := hid (SpV.new_ N4 c4 o4); clear q4 b4 o4)
        clear HG
        have xb0 := Vb.out.k0
        have xb1 := Vb.out.k1
        obtain ⟨W4, hW4⟩ : ∃ W4, varW w4 (N4 : Int) A4 n4 c4 = W4 := ⟨_, rfl⟩
        rw [hW4] at B2 X2 x0 x1 Va Vb Ra xa0 xa1 xb0 xb1
        have hW4' : w4.alloc (Obj.cells #[.int .i64 (N4 : Int), .slice A4 n4 c4] 24) = W4 := hW4
        rw [hW4']
        clear hW4 hW4'
        have hS0 : Six W4 W4.drew ⟨w.heap.size, 0, none⟩ ⟨w.heap.size, 1, none⟩ ⟨w3.heap.size, 0, none⟩ ⟨w3.heap.size, 1, none⟩ ⟨w4.heap.size, 0, none⟩ ⟨w4.heap.size, 1, none⟩ (.int .i64 N) (.slice A n' c) (.int .i64 N3) (.slice A3 n3 c3) (.int .i64 N4) (.slice A4 n4 c4) :=
          Six.keep ⟨x0, x1, xa0, xa1, xb0, xb1, hid (Below.refl _ _)⟩ (drew_below W4)
        obtain ⟨cs, hcs⟩ : ∃ cs, Hid (popL bits' = cs) := ⟨_, hid rfl⟩
        obtain ⟨ca, hca⟩ : ∃ ca, Hid (popL (packL f1) = ca) := ⟨_, hid rfl⟩
        have hcc2 : ca = cs + kn := by rw [← hcs.out, ← hca.out]; exact HCN.out
        have hcsb : cs ≤ 100000 := by
          rw [← hcs.out, HSM.out.2.1]
          have := pop_all l
          have := HSM.out.2.2.1
          omega
        have hw1 : IntKind.i64.wrap ((cs : Int) + (kn : Int)) = (cs : Int) + (kn : Int) := by rw [IntKind.wrap_i64]; omega
        have hw2 : ((ca : Int) == (cs : Int) + (kn : Int)) = true := by rw [hcc2]; simp
        have hw3 : ((ca : Int) == ((cs + kn : Nat) : Int)) = true := by rw [hcc2]; simp
        have HSA : Hid ((N4 : Int) = N ∧ packL l = bits') := hid ⟨by rw [hz4.out.1]; exact HSM.out.1.symm, HSM.out.2.1.symm⟩
        clear hcc2 hcsb HCN x0 x1 xa0 xa1 xb0 xb1
        cases us with
        | true =>
          rw [Bool.true_or] at HUA
          refine wp_region_noPanic ?_
          refine wp_region_held_drew (S := (fun W => Six W4 W ⟨w.heap.size, 0, none⟩ ⟨w.heap.size, 1, none⟩ ⟨w3.heap.size, 0, none⟩ ⟨w3.heap.size, 1, none⟩ ⟨w4.heap.size, 0, none⟩ ⟨w4.heap.size, 1, none⟩ (.int .i64 N) (.slice A n' c) (.int .i64 N3) (.slice A3 n3 c3) (.int .i64 N4) (.slice A4 n4 c4))) (by kernel_rfl) (by assumption) (fun hHeld => ?_)
          refine wpAnyH_take (i := 0) (v := ?_) rfl (by kernel_rfl) (by kernel_rfl) (by kernel_rfl) (fun _ _ _ h => h) (Or.inl ⟨by kernel_rfl, ?_⟩) (by assumption) ?_
          rotate_left
          · (intro wS hSw; (try dsimp only at hSw); go_simp; try with_reducible rfl)
          (try simp only [List.getElem_toArray, List.getElem_cons_succ, List.getElem_cons_zero, Act.put, List.setIfInBounds_toArray, List.set_cons_zero, List.set_cons_succ])
          refine wpAnyH_take (i := 1) (v := ?_) rfl (by kernel_rfl) (by kernel_rfl) (by kernel_rfl) (fun _ _ _ h => h) (Or.inl ⟨by kernel_rfl, ?_⟩) (by assumption) ?_
          rotate_left
          · (intro wS hSw; (try dsimp only at hSw); go_simp; try with_reducible rfl)
          (try simp only [List.getElem_toArray, List.getElem_cons_succ, List.getElem_cons_zero, Act.put, List.setIfInBounds_toArray, List.set_cons_zero, List.set_cons_succ])
          refine wpAnyH_take (i := 3) (v := ?_) rfl (by kernel_rfl) (by kernel_rfl) (by kernel_rfl) (fun _ _ _ h => h) (Or.inl ⟨by kernel_rfl, ?_⟩) (by assumption) ?_
          rotate_left
          · (intro wS hSw; (try dsimp only at hSw); go_simp; try with_reducible rfl)
          (try simp only [List.getElem_toArray, List.getElem_cons_succ, List.getElem_cons_zero, Act.put, List.setIfInBounds_toArray, List.set_cons_zero, List.set_cons_succ])
          refine wpAnyH_take (i := 4) (v := ?_) rfl (by kernel_rfl) (by kernel_rfl) (by kernel_rfl) (fun _ _ _ h => h) (Or.inl ⟨by kernel_rfl, ?_⟩) (by assumption) ?_
          rotate_left
          · (intro wS hSw; (try dsimp only at hSw); go_simp; try with_reducible rfl)
          (try simp only [List.getElem_toArray, List.getElem_cons_succ, List.getElem_cons_zero, Act.put, List.setIfInBounds_toArray, List.set_cons_zero, List.set_cons_succ])
          refine wpAnyH_ready (rs := [2]) (by kernel_rfl) (by simp) ?_
          refine AllReadyH.cons rfl (fun K hK => ?_) AllReadyH.nil
          go_simp
          (go_at_call 18; (with_reducible refine (used_e HUA.out A3 n3 c3 _ (Va.out.o.below (Six.bel (by assumption))) HN3.out hn3).mono ?_); rintro e w5 ⟨rfl, b5⟩; have hS5 := Six.keep (by assumption) b5; clear b5)
          go_wp2_with fail
          refine hK.out _ _ (by assumption) (fun hHeld => ?_)
          clear hK K
          (try simp only [List.getElem_toArray, List.getElem_cons_succ, List.getElem_cons_zero, Act.put, List.setIfInBounds_toArray, List.set_cons_zero, List.set_cons_succ])
          refine wpAnyH_ready (rs := [5]) (by kernel_rfl) (by simp) ?_
          refine AllReadyH.cons rfl (fun K hK => ?_) AllReadyH.nil
          go_simp
          (go_at_call 18; (with_reducible refine (used_e HUS.out A n' c _ (X2.out.o.below (Six.bel (by assumption))) HN.out (by omega)).mono ?_); rintro e w6 ⟨rfl, b6⟩; have hS6 := Six.keep (by assumption) b6; clear b6)
          go_wp2_with fail
          refine hK.out _ _ (by assumption) (fun hHeld => ?_)
          clear hK K
          (try simp only [List.getElem_toArray, List.getElem_cons_succ, List.getElem_cons_zero, Act.put, List.setIfInBounds_toArray, List.set_cons_zero, List.set_cons_succ])
          refine wpAnyH_take (i := 6) (v := ?_) rfl (by kernel_rfl) (by kernel_rfl) (by kernel_rfl) (fun _ _ _ h => h) (Or.inl ⟨by kernel_rfl, ?_⟩) (by assumption) ?_
          rotate_left
          · (intro wS hSw; (try dsimp only at hSw); go_simp; try with_reducible rfl)
          (try simp only [List.getElem_toArray, List.getElem_cons_succ, List.getElem_cons_zero, Act.put, List.setIfInBounds_toArray, List.set_cons_zero, List.set_cons_succ])
          refine wpAnyH_take (i := 7) (v := undef) rfl (by kernel_rfl) (by kernel_rfl) (by kernel_rfl) (fun _ _ _ h => h) (Or.inr ⟨by kernel_rfl, rfl⟩) (by assumption) ?_
          (try simp only [List.getElem_toArray, List.getElem_cons_succ, List.getElem_cons_zero, Act.put, List.setIfInBounds_toArray, List.set_cons_zero, List.set_cons_succ])
          refine wpAnyH_take (i := 8) (v := ?_) rfl (by kernel_rfl) (by kernel_rfl) (by kernel_rfl) (fun _ _ _ h => h) (Or.inl ⟨by kernel_rfl, ?_⟩) (by assumption) ?_
          rotate_left
          · (intro wS hSw; (try dsimp only at hSw); go_simp; try with_reducible rfl)
          (try simp only [List.getElem_toArray, List.getElem_cons_succ, List.getElem_cons_zero, Act.put, List.setIfInBounds_toArray, List.set_cons_zero, List.set_cons_succ])
          refine wpAnyH_take (i := 9) (v := ?_) rfl (by kernel_rfl) (by kernel_rfl) (by kernel_rfl) (fun _ _ _ h => h) (Or.inl ⟨by kernel_rfl, ?_⟩) (by assumption) ?_
          rotate_left
          · (intro wS hSw; (try dsimp only at hSw); go_simp; try with_reducible rfl)
          (try simp only [List.getElem_toArray, List.getElem_cons_succ, List.getElem_cons_zero, Act.put, List.setIfInBounds_toArray, List.set_cons_zero, List.set_cons_succ])
          refine wpAnyH_take (i := 10) (v := ?_) rfl (by kernel_rfl) (by kernel_rfl) (by kernel_rfl) (fun _ _ _ h => h) (Or.inl ⟨by kernel_rfl, ?_⟩) (by assumption) ?_
          rotate_left
          · (intro wS hSw; (try dsimp only at hSw); go_simp; try with_reducible rfl)
          (try simp only [List.getElem_toArray, List.getElem_cons_succ, List.getElem_cons_zero, Act.put, List.setIfInBounds_toArray, List.set_cons_zero, List.set_cons_succ])
          refine wpAnyH_take (i := 11) (v := ?_) rfl (by kernel_rfl) (by kernel_rfl) (by kernel_rfl) (fun _ _ _ h => h) (Or.inl ⟨by kernel_rfl, ?_⟩) (by assumption) ?_
          rotate_left
          · (intro wS hSw; (try dsimp only at hSw); go_simp; try with_reducible rfl)
          (try simp only [List.getElem_toArray, List.getElem_cons_succ, List.getElem_cons_zero, Act.put, List.setIfInBounds_toArray, List.set_cons_zero, List.set_cons_succ])
          refine wpAnyH_take (i := 13) (v := ?_) rfl (by kernel_rfl) (by kernel_rfl) (by kernel_rfl) (fun _ _ _ h => h) (Or.inl ⟨by kernel_rfl, ?_⟩) (by assumption) ?_
          rotate_left
          · (intro wS hSw; (try dsimp only at hSw); go_simp; try with_reducible rfl)
          (try simp only [List.getElem_toArray, List.getElem_cons_succ, List.getElem_cons_zero, Act.put, List.setIfInBounds_toArray, List.set_cons_zero, List.set_cons_succ])
          refine wpAnyH_ready (rs := [12]) (by kernel_rfl) (by simp) ?_
          refine AllReadyH.cons rfl (fun K hK => ?_) AllReadyH.nil
          go_simp
          skip
          go_wp2_with fail
          refine hK.out _ _ (by assumption) (fun hHeld => ?_)
          clear hK K
          (try simp only [List.getElem_toArray, List.getElem_cons_succ, List.getElem_cons_zero, Act.put, List.setIfInBounds_toArray, List.set_cons_zero, List.set_cons_succ])
          refine wpAnyH_take (i := 14) (v := ?_) rfl (by kernel_rfl) (by kernel_rfl) (by kernel_rfl) (fun _ _ _ h => h) (Or.inl ⟨by kernel_rfl, ?_⟩) (by assumption) ?_
          rotate_left
          · (intro wS hSw; (try dsimp only at hSw); go_simp; try with_reducible rfl)
          (try simp only [List.getElem_toArray, List.getElem_cons_succ, List.getElem_cons_zero, Act.put, List.setIfInBounds_toArray, List.set_cons_zero, List.set_cons_succ])
          refine wpAnyH_take (i := 15) (v := ?_) rfl (by kernel_rfl) (by kernel_rfl) (by kernel_rfl) (fun _ _ _ h => h) (Or.inl ⟨by kernel_rfl, ?_⟩) (by assumption) ?_
          rotate_left
          · (intro wS hSw; (try dsimp only at hSw); go_simp; try with_reducible rfl)
          (try simp only [List.getElem_toArray, List.getElem_cons_succ, List.getElem_cons_zero, Act.put, List.setIfInBounds_toArray, List.set_cons_zero, List.set_cons_succ])
          refine wpAnyH_take (i := 16) (v := ?_) rfl (by kernel_rfl) (by kernel_rfl) (by kernel_rfl) (fun _ _ _ h => h) (Or.inl ⟨by kernel_rfl, ?_⟩) (by assumption) ?_
          rotate_left
          · (intro wS hSw; (try dsimp only at hSw); go_simp; try with_reducible rfl)
          (try simp only [List.getElem_toArray, List.getElem_cons_succ, List.getElem_cons_zero, Act.put, List.setIfInBounds_toArray, List.set_cons_zero, List.set_cons_succ])
          refine wpAnyH_take (i := 17) (v := ?_) rfl (by kernel_rfl) (by kernel_rfl) (by kernel_rfl) (fun _ _ _ h => h) (Or.inl ⟨by kernel_rfl, ?_⟩) (by assumption) ?_
          rotate_left
          · (intro wS hSw; (try dsimp only at hSw); go_simp; try with_reducible rfl)
          (try simp only [List.getElem_toArray, List.getElem_cons_succ, List.getElem_cons_zero, Act.put, List.setIfInBounds_toArray, List.set_cons_zero, List.set_cons_succ])
          refine wpAnyH_take (i := 19) (v := ?_) rfl (by kernel_rfl) (by kernel_rfl) (by kernel_rfl) (fun _ _ _ h => h) (Or.inl ⟨by kernel_rfl, ?_⟩) (by assumption) ?_
          rotate_left
          · (intro wS hSw; (try dsimp only at hSw); go_simp; try with_reducible rfl)
          (try simp only [List.getElem_toArray, List.getElem_cons_succ, List.getElem_cons_zero, Act.put, List.setIfInBounds_toArray, List.set_cons_zero, List.set_cons_succ])
          refine wpAnyH_take (i := 21) (v := ?_) rfl (by kernel_rfl) (by kernel_rfl) (by kernel_rfl) (fun _ _ _ h => h) (Or.inl ⟨by kernel_rfl, ?_⟩) (by assumption) ?_
          rotate_left
          · (intro wS hSw; (try dsimp only at hSw); go_simp; try with_reducible rfl)
          (try simp only [List.getElem_toArray, List.getElem_cons_succ, List.getElem_cons_zero, Act.put, List.setIfInBounds_toArray, List.set_cons_zero, List.set_cons_succ])
          refine wpAnyH_ready (rs := [18]) (by kernel_rfl) (by simp) ?_
          refine AllReadyH.cons rfl (fun K hK => ?_) AllReadyH.nil
          go_simp
          (go_at_call 19; (with_reducible refine (count_e HM.out.2 hca.out A3 n3 c3 _ (Va.out.o.below (Six.bel (by assumption))) HN3.out hn3).mono ?_); rintro e w7 ⟨rfl, b7⟩; have hS7 := Six.keep (by assumption) b7; clear b7)
          go_wp2_with fail
          refine hK.out _ _ (by assumption) (fun hHeld => ?_)
          clear hK K
          (try simp only [List.getElem_toArray, List.getElem_cons_succ, List.getElem_cons_zero, Act.put, List.setIfInBounds_toArray, List.set_cons_zero, List.set_cons_succ])
          refine wpAnyH_ready (rs := [20]) (by kernel_rfl) (by simp) ?_
          refine AllReadyH.cons rfl (fun K hK => ?_) AllReadyH.nil
          go_simp
          (go_at_call 19; (with_reducible refine (count_e HM.out.1 hcs.out A n' c _ (X2.out.o.below (Six.bel (by assumption))) HN.out (by omega)).mono ?_); rintro e w8 ⟨rfl, b8⟩; have hS8 := Six.keep (by assumption) b8; clear b8)
          go_wp2_with fail
          refine hK.out _ _ (by assumption) (fun hHeld => ?_)
          clear hK K
          (try simp only [List.getElem_toArray, List.getElem_cons_succ, List.getElem_cons_zero, Act.put, List.setIfInBounds_toArray, List.set_cons_zero, List.set_cons_succ])
          refine wpAnyH_take (i := 22) (v := ?_) rfl (by kernel_rfl) (by kernel_rfl) (by kernel_rfl) (fun _ _ _ h => h) (Or.inl ⟨by kernel_rfl, ?_⟩) (by assumption) ?_
          rotate_left
          · (intro wS hSw; (try dsimp only at hSw); go_simp; try with_reducible rfl)
          (try simp only [List.getElem_toArray, List.getElem_cons_succ, List.getElem_cons_zero, Act.put, List.setIfInBounds_toArray, List.set_cons_zero, List.set_cons_succ])
          refine wpAnyH_take (i := 23) (v := ?_) rfl (by kernel_rfl) (by kernel_rfl) (by kernel_rfl) (fun _ _ _ h => h) (Or.inl ⟨by kernel_rfl, ?_⟩) (by assumption) ?_
          rotate_left
          · (intro wS hSw; (try dsimp only at hSw); go_simp; try with_reducible rfl)
          (try simp only [List.getElem_toArray, List.getElem_cons_succ, List.getElem_cons_zero, Act.put, List.setIfInBounds_toArray, List.set_cons_zero, List.set_cons_succ])
          refine wpAnyH_take (i := 24) (v := ?_) rfl (by kernel_rfl) (by kernel_rfl) (by kernel_rfl) (fun _ _ _ h => h) (Or.inl ⟨by kernel_rfl, ?_⟩) (by assumption) ?_
          rotate_left
          · (intro wS hSw; (try dsimp only at hSw); go_simp; try with_reducible rfl)
          (try simp only [List.getElem_toArray, List.getElem_cons_succ, List.getElem_cons_zero, Act.put, List.setIfInBounds_toArray, List.set_cons_zero, List.set_cons_succ])
          refine wpAnyH_take (i := 25) (v := ?_) rfl (by kernel_rfl) (by kernel_rfl) (by kernel_rfl) (fun _ _ _ h => h) (Or.inl ⟨by kernel_rfl, ?_⟩) (by assumption) ?_
          rotate_left
          · (intro wS hSw; (try dsimp only at hSw); go_simp; try with_reducible rfl)
          (try simp only [List.getElem_toArray, List.getElem_cons_succ, List.getElem_cons_zero, Act.put, List.setIfInBounds_toArray, List.set_cons_zero, List.set_cons_succ])
          refine wpAnyH_take (i := 26) (v := ?_) rfl (by kernel_rfl) (by kernel_rfl) (by kernel_rfl) (fun _ _ _ h => h) (Or.inl ⟨by kernel_rfl, ?_⟩) (by assumption) ?_
          rotate_left
          · (intro wS hSw; (try dsimp only at hSw); go_simp; try with_reducible rfl)
          (try simp only [List.getElem_toArray, List.getElem_cons_succ, List.getElem_cons_zero, Act.put, List.setIfInBounds_toArray, List.set_cons_zero, List.set_cons_succ])
          refine wpAnyH_take (i := 27) (v := ?_) rfl (by kernel_rfl) (by kernel_rfl) (by kernel_rfl) (fun _ _ _ h => h) (Or.inl ⟨by kernel_rfl, ?_⟩) (by assumption) ?_
          rotate_left
          · (intro wS hSw; (try dsimp only at hSw); go_simp; try with_reducible rfl)
          (try simp only [List.getElem_toArray, List.getElem_cons_succ, List.getElem_cons_zero, Act.put, List.setIfInBounds_toArray, List.set_cons_zero, List.set_cons_succ])
          refine wpAnyH_take (i := 28) (v := ?_) rfl (by kernel_rfl) (by kernel_rfl) (by kernel_rfl) (fun _ _ _ h => h) (Or.inl ⟨by kernel_rfl, ?_⟩) (by assumption) ?_
          rotate_left
          · (intro wS hSw; (try dsimp only at hSw); go_simp; try with_reducible rfl)
          (try simp only [List.getElem_toArray, List.getElem_cons_succ, List.getElem_cons_zero, Act.put, List.setIfInBounds_toArray, List.set_cons_zero, List.set_cons_succ])
          refine wpAnyH_take (i := 29) (v := ?_) rfl (by kernel_rfl) (by kernel_rfl) (by kernel_rfl) (fun _ _ _ h => h) (Or.inl ⟨by kernel_rfl, ?_⟩) (by assumption) ?_
          rotate_left
          · (intro wS hSw; (try dsimp only at hSw); go_simp; try with_reducible rfl)
          (try simp only [List.getElem_toArray, List.getElem_cons_succ, List.getElem_cons_zero, Act.put, List.setIfInBounds_toArray, List.set_cons_zero, List.set_cons_succ])
          refine wpAnyH_take (i := 30) (v := ?_) rfl (by kernel_rfl) (by kernel_rfl) (by kernel_rfl) (fun _ _ _ h => h) (Or.inl ⟨by kernel_rfl, ?_⟩) (by assumption) ?_
          rotate_left
          · (intro wS hSw; (try dsimp only at hSw); go_simp; try with_reducible rfl)
          (try simp only [List.getElem_toArray, List.getElem_cons_succ, List.getElem_cons_zero, Act.put, List.setIfInBounds_toArray, List.set_cons_zero, List.set_cons_succ])
          refine wpAnyH_take (i := 31) (v := ?_) rfl (by kernel_rfl) (by kernel_rfl) (by kernel_rfl) (fun _ _ _ h => h) (Or.inl ⟨by kernel_rfl, ?_⟩) (by assumption) ?_
          rotate_left
          · (intro wS hSw; (try dsimp only at hSw); go_simp; try with_reducible rfl)
          (try simp only [List.getElem_toArray, List.getElem_cons_succ, List.getElem_cons_zero, Act.put, List.setIfInBounds_toArray, List.set_cons_zero, List.set_cons_succ])
          refine wpAnyH_ready (rs := [32]) (by kernel_rfl) (by simp) ?_
          refine AllReadyH.cons rfl (fun K hK => ?_) AllReadyH.nil
          go_simp
          (go_at_call 12; (with_reducible refine (same_k HSA.out.1 HSA.out.2 A4 A n4 c4 n' c _ (Vb.out.o.below (Six.bel (by assumption))) (X2.out.o.below (Six.bel (by assumption)))).mono ?_); rintro e w9 ⟨rfl, b9⟩; have hS9 := Six.keep (by assumption) b9; clear b9)
          go_wp2_with fail
          refine hK.out _ _ (by assumption) (fun hHeld => ?_)
          clear hK K
          (try simp only [List.getElem_toArray, List.getElem_cons_succ, List.getElem_cons_zero, Act.put, List.setIfInBounds_toArray, List.set_cons_zero, List.set_cons_succ])
          refine wpAnyH_take (i := 33) (v := ?_) rfl (by kernel_rfl) (by kernel_rfl) (by kernel_rfl) (fun _ _ _ h => h) (Or.inl ⟨by kernel_rfl, ?_⟩) (by assumption) ?_
          rotate_left
          · (intro wS hSw; (try dsimp only at hSw); go_simp; try with_reducible rfl)
          (try simp only [List.getElem_toArray, List.getElem_cons_succ, List.getElem_cons_zero, Act.put, List.setIfInBounds_toArray, List.set_cons_zero, List.set_cons_succ])
          refine wpAnyH_take (i := 34) (v := ?_) rfl (by kernel_rfl) (by kernel_rfl) (by kernel_rfl) (fun _ _ _ h => h) (Or.inl ⟨by kernel_rfl, ?_⟩) (by assumption) ?_
          rotate_left
          · (intro wS hSw; (try dsimp only at hSw); go_simp; try with_reducible rfl)
          (try simp only [List.getElem_toArray, List.getElem_cons_succ, List.getElem_cons_zero, Act.put, List.setIfInBounds_toArray, List.set_cons_zero, List.set_cons_succ])
          refine wpAnyH_ready (rs := [35]) (by kernel_rfl) (by simp) ?_
          refine AllReadyH.cons rfl (fun K hK => ?_) AllReadyH.nil
          go_simp
          (go_at_call 13; refine (awake_any _).mono ?_; rintro e w10 ⟨rfl, b10⟩; have hS10 := Six.keep (by assumption) b10; clear b10)
          go_wp2_with fail
          refine hK.out _ _ (by assumption) (fun hHeld => ?_)
          clear hK K
          (try simp only [List.getElem_toArray, List.getElem_cons_succ, List.getElem_cons_zero, Act.put, List.setIfInBounds_toArray, List.set_cons_zero, List.set_cons_succ])
          refine wpAnyH_take (i := 36) (v := ?_) rfl (by kernel_rfl) (by kernel_rfl) (by kernel_rfl) (fun _ _ _ h => h) (Or.inl ⟨by kernel_rfl, ?_⟩) (by assumption) ?_
          rotate_left
          · (intro wS hSw; (try dsimp only at hSw); go_simp; try with_reducible rfl)
          (try simp only [List.getElem_toArray, List.getElem_cons_succ, List.getElem_cons_zero, Act.put, List.setIfInBounds_toArray, List.set_cons_zero, List.set_cons_succ])
          refine wpAnyH_take (i := 37) (v := ?_) rfl (by kernel_rfl) (by kernel_rfl) (by kernel_rfl) (fun _ _ _ h => h) (Or.inl ⟨by kernel_rfl, ?_⟩) (by assumption) ?_
          rotate_left
          · (intro wS hSw; (try dsimp only at hSw); go_simp; try with_reducible rfl)
          (try simp only [List.getElem_toArray, List.getElem_cons_succ, List.getElem_cons_zero, Act.put, List.setIfInBounds_toArray, List.set_cons_zero, List.set_cons_succ])
          refine wpAnyH_done (by kernel_rfl) ?_ _
          refine NoPanic.normal ?_
          have hZ := hid (next B2.out hS10.bel)
          go_wp2
          go_ret
          exact ⟨rfl, hZ.out⟩
        | false =>
          rw [Bool.false_or] at HUA
          refine wp_region_noPanic ?_
          refine wp_region_held_drew (S := (fun W => Six W4 W ⟨w.heap.size, 0, none⟩ ⟨w.heap.size, 1, none⟩ ⟨w3.heap.size, 0, none⟩ ⟨w3.heap.size, 1, none⟩ ⟨w4.heap.size, 0, none⟩ ⟨w4.heap.size, 1, none⟩ (.int .i64 N) (.slice A n' c) (.int .i64 N3) (.slice A3 n3 c3) (.int .i64 N4) (.slice A4 n4 c4))) (by kernel_rfl) (by assumption) (fun hHeld => ?_)
          refine wpAnyH_take (i := 0) (v := ?_) rfl (by kernel_rfl) (by kernel_rfl) (by kernel_rfl) (fun _ _ _ h => h) (Or.inl ⟨by kernel_rfl, ?_⟩) (by assumption) ?_
          rotate_left
          · (intro wS hSw; (try dsimp only at hSw); go_simp; try with_reducible rfl)
          (try simp only [List.getElem_toArray, List.getElem_cons_succ, List.getElem_cons_zero, Act.put, List.setIfInBounds_toArray, List.set_cons_zero, List.set_cons_succ])
          refine wpAnyH_take (i := 1) (v := ?_) rfl (by kernel_rfl) (by kernel_rfl) (by kernel_rfl) (fun _ _ _ h => h) (Or.inl ⟨by kernel_rfl, ?_⟩) (by assumption) ?_
          rotate_left
          · (intro wS hSw; (try dsimp only at hSw); go_simp; try with_reducible rfl)
          (try simp only [List.getElem_toArray, List.getElem_cons_succ, List.getElem_cons_zero, Act.put, List.setIfInBounds_toArray, List.set_cons_zero, List.set_cons_succ])
          refine wpAnyH_take (i := 3) (v := ?_) rfl (by kernel_rfl) (by kernel_rfl) (by kernel_rfl) (fun _ _ _ h => h) (Or.inl ⟨by kernel_rfl, ?_⟩) (by assumption) ?_
          rotate_left
          · (intro wS hSw; (try dsimp only at hSw); go_simp; try with_reducible rfl)
          (try simp only [List.getElem_toArray, List.getElem_cons_succ, List.getElem_cons_zero, Act.put, List.setIfInBounds_toArray, List.set_cons_zero, List.set_cons_succ])
          refine wpAnyH_take (i := 4) (v := ?_) rfl (by kernel_rfl) (by kernel_rfl) (by kernel_rfl) (fun _ _ _ h => h) (Or.inl ⟨by kernel_rfl, ?_⟩) (by assumption) ?_
          rotate_left
          · (intro wS hSw; (try dsimp only at hSw); go_simp; try with_reducible rfl)
          (try simp only [List.getElem_toArray, List.getElem_cons_succ, List.getElem_cons_zero, Act.put, List.setIfInBounds_toArray, List.set_cons_zero, List.set_cons_succ])
          refine wpAnyH_ready (rs := [2]) (by kernel_rfl) (by simp) ?_
          refine AllReadyH.cons rfl (fun K hK => ?_) AllReadyH.nil
          go_simp
          (go_at_call 18; (with_reducible refine (used_e HUA.out A3 n3 c3 _ (Va.out.o.below (Six.bel (by assumption))) HN3.out hn3).mono ?_); rintro e w5 ⟨rfl, b5⟩; have hS5 := Six.keep (by assumption) b5; clear b5)
          go_wp2_with fail
          refine hK.out _ _ (by assumption) (fun hHeld => ?_)
          clear hK K
          (try simp only [List.getElem_toArray, List.getElem_cons_succ, List.getElem_cons_zero, Act.put, List.setIfInBounds_toArray, List.set_cons_zero, List.set_cons_succ])
          refine wpAnyH_ready (rs := [5]) (by kernel_rfl) (by simp) ?_
          refine AllReadyH.cons rfl (fun K hK => ?_) AllReadyH.nil
          go_simp
          (go_at_call 18; (with_reducible refine (used_e HUS.out A n' c _ (X2.out.o.below (Six.bel (by assumption))) HN.out (by omega)).mono ?_); rintro e w6 ⟨rfl, b6⟩; have hS6 := Six.keep (by assumption) b6; clear b6)
          go_wp2_with fail
          refine hK.out _ _ (by assumption) (fun hHeld => ?_)
          clear hK K
          (try simp only [List.getElem_toArray, List.getElem_cons_succ, List.getElem_cons_zero, Act.put, List.setIfInBounds_toArray, List.set_cons_zero, List.set_cons_succ])
          refine wpAnyH_take (i := 6) (v := ?_) rfl (by kernel_rfl) (by kernel_rfl) (by kernel_rfl) (fun _ _ _ h => h) (Or.inl ⟨by kernel_rfl, ?_⟩) (by assumption) ?_
          rotate_left
          · (intro wS hSw; (try dsimp only at hSw); go_simp; try with_reducible rfl)
          (try simp only [List.getElem_toArray, List.getElem_cons_succ, List.getElem_cons_zero, Act.put, List.setIfInBounds_toArray, List.set_cons_zero, List.set_cons_succ])
          refine wpAnyH_take (i := 7) (v := ?_) rfl (by kernel_rfl) (by kernel_rfl) (by kernel_rfl) (fun _ _ _ h => h) (Or.inl ⟨by kernel_rfl, ?_⟩) (by assumption) ?_
          rotate_left
          · (intro wS hSw; (try dsimp only at hSw); go_simp; try with_reducible rfl)
          (try simp only [List.getElem_toArray, List.getElem_cons_succ, List.getElem_cons_zero, Act.put, List.setIfInBounds_toArray, List.set_cons_zero, List.set_cons_succ])
          refine wpAnyH_take (i := 8) (v := ?_) rfl (by kernel_rfl) (by kernel_rfl) (by kernel_rfl) (fun _ _ _ h => h) (Or.inl ⟨by kernel_rfl, ?_⟩) (by assumption) ?_
          rotate_left
          · (intro wS hSw; (try dsimp only at hSw); go_simp; try with_reducible rfl)
          (try simp only [List.getElem_toArray, List.getElem_cons_succ, List.getElem_cons_zero, Act.put, List.setIfInBounds_toArray, List.set_cons_zero, List.set_cons_succ])
          refine wpAnyH_take (i := 9) (v := ?_) rfl (by kernel_rfl) (by kernel_rfl) (by kernel_rfl) (fun _ _ _ h => h) (Or.inl ⟨by kernel_rfl, ?_⟩) (by assumption) ?_
          rotate_left
          · (intro wS hSw; (try dsimp only at hSw); go_simp; try with_reducible rfl)
          (try simp only [List.getElem_toArray, List.getElem_cons_succ, List.getElem_cons_zero, Act.put, List.setIfInBounds_toArray, List.set_cons_zero, List.set_cons_succ])
          refine wpAnyH_take (i := 10) (v := ?_) rfl (by kernel_rfl) (by kernel_rfl) (by kernel_rfl) (fun _ _ _ h => h) (Or.inl ⟨by kernel_rfl, ?_⟩) (by assumption) ?_
          rotate_left
          · (intro wS hSw; (try dsimp only at hSw); go_simp; try with_reducible rfl)
          (try simp only [List.getElem_toArray, List.getElem_cons_succ, List.getElem_cons_zero, Act.put, List.setIfInBounds_toArray, List.set_cons_zero, List.set_cons_succ])
          refine wpAnyH_take (i := 11) (v := ?_) rfl (by kernel_rfl) (by kernel_rfl) (by kernel_rfl) (fun _ _ _ h => h) (Or.inl ⟨by kernel_rfl, ?_⟩) (by assumption) ?_
          rotate_left
          · (intro wS hSw; (try dsimp only at hSw); go_simp; try with_reducible rfl)
          (try simp only [List.getElem_toArray, List.getElem_cons_succ, List.getElem_cons_zero, Act.put, List.setIfInBounds_toArray, List.set_cons_zero, List.set_cons_succ])
          refine wpAnyH_take (i := 13) (v := ?_) rfl (by kernel_rfl) (by kernel_rfl) (by kernel_rfl) (fun _ _ _ h => h) (Or.inl ⟨by kernel_rfl, ?_⟩) (by assumption) ?_
          rotate_left
          · (intro wS hSw; (try dsimp only at hSw); go_simp; try with_reducible rfl)
          (try simp only [List.getElem_toArray, List.getElem_cons_succ, List.getElem_cons_zero, Act.put, List.setIfInBounds_toArray, List.set_cons_zero, List.set_cons_succ])
          refine wpAnyH_ready (rs := [12]) (by kernel_rfl) (by simp) ?_
          refine AllReadyH.cons rfl (fun K hK => ?_) AllReadyH.nil
          go_simp
          skip
          go_wp2_with fail
          refine hK.out _ _ (by assumption) (fun hHeld => ?_)
          clear hK K
          (try simp only [List.getElem_toArray, List.getElem_cons_succ, List.getElem_cons_zero, Act.put, List.setIfInBounds_toArray, List.set_cons_zero, List.set_cons_succ])
          refine wpAnyH_take (i := 14) (v := ?_) rfl (by kernel_rfl) (by kernel_rfl) (by kernel_rfl) (fun _ _ _ h => h) (Or.inl ⟨by kernel_rfl, ?_⟩) (by assumption) ?_
          rotate_left
          · (intro wS hSw; (try dsimp only at hSw); go_simp; try with_reducible rfl)
          (try simp only [List.getElem_toArray, List.getElem_cons_succ, List.getElem_cons_zero, Act.put, List.setIfInBounds_toArray, List.set_cons_zero, List.set_cons_succ])
          refine wpAnyH_take (i := 15) (v := ?_) rfl (by kernel_rfl) (by kernel_rfl) (by kernel_rfl) (fun _ _ _ h => h) (Or.inl ⟨by kernel_rfl, ?_⟩) (by assumption) ?_
          rotate_left
          · (intro wS hSw; (try dsimp only at hSw); go_simp; try with_reducible rfl)
          (try simp only [List.getElem_toArray, List.getElem_cons_succ, List.getElem_cons_zero, Act.put, List.setIfInBounds_toArray, List.set_cons_zero, List.set_cons_succ])
          refine wpAnyH_take (i := 16) (v := ?_) rfl (by kernel_rfl) (by kernel_rfl) (by kernel_rfl) (fun _ _ _ h => h) (Or.inl ⟨by kernel_rfl, ?_⟩) (by assumption) ?_
          rotate_left
          · (intro wS hSw; (try dsimp only at hSw); go_simp; try with_reducible rfl)
          (try simp only [List.getElem_toArray, List.getElem_cons_succ, List.getElem_cons_zero, Act.put, List.setIfInBounds_toArray, List.set_cons_zero, List.set_cons_succ])
          refine wpAnyH_take (i := 17) (v := ?_) rfl (by kernel_rfl) (by kernel_rfl) (by kernel_rfl) (fun _ _ _ h => h) (Or.inl ⟨by kernel_rfl, ?_⟩) (by assumption) ?_
          rotate_left
          · (intro wS hSw; (try dsimp only at hSw); go_simp; try with_reducible rfl)
          (try simp only [List.getElem_toArray, List.getElem_cons_succ, List.getElem_cons_zero, Act.put, List.setIfInBounds_toArray, List.set_cons_zero, List.set_cons_succ])
          refine wpAnyH_take (i := 19) (v := ?_) rfl (by kernel_rfl) (by kernel_rfl) (by kernel_rfl) (fun _ _ _ h => h) (Or.inl ⟨by kernel_rfl, ?_⟩) (by assumption) ?_
          rotate_left
          · (intro wS hSw; (try dsimp only at hSw); go_simp; try with_reducible rfl)
          (try simp only [List.getElem_toArray, List.getElem_cons_succ, List.getElem_cons_zero, Act.put, List.setIfInBounds_toArray, List.set_cons_zero, List.set_cons_succ])
          refine wpAnyH_take (i := 21) (v := ?_) rfl (by kernel_rfl) (by kernel_rfl) (by kernel_rfl) (fun _ _ _ h => h) (Or.inl ⟨by kernel_rfl, ?_⟩) (by assumption) ?_
          rotate_left
          · (intro wS hSw; (try dsimp only at hSw); go_simp; try with_reducible rfl)
          (try simp only [List.getElem_toArray, List.getElem_cons_succ, List.getElem_cons_zero, Act.put, List.setIfInBounds_toArray, List.set_cons_zero, List.set_cons_succ])
          refine wpAnyH_ready (rs := [18]) (by kernel_rfl) (by simp) ?_
          refine AllReadyH.cons rfl (fun K hK => ?_) AllReadyH.nil
          go_simp
          (go_at_call 19; (with_reducible refine (count_e HM.out.2 hca.out A3 n3 c3 _ (Va.out.o.below (Six.bel (by assumption))) HN3.out hn3).mono ?_); rintro e w7 ⟨rfl, b7⟩; have hS7 := Six.keep (by assumption) b7; clear b7)
          go_wp2_with fail
          refine hK.out _ _ (by assumption) (fun hHeld => ?_)
          clear hK K
          (try simp only [List.getElem_toArray, List.getElem_cons_succ, List.getElem_cons_zero, Act.put, List.setIfInBounds_toArray, List.set_cons_zero, List.set_cons_succ])
          refine wpAnyH_ready (rs := [20]) (by kernel_rfl) (by simp) ?_
          refine AllReadyH.cons rfl (fun K hK => ?_) AllReadyH.nil
          go_simp
          (go_at_call 19; (with_reducible refine (count_e HM.out.1 hcs.out A n' c _ (X2.out.o.below (Six.bel (by assumption))) HN.out (by omega)).mono ?_); rintro e w8 ⟨rfl, b8⟩; have hS8 := Six.keep (by assumption) b8; clear b8)
          go_wp2_with fail
          refine hK.out _ _ (by assumption) (fun hHeld => ?_)
          clear hK K
          (try simp only [List.getElem_toArray, List.getElem_cons_succ, List.getElem_cons_zero, Act.put, List.setIfInBounds_toArray, List.set_cons_zero, List.set_cons_succ])
          refine wpAnyH_take (i := 22) (v := ?_) rfl (by kernel_rfl) (by kernel_rfl) (by kernel_rfl) (fun _ _ _ h => h) (Or.inl ⟨by kernel_rfl, ?_⟩) (by assumption) ?_
          rotate_left
          · (intro wS hSw; (try dsimp only at hSw); go_simp; try with_reducible rfl)
          (try simp only [List.getElem_toArray, List.getElem_cons_succ, List.getElem_cons_zero, Act.put, List.setIfInBounds_toArray, List.set_cons_zero, List.set_cons_succ])
          refine wpAnyH_take (i := 23) (v := ?_) rfl (by kernel_rfl) (by kernel_rfl) (by kernel_rfl) (fun _ _ _ h => h) (Or.inl ⟨by kernel_rfl, ?_⟩) (by assumption) ?_
          rotate_left
          · (intro wS hSw; (try dsimp only at hSw); go_simp; try with_reducible rfl)
          (try simp only [List.getElem_toArray, List.getElem_cons_succ, List.getElem_cons_zero, Act.put, List.setIfInBounds_toArray, List.set_cons_zero, List.set_cons_succ])
          refine wpAnyH_take (i := 24) (v := ?_) rfl (by kernel_rfl) (by kernel_rfl) (by kernel_rfl) (fun _ _ _ h => h) (Or.inl ⟨by kernel_rfl, ?_⟩) (by assumption) ?_
          rotate_left
          · (intro wS hSw; (try dsimp only at hSw); go_simp; try with_reducible rfl)
          (try simp only [List.getElem_toArray, List.getElem_cons_succ, List.getElem_cons_zero, Act.put, List.setIfInBounds_toArray, List.set_cons_zero, List.set_cons_succ])
          refine wpAnyH_take (i := 25) (v := ?_) rfl (by kernel_rfl) (by kernel_rfl) (by kernel_rfl) (fun _ _ _ h => h) (Or.inl ⟨by kernel_rfl, ?_⟩) (by assumption) ?_
          rotate_left
          · (intro wS hSw; (try dsimp only at hSw); go_simp; try with_reducible rfl)
          (try simp only [List.getElem_toArray, List.getElem_cons_succ, List.getElem_cons_zero, Act.put, List.setIfInBounds_toArray, List.set_cons_zero, List.set_cons_succ])
          refine wpAnyH_take (i := 26) (v := ?_) rfl (by kernel_rfl) (by kernel_rfl) (by kernel_rfl) (fun _ _ _ h => h) (Or.inl ⟨by kernel_rfl, ?_⟩) (by assumption) ?_
          rotate_left
          · (intro wS hSw; (try dsimp only at hSw); go_simp; try with_reducible rfl)
          (try simp only [List.getElem_toArray, List.getElem_cons_succ, List.getElem_cons_zero, Act.put, List.setIfInBounds_toArray, List.set_cons_zero, List.set_cons_succ])
          refine wpAnyH_take (i := 27) (v := ?_) rfl (by kernel_rfl) (by kernel_rfl) (by kernel_rfl) (fun _ _ _ h => h) (Or.inl ⟨by kernel_rfl, ?_⟩) (by assumption) ?_
          rotate_left
          · (intro wS hSw; (try dsimp only at hSw); go_simp; try with_reducible rfl)
          (try simp only [List.getElem_toArray, List.getElem_cons_succ, List.getElem_cons_zero, Act.put, List.setIfInBounds_toArray, List.set_cons_zero, List.set_cons_succ])
          refine wpAnyH_take (i := 28) (v := ?_) rfl (by kernel_rfl) (by kernel_rfl) (by kernel_rfl) (fun _ _ _ h => h) (Or.inl ⟨by kernel_rfl, ?_⟩) (by assumption) ?_
          rotate_left
          · (intro wS hSw; (try dsimp only at hSw); go_simp; try with_reducible rfl)
          (try simp only [List.getElem_toArray, List.getElem_cons_succ, List.getElem_cons_zero, Act.put, List.setIfInBounds_toArray, List.set_cons_zero, List.set_cons_succ])
          refine wpAnyH_take (i := 29) (v := ?_) rfl (by kernel_rfl) (by kernel_rfl) (by kernel_rfl) (fun _ _ _ h => h) (Or.inl ⟨by kernel_rfl, ?_⟩) (by assumption) ?_
          rotate_left
          · (intro wS hSw; (try dsimp only at hSw); go_simp; try with_reducible rfl)
          (try simp only [List.getElem_toArray, List.getElem_cons_succ, List.getElem_cons_zero, Act.put, List.setIfInBounds_toArray, List.set_cons_zero, List.set_cons_succ])
          refine wpAnyH_take (i := 30) (v := ?_) rfl (by kernel_rfl) (by kernel_rfl) (by kernel_rfl) (fun _ _ _ h => h) (Or.inl ⟨by kernel_rfl, ?_⟩) (by assumption) ?_
          rotate_left
          · (intro wS hSw; (try dsimp only at hSw); go_simp; try with_reducible rfl)
          (try simp only [List.getElem_toArray, List.getElem_cons_succ, List.getElem_cons_zero, Act.put, List.setIfInBounds_toArray, List.set_cons_zero, List.set_cons_succ])
          refine wpAnyH_take (i := 31) (v := ?_) rfl (by kernel_rfl) (by kernel_rfl) (by kernel_rfl) (fun _ _ _ h => h) (Or.inl ⟨by kernel_rfl, ?_⟩) (by assumption) ?_
          rotate_left
          · (intro wS hSw; (try dsimp only at hSw); go_simp; try with_reducible rfl)
          (try simp only [List.getElem_toArray, List.getElem_cons_succ, List.getElem_cons_zero, Act.put, List.setIfInBounds_toArray, List.set_cons_zero, List.set_cons_succ])
          refine wpAnyH_ready (rs := [32]) (by kernel_rfl) (by simp) ?_
          refine AllReadyH.cons rfl (fun K hK => ?_) AllReadyH.nil
          go_simp
          (go_at_call 12; (with_reducible refine (same_k HSA.out.1 HSA.out.2 A4 A n4 c4 n' c _ (Vb.out.o.below (Six.bel (by assumption))) (X2.out.o.below (Six.bel (by assumption)))).mono ?_); rintro e w9 ⟨rfl, b9⟩; have hS9 := Six.keep (by assumption) b9; clear b9)
          go_wp2_with fail
          refine hK.out _ _ (by assumption) (fun hHeld => ?_)
          clear hK K
          (try simp only [List.getElem_toArray, List.getElem_cons_succ, List.getElem_cons_zero, Act.put, List.setIfInBounds_toArray, List.set_cons_zero, List.set_cons_succ])
          refine wpAnyH_take (i := 33) (v := ?_) rfl (by kernel_rfl) (by kernel_rfl) (by kernel_rfl) (fun _ _ _ h => h) (Or.inl ⟨by kernel_rfl, ?_⟩) (by assumption) ?_
          rotate_left
          · (intro wS hSw; (try dsimp only at hSw); go_simp; try with_reducible rfl)
          (try simp only [List.getElem_toArray, List.getElem_cons_succ, List.getElem_cons_zero, Act.put, List.setIfInBounds_toArray, List.set_cons_zero, List.set_cons_succ])
          refine wpAnyH_take (i := 34) (v := ?_) rfl (by kernel_rfl) (by kernel_rfl) (by kernel_rfl) (fun _ _ _ h => h) (Or.inl ⟨by kernel_rfl, ?_⟩) (by assumption) ?_
          rotate_left
          · (intro wS hSw; (try dsimp only at hSw); go_simp; try with_reducible rfl)
          (try simp only [List.getElem_toArray, List.getElem_cons_succ, List.getElem_cons_zero, Act.put, List.setIfInBounds_toArray, List.set_cons_zero, List.set_cons_succ])
          refine wpAnyH_ready (rs := [35]) (by kernel_rfl) (by simp) ?_
          refine AllReadyH.cons rfl (fun K hK => ?_) AllReadyH.nil
          go_simp
          (go_at_call 13; refine (awake_any _).mono ?_; rintro e w10 ⟨rfl, b10⟩; have hS10 := Six.keep (by assumption) b10; clear b10)
          go_wp2_with fail
          refine hK.out _ _ (by assumption) (fun hHeld => ?_)
          clear hK K
          (try simp only [List.getElem_toArray, List.getElem_cons_succ, List.getElem_cons_zero, Act.put, List.setIfInBounds_toArray, List.set_cons_zero, List.set_cons_succ])
          refine wpAnyH_take (i := 36) (v := ?_) rfl (by kernel_rfl) (by kernel_rfl) (by kernel_rfl) (fun _ _ _ h => h) (Or.inl ⟨by kernel_rfl, ?_⟩) (by assumption) ?_
          rotate_left
          · (intro wS hSw; (try dsimp only at hSw); go_simp; try with_reducible rfl)
          (try simp only [List.getElem_toArray, List.getElem_cons_succ, List.getElem_cons_zero, Act.put, List.setIfInBounds_toArray, List.set_cons_zero, List.set_cons_succ])
          refine wpAnyH_take (i := 37) (v := ?_) rfl (by kernel_rfl) (by kernel_rfl) (by kernel_rfl) (fun _ _ _ h => h) (Or.inl ⟨by kernel_rfl, ?_⟩) (by assumption) ?_
          rotate_left
          · (intro wS hSw; (try dsimp only at hSw); go_simp; try with_reducible rfl)
          (try simp only [List.getElem_toArray, List.getElem_cons_succ, List.getElem_cons_zero, Act.put, List.setIfInBounds_toArray, List.set_cons_zero, List.set_cons_succ])
          refine wpAnyH_done (by kernel_rfl) ?_ _
          refine NoPanic.normal ?_
          have hZ := hid (next B2.out hS10.bel)
          go_wp2
          go_ret
          exact ⟨rfl, hZ.out⟩
  · obtain ⟨rfl, rfl⟩ := HER.out he1
    obtain ⟨rfl, rfl, rfl⟩ : N3 = 0 ∧ n3 = 0 ∧ m3 = 0 := hz3.out
    have h30 : ((e1 : Int) != 0) = true := by simpa using he1
    clear HER HDO he1
    go_wp2_with (go_at_call 13; refine (awake_any _).mono ?_; rintro e w10 ⟨rfl, b10⟩; ((first | replace B2 := B2.far b10 | replace B2 := hid (B2.out.below b10) | skip); (first | replace X2 := X2.far b10 | replace X2 := hid (X2.out.below b10) | skip); (first | replace Va := Va.far b10 | replace Va := hid (Va.out.below b10) | skip); (first | replace Vb := Vb.far b10 | replace Vb := hid (Vb.out.below b10) | skip); (first | replace Ra := Ra.far b10 | replace Ra := hid (Ra.out.below b10) | skip); (first | replace x0 := cells_keep b10 x0 | skip); (first | replace x1 := cells_keep b10 x1 | skip); (first | replace xa0 := cells_keep b10 xa0 | skip); (first | replace xa1 := cells_keep b10 xa1 | skip); (first | replace xb0 := cells_keep b10 xb0 | skip); (first | replace xb1 := cells_keep b10 xb1 | skip)); clear b10)
    go_ret
    exact ⟨rfl, B2.out⟩
end Go.Proofs.Ytccdgfacdohknaa
