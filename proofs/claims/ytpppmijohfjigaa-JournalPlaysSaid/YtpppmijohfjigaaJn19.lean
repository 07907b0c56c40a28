/-
  The law's Few. A part of the proof: see the head of the text that ends in 'Law'.
-/
import Derived.Test.YtpppmijohfjigaaJn18
namespace Go.Proofs.Ytpppmijohfjigaa
open Go.RowKit
set_option linter.unusedVariables false
set_option linter.unusedSimpArgs false
set_option maxRecDepth 100000
attribute [local go_sem] Oper.semAt_some

/-- Of a transaction no more than is looked at. -/
def fewI (l : List Iss) : List Iss := (l.take 42).map fun p => (p.1, p.2.take 130)
theorem fewI_len (l : List Iss) : (fewI l).length = min 42 l.length := by unfold fewI; rw [List.length_map, List.length_take]
theorem fewI_succ (l : List Iss) (j : Nat) (h : j < l.length) (h2 : j < 42) : (fewI l).take (j + 1) = (fewI l).take j ++ [((l[j]).1, (l[j]).2.take 130)] := by
  have h3 : j < (fewI l).length := by rw [fewI_len]; omega
  rw [List.take_succ_eq_append_getElem h3]
  congr 2
  have e : (fewI l)[j]? = some ((l[j]).1, (l[j]).2.take 130) := by
    show ((l.take 42).map fun p => (p.1, p.2.take 130))[j]? = _
    rw [List.getElem?_map, List.getElem?_take, if_pos h2, List.getElem?_eq_getElem h]
    rfl
  rw [List.getElem?_eq_getElem h3] at e
  injection e
/-- One that was copied. -/
structure CpyV (W : World) (v : PuV) : Prop where
  l : v.l.length = v.n
  c : v.n ≤ v.c
  i : W64 v.at_
  oc : CellsT 5 W v.A (v.l.map B8)
theorem CpyV.below {W W' : World} {v : PuV} (h : CpyV W v) (hb : Below W.heap.size W W') : CpyV W' v := ⟨h.l, h.c, h.i, h.oc.below hb⟩
theorem CpyV.grown {W W' : World} {v : PuV} {b0 s n : Nat} {u : Value} {xs : List Value} (h : CpyV W v) (hr : W.ownsRow b0 47 s u n xs) (hg : W.grownBy W' u.ownBlock) : CpyV W' v :=
  ⟨h.l, h.c, h.i, h.oc.keep fun g cur fr hh => (hg.block g (lt_of_heap hh) (fun e => by
    obtain ⟨c2, hc⟩ := own_type hr g e.symm
    rw [hh] at hc
    injection hc with hc
    injection hc with _ ht
    exact absurd ht (by decide))).trans hh⟩
theorem putsT_cpy {W : World} {n c b0 : Nat} {A : Option Addr} {vs : List PuV} (hr : W.ownsRow b0 47 2 (.slice A n c) n (vs.flatMap puC)) (hl : vs.length = n) (hv : ∀ v ∈ vs, CpyV W v) : PutsT W A n vs :=
  ⟨hl, CellsT.of_own hr, fun v h => (hv v h).l, fun v h => (hv v h).oc, fun v h => (hv v h).i, fun v h => (hv v h).c⟩
theorem own_empty (w : World) (base : Nat) (e : TypeId) (hb : base ≤ w.heap.size) : (w.alloc (.cells #[] e)).ownsRow base e 1 (.slice (some ⟨w.heap.size, 0, none⟩) 0 0) 0 [] :=
  own_new w base e 1 0 [] hb rfl (Nat.zero_le _)
theorem few_end {w w6 w7 : World} {j c1 c7 : Nat} {A1 A7 : Option Addr} {us : List PuV} {v : PuV} {l : List Iss} {xs : List Value} (ho7 : w7.ownsRow w.heap.size 47 2 (.slice A7 (j + 1) c7) (j + 1) (us.flatMap puC ++ puC v)) (hg7 : w6.grownBy w7 (Value.ownBlock (.slice A1 j c1)))
    (h6 : w6.ownsRow w.heap.size 47 2 (.slice A1 j c1) j xs) (hu : ∀ v ∈ us, CpyV w6 v) (hv : CpyV w6 v) (hl : us.length = j) (hp : us.map PuV.p = (fewI l).take j) (hf : (fewI l).take (j + 1) = (fewI l).take j ++ [v.p]) (hb : Below w.heap.size w w6) :
    ∃ us : List PuV, w7.ownsRow w.heap.size 47 2 (.slice A7 (j + 1) c7) (j + 1) (us.flatMap puC) ∧ us.length = j + 1 ∧ us.map PuV.p = (fewI l).take (j + 1) ∧ (∀ v ∈ us, CpyV w7 v) ∧ Below w.heap.size w w7 := by
  refine ⟨us ++ [v], ?_, by rw [List.length_append, hl]; rfl, by rw [List.map_append, hp, hf]; rfl, fun u hu2 => ?_, hb.grown hg7 hb.size (own_base h6)⟩
  · rw [List.flatMap_append, List.flatMap_cons, List.flatMap_nil, List.append_nil]
    exact ho7
  · rcases List.mem_append.1 hu2 with h | h
    · exact (hu u h).grown h6 hg7
    · rw [List.mem_singleton.1 h]
      exact hv.grown h6 hg7
set_option maxHeartbeats 8000000 in
theorem few_any (A : Option Addr) (n c : Nat) (vs : List PuV) (w : World) (h : PutsIn w A n vs) (hnc : n ≤ c) :
    Calls Try.prog 7 #[.slice A n c] w fun e w' => Below w.heap.size w w' ∧ ∃ A' m c' us, e = .returned (.slice A' m c') ∧ m ≤ 42 ∧ PutsT w' A' m us ∧ us.map PuV.p = fewI (vs.map PuV.p) ∧ m ≤ c' := by
  have HN := hid h.len
  have HRW := hid h.row
  have HOC := hid h.oct
  have HCP := hid h.cap
  have H64 := hid h.i64
  obtain ⟨l, hl⟩ : ∃ l, vs.map PuV.p = l := ⟨_, rfl⟩
  rw [hl]
  have HLL : Hid (l.length = n) := hid (by rw [← hl, List.length_map, h.len])
  have HLG : Hid (∀ (j : Nat) (h1 : j < l.length) (h2 : j < vs.length), l[j]'h1 = (vs[j]'h2).p) := hid (fun j h1 h2 => by subst hl; rw [List.getElem_map])
  obtain ⟨m, hm⟩ : ∃ m, min 42 n = m := ⟨_, rfl⟩
  have HFL : Hid ((fewI l).length = m) := hid (by rw [fewI_len, HLL.out, hm])
  have hmn : m ≤ n := by omega
  have hm42 : m ≤ 42 := by omega
  have haddr : 0 < n → ∃ b off, A = some ⟨b, off, none⟩ := fun h0 => by
    obtain ⟨b, off, hA, -⟩ := pu_at h.row (k := 0) (by rw [h.len]; exact h0)
    exact ⟨b, off, hA⟩
  have HAD := hid haddr
  have J0 : Hid (∃ us : List PuV, w.ownsRow w.heap.size 47 2 (.slice none 0 0) 0 (us.flatMap puC) ∧ us.length = 0 ∧ us.map PuV.p = (fewI l).take 0 ∧ (∀ v ∈ us, CpyV w v) ∧ Below w.heap.size w w) := hid ⟨[], World.ownsRow_nil _ _ _ _, rfl, rfl, fun v hv => (by cases hv), Below.refl _ _⟩
  clear h hl haddr
  go_enter Try.func7, Try.ntmps7
  go_upto_if 8 with fail
  go_cut [0] (fun s0 wx => ∃ c', s0 = .slice A m c' ∧ m ≤ c' ∧ w = wx)
  case first =>
    by_cases h42 : 42 < n
    · have g1 : decide ((42 : Int) < (n : Int)) = true := by rw [decide_eq_true_iff]; omega
      have g1n : decide (42 < n) = true := by simpa using h42
      have z1 : (42 : Int) ≤ (c : Int) := by omega
      have z2 : 42 ≤ c := by omega
      obtain ⟨b, off, rfl⟩ := HAD.out (by omega)
      obtain rfl : m = 42 := by omega
      clear hm
      go_wp2_with fail
      go_meet
      exact ⟨c, rfl, z2, rfl⟩
    · have g1 : decide ((42 : Int) < (n : Int)) = false := by rw [decide_eq_false_iff_not]; omega
      have g1n : decide (42 < n) = false := by rw [decide_eq_false_iff_not]; exact h42
      obtain rfl : m = n := by omega
      clear hm
      go_wp2_with fail
      go_meet
      exact ⟨c, rfl, hnc, rfl⟩
  case rest =>
  obtain ⟨c', rfl, hmc, rfl⟩ := hcut
  clear hm HAD
  go_wp2_with fail
  go_loopw [3, 4] (fun v3 v4 wr => ∃ (j : Nat) (A1 : Option Addr) (c1 : Nat), j ≤ m ∧ v3 = .slice A1 j c1 ∧ v4 = .int .i64 (j : Int) ∧ Hid (∃ us : List PuV, wr.ownsRow w.heap.size 47 2 (.slice A1 j c1) j (us.flatMap puC) ∧ us.length = j ∧ us.map PuV.p = (fewI l).take j ∧ (∀ v ∈ us, CpyV wr v) ∧ Below w.heap.size w wr)) (fun v3 v4 wr => m - (intOf v4).toNat)
  case atStart => exact ⟨0, none, 0, Nat.zero_le _, rfl, rfl, J0⟩
  case round =>
    clear J0
    obtain ⟨j, A1, c1, hj, rfl, rfl, HI0⟩ := hrel
    rename World => wr
    obtain ⟨us, ho, hul, hup, hus, hbw⟩ := HI0.out
    have HO := hid ho
    have HUL := hid hul
    have HUP := hid hup
    have HUS := hid hus
    have HBW := hid hbw
    clear ho hul hup hus hbw HI0
    by_cases hlt : j < m
    · have e1 := lt_t hlt
      have e1n := lt_nt hlt
      have j0 : (0 : Int) ≤ (j : Int) := by omega
      have j1 : (j : Int) < (m : Int) := by omega
      have j2 : (j : Int).toNat = j := by omega
      have hjv : j < vs.length := by rw [HN.out]; omega
      have hjl : j < l.length := by rw [HLL.out]; omega
      obtain ⟨b, off, rfl, hc⟩ := pu_at HRW.out hjv
      have x0 := cells_keep HBW.out (hc j hjv).1
      have x1 := cells_keep HBW.out (hc j hjv).2
      have xw := (hc j hjv).1
      obtain ⟨v, hv⟩ : ∃ v, vs[j] = v := ⟨_, rfl⟩
      have hvm : v ∈ vs := hv ▸ List.getElem_mem hjv
      have p1 := HOC.out v hvm
      have hcp := HCP.out v hvm
      have hi64 := H64.out v hvm
      have hel := HLG.out j hjl hjv
      rw [hv] at x0 x1 hel xw
      have hfs := fewI_succ l j hjl (by omega)
      rw [hel] at hfs
      obtain ⟨at_, B, k, d, bs⟩ := v
      dsimp only at x0 x1 p1 hcp xw
      have HXW := hid xw
      clear xw
      have hkl : bs.length = k := p1.len
      obtain ⟨q, hq⟩ : ∃ q, min 130 k = q := ⟨_, rfl⟩
      have HPO : Hid (Oct w B q (bs.take 130)) := hid (by
        rcases Nat.lt_or_ge 130 k with h | h
        · have := p1.take 130 (by omega)
          rw [show q = 130 by omega]
          exact this
        · rw [List.take_of_length_le (by rw [hkl]; exact h), show q = k by omega]
          exact p1)
      have had : 130 < k → ∃ b off, B = some ⟨b, off, none⟩ := fun h => by
        obtain ⟨b, off, hA, -⟩ := p1.at_ (by omega)
        exact ⟨b, off, hA⟩
      have HAD := hid had
      have HFS := hid hfs
      have HI6 := hid hi64
      clear hc hv hvm hjv hel hjl had p1 hkl hfs hi64
      go_upto_if 24 with fail
      go_cut [5] (fun s7 wx => ∃ d', s7 = .slice B q d' ∧ wr = wx)
      case first =>
        by_cases h130 : 130 < k
        · have e2 : decide ((130 : Int) < (k : Int)) = true := by rw [decide_eq_true_iff]; omega
          have e2n : decide (130 < k) = true := by simpa using h130
          have z1 : (130 : Int) ≤ (d : Int) := by omega
          have z2 : 130 ≤ d := by omega
          obtain ⟨b2, off2, rfl⟩ := HAD.out h130
          obtain rfl : q = 130 := by omega
          clear hq
          go_wp2_with fail
          go_meet
          exact ⟨d, rfl, rfl⟩
        · have e2 : decide ((130 : Int) < (k : Int)) = false := by rw [decide_eq_false_iff_not]; omega
          have e2n : decide (130 < k) = false := by rw [decide_eq_false_iff_not]; exact h130
          obtain rfl : q = k := by omega
          clear hq
          go_wp2_with fail
          go_meet
          exact ⟨d, rfl, rfl⟩
      case rest =>
      obtain ⟨d', rfl, rfl⟩ := hcut
      have hq130 : q ≤ 130 := by omega
      clear hq x1 HAD
      have h0 : wr.drew.cell? ⟨b, off + j * 2, none⟩ = some (.int .i64 at_) := x0
      clear x0
      go_upto_region 10 with fail
      refine wp_region_noPanic ?_
      refine wp_region_held_drew (S := (fun W => W.cell? ⟨b, off + j * 2, none⟩ = some (.int .i64 at_))) (by kernel_rfl) (by first | assumption | trivial) (fun hHeld => ?_)
      obtain ⟨wd, hwd⟩ : ∃ wd, wr.drew = wd := ⟨_, rfl⟩
      have HBD : Hid (Below wr.heap.size wr wd) := hid (by rw [← hwd]; exact drew_below wr)
      rw [hwd] at hHeld
      rw [hwd]
      clear hwd h0
      refine wpAnyH_take (i := 0) (v := ?_) rfl (by kernel_rfl) (by kernel_rfl) (by kernel_rfl) (fun _ _ _ h => h) (Or.inl ⟨by kernel_rfl, ?_⟩) (by first | assumption | trivial) ?_
      rotate_left
      · (intro wS hSw; (try dsimp only at hSw); go_simp; try with_reducible rfl)
      (try simp only [List.append_eq, List.cons_append, List.nil_append, List.getElem_toArray, List.getElem_cons_succ, List.getElem_cons_zero, Act.put, List.setIfInBounds_toArray, List.set_cons_zero, List.set_cons_succ])
      refine wpAnyH_take (i := 1) (v := ?_) rfl (by kernel_rfl) (by kernel_rfl) (by kernel_rfl) (fun _ _ _ h => h) (Or.inl ⟨by kernel_rfl, ?_⟩) (by first | assumption | trivial) ?_
      rotate_left
      · (intro wS hSw; (try dsimp only at hSw); go_simp; try with_reducible rfl)
      (try simp only [List.append_eq, List.cons_append, List.nil_append, List.getElem_toArray, List.getElem_cons_succ, List.getElem_cons_zero, Act.put, List.setIfInBounds_toArray, List.set_cons_zero, List.set_cons_succ])
      refine wpAnyH_take (i := 2) (v := ?_) rfl (by kernel_rfl) (by kernel_rfl) (by kernel_rfl) (fun _ _ _ h => h) (Or.inl ⟨by kernel_rfl, ?_⟩) (by first | assumption | trivial) ?_
      rotate_left
      · (intro wS hSw; (try dsimp only at hSw); go_simp; try with_reducible rfl)
      (try simp only [List.append_eq, List.cons_append, List.nil_append, List.getElem_toArray, List.getElem_cons_succ, List.getElem_cons_zero, Act.put, List.setIfInBounds_toArray, List.set_cons_zero, List.set_cons_succ])
      refine wpAnyH_take (i := 3) (v := ?_) rfl (by kernel_rfl) (by kernel_rfl) (by kernel_rfl) (fun _ _ _ h => h) (Or.inl ⟨by kernel_rfl, ?_⟩) (by first | assumption | trivial) ?_
      rotate_left
      · (intro wS hSw; (try dsimp only at hSw); go_simp; try with_reducible rfl)
      (try simp only [List.append_eq, List.cons_append, List.nil_append, List.getElem_toArray, List.getElem_cons_succ, List.getElem_cons_zero, Act.put, List.setIfInBounds_toArray, List.set_cons_zero, List.set_cons_succ])
      refine wpAnyH_take (i := 4) (v := ?_) rfl (by kernel_rfl) (by kernel_rfl) (by kernel_rfl) (fun _ _ _ h => h) (Or.inl ⟨by kernel_rfl, ?_⟩) (by first | assumption | trivial) ?_
      rotate_left
      · (intro wS hSw; (try dsimp only at hSw); go_simp; try with_reducible rfl)
      (try simp only [List.append_eq, List.cons_append, List.nil_append, List.getElem_toArray, List.getElem_cons_succ, List.getElem_cons_zero, Act.put, List.setIfInBounds_toArray, List.set_cons_zero, List.set_cons_succ])
      refine wpAnyH_take (i := 5) (v := ?_) rfl (by kernel_rfl) (by kernel_rfl) (by kernel_rfl) (fun _ _ _ h => h) (Or.inl ⟨by kernel_rfl, ?_⟩) (by first | assumption | trivial) ?_
      rotate_left
      · (intro wS hSw; (try dsimp only at hSw); go_simp; try with_reducible rfl)
      (try simp only [List.append_eq, List.cons_append, List.nil_append, List.getElem_toArray, List.getElem_cons_succ, List.getElem_cons_zero, Act.put, List.setIfInBounds_toArray, List.set_cons_zero, List.set_cons_succ])
      refine wpAnyH_take (i := 7) (v := ?_) rfl (by kernel_rfl) (by kernel_rfl) (by kernel_rfl) (fun _ _ _ h => h) (Or.inl ⟨by kernel_rfl, ?_⟩) (by first | assumption | trivial) ?_
      rotate_left
      · (intro wS hSw; (try dsimp only at hSw); go_simp; try with_reducible rfl)
      (try simp only [List.append_eq, List.cons_append, List.nil_append, List.getElem_toArray, List.getElem_cons_succ, List.getElem_cons_zero, Act.put, List.setIfInBounds_toArray, List.set_cons_zero, List.set_cons_succ])
      have HE1 : Hid (Below wd.heap.size wd (wd.alloc (.cells #[] 5))) := hid ((Below.refl _ wd).alloc (Nat.le_refl _) _)
      have hS1 : (wd.alloc (.cells #[] 5)).cell? ⟨b, off + j * 2, none⟩ = some (.int .i64 at_) := cells_keep HE1.out hHeld
      have HX0 := hid hHeld
      refine wpAnyH_ready (rs := [6]) (by kernel_rfl) (by simp) ?_
      refine AllReadyH.cons rfl (fun K hK => ?_) AllReadyH.nil
      go_simp
      skip
      go_wp2_with fail
      refine hK.out _ _ (by first | assumption | trivial) (fun hHeld => ?_)
      clear hK K
      (try simp only [List.append_eq, List.cons_append, List.nil_append, List.getElem_toArray, List.getElem_cons_succ, List.getElem_cons_zero, Act.put, List.setIfInBounds_toArray, List.set_cons_zero, List.set_cons_succ])
      clear hS1
      have HB1 := hid (past (past HBW.out HBD.out) HE1.out)
      have HOE := hid (own_empty wd w.heap.size 5 (past HBW.out HBD.out).size)
      refine wpAnyH_ready (rs := [8]) (by kernel_rfl) (by simp) ?_
      refine AllReadyH.cons rfl (fun K hK => ?_) AllReadyH.nil
      rw [if_pos (by kernel_rfl)]
      (refine wp_append_row _ (.tmp 33) (.tmp 34) bytesT rfl w.heap.size (.slice (some ⟨wd.heap.size, 0, none⟩) 0 0) 0 [] rfl HOE.out B q d' ((bs.take 130).map B8) rfl (HPO.out.below HB1.out).cells_len (HPO.out.below HB1.out).2 (one_B8 _) (by simp only [maxLen]; omega) (by omega) HB1.out.size ?_; intro A5 c5 w5 ho5 hg5 hh5; rw [Nat.zero_add] at ho5; rw [Nat.zero_add]; have HD5 : Hid (Below wd.heap.size wd w5) := hid (HE1.out.grown hg5 HE1.out.size (own_base (own_empty wd wd.heap.size 5 (Nat.le_refl _)))); have HO5 := hid ho5; have hS5 : w5.cell? ⟨b, off + j * 2, none⟩ = some (.int .i64 at_) := cells_keep HD5.out HX0.out; have HE6 : Hid (Below w5.heap.size w5 (w5.alloc (.cells #[.int .i64 at_, .slice A5 q c5] 47))) := hid ((Below.refl _ w5).alloc (Nat.le_refl _) _); have hS6 : (w5.alloc (.cells #[.int .i64 at_, .slice A5 q c5] 47)).cell? ⟨b, off + j * 2, none⟩ = some (.int .i64 at_) := cells_keep HE6.out hS5; clear ho5 hg5 hh5 hHeld)
      refine hK.out _ _ (by first | assumption | trivial) (fun hHeld => ?_)
      clear hK K
      (try simp only [List.append_eq, List.cons_append, List.nil_append, List.getElem_toArray, List.getElem_cons_succ, List.getElem_cons_zero, Act.put, List.setIfInBounds_toArray, List.set_cons_zero, List.set_cons_succ])
      refine wpAnyH_take (i := 9) (v := ?_) rfl (by kernel_rfl) (by kernel_rfl) (by kernel_rfl) (fun _ _ _ h => h) (Or.inl ⟨by kernel_rfl, ?_⟩) (by first | assumption | trivial) ?_
      rotate_left
      · (intro wS hSw; (try dsimp only at hSw); go_simp; try with_reducible rfl)
      (try simp only [List.append_eq, List.cons_append, List.nil_append, List.getElem_toArray, List.getElem_cons_succ, List.getElem_cons_zero, Act.put, List.setIfInBounds_toArray, List.set_cons_zero, List.set_cons_succ])
      refine wpAnyH_ready (rs := [10]) (by kernel_rfl) (by simp) ?_
      refine AllReadyH.cons rfl (fun K hK => ?_) AllReadyH.nil
      go_simp
      skip
      go_wp2_with fail
      refine hK.out _ _ (by first | assumption | trivial) (fun hHeld => ?_)
      clear hK K
      (try simp only [List.append_eq, List.cons_append, List.nil_append, List.getElem_toArray, List.getElem_cons_succ, List.getElem_cons_zero, Act.put, List.setIfInBounds_toArray, List.set_cons_zero, List.set_cons_succ])
      have HB6 := hid (past (past (past HBW.out HBD.out) HD5.out) HE6.out)
      have HO6 := hid (own_below (own_below (own_below HO.out HBD.out) HD5.out) HE6.out)
      have HU6 := hid (fun v hv => (((HUS.out v hv).below HBD.out).below HD5.out).below HE6.out)
      have HNEW : Hid (CpyV (w5.alloc (.cells #[.int .i64 at_, .slice A5 q c5] 47)) ⟨at_, A5, q, c5, bs.take 130⟩) := hid ⟨HPO.out.len, (own_cap HO5.out).1, HI6.out, (CellsT.of_own HO5.out).below HE6.out⟩
      refine wpAnyH_ready (rs := [11]) (by kernel_rfl) (by simp) ?_
      refine AllReadyH.cons rfl (fun K hK => ?_) AllReadyH.nil
      rw [if_pos (by kernel_rfl)]
      (refine wp_append_row _ (.tmp 27) (.tmp 37) putT rfl w.heap.size (.slice A1 j c1) j (us.flatMap puC) rfl HO6.out (some ⟨w5.heap.size, 0, none⟩) 1 1 [.int .i64 at_, .slice A5 q c5] rfl rfl (Row.of_block (heap_alloc_new w5 (Obj.cells #[.int .i64 at_, .slice A5 q c5] 47))) (by simp [Value.oneCell']) (by simp only [maxLen]; omega) (by omega) HB6.out.size ?_; intro A7 c7 w7 ho7 hg7 hh7; have HFI : Hid (∃ us : List PuV, w7.ownsRow w.heap.size 47 2 (.slice A7 (j + 1) c7) (j + 1) (us.flatMap puC) ∧ us.length = j + 1 ∧ us.map PuV.p = (fewI l).take (j + 1) ∧ (∀ v ∈ us, CpyV w7 v) ∧ Below w.heap.size w w7) := hid (few_end ho7 hg7 HO6.out HU6.out HNEW.out HUL.out HUP.out HFS.out HB6.out); have HB7 : Hid (Below w.heap.size w w7) := hid (HB6.out.grown hg7 HB6.out.size (own_base HO6.out)); have hS7 : w7.cell? ⟨b, off + j * 2, none⟩ = some (.int .i64 at_) := cells_keep HB7.out HXW.out; clear ho7 hg7 hh7)
      refine hK.out _ _ (by first | assumption | trivial) (fun hHeld => ?_)
      clear hK K
      (try simp only [List.append_eq, List.cons_append, List.nil_append, List.getElem_toArray, List.getElem_cons_succ, List.getElem_cons_zero, Act.put, List.setIfInBounds_toArray, List.set_cons_zero, List.set_cons_succ])
      refine wpAnyH_take (i := 12) (v := ?_) rfl (by kernel_rfl) (by kernel_rfl) (by kernel_rfl) (fun _ _ _ h => h) (Or.inl ⟨by kernel_rfl, ?_⟩) (by first | assumption | trivial) ?_
      rotate_left
      · (intro wS hSw; (try dsimp only at hSw); go_simp; try with_reducible rfl)
      (try simp only [List.append_eq, List.cons_append, List.nil_append, List.getElem_toArray, List.getElem_cons_succ, List.getElem_cons_zero, Act.put, List.setIfInBounds_toArray, List.set_cons_zero, List.set_cons_succ])
      refine wpAnyH_done (by kernel_rfl) ?_ _
      refine NoPanic.normal ?_
      clear hHeld
      go_wp2_with fail
      go_roundw
      case rel => exact ⟨j + 1, A7, c7, by omega, rfl, by go_num, HFI⟩
      case measure => simp [intOf]; omega
    · have e1 := lt_f hlt
      have e1n := lt_nf hlt
      have hjm : j = m := by omega
      have HFT : Hid ((fewI l).take j = fewI l) := hid (by rw [List.take_of_length_le (by rw [HFL.out]; omega)])
      subst hjm
      go_wp2_with fail
      go_ret
      exact ⟨HBW.out, A1, j, c1, us, rfl, hm42, putsT_cpy HO.out HUL.out HUS.out, by rw [HUP.out, HFT.out], (own_cap HO.out).1⟩
end Go.Proofs.Ytpppmijohfjigaa
