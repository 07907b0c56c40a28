/-
  HeadOrder: the walk. A part of the proof: see the head of the text that ends in 'Law'.
-/
import Derived.Test.YthlofpofcpconaaDoorHe27
namespace Go.Proofs.YthlofpofcpconaaDoor
open Go.RowKit Go.Shelf
set_option linter.unusedVariables false
set_option linter.unusedSimpArgs false
attribute [local go_sem] Oper.semAt_some

theorem ordF_le {l : List UInt8} : ∀ {fs : List Fd} {a b : Nat}, ordF l a fs b → a ≤ b
  | [], a, b, h => h
  | g :: r, a, b, h => by have := ordF_le h.2.2; have := h.1; have := h.2.1.h1; have := h.2.1.h2; omega
theorem endR_empty : ∀ (ls : List (List UInt8)), emptyB (endR ls) = true
  | [] => rfl
  | x :: r => by
    unfold endR
    split
    · assumption
    · exact endR_empty r
def allF (l : List UInt8) (fs : List Fd) : List UInt8 := fs.flatMap fun f => lineL l (f.fr, f.te)
theorem pick_all (l : List UInt8) : pickL l [] true = allF l (fieldsL l) ++ endR (cutL l) := by
  unfold pickL pickF allF
  congr 2
  exact List.filter_eq_self.2 (fun f _ => rfl)
theorem pick_none (l : List UInt8) : pickL l [] false = endR (cutL l) := by
  unfold pickL pickF
  have : (fieldsL l).filter (fun f => oneOf [] f.nm != false) = [] := List.filter_eq_nil_iff.2 (fun f _ => by unfold oneOf; simp)
  rw [this]
  rfl
/-- j fields are looked at: what ends at a. -/
structure OrI (l : List UInt8) (j a : Nat) (al : List UInt8) : Prop where
  ord : ordF l a ((fieldsL l).drop j) (splitL l)
  all : al = allF l ((fieldsL l).take j)
  len : al.length ≤ j * 100000
theorem OrI.start (l : List UInt8) : OrI l 0 0 [] := ⟨fields_ord l, rfl, Nat.le_refl _⟩
theorem OrI.step {l : List UInt8} {j a : Nat} {al : List UInt8} (h : OrI l j a al) (hl : l.length ≤ 100000) (hj : j < (fieldsL l).length) (x : Fd) (hx : (fieldsL l)[j] = x) :
    a ≤ x.fr ∧ FdOk l x ∧ x.te ≤ splitL l ∧ OrI l (j + 1) x.te (al ++ lineL l (x.fr, x.te)) := by
  have h1 := h.ord
  rw [List.drop_eq_getElem_cons hj, hx] at h1
  refine ⟨h1.1, h1.2.1, ordF_le h1.2.2, h1.2.2, ?_, ?_⟩
  · unfold allF
    rw [List.take_succ_eq_append_getElem hj, hx, List.flatMap_append, ← allF, ← h.all]
    simp
  · have h2 : (lineL l (x.fr, x.te)).length ≤ l.length := by
      unfold lineL
      rw [List.length_take, List.length_drop]
      omega
    have h3 := h.len
    rw [List.length_append]
    omega
set_option maxRecDepth 100000 in
set_option maxHeartbeats 16000000 in
theorem walkHeadOrder (A : Option Addr) (n c : Nat) (l : List UInt8) (w : World) (ho : Oct w A n l) (hn : n ≤ c) (hc : c ≤ maxLen) :
    Calls Tryd.prog 5 #[.slice A n c] w fun e w' => e = .returned (.bool true) ∧ Below w.heap.size w w' := by
  have HFW := hid (few17_any A n c w hn (Nat.le_trans hn hc))
  have HO0 := hid ho
  have HNC := hid hn
  clear ho hn hc
  go_enter Tryd.func5, Tryd.ntmps5
  go_upto_region 2 with (go_at_call 8; refine HFW.out.mono ?_; rintro e w1 ⟨⟨k0, rfl, hk, hkn⟩, rfl⟩)
  obtain ⟨lb, hlb⟩ : ∃ lb, l.take k0 = lb := ⟨_, rfl⟩
  have HO : Hid (Oct w A k0 lb) := hid (by rw [← hlb]; exact HO0.out.take k0 hkn)
  have HLL : Hid (lb.length = k0) := hid HO.out.1
  have HLB : Hid (lb.length ≤ 100000) := hid (by have := HO.out.1; omega)
  have hkc : k0 ≤ 100000 := by omega
  have HKC : Hid (k0 ≤ c) := hid (Nat.le_trans hkn HNC.out)
  have HFA := hid (fields_any A k0 c lb w HO.out HKC.out hkc)
  have HSP := hid (fun X hX => split_any A k0 c lb X (HO.out.below hX) HKC.out hkc)
  have hfl := fields_len lb
  obtain ⟨k2, hk2⟩ : ∃ k, (fieldsL lb).length = k := ⟨_, rfl⟩
  rw [hk2] at HFA hfl
  have HK := hid hk2
  have hk1 : k2 ≤ 100000 := by have := HLB.out; omega
  obtain ⟨sp, hsp⟩ : ∃ sp, splitL lb = sp := ⟨_, rfl⟩
  rw [hsp] at HSP
  have hsl : sp ≤ k0 := by rw [← hsp, ← HLL.out]; exact split_le lb
  have HSPE := hid hsp
  clear hlb hk2 hfl hsp HFW
  have s1 : decide ((sp : Int) < 0) = false := by rw [decide_eq_false_iff_not]; omega
  have s2 : decide ((k0 : Int) < (sp : Int)) = false := by simp; omega
  have s2' : decide (k0 < sp) = false := by simp; omega
  have I0 := hid (OrI.start lb)
  go_wp2_with (first
    | (go_at_call 17; refine HFA.out.mono ?_; rintro e w2 ⟨v, rfl, ho2, b2⟩; obtain ⟨A1, c1, rfl, -⟩ := own_slice ho2; have HR1 := hid (Row.of_own ho2); have HB2 := hid b2; clear ho2 b2)
    | (go_at_call 18; refine (HSP.out _ HB2.out).mono ?_; rintro e w4 ⟨rfl, b⟩; have HB4 := hid (past HB2.out b); have HR4 := hid (HR1.out.below b); clear b))
  clear HFA HSP HB2 HR1
  go_loopw [5, 6, 7] (fun v5 v6 v7 wr => ∃ (j a : Nat) (al : List UInt8), j ≤ k2 ∧ v5 = .int .i64 (a : Int) ∧ v6 = .string (str al) ∧ v7 = .int .i64 (j : Int) ∧ Hid (OrI lb j a al) ∧ Hid (Below w4.heap.size w4 wr)) (fun v5 v6 v7 wr => k2 - (intOf v7).toNat)
  case atStart => exact ⟨0, 0, [], Nat.zero_le _, rfl, rfl, rfl, I0, hid (Below.refl _ _)⟩
  case round =>
    clear I0
    obtain ⟨j, a, al, hj, rfl, rfl, rfl, HI, HB1⟩ := hrel
    by_cases hlt : j < k2
    · have d1 := lt_t hlt
      have d1' := lt_nt hlt
      have hjl : j < (fieldsL lb).length := by rw [HK.out]; exact hlt
      obtain ⟨b, off, rfl, hc⟩ := fd_at HR4.out hjl
      obtain ⟨x, hx⟩ : ∃ x, (fieldsL lb)[j]'hjl = x := ⟨_, rfl⟩
      obtain ⟨t1, t2, t3, t4⟩ := HI.out.step HLB.out hjl x hx
      have p0 := cells_keep HB1.out (hc j hjl).1
      have p1 := cells_keep HB1.out (hc j hjl).2.1
      have p2 := cells_keep HB1.out (hc j hjl).2.2.1
      have p3 := cells_keep HB1.out (hc j hjl).2.2.2
      rw [hx] at p0 p1 p2 p3
      obtain ⟨nm, fr, te, at_⟩ := x
      obtain ⟨u1, u2, u3, u4, u5, u6⟩ := t2
      dsimp only at p0 p1 p2 p3 t1 t3 t4 u1 u2 u3 u4 u5 u6
      rw [HSPE.out] at t3
      obtain ⟨q, rfl⟩ : ∃ q, at_ = q + 1 := ⟨at_ - 1, by omega⟩
      obtain ⟨nl, hnl⟩ : ∃ nl, nm.length = nl := ⟨_, rfl⟩
      rw [hnl] at u3 u4 u5
      have hns : (str nm).size = nl := hnl
      have hal := HI.out.len
      obtain ⟨b0, o0, rfl, -⟩ := HO.out.at_ (by omega)
      have HI2 := hid t4
      have e0 : (0 : Int) ≤ (j : Int) := by omega
      have e1 : (j : Int) < (k2 : Int) := by omega
      have e3 : (j : Int).toNat = j := by omega
      have hlk := HLL.out
      have hkc2 := HKC.out
      obtain ⟨en, hen⟩ : ∃ en, fr + nl = en := ⟨_, rfl⟩
      have v0 : (0 : Int) ≤ (fr : Int) := by omega
      have v1 : (fr : Int) ≤ (en : Int) := by omega
      have v2 : (en : Int) ≤ (c : Int) := by omega
      have hen3 : en ≤ 100000 := by omega
      have v3 : (fr : Int).toNat = fr := by omega
      have v4 : (en : Int).toNat = en := by omega
      have v5 : ¬ c = fr := by omega
      have v6 : (fr : Int) + (nl : Int) = (en : Int) := by omega
      have v7 : (fr : Int) ≤ (te : Int) := by omega
      have v8 : (te : Int) ≤ (c : Int) := by omega
      have v9 : (te : Int).toNat = te := by omega
      have v10 : (0 : Int) ≤ (q : Int) := by omega
      have v11 : (q : Int) < (k0 : Int) := by omega
      have v12 : (q : Int).toNat = q := by omega
      have v13 : (q : Int) ≤ 100000 := by omega
      have v14 : (fr : Int) ≤ 100000 := by omega
      have y1 : decide ((fr : Int) < (a : Int)) = false := by simp; omega
      have y1' : decide (fr < a) = false := by simp; omega
      have y2 : decide ((q : Int) + 1 ≤ (fr : Int)) = false := by simp; omega
      have y3 : decide ((te : Int) < (q : Int) + 1) = false := by simp; omega
      have y4 : decide ((sp : Int) < (te : Int)) = false := by simp; omega
      have y4' : decide (sp < te) = false := by simp; omega
      have y5 : ((nl : Int) == 0) = false := by simp; omega
      have y5' : (nl == 0) = false := by simp; omega
      have y6 : decide ((q : Int) + 1 - (fr : Int) - 1 < (nl : Int)) = false := by simp; omega
      have y7 : (str nm != str nm) = false := by rw [bne, str_self]; rfl
      have hpq : ((q : Int) + 1) = ((q + 1 : Nat) : Int) := by omega
      rw [← hpq] at p3
      have HBW := hid (past HB4.out HB1.out)
      obtain ⟨o, ho⟩ : ∃ o, Obj.cells #[.string (str nm), .int .i64 (fr : Int), .int .i64 (te : Int), .int .i64 ((q : Int) + 1)] 39 = o := ⟨_, rfl⟩
      have HBA := hid (HBW.out.alloc HBW.out.size o)
      have ho1 := oct_mid (HO.out.below HBA.out) fr en (by omega) (by omega)
      have hlin : lineL lb (fr, en) = nm := by
        unfold lineL
        dsimp only
        rw [show en - fr = nl by omega]
        exact u5
      rw [hlin] at ho1
      have ho2 := oct_mid (HO.out.below HBA.out) fr te (by omega) (by omega)
      obtain ⟨ln, hln⟩ : ∃ ln, lineL lb (fr, te) = ln := ⟨_, rfl⟩
      have hll : ln.length = te - fr := ho2.1.symm ▸ (by rw [← hln])
      rw [hln] at ho2 HI2
      have kc1 : (convert 22 9 (.slice (some ⟨b0, o0 + fr, none⟩) (en - fr) (c - fr))).run Tryd.prog (wr.alloc o) = .ok (.string (str nm)) (wr.alloc o) := run_string_oct (c - fr) ho1 Tryd.underlying22 Tryd.underlying5 Tryd.underlying9
      have kc2 : (convert 22 9 (.slice (some ⟨b0, o0 + fr, none⟩) (te - fr) (c - fr))).run Tryd.prog (wr.alloc o) = .ok (.string (str ln)) (wr.alloc o) := run_string_oct (c - fr) ho2 Tryd.underlying22 Tryd.underlying5 Tryd.underlying9
      have z0 : (wr.alloc o).cell? ⟨b0, o0 + q, none⟩ = some (.int .u8 58) := by
        obtain ⟨b', o', h1, h2⟩ := (HO.out.below HBA.out).at_ (by omega)
        injection h1 with h1
        injection h1 with h3 h4
        subst h3 h4
        have h5 : q < lb.length := by omega
        rw [h2 q h5]
        rw [Nat.add_sub_cancel, List.getElem?_eq_getElem h5, Option.map_some] at u6
        injection u6 with u6
        rw [u6]
        rfl
      have hE : OwnE (wr.alloc o) wr.heap.size 39 [.string (str nm), .int .i64 (fr : Int), .int .i64 (te : Int), .int .i64 ((q : Int) + 1)] := by rw [← ho]; exact OwnE.new_ wr _ _
      obtain ⟨W1, hW1⟩ : ∃ W1, wr.alloc o = W1 := ⟨_, rfl⟩
      have HBE := hid (HB1.out.alloc HB1.out.size o)
      have hbe : Below w4.heap.size w4 (wr.alloc o) := HBE.out
      rw [hW1] at ho1 ho2 kc2 z0 hE HBE hbe
      have c0 := hE.cell (j := 0) rfl
      have c1' := hE.cell (j := 1) rfl
      have c2 := hE.cell (j := 2) rfl
      have c3 := hE.cell (j := 3) rfl
      have HW1 := hid hW1
      subst ho
      have hz : str al ++ str ln = str (al ++ ln) := str_append _ _
      have hno : ¬ 9223372036854775807 < (str al).size + (str ln).size := by
        have h1 : (str al).size = al.length := rfl
        have h2 : (str ln).size = ln.length := rfl
        omega
      have kcA : ∀ W, Oct W (some ⟨b0, o0 + fr, none⟩) (en - fr) nm → (convert 22 9 (.slice (some ⟨b0, o0 + fr, none⟩) (en - fr) (c - fr))).run Tryd.prog W = .ok (.string (str nm)) W := fun W h => run_string_oct (c - fr) h Tryd.underlying22 Tryd.underlying5 Tryd.underlying9
      have HO2 := hid ho2
      have HKC2 : Hid (∀ W, Oct W (some ⟨b0, o0 + fr, none⟩) (te - fr) ln → (convert 22 9 (.slice (some ⟨b0, o0 + fr, none⟩) (te - fr) (c - fr))).run Tryd.prog W = .ok (.string (str ln)) W) := hid (fun W h => run_string_oct (c - fr) h Tryd.underlying22 Tryd.underlying5 Tryd.underlying9)
      clear hc hx hjl t1 t3 t4 u1 u2 u3 u4 u5 u6 hpq ho2 hlin hen hnl hal hll hln hlk hkc2 HI kc1 kc2 hE hW1 hbe
      have mw1 : IntKind.i64.wrap ((q : Int) + 1 - (fr : Int)) = (q : Int) + 1 - (fr : Int) := by rw [IntKind.wrap_i64]; omega
      have mw2 : IntKind.i64.wrap ((q : Int) + 1 - (fr : Int) - 1) = (q : Int) + 1 - (fr : Int) - 1 := by rw [IntKind.wrap_i64]; omega
      have mw3 : IntKind.i64.wrap (en : Int) = (en : Int) := by rw [IntKind.wrap_i64]; omega
      have mw4 : IntKind.i64.wrap (q : Int) = (q : Int) := by rw [IntKind.wrap_i64]; omega
      go_upto_region 12 with fail
      rw [HW1.out]
      clear p0 p1 p2 p3
      have hS : (W1.drew.cell? ⟨wr.heap.size, 0, none⟩ = some (.string (str nm)) ∧ W1.drew.cell? ⟨wr.heap.size, 1, none⟩ = some (.int .i64 (fr : Int)) ∧ W1.drew.cell? ⟨wr.heap.size, 2, none⟩ = some (.int .i64 (te : Int)) ∧ W1.drew.cell? ⟨wr.heap.size, 3, none⟩ = some (.int .i64 ((q : Int) + 1))) ∧ W1.drew.cell? ⟨b0, o0 + q, none⟩ = some (.int .u8 58) ∧ Oct W1.drew (some ⟨b0, o0 + fr, none⟩) (en - fr) nm := ⟨⟨c0, c1', c2, c3⟩, z0, ho1.drew⟩
      have HC := hid (And.intro c1' c2)
      clear c0 c1' c2 c3 z0 ho1
      refine wp_region_noPanic ?_
      refine wp_region_held_drew (S := (fun W => (W.cell? ⟨wr.heap.size, 0, none⟩ = some (.string (str nm)) ∧ W.cell? ⟨wr.heap.size, 1, none⟩ = some (.int .i64 (fr : Int)) ∧ W.cell? ⟨wr.heap.size, 2, none⟩ = some (.int .i64 (te : Int)) ∧ W.cell? ⟨wr.heap.size, 3, none⟩ = some (.int .i64 ((q : Int) + 1))) ∧ W.cell? ⟨b0, o0 + q, none⟩ = some (.int .u8 58) ∧ Oct W (some ⟨b0, o0 + fr, none⟩) (en - fr) nm)) (by kernel_rfl) (by first | assumption | trivial) (fun hHeld => ?_)
      refine wpAnyH_take (i := 0) (v := ?_) rfl (by kernel_rfl) (by kernel_rfl) (by kernel_rfl) (fun _ _ _ h => h) (Or.inl ⟨by kernel_rfl, ?_⟩) (by first | assumption | trivial) ?_
      rotate_left
      · (intro wS hSw; (try dsimp only at hSw); go_simp; try with_reducible rfl)
      (try simp only [List.append_eq, List.cons_append, List.nil_append, List.getElem_toArray, List.getElem_cons_succ, List.getElem_cons_zero, Act.put, List.setIfInBounds_toArray, List.set_cons_zero, List.set_cons_succ])
      refine wpAnyH_take (i := 1) (v := ?_) rfl (by kernel_rfl) (by kernel_rfl) (by kernel_rfl) (fun _ _ _ h => h) (Or.inl ⟨by kernel_rfl, ?_⟩) (by first | assumption | trivial) ?_
      rotate_left
      · (intro wS hSw; (try dsimp only at hSw); go_simp; try with_reducible rfl)
      (try simp only [List.append_eq, List.cons_append, List.nil_append, List.getElem_toArray, List.getElem_cons_succ, List.getElem_cons_zero, Act.put, List.setIfInBounds_toArray, List.set_cons_zero, List.set_cons_succ])
      refine wpAnyH_take (i := 2) (v := ?_) rfl (by kernel_rfl) (by kernel_rfl) (by kernel_rfl) (fun _ _ _ h => h) (Or.inl ⟨by kernel_rfl, ?_⟩) (by first | assumption | trivial) ?_
      rotate_left
      · (intro wS hSw; (try dsimp only at hSw); go_simp; try with_reducible rfl)
      (try simp only [List.append_eq, List.cons_append, List.nil_append, List.getElem_toArray, List.getElem_cons_succ, List.getElem_cons_zero, Act.put, List.setIfInBounds_toArray, List.set_cons_zero, List.set_cons_succ])
      refine wpAnyH_take (i := 3) (v := ?_) rfl (by kernel_rfl) (by kernel_rfl) (by kernel_rfl) (fun _ _ _ h => h) (Or.inl ⟨by kernel_rfl, ?_⟩) (by first | assumption | trivial) ?_
      rotate_left
      · (intro wS hSw; (try dsimp only at hSw); go_simp; try with_reducible rfl)
      (try simp only [List.append_eq, List.cons_append, List.nil_append, List.getElem_toArray, List.getElem_cons_succ, List.getElem_cons_zero, Act.put, List.setIfInBounds_toArray, List.set_cons_zero, List.set_cons_succ])
      refine wpAnyH_take (i := 4) (v := ?_) rfl (by kernel_rfl) (by kernel_rfl) (by kernel_rfl) (fun _ _ _ h => h) (Or.inl ⟨by kernel_rfl, ?_⟩) (by first | assumption | trivial) ?_
      rotate_left
      · (intro wS hSw; (try dsimp only at hSw); go_simp; try with_reducible rfl)
      (try simp only [List.append_eq, List.cons_append, List.nil_append, List.getElem_toArray, List.getElem_cons_succ, List.getElem_cons_zero, Act.put, List.setIfInBounds_toArray, List.set_cons_zero, List.set_cons_succ])
      refine wpAnyH_take (i := 5) (v := ?_) rfl (by kernel_rfl) (by kernel_rfl) (by kernel_rfl) (fun _ _ _ h => h) (Or.inl ⟨by kernel_rfl, ?_⟩) (by first | assumption | trivial) ?_
      rotate_left
      · (intro wS hSw; (try dsimp only at hSw); go_simp; try with_reducible rfl)
      (try simp only [List.append_eq, List.cons_append, List.nil_append, List.getElem_toArray, List.getElem_cons_succ, List.getElem_cons_zero, Act.put, List.setIfInBounds_toArray, List.set_cons_zero, List.set_cons_succ])
      refine wpAnyH_take (i := 6) (v := ?_) rfl (by kernel_rfl) (by kernel_rfl) (by kernel_rfl) (fun _ _ _ h => h) (Or.inl ⟨by kernel_rfl, ?_⟩) (by first | assumption | trivial) ?_
      rotate_left
      · (intro wS hSw; (try dsimp only at hSw); go_simp; try with_reducible rfl)
      (try simp only [List.append_eq, List.cons_append, List.nil_append, List.getElem_toArray, List.getElem_cons_succ, List.getElem_cons_zero, Act.put, List.setIfInBounds_toArray, List.set_cons_zero, List.set_cons_succ])
      refine wpAnyH_take (i := 7) (v := ?_) rfl (by kernel_rfl) (by kernel_rfl) (by kernel_rfl) (fun _ _ _ h => h) (Or.inl ⟨by kernel_rfl, ?_⟩) (by first | assumption | trivial) ?_
      rotate_left
      · (intro wS hSw; (try dsimp only at hSw); go_simp; try with_reducible rfl)
      (try simp only [List.append_eq, List.cons_append, List.nil_append, List.getElem_toArray, List.getElem_cons_succ, List.getElem_cons_zero, Act.put, List.setIfInBounds_toArray, List.set_cons_zero, List.set_cons_succ])
      refine wpAnyH_take (i := 8) (v := ?_) rfl (by kernel_rfl) (by kernel_rfl) (by kernel_rfl) (fun _ _ _ h => h) (Or.inl ⟨by kernel_rfl, ?_⟩) (by first | assumption | trivial) ?_
      rotate_left
      · (intro wS hSw; (try dsimp only at hSw); go_simp; try with_reducible rfl)
      (try simp only [List.append_eq, List.cons_append, List.nil_append, List.getElem_toArray, List.getElem_cons_succ, List.getElem_cons_zero, Act.put, List.setIfInBounds_toArray, List.set_cons_zero, List.set_cons_succ])
      refine wpAnyH_take (i := 9) (v := ?_) rfl (by kernel_rfl) (by kernel_rfl) (by kernel_rfl) (fun _ _ _ h => h) (Or.inl ⟨by kernel_rfl, ?_⟩) (by first | assumption | trivial) ?_
      rotate_left
      · (intro wS hSw; (try dsimp only at hSw); go_simp; try with_reducible rfl)
      (try simp only [List.append_eq, List.cons_append, List.nil_append, List.getElem_toArray, List.getElem_cons_succ, List.getElem_cons_zero, Act.put, List.setIfInBounds_toArray, List.set_cons_zero, List.set_cons_succ])
      refine wpAnyH_take (i := 10) (v := ?_) rfl (by kernel_rfl) (by kernel_rfl) (by kernel_rfl) (fun _ _ _ h => h) (Or.inl ⟨by kernel_rfl, ?_⟩) (by first | assumption | trivial) ?_
      rotate_left
      · (intro wS hSw; (try dsimp only at hSw); go_simp; try with_reducible rfl)
      (try simp only [List.append_eq, List.cons_append, List.nil_append, List.getElem_toArray, List.getElem_cons_succ, List.getElem_cons_zero, Act.put, List.setIfInBounds_toArray, List.set_cons_zero, List.set_cons_succ])
      refine wpAnyH_take (i := 11) (v := ?_) rfl (by kernel_rfl) (by kernel_rfl) (by kernel_rfl) (fun _ _ _ h => h) (Or.inl ⟨by kernel_rfl, ?_⟩) (by first | assumption | trivial) ?_
      rotate_left
      · (intro wS hSw; (try dsimp only at hSw); go_simp; try with_reducible rfl)
      (try simp only [List.append_eq, List.cons_append, List.nil_append, List.getElem_toArray, List.getElem_cons_succ, List.getElem_cons_zero, Act.put, List.setIfInBounds_toArray, List.set_cons_zero, List.set_cons_succ])
      refine wpAnyH_take (i := 12) (v := ?_) rfl (by kernel_rfl) (by kernel_rfl) (by kernel_rfl) (fun _ _ _ h => h) (Or.inl ⟨by kernel_rfl, ?_⟩) (by first | assumption | trivial) ?_
      rotate_left
      · (intro wS hSw; (try dsimp only at hSw); go_simp; try with_reducible rfl)
      (try simp only [List.append_eq, List.cons_append, List.nil_append, List.getElem_toArray, List.getElem_cons_succ, List.getElem_cons_zero, Act.put, List.setIfInBounds_toArray, List.set_cons_zero, List.set_cons_succ])
      refine wpAnyH_take (i := 13) (v := ?_) rfl (by kernel_rfl) (by kernel_rfl) (by kernel_rfl) (fun _ _ _ h => h) (Or.inl ⟨by kernel_rfl, ?_⟩) (by first | assumption | trivial) ?_
      rotate_left
      · (intro wS hSw; (try dsimp only at hSw); go_simp; try with_reducible rfl)
      (try simp only [List.append_eq, List.cons_append, List.nil_append, List.getElem_toArray, List.getElem_cons_succ, List.getElem_cons_zero, Act.put, List.setIfInBounds_toArray, List.set_cons_zero, List.set_cons_succ])
      refine wpAnyH_take (i := 14) (v := ?_) rfl (by kernel_rfl) (by kernel_rfl) (by kernel_rfl) (fun _ _ _ h => h) (Or.inl ⟨by kernel_rfl, ?_⟩) (by first | assumption | trivial) ?_
      rotate_left
      · (intro wS hSw; (try dsimp only at hSw); go_simp; try with_reducible rfl)
      (try simp only [List.append_eq, List.cons_append, List.nil_append, List.getElem_toArray, List.getElem_cons_succ, List.getElem_cons_zero, Act.put, List.setIfInBounds_toArray, List.set_cons_zero, List.set_cons_succ])
      refine wpAnyH_take (i := 15) (v := ?_) rfl (by kernel_rfl) (by kernel_rfl) (by kernel_rfl) (fun _ _ _ h => h) (Or.inl ⟨by kernel_rfl, ?_⟩) (by first | assumption | trivial) ?_
      rotate_left
      · (intro wS hSw; (try dsimp only at hSw); go_simp; try with_reducible rfl)
      (try simp only [List.append_eq, List.cons_append, List.nil_append, List.getElem_toArray, List.getElem_cons_succ, List.getElem_cons_zero, Act.put, List.setIfInBounds_toArray, List.set_cons_zero, List.set_cons_succ])
      refine wpAnyH_take (i := 16) (v := ?_) rfl (by kernel_rfl) (by kernel_rfl) (by kernel_rfl) (fun _ _ _ h => h) (Or.inl ⟨by kernel_rfl, ?_⟩) (by first | assumption | trivial) ?_
      rotate_left
      · (intro wS hSw; (try dsimp only at hSw); go_simp; try with_reducible rfl)
      (try simp only [List.append_eq, List.cons_append, List.nil_append, List.getElem_toArray, List.getElem_cons_succ, List.getElem_cons_zero, Act.put, List.setIfInBounds_toArray, List.set_cons_zero, List.set_cons_succ])
      refine wpAnyH_take (i := 17) (v := ?_) rfl (by kernel_rfl) (by kernel_rfl) (by kernel_rfl) (fun _ _ _ h => h) (Or.inl ⟨by kernel_rfl, ?_⟩) (by first | assumption | trivial) ?_
      rotate_left
      · (intro wS hSw; (try dsimp only at hSw); go_simp; try with_reducible rfl)
      (try simp only [List.append_eq, List.cons_append, List.nil_append, List.getElem_toArray, List.getElem_cons_succ, List.getElem_cons_zero, Act.put, List.setIfInBounds_toArray, List.set_cons_zero, List.set_cons_succ])
      refine wpAnyH_take (i := 18) (v := ?_) rfl (by kernel_rfl) (by kernel_rfl) (by kernel_rfl) (fun _ _ _ h => h) (Or.inl ⟨by kernel_rfl, ?_⟩) (by first | assumption | trivial) ?_
      rotate_left
      · (intro wS hSw; (try dsimp only at hSw); go_simp; try with_reducible rfl)
      (try simp only [List.append_eq, List.cons_append, List.nil_append, List.getElem_toArray, List.getElem_cons_succ, List.getElem_cons_zero, Act.put, List.setIfInBounds_toArray, List.set_cons_zero, List.set_cons_succ])
      refine wpAnyH_take (i := 19) (v := ?_) rfl (by kernel_rfl) (by kernel_rfl) (by kernel_rfl) (fun _ _ _ h => h) (Or.inl ⟨by kernel_rfl, ?_⟩) (by first | assumption | trivial) ?_
      rotate_left
      · (intro wS hSw; (try dsimp only at hSw); go_simp; try with_reducible rfl)
      (try simp only [List.append_eq, List.cons_append, List.nil_append, List.getElem_toArray, List.getElem_cons_succ, List.getElem_cons_zero, Act.put, List.setIfInBounds_toArray, List.set_cons_zero, List.set_cons_succ])
      refine wpAnyH_take (i := 20) (v := ?_) rfl (by kernel_rfl) (by kernel_rfl) (by kernel_rfl) (fun _ _ _ h => h) (Or.inl ⟨by kernel_rfl, ?_⟩) (by first | assumption | trivial) ?_
      rotate_left
      · (intro wS hSw; (try dsimp only at hSw); go_simp; try with_reducible rfl)
      (try simp only [List.append_eq, List.cons_append, List.nil_append, List.getElem_toArray, List.getElem_cons_succ, List.getElem_cons_zero, Act.put, List.setIfInBounds_toArray, List.set_cons_zero, List.set_cons_succ])
      refine wpAnyH_take (i := 21) (v := ?_) rfl (by kernel_rfl) (by kernel_rfl) (by kernel_rfl) (fun _ _ _ h => h) (Or.inl ⟨by kernel_rfl, ?_⟩) (by first | assumption | trivial) ?_
      rotate_left
      · (intro wS hSw; (try dsimp only at hSw); go_simp; try with_reducible rfl)
      (try simp only [List.append_eq, List.cons_append, List.nil_append, List.getElem_toArray, List.getElem_cons_succ, List.getElem_cons_zero, Act.put, List.setIfInBounds_toArray, List.set_cons_zero, List.set_cons_succ])
      refine wpAnyH_take (i := 22) (v := ?_) rfl (by kernel_rfl) (by kernel_rfl) (by kernel_rfl) (fun _ _ _ h => h) (Or.inl ⟨by kernel_rfl, ?_⟩) (by first | assumption | trivial) ?_
      rotate_left
      · (intro wS hSw; (try dsimp only at hSw); go_simp; try with_reducible rfl)
      (try simp only [List.append_eq, List.cons_append, List.nil_append, List.getElem_toArray, List.getElem_cons_succ, List.getElem_cons_zero, Act.put, List.setIfInBounds_toArray, List.set_cons_zero, List.set_cons_succ])
      refine wpAnyH_take (i := 23) (v := ?_) rfl (by kernel_rfl) (by kernel_rfl) (by kernel_rfl) (fun _ _ _ h => h) (Or.inl ⟨by kernel_rfl, ?_⟩) (by first | assumption | trivial) ?_
      rotate_left
      · (intro wS hSw; (try dsimp only at hSw); go_simp; try with_reducible rfl)
      (try simp only [List.append_eq, List.cons_append, List.nil_append, List.getElem_toArray, List.getElem_cons_succ, List.getElem_cons_zero, Act.put, List.setIfInBounds_toArray, List.set_cons_zero, List.set_cons_succ])
      refine wpAnyH_take (i := 24) (v := ?_) rfl (by kernel_rfl) (by kernel_rfl) (by kernel_rfl) (fun _ _ _ h => h) (Or.inl ⟨by kernel_rfl, ?_⟩) (by first | assumption | trivial) ?_
      rotate_left
      · (intro wS hSw; (try dsimp only at hSw); go_simp; try with_reducible rfl)
      (try simp only [List.append_eq, List.cons_append, List.nil_append, List.getElem_toArray, List.getElem_cons_succ, List.getElem_cons_zero, Act.put, List.setIfInBounds_toArray, List.set_cons_zero, List.set_cons_succ])
      refine wpAnyH_take (i := 25) (v := ?_) rfl (by kernel_rfl) (by kernel_rfl) (by kernel_rfl) (fun _ _ _ h => h) (Or.inl ⟨by kernel_rfl, ?_⟩) (by first | assumption | trivial) ?_
      rotate_left
      · (intro wS hSw; (try dsimp only at hSw); go_simp; try with_reducible rfl)
      (try simp only [List.append_eq, List.cons_append, List.nil_append, List.getElem_toArray, List.getElem_cons_succ, List.getElem_cons_zero, Act.put, List.setIfInBounds_toArray, List.set_cons_zero, List.set_cons_succ])
      refine wpAnyH_take (i := 26) (v := ?_) rfl (by kernel_rfl) (by kernel_rfl) (by kernel_rfl) (fun _ _ _ h => h) (Or.inl ⟨by kernel_rfl, ?_⟩) (by first | assumption | trivial) ?_
      rotate_left
      · (intro wS hSw; (try dsimp only at hSw); go_simp; try with_reducible rfl)
      (try simp only [List.append_eq, List.cons_append, List.nil_append, List.getElem_toArray, List.getElem_cons_succ, List.getElem_cons_zero, Act.put, List.setIfInBounds_toArray, List.set_cons_zero, List.set_cons_succ])
      refine wpAnyH_ready (rs := [27]) (by kernel_rfl) (by simp) ?_
      refine AllReadyH.cons rfl (fun K hK => ?_) AllReadyH.nil
      go_simp
      skip
      go_wp2_with fail
      refine hK.out _ _ (by first | assumption | trivial) (fun hHeld => ?_)
      clear hK K
      (try simp only [List.append_eq, List.cons_append, List.nil_append, List.getElem_toArray, List.getElem_cons_succ, List.getElem_cons_zero, Act.put, List.setIfInBounds_toArray, List.set_cons_zero, List.set_cons_succ])
      refine wpAnyH_take (i := 28) (v := ?_) rfl (by kernel_rfl) (by kernel_rfl) (by kernel_rfl) (fun _ _ _ h => h) (Or.inl ⟨by kernel_rfl, ?_⟩) (by first | assumption | trivial) ?_
      rotate_left
      · (intro wS hSw; (try dsimp only at hSw); go_simp; try with_reducible rfl)
      (try simp only [List.append_eq, List.cons_append, List.nil_append, List.getElem_toArray, List.getElem_cons_succ, List.getElem_cons_zero, Act.put, List.setIfInBounds_toArray, List.set_cons_zero, List.set_cons_succ])
      refine wpAnyH_take (i := 29) (v := ?_) rfl (by kernel_rfl) (by kernel_rfl) (by kernel_rfl) (fun _ _ _ h => h) (Or.inl ⟨by kernel_rfl, ?_⟩) (by first | assumption | trivial) ?_
      rotate_left
      · (intro wS hSw; (try dsimp only at hSw); go_simp; try with_reducible rfl)
      (try simp only [List.append_eq, List.cons_append, List.nil_append, List.getElem_toArray, List.getElem_cons_succ, List.getElem_cons_zero, Act.put, List.setIfInBounds_toArray, List.set_cons_zero, List.set_cons_succ])
      refine wpAnyH_take (i := 30) (v := ?_) rfl (by kernel_rfl) (by kernel_rfl) (by kernel_rfl) (fun _ _ _ h => h) (Or.inl ⟨by kernel_rfl, ?_⟩) (by first | assumption | trivial) ?_
      rotate_left
      · (intro wS hSw; (try dsimp only at hSw); go_simp; try with_reducible rfl)
      (try simp only [List.append_eq, List.cons_append, List.nil_append, List.getElem_toArray, List.getElem_cons_succ, List.getElem_cons_zero, Act.put, List.setIfInBounds_toArray, List.set_cons_zero, List.set_cons_succ])
      refine wpAnyH_take (i := 31) (v := ?_) rfl (by kernel_rfl) (by kernel_rfl) (by kernel_rfl) (fun _ _ _ h => h) (Or.inl ⟨by kernel_rfl, ?_⟩) (by first | assumption | trivial) ?_
      rotate_left
      · (intro wS hSw; (try dsimp only at hSw); go_simp; try with_reducible rfl)
      (try simp only [List.append_eq, List.cons_append, List.nil_append, List.getElem_toArray, List.getElem_cons_succ, List.getElem_cons_zero, Act.put, List.setIfInBounds_toArray, List.set_cons_zero, List.set_cons_succ])
      refine wpAnyH_take (i := 32) (v := ?_) rfl (by kernel_rfl) (by kernel_rfl) (by kernel_rfl) (fun _ _ _ h => h) (Or.inl ⟨by kernel_rfl, ?_⟩) (by first | assumption | trivial) ?_
      rotate_left
      · (intro wS hSw; (try dsimp only at hSw); go_simp; try with_reducible rfl)
      (try simp only [List.append_eq, List.cons_append, List.nil_append, List.getElem_toArray, List.getElem_cons_succ, List.getElem_cons_zero, Act.put, List.setIfInBounds_toArray, List.set_cons_zero, List.set_cons_succ])
      refine wpAnyH_take (i := 34) (v := ?_) rfl (by kernel_rfl) (by kernel_rfl) (by kernel_rfl) (fun _ _ _ h => h) (Or.inl ⟨by kernel_rfl, ?_⟩) (by first | assumption | trivial) ?_
      rotate_left
      · (intro wS hSw; (try dsimp only at hSw); go_simp; try with_reducible rfl)
      (try simp only [List.append_eq, List.cons_append, List.nil_append, List.getElem_toArray, List.getElem_cons_succ, List.getElem_cons_zero, Act.put, List.setIfInBounds_toArray, List.set_cons_zero, List.set_cons_succ])
      refine wpAnyH_take (i := 35) (v := ?_) rfl (by kernel_rfl) (by kernel_rfl) (by kernel_rfl) (fun _ _ _ h => h) (Or.inl ⟨by kernel_rfl, ?_⟩) (by first | assumption | trivial) ?_
      rotate_left
      · (intro wS hSw; (try dsimp only at hSw); go_simp; try with_reducible rfl)
      (try simp only [List.append_eq, List.cons_append, List.nil_append, List.getElem_toArray, List.getElem_cons_succ, List.getElem_cons_zero, Act.put, List.setIfInBounds_toArray, List.set_cons_zero, List.set_cons_succ])
      refine wpAnyH_take (i := 36) (v := ?_) rfl (by kernel_rfl) (by kernel_rfl) (by kernel_rfl) (fun _ _ _ h => h) (Or.inl ⟨by kernel_rfl, ?_⟩) (by first | assumption | trivial) ?_
      rotate_left
      · (intro wS hSw; (try dsimp only at hSw); go_simp; try with_reducible rfl)
      (try simp only [List.append_eq, List.cons_append, List.nil_append, List.getElem_toArray, List.getElem_cons_succ, List.getElem_cons_zero, Act.put, List.setIfInBounds_toArray, List.set_cons_zero, List.set_cons_succ])
      refine wpAnyH_take (i := 37) (v := ?_) rfl (by kernel_rfl) (by kernel_rfl) (by kernel_rfl) (fun _ _ _ h => h) (Or.inl ⟨by kernel_rfl, ?_⟩) (by first | assumption | trivial) ?_
      rotate_left
      · (intro wS hSw; (try dsimp only at hSw); go_simp; try with_reducible rfl)
      (try simp only [List.append_eq, List.cons_append, List.nil_append, List.getElem_toArray, List.getElem_cons_succ, List.getElem_cons_zero, Act.put, List.setIfInBounds_toArray, List.set_cons_zero, List.set_cons_succ])
      refine wpAnyH_take (i := 38) (v := ?_) rfl (by kernel_rfl) (by kernel_rfl) (by kernel_rfl) (fun _ _ _ h => h) (Or.inl ⟨by kernel_rfl, ?_⟩) (by first | assumption | trivial) ?_
      rotate_left
      · (intro wS hSw; (try dsimp only at hSw); go_simp; try with_reducible rfl)
      (try simp only [List.append_eq, List.cons_append, List.nil_append, List.getElem_toArray, List.getElem_cons_succ, List.getElem_cons_zero, Act.put, List.setIfInBounds_toArray, List.set_cons_zero, List.set_cons_succ])
      refine wpAnyH_take (i := 39) (v := ?_) rfl (by kernel_rfl) (by kernel_rfl) (by kernel_rfl) (fun _ _ _ h => h) (Or.inl ⟨by kernel_rfl, ?_⟩) (by first | assumption | trivial) ?_
      rotate_left
      · (intro wS hSw; (try dsimp only at hSw); go_simp; try with_reducible rfl)
      (try simp only [List.append_eq, List.cons_append, List.nil_append, List.getElem_toArray, List.getElem_cons_succ, List.getElem_cons_zero, Act.put, List.setIfInBounds_toArray, List.set_cons_zero, List.set_cons_succ])
      refine wpAnyH_ready (rs := [33]) (by kernel_rfl) (by simp) ?_
      refine AllReadyH.cons rfl (fun K hK => ?_) AllReadyH.nil
      go_simp
      skip
      go_wp2_with fail
      refine hK.out _ _ (by first | assumption | trivial) (fun hHeld => ?_)
      clear hK K
      (try simp only [List.append_eq, List.cons_append, List.nil_append, List.getElem_toArray, List.getElem_cons_succ, List.getElem_cons_zero, Act.put, List.setIfInBounds_toArray, List.set_cons_zero, List.set_cons_succ])
      refine wpAnyH_take (i := 40) (v := ?_) rfl (by kernel_rfl) (by kernel_rfl) (by kernel_rfl) (fun _ _ _ h => h) (Or.inl ⟨by kernel_rfl, ?_⟩) (by first | assumption | trivial) ?_
      rotate_left
      · (intro wS hSw; (try dsimp only at hSw); go_simp; try with_reducible rfl)
      (try simp only [List.append_eq, List.cons_append, List.nil_append, List.getElem_toArray, List.getElem_cons_succ, List.getElem_cons_zero, Act.put, List.setIfInBounds_toArray, List.set_cons_zero, List.set_cons_succ])
      refine wpAnyH_take (i := 41) (v := ?_) rfl (by kernel_rfl) (by kernel_rfl) (by kernel_rfl) (fun _ _ _ h => h) (Or.inl ⟨by kernel_rfl, ?_⟩) (by first | assumption | trivial) ?_
      rotate_left
      · (intro wS hSw; (try dsimp only at hSw); go_simp; try with_reducible rfl)
      (try simp only [List.append_eq, List.cons_append, List.nil_append, List.getElem_toArray, List.getElem_cons_succ, List.getElem_cons_zero, Act.put, List.setIfInBounds_toArray, List.set_cons_zero, List.set_cons_succ])
      refine wpAnyH_take (i := 42) (v := ?_) rfl (by kernel_rfl) (by kernel_rfl) (by kernel_rfl) (fun _ _ _ h => h) (Or.inl ⟨by kernel_rfl, ?_⟩) (by first | assumption | trivial) ?_
      rotate_left
      · (intro wS hSw; (try dsimp only at hSw); go_simp; try with_reducible rfl)
      (try simp only [List.append_eq, List.cons_append, List.nil_append, List.getElem_toArray, List.getElem_cons_succ, List.getElem_cons_zero, Act.put, List.setIfInBounds_toArray, List.set_cons_zero, List.set_cons_succ])
      refine wpAnyH_take (i := 43) (v := ?_) rfl (by kernel_rfl) (by kernel_rfl) (by kernel_rfl) (fun _ _ _ h => h) (Or.inl ⟨by kernel_rfl, ?_⟩) (by first | assumption | trivial) ?_
      rotate_left
      · (intro wS hSw; (try dsimp only at hSw); go_simp; try with_reducible rfl)
      (try simp only [List.append_eq, List.cons_append, List.nil_append, List.getElem_toArray, List.getElem_cons_succ, List.getElem_cons_zero, Act.put, List.setIfInBounds_toArray, List.set_cons_zero, List.set_cons_succ])
      refine wpAnyH_take (i := 44) (v := ?_) rfl (by kernel_rfl) (by kernel_rfl) (by kernel_rfl) (fun _ _ _ h => h) (Or.inl ⟨by kernel_rfl, ?_⟩) (by first | assumption | trivial) ?_
      rotate_left
      · (intro wS hSw; (try dsimp only at hSw); go_simp; try with_reducible rfl)
      (try simp only [List.append_eq, List.cons_append, List.nil_append, List.getElem_toArray, List.getElem_cons_succ, List.getElem_cons_zero, Act.put, List.setIfInBounds_toArray, List.set_cons_zero, List.set_cons_succ])
      refine wpAnyH_take (i := 45) (v := ?_) rfl (by kernel_rfl) (by kernel_rfl) (by kernel_rfl) (fun _ _ _ h => h) (Or.inl ⟨by kernel_rfl, ?_⟩) (by first | assumption | trivial) ?_
      rotate_left
      · (intro wS hSw; (try dsimp only at hSw); go_simp; try with_reducible rfl)
      (try simp only [List.append_eq, List.cons_append, List.nil_append, List.getElem_toArray, List.getElem_cons_succ, List.getElem_cons_zero, Act.put, List.setIfInBounds_toArray, List.set_cons_zero, List.set_cons_succ])
      refine wpAnyH_take (i := 46) (v := ?_) rfl (by kernel_rfl) (by kernel_rfl) (by kernel_rfl) (fun _ _ _ h => h) (Or.inl ⟨by kernel_rfl, ?_⟩) (by first | assumption | trivial) ?_
      rotate_left
      · (intro wS hSw; (try dsimp only at hSw); go_simp; try with_reducible rfl)
      (try simp only [List.append_eq, List.cons_append, List.nil_append, List.getElem_toArray, List.getElem_cons_succ, List.getElem_cons_zero, Act.put, List.setIfInBounds_toArray, List.set_cons_zero, List.set_cons_succ])
      refine wpAnyH_take (i := 47) (v := ?_) rfl (by kernel_rfl) (by kernel_rfl) (by kernel_rfl) (fun _ _ _ h => h) (Or.inl ⟨by kernel_rfl, ?_⟩) (by first | assumption | trivial) ?_
      rotate_left
      · (intro wS hSw; (try dsimp only at hSw); go_simp; try with_reducible rfl)
      (try simp only [List.append_eq, List.cons_append, List.nil_append, List.getElem_toArray, List.getElem_cons_succ, List.getElem_cons_zero, Act.put, List.setIfInBounds_toArray, List.set_cons_zero, List.set_cons_succ])
      refine wpAnyH_take (i := 48) (v := ?_) rfl (by kernel_rfl) (by kernel_rfl) (by kernel_rfl) (fun _ _ _ h => h) (Or.inl ⟨by kernel_rfl, ?_⟩) (by first | assumption | trivial) ?_
      rotate_left
      · (intro wS hSw; (try dsimp only at hSw); go_simp; try with_reducible rfl)
      (try simp only [List.append_eq, List.cons_append, List.nil_append, List.getElem_toArray, List.getElem_cons_succ, List.getElem_cons_zero, Act.put, List.setIfInBounds_toArray, List.set_cons_zero, List.set_cons_succ])
      refine wpAnyH_take (i := 49) (v := ?_) rfl (by kernel_rfl) (by kernel_rfl) (by kernel_rfl) (fun _ _ _ h => h) (Or.inl ⟨by kernel_rfl, ?_⟩) (by first | assumption | trivial) ?_
      rotate_left
      · (intro wS hSw; (try dsimp only at hSw); go_simp; try with_reducible rfl)
      (try simp only [List.append_eq, List.cons_append, List.nil_append, List.getElem_toArray, List.getElem_cons_succ, List.getElem_cons_zero, Act.put, List.setIfInBounds_toArray, List.set_cons_zero, List.set_cons_succ])
      refine wpAnyH_take (i := 54) (v := ?_) rfl (by kernel_rfl) (by kernel_rfl) (by kernel_rfl) (fun _ _ _ h => h) (Or.inl ⟨by kernel_rfl, ?_⟩) (by first | assumption | trivial) ?_
      rotate_left
      · (intro wS hSw; (try dsimp only at hSw); go_simp; try with_reducible rfl)
      (try simp only [List.append_eq, List.cons_append, List.nil_append, List.getElem_toArray, List.getElem_cons_succ, List.getElem_cons_zero, Act.put, List.setIfInBounds_toArray, List.set_cons_zero, List.set_cons_succ])
      refine wpAnyH_take (i := 55) (v := ?_) rfl (by kernel_rfl) (by kernel_rfl) (by kernel_rfl) (fun _ _ _ h => h) (Or.inl ⟨by kernel_rfl, ?_⟩) (by first | assumption | trivial) ?_
      rotate_left
      · (intro wS hSw; (try dsimp only at hSw); go_simp; try with_reducible rfl)
      (try simp only [List.append_eq, List.cons_append, List.nil_append, List.getElem_toArray, List.getElem_cons_succ, List.getElem_cons_zero, Act.put, List.setIfInBounds_toArray, List.set_cons_zero, List.set_cons_succ])
      refine wpAnyH_ready (rs := [50]) (by kernel_rfl) (by simp) ?_
      refine AllReadyH.cons rfl (fun K hK => ?_) AllReadyH.nil
      go_simp
      skip
      go_wp2_with fail
      refine hK.out _ _ (by first | assumption | trivial) (fun hHeld => ?_)
      clear hK K
      (try simp only [List.append_eq, List.cons_append, List.nil_append, List.getElem_toArray, List.getElem_cons_succ, List.getElem_cons_zero, Act.put, List.setIfInBounds_toArray, List.set_cons_zero, List.set_cons_succ])
      refine wpAnyH_take (i := 51) (v := ?_) rfl (by kernel_rfl) (by kernel_rfl) (by kernel_rfl) (fun _ _ _ h => h) (Or.inl ⟨by kernel_rfl, ?_⟩) (by first | assumption | trivial) ?_
      rotate_left
      · (intro wS hSw; (try dsimp only at hSw); go_simp; try with_reducible rfl)
      (try simp only [List.append_eq, List.cons_append, List.nil_append, List.getElem_toArray, List.getElem_cons_succ, List.getElem_cons_zero, Act.put, List.setIfInBounds_toArray, List.set_cons_zero, List.set_cons_succ])
      refine wpAnyH_take (i := 52) (v := ?_) rfl (by kernel_rfl) (by kernel_rfl) (by kernel_rfl) (fun _ _ _ h => h) (Or.inl ⟨by kernel_rfl, ?_⟩) (by first | assumption | trivial) ?_
      rotate_left
      · (intro wS hSw; (try dsimp only at hSw); go_simp; try with_reducible rfl)
      (try simp only [List.append_eq, List.cons_append, List.nil_append, List.getElem_toArray, List.getElem_cons_succ, List.getElem_cons_zero, Act.put, List.setIfInBounds_toArray, List.set_cons_zero, List.set_cons_succ])
      refine wpAnyH_take (i := 53) (v := ?_) rfl (by kernel_rfl) (by kernel_rfl) (by kernel_rfl) (fun _ _ _ h => h) (Or.inl ⟨by kernel_rfl, ?_⟩) (by first | assumption | trivial) ?_
      rotate_left
      · (intro wS hSw; (try dsimp only at hSw); go_simp; try with_reducible rfl)
      (try simp only [List.append_eq, List.cons_append, List.nil_append, List.getElem_toArray, List.getElem_cons_succ, List.getElem_cons_zero, Act.put, List.setIfInBounds_toArray, List.set_cons_zero, List.set_cons_succ])
      refine wpAnyH_take (i := 56) (v := ?_) rfl (by kernel_rfl) (by kernel_rfl) (by kernel_rfl) (fun _ _ _ h => h) (Or.inl ⟨by kernel_rfl, ?_⟩) (by first | assumption | trivial) ?_
      rotate_left
      · (intro wS hSw; (try dsimp only at hSw); go_simp; try with_reducible rfl)
      (try simp only [List.append_eq, List.cons_append, List.nil_append, List.getElem_toArray, List.getElem_cons_succ, List.getElem_cons_zero, Act.put, List.setIfInBounds_toArray, List.set_cons_zero, List.set_cons_succ])
      refine wpAnyH_take (i := 57) (v := ?_) rfl (by kernel_rfl) (by kernel_rfl) (by kernel_rfl) (fun _ _ _ h => h) (Or.inl ⟨by kernel_rfl, ?_⟩) (by first | assumption | trivial) ?_
      rotate_left
      · (intro wS hSw; (try dsimp only at hSw); go_simp; try with_reducible rfl)
      (try simp only [List.append_eq, List.cons_append, List.nil_append, List.getElem_toArray, List.getElem_cons_succ, List.getElem_cons_zero, Act.put, List.setIfInBounds_toArray, List.set_cons_zero, List.set_cons_succ])
      refine wpAnyH_take (i := 58) (v := ?_) rfl (by kernel_rfl) (by kernel_rfl) (by kernel_rfl) (fun _ _ _ h => h) (Or.inl ⟨by kernel_rfl, ?_⟩) (by first | assumption | trivial) ?_
      rotate_left
      · (intro wS hSw; (try dsimp only at hSw); go_simp; try with_reducible rfl)
      (try simp only [List.append_eq, List.cons_append, List.nil_append, List.getElem_toArray, List.getElem_cons_succ, List.getElem_cons_zero, Act.put, List.setIfInBounds_toArray, List.set_cons_zero, List.set_cons_succ])
      refine wpAnyH_take (i := 59) (v := ?_) rfl (by kernel_rfl) (by kernel_rfl) (by kernel_rfl) (fun _ _ _ h => h) (Or.inl ⟨by kernel_rfl, ?_⟩) (by first | assumption | trivial) ?_
      rotate_left
      · (intro wS hSw; (try dsimp only at hSw); go_simp; try with_reducible rfl)
      (try simp only [List.append_eq, List.cons_append, List.nil_append, List.getElem_toArray, List.getElem_cons_succ, List.getElem_cons_zero, Act.put, List.setIfInBounds_toArray, List.set_cons_zero, List.set_cons_succ])
      refine wpAnyH_take (i := 60) (v := ?_) rfl (by kernel_rfl) (by kernel_rfl) (by kernel_rfl) (fun _ _ _ h => h) (Or.inl ⟨by kernel_rfl, ?_⟩) (by first | assumption | trivial) ?_
      rotate_left
      · (intro wS hSw; (try dsimp only at hSw); go_simp; try with_reducible rfl)
      (try simp only [List.append_eq, List.cons_append, List.nil_append, List.getElem_toArray, List.getElem_cons_succ, List.getElem_cons_zero, Act.put, List.setIfInBounds_toArray, List.set_cons_zero, List.set_cons_succ])
      refine wpAnyH_take (i := 61) (v := ?_) rfl (by kernel_rfl) (by kernel_rfl) (by kernel_rfl) (fun _ _ _ h => h) (Or.inl ⟨by kernel_rfl, ?_⟩) (by first | assumption | trivial) ?_
      rotate_left
      · (intro wS hSw; (try dsimp only at hSw); go_simp; try with_reducible rfl)
      (try simp only [List.append_eq, List.cons_append, List.nil_append, List.getElem_toArray, List.getElem_cons_succ, List.getElem_cons_zero, Act.put, List.setIfInBounds_toArray, List.set_cons_zero, List.set_cons_succ])
      refine wpAnyH_take (i := 62) (v := ?_) rfl (by kernel_rfl) (by kernel_rfl) (by kernel_rfl) (fun _ _ _ h => h) (Or.inl ⟨by kernel_rfl, ?_⟩) (by first | assumption | trivial) ?_
      rotate_left
      · (intro wS hSw; (try dsimp only at hSw); go_simp; try with_reducible rfl)
      (try simp only [List.append_eq, List.cons_append, List.nil_append, List.getElem_toArray, List.getElem_cons_succ, List.getElem_cons_zero, Act.put, List.setIfInBounds_toArray, List.set_cons_zero, List.set_cons_succ])
      refine wpAnyH_take (i := 63) (v := ?_) rfl (by kernel_rfl) (by kernel_rfl) (by kernel_rfl) (fun _ _ _ h => h) (Or.inl ⟨by kernel_rfl, ?_⟩) (by first | assumption | trivial) ?_
      rotate_left
      · (intro wS hSw; (try dsimp only at hSw); go_simp; try with_reducible rfl)
      (try simp only [List.append_eq, List.cons_append, List.nil_append, List.getElem_toArray, List.getElem_cons_succ, List.getElem_cons_zero, Act.put, List.setIfInBounds_toArray, List.set_cons_zero, List.set_cons_succ])
      refine wpAnyH_take (i := 64) (v := ?_) rfl (by kernel_rfl) (by kernel_rfl) (by kernel_rfl) (fun _ _ _ h => h) (Or.inl ⟨by kernel_rfl, ?_⟩) (by first | assumption | trivial) ?_
      rotate_left
      · (intro wS hSw; (try dsimp only at hSw); go_simp; try with_reducible rfl)
      (try simp only [List.append_eq, List.cons_append, List.nil_append, List.getElem_toArray, List.getElem_cons_succ, List.getElem_cons_zero, Act.put, List.setIfInBounds_toArray, List.set_cons_zero, List.set_cons_succ])
      refine wpAnyH_take (i := 65) (v := ?_) rfl (by kernel_rfl) (by kernel_rfl) (by kernel_rfl) (fun _ _ _ h => h) (Or.inl ⟨by kernel_rfl, ?_⟩) (by first | assumption | trivial) ?_
      rotate_left
      · (intro wS hSw; (try dsimp only at hSw); go_simp; try with_reducible rfl)
      (try simp only [List.append_eq, List.cons_append, List.nil_append, List.getElem_toArray, List.getElem_cons_succ, List.getElem_cons_zero, Act.put, List.setIfInBounds_toArray, List.set_cons_zero, List.set_cons_succ])
      refine wpAnyH_take (i := 66) (v := ?_) rfl (by kernel_rfl) (by kernel_rfl) (by kernel_rfl) (fun _ _ _ h => h) (Or.inl ⟨by kernel_rfl, ?_⟩) (by first | assumption | trivial) ?_
      rotate_left
      · (intro wS hSw; (try dsimp only at hSw); go_simp; try with_reducible rfl)
      (try simp only [List.append_eq, List.cons_append, List.nil_append, List.getElem_toArray, List.getElem_cons_succ, List.getElem_cons_zero, Act.put, List.setIfInBounds_toArray, List.set_cons_zero, List.set_cons_succ])
      refine wpAnyH_done (by kernel_rfl) ?_ _
      refine NoPanic.normal ?_
      clear hHeld hS kcA mw1 mw2 mw3 mw4
      have c1' := HC.out.1
      have c2 := HC.out.2
      have kc2 := HKC2.out _ HO2.out.drew
      have kc3 := HKC2.out _ HO2.out
      have HBX := hid (bq HBE.out 1)
      go_wp2_with fail
      go_roundw
      case rel => exact ⟨j + 1, te, al ++ ln, by omega, rfl, rfl, by go_num, HI2, HBX⟩
      case measure => simp [intOf]; omega
    · have d1 := lt_f hlt
      have d1' := lt_nf hlt
      have hjk : j = k2 := by omega
      have HAL : Hid (al = allF lb (fieldsL lb)) := hid (by rw [HI.out.all, List.take_of_length_le (by rw [HK.out]; omega)])
      have hal := HI.out.len
      have hall : al.length ≤ 10000000000 := by
        have h3 : j * 100000 ≤ 100000 * 100000 := Nat.mul_le_mul_right _ (by omega)
        omega
      have HBW := hid (past HB4.out HB1.out)
      have HP1 := hid (fun X (hX : Below w.heap.size w X) => pick_any A k0 c lb none 0 0 [] true X (HO.out.below hX) HKC.out hkc (Row.nil _ _) rfl (by decide) (fun s hs => by cases hs))
      have HP2 := hid (fun X (hX : Below w.heap.size w X) => pick_any A k0 c lb none 0 0 [] false X (HO.out.below hX) HKC.out hkc (Row.nil _ _) rfl (by decide) (fun s hs => by cases hs))
      rw [pick_all, ← HAL.out] at HP1
      rw [pick_none] at HP2
      have hem := endR_empty (cutL lb)
      have hel := endR_len (cutL lb)
      obtain ⟨en, hen⟩ : ∃ en, endR (cutL lb) = en := ⟨_, rfl⟩
      rw [hen] at HP1 HP2 hem hel
      have HEM := hid (fun X => rempty_any en X)
      rw [hem] at HEM
      have hz : str al ++ str en = str (al ++ en) := str_append _ _
      have hno : ¬ 9223372036854775807 < (str al).size + (str en).size := by
        have h1 : (str al).size = al.length := rfl
        have h2 : (str en).size = en.length := rfl
        omega
      have q0 : (str (al ++ en) == str (al ++ en)) = true := str_self _
      clear HI HAL hal hen hem
      subst hjk
      go_wp2_with (first
        | (go_at_call 15; refine (HP1.out _ HBW.out).mono ?_; rintro e w6 ⟨A6, k6, c6, rfl, -, h6, b⟩; have HB6 := hid (past HBW.out b); have kc6 : (convert 22 9 (.slice A6 k6 c6)).run Tryd.prog w6 = .ok (.string (str (al ++ en))) w6 := run_string_oct c6 h6 Tryd.underlying22 Tryd.underlying5 Tryd.underlying9; clear b h6 HP1)
        | (go_at_call 15; refine (HP2.out _ HB6.out).mono ?_; rintro e w7 ⟨A7, k7, c7, rfl, -, h7, b⟩; have HB7 := hid (past HB6.out b); have kc7 : (convert 22 9 (.slice A7 k7 c7)).run Tryd.prog w7 = .ok (.string (str en)) w7 := run_string_oct c7 h7 Tryd.underlying22 Tryd.underlying5 Tryd.underlying9; clear b h7)
        | (go_at_call 19; refine (HEM.out _).mono ?_; rintro e w8 ⟨rfl, rfl⟩)
        | (go_at_call 14; refine (awake_any _).mono ?_; rintro e w9 ⟨rfl, b⟩; have HB9 := hid (past HB7.out b); clear b))
      go_ret
      exact ⟨rfl, HB9.out⟩
end Go.Proofs.YthlofpofcpconaaDoor
