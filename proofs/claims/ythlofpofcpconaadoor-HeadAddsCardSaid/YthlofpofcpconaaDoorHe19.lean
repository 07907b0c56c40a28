/-
  A field's text, asked; the first field of a name. A part of the proof: see the head of the text that ends in 'Law'.
-/
import Derived.Test.YthlofpofcpconaaDoorHe18
import Derived.Test.YthlofpofcpconaaDoorHe2
namespace Go.Proofs.YthlofpofcpconaaDoor
open Go.RowKit Go.Shelf
set_option linter.unusedVariables false
set_option linter.unusedSimpArgs false
attribute [local go_sem] Oper.semAt_some

def textI (l : List UInt8) (g : FI) : List UInt8 := if inF (fieldsL l) g = true then fdText l ⟨g.nm, g.fr.toNat, g.te.toNat, g.at_.toNat⟩ else []
theorem inF_mem {fs : List Fd} {g : FI} (h : inF fs g = true) : ∃ f ∈ fs, g = f.toI := by
  unfold inF at h
  obtain ⟨f, hf, he⟩ := List.any_eq_true.1 h
  exact ⟨f, hf, by simpa using he⟩
theorem mem_inF {fs : List Fd} {f : Fd} (h : f ∈ fs) : inF fs f.toI = true := List.any_eq_true.2 ⟨f, h, by simp⟩
theorem textI_mem {l : List UInt8} {f : Fd} (h : f ∈ fieldsL l) : textI l f.toI = fdText l f := by
  unfold textI
  rw [if_pos (mem_inF h)]
  rfl
theorem field_bounds {l : List UInt8} {f : Fd} (h : f ∈ fieldsL l) : f.at_ ≤ f.te ∧ f.te ≤ l.length ∧ f.fr ≤ l.length ∧ f.nm.length ≤ l.length := by
  have h1 := field_ok h
  have h2 := split_le l
  have := h1.1.h1; have := h1.1.h2; have := h1.1.h4
  omega
theorem fields_len (l : List UInt8) : (fieldsL l).length ≤ l.length := by
  have h : ∀ (ls : List (List UInt8)) (a : Nat) (out : List Fd) (o : Bool), (fdG a ls out o).length ≤ out.length + ls.length := fun ls => by
    have hs : ∀ (o : List Fd) (t : Nat), (setTo o t).length = o.length := fun o t => by
      rcases List.eq_nil_or_concat o with rfl | ⟨i, f, rfl⟩
      · rfl
      · rw [List.concat_eq_append, setTo_snoc, List.length_append, List.length_append]; rfl
    induction ls with
    | nil => intro a out o; exact Nat.le_refl _
    | cons x r ih =>
      intro a out o
      rw [fdG]
      split
      · omega
      · split
        · refine Nat.le_trans (ih _ _ _) ?_
          rw [List.length_cons]
          split
          · rw [hs]; omega
          · omega
        · split
          · refine Nat.le_trans (ih _ _ _) ?_
            rw [List.length_cons]; omega
          · refine Nat.le_trans (ih _ _ _) ?_
            rw [List.length_cons, List.length_append]
            simp only [List.length_cons, List.length_nil]
            omega
  have h1 := h (cutL l) 0 [] false
  have h2 := cutL_len l
  unfold fieldsL
  simp only [List.length_nil] at h1
  omega
set_option maxRecDepth 100000 in
set_option maxHeartbeats 4000000 in
theorem Text_any (A : Option Addr) (n c : Nat) (l : List UInt8) (g : FI) (w : World) (ho : Oct w A n l) (hnc : n ≤ c) (hl : n ≤ 100000) :
    Calls Tryd.prog 20 #[.slice A n c, .agg #[.string (str g.nm), .int .i64 g.fr, .int .i64 g.te, .int .i64 g.at_]] w fun e w' => e = .returned (.string (str (textI l g))) ∧ Below w.heap.size w w' := by
  obtain ⟨wa, hwa⟩ : ∃ wa, w.alloc (.cells #[.string (str g.nm), .int .i64 g.fr, .int .i64 g.te, .int .i64 g.at_] 39) = wa := ⟨_, rfl⟩
  have BA : Below w.heap.size w wa := by rw [← hwa]; exact (Below.refl _ w).alloc (Nat.le_refl _) _
  have X0 : OwnE wa w.heap.size 39 [.string (str g.nm), .int .i64 g.fr, .int .i64 g.te, .int .i64 g.at_] := by rw [← hwa]; exact OwnE.new_ w _ _
  have HO := hid ho
  have HN : Hid (l.length = n) := hid ho.1
  have HNC := hid hnc
  have HBA := hid BA
  have HFL := fields_len l
  have HFN : Hid ((fieldsL l).length ≤ 100000) := hid (by have := HN.out; omega)
  have HFA := hid (fun W (h : Below w.heap.size w W) => fields_any A n c l W (HO.out.below h) HNC.out hl)
  have HCT := hid (fun A2 c2 W (h : Row W A2 ((fieldsL l).flatMap fdC)) => contains_fd A2 (fieldsL l).length c2 (fieldsL l) g W rfl h HFN.out)
  obtain ⟨k, hk⟩ : ∃ k, (fieldsL l).length = k := ⟨_, rfl⟩
  obtain ⟨t, ht⟩ : ∃ t, inF (fieldsL l) g = t := ⟨_, rfl⟩
  rw [hk] at HFA
  rw [ht, hk] at HCT
  have HT := hid ht
  clear ho hnc HFL BA hk
  go_enter Tryd.func20, Tryd.ntmps20
  go_upto_region 1 with fail
  clear hwa
  have hS : (wa.drew.cell? ⟨w.heap.size, 0, none⟩ = some (.string (str g.nm)) ∧ wa.drew.cell? ⟨w.heap.size, 1, none⟩ = some (.int .i64 g.fr) ∧ wa.drew.cell? ⟨w.heap.size, 2, none⟩ = some (.int .i64 g.te) ∧ wa.drew.cell? ⟨w.heap.size, 3, none⟩ = some (.int .i64 g.at_)) ∧ Hid (Below wa.heap.size wa wa.drew) := ⟨⟨X0.cell (j := 0) rfl, X0.cell (j := 1) rfl, X0.cell (j := 2) rfl, X0.cell (j := 3) rfl⟩, hid (bq (Below.refl _ wa) 1)⟩
  have HX0 := hid X0
  clear X0
  refine wp_region_noPanic ?_
  refine wp_region_held_drew (S := (fun W => (W.cell? ⟨w.heap.size, 0, none⟩ = some (.string (str g.nm)) ∧ W.cell? ⟨w.heap.size, 1, none⟩ = some (.int .i64 g.fr) ∧ W.cell? ⟨w.heap.size, 2, none⟩ = some (.int .i64 g.te) ∧ W.cell? ⟨w.heap.size, 3, none⟩ = some (.int .i64 g.at_)) ∧ Hid (Below wa.heap.size wa W))) (by kernel_rfl) (by first | assumption | trivial) (fun hHeld => ?_)
  refine wpAnyH_take (i := 0) (v := ?_) rfl (by kernel_rfl) (by kernel_rfl) (by kernel_rfl) (fun _ _ _ h => h) (Or.inl ⟨by kernel_rfl, ?_⟩) (by first | assumption | trivial) ?_
  rotate_left
  · (intro wS hSw; (try dsimp only at hSw); go_simp; try with_reducible rfl)
  (try simp only [List.append_eq, List.cons_append, List.nil_append, List.getElem_toArray, List.getElem_cons_succ, List.getElem_cons_zero, Act.put, List.setIfInBounds_toArray, List.set_cons_zero, List.set_cons_succ])
  refine wpAnyH_take (i := 2) (v := ?_) rfl (by kernel_rfl) (by kernel_rfl) (by kernel_rfl) (fun _ _ _ h => h) (Or.inl ⟨by kernel_rfl, ?_⟩) (by first | assumption | trivial) ?_
  rotate_left
  · (intro wS hSw; (try dsimp only at hSw); go_simp; try with_reducible rfl)
  (try simp only [List.append_eq, List.cons_append, List.nil_append, List.getElem_toArray, List.getElem_cons_succ, List.getElem_cons_zero, Act.put, List.setIfInBounds_toArray, List.set_cons_zero, List.set_cons_succ])
  refine wpAnyH_ready (rs := [1]) (by kernel_rfl) (by simp) ?_
  refine AllReadyH.cons rfl (fun K hK => ?_) AllReadyH.nil
  go_simp
  (go_at_call 17; refine (HFA.out _ (past HBA.out hHeld.2.out)).mono ?_; rintro e w5 ⟨v, rfl, ho5, b5⟩; have hS5 : (w5.cell? ⟨w.heap.size, 0, none⟩ = some (.string (str g.nm)) ∧ w5.cell? ⟨w.heap.size, 1, none⟩ = some (.int .i64 g.fr) ∧ w5.cell? ⟨w.heap.size, 2, none⟩ = some (.int .i64 g.te) ∧ w5.cell? ⟨w.heap.size, 3, none⟩ = some (.int .i64 g.at_)) ∧ Hid (Below wa.heap.size wa w5) := ⟨⟨cells_keep b5 hHeld.1.1, cells_keep b5 hHeld.1.2.1, cells_keep b5 hHeld.1.2.2.1, cells_keep b5 hHeld.1.2.2.2⟩, hid (past hHeld.2.out b5)⟩; obtain ⟨A5, c5, rfl, -⟩ := own_slice ho5; have HR5 := hid (Row.of_own ho5); clear b5 hHeld ho5)
  go_wp2_with fail
  refine hK.out _ _ (by first | assumption | trivial) (fun hHeld => ?_)
  clear hK K
  (try simp only [List.append_eq, List.cons_append, List.nil_append, List.getElem_toArray, List.getElem_cons_succ, List.getElem_cons_zero, Act.put, List.setIfInBounds_toArray, List.set_cons_zero, List.set_cons_succ])
  refine wpAnyH_ready (rs := [3]) (by kernel_rfl) (by simp) ?_
  refine AllReadyH.cons rfl (fun K hK => ?_) AllReadyH.nil
  go_simp
  (go_at_call 37; refine (HCT.out A5 c5 _ HR5.out).mono ?_; rintro e w6 ⟨rfl, b6⟩; have hS6 : (w6.cell? ⟨w.heap.size, 0, none⟩ = some (.string (str g.nm)) ∧ w6.cell? ⟨w.heap.size, 1, none⟩ = some (.int .i64 g.fr) ∧ w6.cell? ⟨w.heap.size, 2, none⟩ = some (.int .i64 g.te) ∧ w6.cell? ⟨w.heap.size, 3, none⟩ = some (.int .i64 g.at_)) ∧ Hid (Below wa.heap.size wa w6) := ⟨⟨cells_keep b6 hHeld.1.1, cells_keep b6 hHeld.1.2.1, cells_keep b6 hHeld.1.2.2.1, cells_keep b6 hHeld.1.2.2.2⟩, hid (past hHeld.2.out b6)⟩; clear b6 hHeld)
  go_wp2_with fail
  refine hK.out _ _ (by first | assumption | trivial) (fun hHeld => ?_)
  clear hK K
  (try simp only [List.append_eq, List.cons_append, List.nil_append, List.getElem_toArray, List.getElem_cons_succ, List.getElem_cons_zero, Act.put, List.setIfInBounds_toArray, List.set_cons_zero, List.set_cons_succ])
  refine wpAnyH_take (i := 4) (v := ?_) rfl (by kernel_rfl) (by kernel_rfl) (by kernel_rfl) (fun _ _ _ h => h) (Or.inl ⟨by kernel_rfl, ?_⟩) (by first | assumption | trivial) ?_
  rotate_left
  · (intro wS hSw; (try dsimp only at hSw); go_simp; try with_reducible rfl)
  (try simp only [List.append_eq, List.cons_append, List.nil_append, List.getElem_toArray, List.getElem_cons_succ, List.getElem_cons_zero, Act.put, List.setIfInBounds_toArray, List.set_cons_zero, List.set_cons_succ])
  refine wpAnyH_done (by kernel_rfl) ?_ _
  refine NoPanic.normal ?_
  have B6 := hid (past HBA.out hHeld.2.out)
  cases t with
  | false =>
    have HF : Hid (textI l g = []) := hid (by unfold textI; rw [HT.out, if_neg (by decide)])
    clear ht
    go_wp2_with fail
    go_ret
    exact ⟨by rw [HF.out]; rfl, B6.out⟩
  | true =>
    obtain ⟨f, hf, hfg⟩ := inF_mem HT.out
    subst hfg
    have HF : Hid (textI l f.toI = fdText l f) := hid (textI_mem hf)
    obtain ⟨hb1, hb2, hb3, -⟩ := field_bounds hf
    have HTX := hid (text_any A n c l f w6 (HO.out.below B6.out) HNC.out hl hb1 (by rw [← HN.out]; exact hb2) (by rw [← HN.out]; exact hb3))
    have k0 : w6.cell? ⟨w.heap.size, 0, none⟩ = some (.string (str f.nm)) := hHeld.1.1
    have k1 : w6.cell? ⟨w.heap.size, 1, none⟩ = some (.int .i64 (f.fr : Int)) := hHeld.1.2.1
    have k2 : w6.cell? ⟨w.heap.size, 2, none⟩ = some (.int .i64 (f.te : Int)) := hHeld.1.2.2.1
    have k3 : w6.cell? ⟨w.heap.size, 3, none⟩ = some (.int .i64 (f.at_ : Int)) := hHeld.1.2.2.2
    clear ht hf hb1 hb2 hb3 hHeld hS5 hS6
    go_wp2_with (go_at_call 25; refine HTX.out.mono ?_; rintro e w7 ⟨rfl, b7⟩; have B7 := hid (past B6.out b7); clear b7)
    go_ret
    exact ⟨by rw [HF.out]; rfl, B7.out⟩
/-- The text of the first field of a name. -/
def findF (l : List UInt8) (name : List UInt8) (fs : List Fd) : Option (List UInt8) := (fs.find? fun f => alikeL f.nm name).map (fdText l)
theorem findF_step (l name : List UInt8) (fs : List Fd) (k : Nat) (hk : k < fs.length) : findF l name (fs.drop k) = if alikeL fs[k].nm name = true then some (fdText l fs[k]) else findF l name (fs.drop (k + 1)) := by
  unfold findF
  rw [List.drop_eq_getElem_cons hk, List.find?_cons]
  cases h : alikeL fs[k].nm name <;> rfl
def fdO : Option (List UInt8) → Value
  | none => .tuple #[.string ⟨#[]⟩, .bool false]
  | some t => .tuple #[.string (str t), .bool true]
set_option maxRecDepth 100000 in
set_option maxHeartbeats 4000000 in
theorem find_any (A : Option Addr) (n c : Nat) (l name : List UInt8) (w : World) (ho : Oct w A n l) (hnc : n ≤ c) (hl : n ≤ 100000) :
    Calls Tryd.prog 10 #[.slice A n c, .string (str name)] w fun e w' => e = .returned (fdO (findF l name (fieldsL l))) ∧ Below w.heap.size w w' := by
  have HO := hid ho
  have HN : Hid (l.length = n) := hid ho.1
  have HNC := hid hnc
  have hkl := fields_len l
  have HFA := hid (fields_any A n c l w HO.out HNC.out hl)
  obtain ⟨k, hk⟩ : ∃ k, (fieldsL l).length = k := ⟨_, rfl⟩
  rw [hk] at HFA hkl
  have hkn : k ≤ 100000 := by have := HN.out; omega
  have HK := hid hk
  clear ho hnc hkl hk
  go_enter Tryd.func10, Tryd.ntmps10
  go_wp2_with (go_at_call 17; refine HFA.out.mono ?_; rintro e w5 ⟨v, rfl, ho5, b5⟩; have B5 := hid b5; obtain ⟨A5, c5, rfl, -⟩ := own_slice ho5; have HR5 := hid (Row.of_own ho5); clear b5 ho5)
  clear HFA
  go_loopw [11] (fun i wr => ∃ j : Nat, j ≤ k ∧ i = .int .i64 (j : Int) ∧ Hid (findF l name ((fieldsL l).drop j) = findF l name (fieldsL l) ∧ Below w5.heap.size w5 wr)) (fun i wr => k - (intOf i).toNat)
  case atStart => exact ⟨0, by omega, rfl, hid ⟨by rw [List.drop_zero], Below.refl _ _⟩⟩
  case round =>
    obtain ⟨j, hj, rfl, HI⟩ := hrel
    by_cases hlt : j < k
    · have d1 : decide ((j : Int) < (k : Int)) = true := by simp; omega
      have d1' : decide (j < k) = true := by simpa using hlt
      have hkl : j < (fieldsL l).length := by rw [HK.out]; exact hlt
      obtain ⟨b, off, rfl, hc⟩ := fd_at HR5.out hkl
      have hst := findF_step l name (fieldsL l) j hkl
      rw [HI.out.1] at hst
      have hmem : (fieldsL l)[j]'hkl ∈ fieldsL l := List.getElem_mem hkl
      obtain ⟨f, hf⟩ : ∃ f, (fieldsL l)[j]'hkl = f := ⟨_, rfl⟩
      rw [hf] at hst hmem
      have HB1 := hid HI.out.2
      have p0 := cells_keep HB1.out (hc j hkl).1
      have p1 := cells_keep HB1.out (hc j hkl).2.1
      have p2 := cells_keep HB1.out (hc j hkl).2.2.1
      have p3 := cells_keep HB1.out (hc j hkl).2.2.2
      rw [hf] at p0 p1 p2 p3
      have i0 : (0 : Int) ≤ (j : Int) := by omega
      have i1 : (j : Int) < (k : Int) := by omega
      have i2 : (j : Int).toNat = j := by omega
      have hb := field_bounds hmem
      have hln := HN.out
      have HAL := hid (fun X => halike_any f.nm name X (by omega))
      have HTX := hid (fun X hX => text_any A n c l f X (HO.out.below hX) HNC.out hl hb.1 (by omega) (by omega))
      obtain ⟨t, ht⟩ : ∃ t, alikeL f.nm name = t := ⟨_, rfl⟩
      rw [ht] at HAL hst
      have HST := hid hst
      clear hc hkl hf ht hst hb hmem hln
      go_upto_region 4 with fail
      obtain ⟨W, hW⟩ : ∃ W, wr.alloc (.cells #[.string (str f.nm), .int .i64 (f.fr : Int), .int .i64 (f.te : Int), .int .i64 (f.at_ : Int)] 39) = W := ⟨_, rfl⟩
      have hE : OwnE W wr.heap.size 39 [.string (str f.nm), .int .i64 (f.fr : Int), .int .i64 (f.te : Int), .int .i64 (f.at_ : Int)] := by rw [← hW]; exact OwnE.new_ wr _ _
      have hbW : Below w5.heap.size w5 W := by rw [← hW]; exact HB1.out.alloc HB1.out.size _
      have c0 := hE.cell (j := 0) rfl
      have c1 := hE.cell (j := 1) rfl
      have c2 := hE.cell (j := 2) rfl
      have c3 := hE.cell (j := 3) rfl
      have HBW := hid hbW
      rw [hW]
      clear hW hE hbW p0 p1 p2 p3 HB1
      cases t with
      | true =>
        have HF : Hid (findF l name (fieldsL l) = some (fdText l f)) := hid (by rw [HST.out, if_pos rfl])
        clear HST HI
        go_wp2_with (first
          | (go_at_call 12; refine (HAL.out _).mono ?_; rintro e w7 ⟨rfl, b7⟩; have k0 := cells_keep b7 c0; have k1 := cells_keep b7 c1; have k2 := cells_keep b7 c2; have k3 := cells_keep b7 c3; have HB7 := hid (past B5.out (past HBW.out b7)); clear b7)
          | (go_at_call 25; refine (HTX.out _ HB7.out).mono ?_; rintro e w8 ⟨rfl, b8⟩; have HB8 := hid (past HB7.out b8); clear b8))
        go_ret2
        exact ⟨by rw [HF.out]; rfl, HB8.out⟩
      | false =>
        have HF : Hid (findF l name ((fieldsL l).drop (j + 1)) = findF l name (fieldsL l)) := hid (by rw [HST.out, if_neg (by decide)])
        clear HST HI
        go_wp2_with (go_at_call 12; refine (HAL.out _).mono ?_; rintro e w7 ⟨rfl, b7⟩; have HB7 := hid (past HBW.out b7); clear b7)
        go_roundw
        case rel => exact ⟨j + 1, by omega, by go_num, hid ⟨HF.out, HB7.out⟩⟩
        case measure => simp [intOf]; omega
    · have d1 : decide ((j : Int) < (k : Int)) = false := by simp; omega
      have d1' : decide (j < k) = false := by simpa using hlt
      have HF : Hid (findF l name (fieldsL l) = none) := hid (by rw [← HI.out.1, List.drop_of_length_le (by rw [HK.out]; omega)]; rfl)
      have HB1 := hid (past B5.out HI.out.2)
      clear HI
      go_wp2_with fail
      go_ret2
      exact ⟨by rw [HF.out]; rfl, HB1.out⟩
end Go.Proofs.YthlofpofcpconaaDoor
