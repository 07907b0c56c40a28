/-
  Texts within others, days, and fields. A part of the proof: see the head of the text that ends in 'Law'.
-/
import Derived.Test.YtonjadmldgloaaaGreatDoorSe5
namespace Go.Proofs.YtonjadmldgloaaaGreatDoor
open Go.RowKit Go.Shelf
set_option linter.unusedVariables false
set_option linter.unusedSimpArgs false
attribute [local go_sem] Oper.semAt_some

theorem has_any (s t : List UInt8) (w : World) (hT : Tabs w) (hs : s.length ≤ 100000) (ht : t.length ≤ 100000) :
    Calls Tryz.prog 42 #[.string (str s), .string (str t)] w fun e w' => e = .returned (.bool (hasL s t)) ∧ Below w.heap.size w w' := by
  unfold hasL
  have HS := hid (ssmall_any s w hs)
  have HS2 := hid (fun X => ssmall_any t X ht)
  have h1 : (s.map D16.smallU).length = s.length := List.length_map ..
  have HC := hid (fun (X : World) (b : Below w.heap.size w X) => (by
    obtain ⟨n, hn⟩ := (hT.below b).m
    refine (Tryz.strings_Contains (str (smallL s)) (str (smallL t)) n X (by rw [str_size]; show (s.map D16.smallU).length < _; omega) hn).mono fun e w' ⟨h1, h2⟩ => ⟨?_, h2.symm⟩
    rw [h1, str_toList, str_toList] : Calls Tryz.prog 73 #[.string (str (smallL s)), .string (str (smallL t))] X fun e w' => e = .returned (.bool (Lib.contains (smallL s) (smallL t))) ∧ X = w'))
  obtain ⟨q, hq⟩ : ∃ q, Lib.contains (smallL s) (smallL t) = q := ⟨_, rfl⟩
  rw [hq] at HC ⊢
  obtain ⟨s2, hs2⟩ : ∃ s2, smallL s = s2 := ⟨_, rfl⟩
  obtain ⟨t2, ht2⟩ : ∃ t2, smallL t = t2 := ⟨_, rfl⟩
  rw [show s.map D16.smallU = s2 from hs2] at HS
  rw [show t.map D16.smallU = t2 from ht2] at HS2
  rw [hs2, ht2] at HC
  clear hq hs2 ht2 h1
  go_enter Tryz.func42, Tryz.ntmps42
  go_wp2_with first
    | (go_at_call 74; (with_reducible refine HS.out.mono ?_); rintro e w1 ⟨rfl, b1⟩; have B1 := hid b1; clear b1 HS)
    | (go_at_call 74; (with_reducible refine (HS2.out _).mono ?_); rintro e w2 ⟨rfl, b2⟩; have B2 := hid (past B1.out b2); clear b2)
    | (go_at_call 73; (with_reducible refine (HC.out _ B2.out).mono ?_); rintro e w3 ⟨rfl, rfl⟩)
  go_ret
  exact ⟨rfl, B2.out⟩
set_option maxHeartbeats 1000000 in
theorem day_any (which n other : Int) (w : World) :
    Calls Tryz.prog 38 #[.int .i64 which, .int .i64 n, .int .i64 other] w fun e w' => e = .returned (.bool (dayF which n other)) ∧ w = w' := by
  unfold dayF
  by_cases h0 : which = 0
  · rw [if_pos h0]
    have e0 : (which == 0) = true := by simpa using h0
    clear h0
    go_enter Tryz.func38, Tryz.ntmps38
    go_wp2_with fail
    go_ret
    exact ⟨rfl, rfl⟩
  · rw [if_neg h0]
    have e0 : (which == 0) = false := by simpa using h0
    by_cases h1 : which = 1
    · rw [if_pos h1]
      have e1 : (which == 1) = true := by simpa using h1
      obtain ⟨q, hq⟩ : ∃ q, decide (n = other) = q := ⟨_, rfl⟩
      have hq2 : (n == other) = q := by rw [← hq]; rfl
      rw [hq]
      clear h0 h1
      go_enter Tryz.func38, Tryz.ntmps38
      go_wp2_with fail
      go_ret
      exact ⟨rfl, rfl⟩
    · rw [if_neg h1]
      have e1 : (which == 1) = false := by simpa using h1
      clear h0 h1
      go_enter Tryz.func38, Tryz.ntmps38
      go_wp2_with fail
      go_ret
      exact ⟨rfl, rfl⟩
set_option maxHeartbeats 2000000 in
theorem rday_any (which n other : Int) (hw : 0 ≤ which ∧ which ≤ 2) (w : World) :
    Calls Tryz.prog 27 #[.int .i64 which, .int .i64 n, .int .i64 other] w fun e w' => e = .returned (.bool (dayF which n other)) ∧ w = w' := by
  have hc : which = 0 ∨ which = 1 ∨ which = 2 := by omega
  obtain ⟨q1, hq1⟩ : ∃ q, decide (n < other) = q := ⟨_, rfl⟩
  obtain ⟨q2, hq2⟩ : ∃ q, decide (n = other) = q := ⟨_, rfl⟩
  obtain ⟨q3, hq3⟩ : ∃ q, decide (other ≤ n) = q := ⟨_, rfl⟩
  have hq4 : (n == other) = q2 := by rw [← hq2]; rfl
  clear hw
  rcases hc with rfl | rfl | rfl
  · rw [show dayF 0 n other = q1 from hq1]
    clear hq2 hq3 hq4
    go_enter Tryz.func27, Tryz.ntmps27
    go_wp2_with fail
    all_goals (go_ret; exact ⟨by simp [*], rfl⟩)
  · rw [show dayF 1 n other = q2 from hq2]
    clear hq1 hq3
    go_enter Tryz.func27, Tryz.ntmps27
    go_wp2_with fail
    all_goals (go_ret; exact ⟨by simp [*], rfl⟩)
  · rw [show dayF 2 n other = q3 from hq3]
    clear hq1 hq2 hq4
    go_enter Tryz.func27, Tryz.ntmps27
    go_wp2_with fail
    all_goals (go_ret; exact ⟨by simp [*], rfl⟩)
theorem drop_le {α : Type} (p : α → Bool) (l : List α) : (l.dropWhile p).length ≤ l.length := (List.dropWhile_sublist p).length_le
theorem trimB_le (l : List UInt8) : (D17.trimB l).length ≤ l.length := by
  unfold D17.trimB Lib.trimS Lib.trimLeftS Lib.trimRightS
  refine Nat.le_trans (drop_le _ _) ?_
  rw [List.length_reverse]
  exact Nat.le_trans (drop_le _ _) (by rw [List.length_reverse]; exact Nat.le_refl _)
theorem fdText_le (l : List UInt8) (f : D17.Fd) : (D17.fdText l f).length ≤ l.length := by
  unfold D17.fdText D17.textL
  refine Nat.le_trans (trimB_le _) ?_
  have h := D17.joinK_len (D17.cutL ((l.drop f.at_).take (f.te - f.at_))) (D17.cutL ((l.drop f.at_).take (f.te - f.at_))).length
  unfold D17.joinK at h
  rw [List.take_length, D17.cutL_flat] at h
  refine Nat.le_trans h ?_
  rw [List.length_take, List.length_drop]
  omega
theorem findF_le {l name t : List UInt8} (h : D17.findF l name (D17.fieldsL l) = some t) : t.length ≤ l.length := by
  unfold D17.findF at h
  obtain ⟨f, -, rfl⟩ := Option.map_eq_some_iff.1 h
  exact fdText_le l f
set_option maxHeartbeats 2000000 in
theorem sent_any (A : Option Addr) (n c : Nat) (b : List UInt8) (w : World) (hT : Tabs w) (ho : Oct w A n b) (hnc : n ≤ c) (hl : n ≤ 600) :
    Calls Tryz.prog 40 #[.slice A n c] w fun e w' => (∃ (d : Int) (ok : Bool), e = .returned (.tuple #[.int .i64 d, .bool ok]) ∧ sentF b = (if ok = true then some d else none)) ∧ Below w.heap.size w w' := by
  have HF := hid (D17.find_any A n c b dateL w ho hnc (by omega))
  have hbl : b.length ≤ 600 := by rw [ho.len]; exact hl
  have hsf : sentF b = (match D17.findF b dateL (D17.fieldsL b) with | none => none | some t => if (D16.mailF t).2 = 0 then some (D16.mailF t).1 else none) := rfl
  cases hf : D17.findF b dateL (D17.fieldsL b) with
  | none =>
    rw [hf] at HF hsf
    unfold D17.fdO at HF
    have HM := hid (fun (X : World) (k : Below w.heap.size w X) => D16.mail_any [] (by simp) X (hT.below k).u)
    obtain ⟨d, hd⟩ : ∃ d, (D16.mailF []).1 = d := ⟨_, rfl⟩
    obtain ⟨m, hm⟩ : ∃ m, (D16.mailF []).2 = m := ⟨_, rfl⟩
    rw [hd, hm] at HM
    have HSF := hid hsf
    clear hd hm hsf hf ho hT
    go_enter Tryz.func40, Tryz.ntmps40
    go_wp2_with first
      | (go_at_call 66; refine HF.out.mono ?_; rintro e w1 ⟨rfl, b1⟩; have B1 := hid b1; clear b1)
      | (go_at_call 67; refine (HM.out _ B1.out).mono ?_; rintro e w2 ⟨rfl, b2⟩; have B2 := hid (past B1.out b2); clear b2)
    go_ret2
    exact ⟨⟨d, false, rfl, by rw [HSF.out]; rfl⟩, B2.out⟩
  | some t =>
    rw [hf] at HF hsf
    unfold D17.fdO at HF
    have htl := findF_le hf
    have HM := hid (fun (X : World) (k : Below w.heap.size w X) => D16.mail_any t (by omega) X (hT.below k).u)
    obtain ⟨d, hd⟩ : ∃ d, (D16.mailF t).1 = d := ⟨_, rfl⟩
    obtain ⟨m, hm⟩ : ∃ m, (D16.mailF t).2 = m := ⟨_, rfl⟩
    rw [hd, hm] at HM
    dsimp only at hsf
    rw [hd, hm] at hsf
    have HSF := hid hsf
    clear hd hm hsf hf ho hT htl
    by_cases h0 : m = 0
    · have e0 : ((m : Int) == 0) = true := by rw [h0]; rfl
      have e1 : (m == 0) = true := by rw [h0]; rfl
      have H0 := hid h0
      clear h0
      go_enter Tryz.func40, Tryz.ntmps40
      go_wp2_with first
        | (go_at_call 66; refine HF.out.mono ?_; rintro e w1 ⟨rfl, b1⟩; have B1 := hid b1; clear b1)
        | (go_at_call 67; refine (HM.out _ B1.out).mono ?_; rintro e w2 ⟨rfl, b2⟩; have B2 := hid (past B1.out b2); clear b2)
      go_ret2
      exact ⟨⟨d, true, rfl, by rw [HSF.out, if_pos H0.out]; rfl⟩, B2.out⟩
    · have e0 : ((m : Int) == 0) = false := by simp; omega
      have e1 : (m == 0) = false := by simp; omega
      have H0 := hid h0
      go_enter Tryz.func40, Tryz.ntmps40
      go_wp2_with first
        | (go_at_call 66; refine HF.out.mono ?_; rintro e w1 ⟨rfl, b1⟩; have B1 := hid b1; clear b1)
        | (go_at_call 67; refine (HM.out _ B1.out).mono ?_; rintro e w2 ⟨rfl, b2⟩; have B2 := hid (past B1.out b2); clear b2)
      go_ret2
      exact ⟨⟨d, false, rfl, by rw [HSF.out, if_neg H0.out]; rfl⟩, B2.out⟩
abbrev fdB (b name text : List UInt8) (f : D17.Fd) : Bool := D16.alikeL f.nm name && hasL (D17.fdText b f) text
/-- What a field's asking leans on. -/
structure FdS (w : World) (A : Option Addr) (n c : Nat) (b name text : List UInt8) (g1 g2 g3 : Nat) : Prop where
  o : Oct w A n b
  c1 : w.cell? ⟨g1, 0, none⟩ = some (.string (str name))
  c2 : w.cell? ⟨g2, 0, none⟩ = some (.slice A n c)
  c3 : w.cell? ⟨g3, 0, none⟩ = some (.string (str text))
  t : Tabs w
theorem FdS.below {w w' : World} {A : Option Addr} {n c : Nat} {b name text : List UInt8} {g1 g2 g3 : Nat} (h : FdS w A n c b name text g1 g2 g3) (k : Below w.heap.size w w') : FdS w' A n c b name text g1 g2 g3 :=
  ⟨h.o.below k, cells_keep k h.c1, cells_keep k h.c2, cells_keep k h.c3, h.t.below k⟩
set_option maxHeartbeats 4000000 in
theorem field1_any (A : Option Addr) (n c : Nat) (b name text : List UInt8) (f : D17.Fd) (g1 g2 g3 : Nat) (w : World) (hf : f ∈ D17.fieldsL b) (hS : FdS w A n c b name text g1 g2 g3) (hnc : n ≤ c) (hl : n ≤ 600) (hnl : name.length ≤ 1000) (htl : text.length ≤ 1000) :
    Calls Tryz.prog 70 #[.agg #[.string (str f.nm), .int .i64 (f.fr : Int), .int .i64 (f.te : Int), .int .i64 (f.at_ : Int)], .pointer (some ⟨g1, 0, none⟩), .pointer (some ⟨g2, 0, none⟩), .pointer (some ⟨g3, 0, none⟩)] w fun e w' => e = .returned (.bool (fdB b name text f)) ∧ Below w.heap.size w w' := by
  have hbl : b.length ≤ 600 := by rw [hS.o.len]; exact hl
  have hbd := D17.field_bounds hf
  have HAL := hid (fun X => D17.halike_any f.nm name X (by omega))
  obtain ⟨tx, htx⟩ : ∃ tx, D17.fdText b f = tx := ⟨_, rfl⟩
  have htx2 : tx.length ≤ 600 := by rw [← htx]; exact Nat.le_trans (fdText_le b f) hbl
  have HTX := hid (fun (X : World) (k : FdS X A n c b name text g1 g2 g3) => (by have := D17.Text_any A n c b f.toI X k.o hnc (by omega); rw [D17.textI_mem hf, htx] at this; exact this : Calls Tryz.prog 72 #[.slice A n c, .agg #[.string (str f.nm), .int .i64 (f.fr : Int), .int .i64 (f.te : Int), .int .i64 (f.at_ : Int)]] X fun e w' => e = .returned (.string (str tx)) ∧ Below X.heap.size X w'))
  have HHS := hid (fun (X : World) (k : FdS X A n c b name text g1 g2 g3) => has_any tx text X k.t (by omega) (by omega))
  obtain ⟨q1, hq1⟩ : ∃ q, D16.alikeL f.nm name = q := ⟨_, rfl⟩
  obtain ⟨q2, hq2⟩ : ∃ q, hasL tx text = q := ⟨_, rfl⟩
  have hr : fdB b name text f = (q1 && q2) := by show (D16.alikeL f.nm name && hasL (D17.fdText b f) text) = _; rw [htx, hq1, hq2]
  rw [show D17.alikeL f.nm name = D16.alikeL f.nm name from rfl, hq1] at HAL
  rw [hq2] at HHS
  rw [hr]
  obtain ⟨nm, fr, te, at_⟩ := f
  dsimp only at HAL HTX ⊢
  have O0 := OwnE.new_ w [.string (str nm), .int .i64 (fr : Int), .int .i64 (te : Int), .int .i64 (at_ : Int)] 67
  have b0 : Below w.heap.size w (w.alloc (.cells #[.string (str nm), .int .i64 (fr : Int), .int .i64 (te : Int), .int .i64 (at_ : Int)] 67)).drew := past ((Below.refl _ _).alloc (Nat.le_refl _) _) (drew_below _)
  have O := hid (O0.drew_)
  have B := hid b0
  have FZ := hid (hS.below b0)
  clear O0 b0 hS hbd htx htx2 hq1 hq2 hr hf
  go_enter Tryz.func70, Tryz.ntmps70
  go_upto_region 1 with fail
  have hS := And.intro (O.out.cell (j := 0) rfl) (And.intro (O.out.cell (j := 1) rfl) (And.intro (O.out.cell (j := 2) rfl) (And.intro (O.out.cell (j := 3) rfl) (And.intro FZ.out.c1 (And.intro FZ.out.c2 FZ.out.c3)))))
  cases q1 with
  | true =>
    refine wp_region_noPanic ?_
    refine wp_region_held_drew (S := (fun X => X.cell? ⟨w.heap.size, 0, none⟩ = some (.string (str nm)) ∧ X.cell? ⟨w.heap.size, 1, none⟩ = some (.int .i64 (fr : Int)) ∧ X.cell? ⟨w.heap.size, 2, none⟩ = some (.int .i64 (te : Int)) ∧ X.cell? ⟨w.heap.size, 3, none⟩ = some (.int .i64 (at_ : Int)) ∧ X.cell? ⟨g1, 0, none⟩ = some (.string (str name)) ∧ X.cell? ⟨g2, 0, none⟩ = some (.slice A n c) ∧ X.cell? ⟨g3, 0, none⟩ = some (.string (str text)))) (by kernel_rfl) (by first | assumption | trivial) (fun hHeld => ?_)
    refine wpAnyH_take (i := 0) (v := ?_) rfl (by kernel_rfl) (by kernel_rfl) (by kernel_rfl) (fun _ _ _ h => h) (Or.inl ⟨by kernel_rfl, ?_⟩) (by first | assumption | trivial) ?_
    rotate_left
    · (intro wS hSw; (try dsimp only at hSw); go_simp; try with_reducible rfl)
    (try simp only [List.append_eq, List.cons_append, List.nil_append, List.getElem_toArray, List.getElem_cons_succ, List.getElem_cons_zero, Act.put, List.setIfInBounds_toArray, List.set_cons_zero, List.set_cons_succ])
    refine wpAnyH_take (i := 1) (v := ?_) rfl (by kernel_rfl) (by kernel_rfl) (by kernel_rfl) (fun _ _ _ h => h) (Or.inl ⟨by kernel_rfl, ?_⟩) (by first | assumption | trivial) ?_
    rotate_left
    · (intro wS hSw; (try dsimp only at hSw); go_simp; try with_reducible rfl)
    (try simp only [List.append_eq, List.cons_append, List.nil_append, List.getElem_toArray, List.getElem_cons_succ, List.getElem_cons_zero, Act.put, List.setIfInBounds_toArray, List.set_cons_zero, List.set_cons_succ])
    refine wpAnyH_take (i := 2) (v := ?_) rfl (by kernel_rfl) (by kernel_rfl) (by kernel_rfl) (fun _ _ _ h => h) (Or.inl ⟨by kernel_rfl, ?_⟩) (by first | assumption | trivial) ?_
    rotate_left
    · (intro wS hSw; (try dsimp only at hSw); go_simp; try with_reducible rfl)
    (try simp only [List.append_eq, List.cons_append, List.nil_append, List.getElem_toArray, List.getElem_cons_succ, List.getElem_cons_zero, Act.put, List.setIfInBounds_toArray, List.set_cons_zero, List.set_cons_succ])
    refine wpAnyH_ready (rs := [3]) (by kernel_rfl) (by simp) ?_
    refine AllReadyH.cons rfl (fun K hK => ?_) AllReadyH.nil
    go_simp
    (go_at_call 71; (with_reducible refine (HAL.out _).mono ?_); rintro e w4 ⟨rfl, b4⟩; have O := hid (O.out.below b4); have FZ := hid (FZ.out.below b4); have B := hid (past B.out b4); have hS := And.intro (O.out.cell (j := 0) rfl) (And.intro (O.out.cell (j := 1) rfl) (And.intro (O.out.cell (j := 2) rfl) (And.intro (O.out.cell (j := 3) rfl) (And.intro FZ.out.c1 (And.intro FZ.out.c2 FZ.out.c3))))); clear b4 hHeld)
    go_wp2_with fail
    refine hK.out _ _ (by first | assumption | trivial) (fun hHeld => ?_)
    clear hK K
    (try simp only [List.append_eq, List.cons_append, List.nil_append, List.getElem_toArray, List.getElem_cons_succ, List.getElem_cons_zero, Act.put, List.setIfInBounds_toArray, List.set_cons_zero, List.set_cons_succ])
    refine wpAnyH_take (i := 4) (v := ?_) rfl (by kernel_rfl) (by kernel_rfl) (by kernel_rfl) (fun _ _ _ h => h) (Or.inl ⟨by kernel_rfl, ?_⟩) (by first | assumption | trivial) ?_
    rotate_left
    · (intro wS hSw; (try dsimp only at hSw); go_simp; try with_reducible rfl)
    (try simp only [List.append_eq, List.cons_append, List.nil_append, List.getElem_toArray, List.getElem_cons_succ, List.getElem_cons_zero, Act.put, List.setIfInBounds_toArray, List.set_cons_zero, List.set_cons_succ])
    refine wpAnyH_take (i := 5) (v := ?_) rfl (by kernel_rfl) (by kernel_rfl) (by kernel_rfl) (fun _ _ _ h => h) (Or.inl ⟨by kernel_rfl, ?_⟩) (by first | assumption | trivial) ?_
    rotate_left
    · (intro wS hSw; (try dsimp only at hSw); go_simp; try with_reducible rfl)
    (try simp only [List.append_eq, List.cons_append, List.nil_append, List.getElem_toArray, List.getElem_cons_succ, List.getElem_cons_zero, Act.put, List.setIfInBounds_toArray, List.set_cons_zero, List.set_cons_succ])
    refine wpAnyH_take (i := 6) (v := ?_) rfl (by kernel_rfl) (by kernel_rfl) (by kernel_rfl) (fun _ _ _ h => h) (Or.inl ⟨by kernel_rfl, ?_⟩) (by first | assumption | trivial) ?_
    rotate_left
    · (intro wS hSw; (try dsimp only at hSw); go_simp; try with_reducible rfl)
    (try simp only [List.append_eq, List.cons_append, List.nil_append, List.getElem_toArray, List.getElem_cons_succ, List.getElem_cons_zero, Act.put, List.setIfInBounds_toArray, List.set_cons_zero, List.set_cons_succ])
    refine wpAnyH_take (i := 8) (v := ?_) rfl (by kernel_rfl) (by kernel_rfl) (by kernel_rfl) (fun _ _ _ h => h) (Or.inl ⟨by kernel_rfl, ?_⟩) (by first | assumption | trivial) ?_
    rotate_left
    · (intro wS hSw; (try dsimp only at hSw); go_simp; try with_reducible rfl)
    (try simp only [List.append_eq, List.cons_append, List.nil_append, List.getElem_toArray, List.getElem_cons_succ, List.getElem_cons_zero, Act.put, List.setIfInBounds_toArray, List.set_cons_zero, List.set_cons_succ])
    refine wpAnyH_ready (rs := [7]) (by kernel_rfl) (by simp) ?_
    refine AllReadyH.cons rfl (fun K hK => ?_) AllReadyH.nil
    go_simp
    (go_at_call 72; (with_reducible refine (HTX.out _ FZ.out).mono ?_); rintro e w5 ⟨rfl, b5⟩; have O := hid (O.out.below b5); have FZ := hid (FZ.out.below b5); have B := hid (past B.out b5); have hS := And.intro (O.out.cell (j := 0) rfl) (And.intro (O.out.cell (j := 1) rfl) (And.intro (O.out.cell (j := 2) rfl) (And.intro (O.out.cell (j := 3) rfl) (And.intro FZ.out.c1 (And.intro FZ.out.c2 FZ.out.c3))))); clear b5 hHeld)
    go_wp2_with fail
    refine hK.out _ _ (by first | assumption | trivial) (fun hHeld => ?_)
    clear hK K
    (try simp only [List.append_eq, List.cons_append, List.nil_append, List.getElem_toArray, List.getElem_cons_succ, List.getElem_cons_zero, Act.put, List.setIfInBounds_toArray, List.set_cons_zero, List.set_cons_succ])
    refine wpAnyH_ready (rs := [9]) (by kernel_rfl) (by simp) ?_
    refine AllReadyH.cons rfl (fun K hK => ?_) AllReadyH.nil
    go_simp
    (go_at_call 42; (with_reducible refine (HHS.out _ FZ.out).mono ?_); rintro e w6 ⟨rfl, b6⟩; have O := hid (O.out.below b6); have FZ := hid (FZ.out.below b6); have B := hid (past B.out b6); have hS := And.intro (O.out.cell (j := 0) rfl) (And.intro (O.out.cell (j := 1) rfl) (And.intro (O.out.cell (j := 2) rfl) (And.intro (O.out.cell (j := 3) rfl) (And.intro FZ.out.c1 (And.intro FZ.out.c2 FZ.out.c3))))); clear b6 hHeld)
    go_wp2_with fail
    refine hK.out _ _ (by first | assumption | trivial) (fun hHeld => ?_)
    clear hK K
    (try simp only [List.append_eq, List.cons_append, List.nil_append, List.getElem_toArray, List.getElem_cons_succ, List.getElem_cons_zero, Act.put, List.setIfInBounds_toArray, List.set_cons_zero, List.set_cons_succ])
    refine wpAnyH_take (i := 10) (v := ?_) rfl (by kernel_rfl) (by kernel_rfl) (by kernel_rfl) (fun _ _ _ h => h) (Or.inl ⟨by kernel_rfl, ?_⟩) (by first | assumption | trivial) ?_
    rotate_left
    · (intro wS hSw; (try dsimp only at hSw); go_simp; try with_reducible rfl)
    (try simp only [List.append_eq, List.cons_append, List.nil_append, List.getElem_toArray, List.getElem_cons_succ, List.getElem_cons_zero, Act.put, List.setIfInBounds_toArray, List.set_cons_zero, List.set_cons_succ])
    refine wpAnyH_take (i := 11) (v := ?_) rfl (by kernel_rfl) (by kernel_rfl) (by kernel_rfl) (fun _ _ _ h => h) (Or.inl ⟨by kernel_rfl, ?_⟩) (by first | assumption | trivial) ?_
    rotate_left
    · (intro wS hSw; (try dsimp only at hSw); go_simp; try with_reducible rfl)
    (try simp only [List.append_eq, List.cons_append, List.nil_append, List.getElem_toArray, List.getElem_cons_succ, List.getElem_cons_zero, Act.put, List.setIfInBounds_toArray, List.set_cons_zero, List.set_cons_succ])
    refine wpAnyH_done (by kernel_rfl) ?_ _
    refine NoPanic.normal ?_
    clear hS hHeld
    go_wp2_with fail
    go_ret
    exact ⟨rfl, B.out⟩
  | false =>
    refine wp_region_noPanic ?_
    refine wp_region_held_drew (S := (fun X => X.cell? ⟨w.heap.size, 0, none⟩ = some (.string (str nm)) ∧ X.cell? ⟨w.heap.size, 1, none⟩ = some (.int .i64 (fr : Int)) ∧ X.cell? ⟨w.heap.size, 2, none⟩ = some (.int .i64 (te : Int)) ∧ X.cell? ⟨w.heap.size, 3, none⟩ = some (.int .i64 (at_ : Int)) ∧ X.cell? ⟨g1, 0, none⟩ = some (.string (str name)) ∧ X.cell? ⟨g2, 0, none⟩ = some (.slice A n c) ∧ X.cell? ⟨g3, 0, none⟩ = some (.string (str text)))) (by kernel_rfl) (by first | assumption | trivial) (fun hHeld => ?_)
    refine wpAnyH_take (i := 0) (v := ?_) rfl (by kernel_rfl) (by kernel_rfl) (by kernel_rfl) (fun _ _ _ h => h) (Or.inl ⟨by kernel_rfl, ?_⟩) (by first | assumption | trivial) ?_
    rotate_left
    · (intro wS hSw; (try dsimp only at hSw); go_simp; try with_reducible rfl)
    (try simp only [List.append_eq, List.cons_append, List.nil_append, List.getElem_toArray, List.getElem_cons_succ, List.getElem_cons_zero, Act.put, List.setIfInBounds_toArray, List.set_cons_zero, List.set_cons_succ])
    refine wpAnyH_take (i := 1) (v := ?_) rfl (by kernel_rfl) (by kernel_rfl) (by kernel_rfl) (fun _ _ _ h => h) (Or.inl ⟨by kernel_rfl, ?_⟩) (by first | assumption | trivial) ?_
    rotate_left
    · (intro wS hSw; (try dsimp only at hSw); go_simp; try with_reducible rfl)
    (try simp only [List.append_eq, List.cons_append, List.nil_append, List.getElem_toArray, List.getElem_cons_succ, List.getElem_cons_zero, Act.put, List.setIfInBounds_toArray, List.set_cons_zero, List.set_cons_succ])
    refine wpAnyH_take (i := 2) (v := ?_) rfl (by kernel_rfl) (by kernel_rfl) (by kernel_rfl) (fun _ _ _ h => h) (Or.inl ⟨by kernel_rfl, ?_⟩) (by first | assumption | trivial) ?_
    rotate_left
    · (intro wS hSw; (try dsimp only at hSw); go_simp; try with_reducible rfl)
    (try simp only [List.append_eq, List.cons_append, List.nil_append, List.getElem_toArray, List.getElem_cons_succ, List.getElem_cons_zero, Act.put, List.setIfInBounds_toArray, List.set_cons_zero, List.set_cons_succ])
    refine wpAnyH_ready (rs := [3]) (by kernel_rfl) (by simp) ?_
    refine AllReadyH.cons rfl (fun K hK => ?_) AllReadyH.nil
    go_simp
    (go_at_call 71; (with_reducible refine (HAL.out _).mono ?_); rintro e w4 ⟨rfl, b4⟩; have O := hid (O.out.below b4); have FZ := hid (FZ.out.below b4); have B := hid (past B.out b4); have hS := And.intro (O.out.cell (j := 0) rfl) (And.intro (O.out.cell (j := 1) rfl) (And.intro (O.out.cell (j := 2) rfl) (And.intro (O.out.cell (j := 3) rfl) (And.intro FZ.out.c1 (And.intro FZ.out.c2 FZ.out.c3))))); clear b4 hHeld)
    go_wp2_with fail
    refine hK.out _ _ (by first | assumption | trivial) (fun hHeld => ?_)
    clear hK K
    (try simp only [List.append_eq, List.cons_append, List.nil_append, List.getElem_toArray, List.getElem_cons_succ, List.getElem_cons_zero, Act.put, List.setIfInBounds_toArray, List.set_cons_zero, List.set_cons_succ])
    refine wpAnyH_take (i := 4) (v := ?_) rfl (by kernel_rfl) (by kernel_rfl) (by kernel_rfl) (fun _ _ _ h => h) (Or.inl ⟨by kernel_rfl, ?_⟩) (by first | assumption | trivial) ?_
    rotate_left
    · (intro wS hSw; (try dsimp only at hSw); go_simp; try with_reducible rfl)
    (try simp only [List.append_eq, List.cons_append, List.nil_append, List.getElem_toArray, List.getElem_cons_succ, List.getElem_cons_zero, Act.put, List.setIfInBounds_toArray, List.set_cons_zero, List.set_cons_succ])
    refine wpAnyH_take (i := 5) (v := undef) rfl (by kernel_rfl) (by kernel_rfl) (by kernel_rfl) (fun _ _ _ h => h) (Or.inr ⟨by kernel_rfl, rfl⟩) (by first | assumption | trivial) ?_
    (try simp only [List.append_eq, List.cons_append, List.nil_append, List.getElem_toArray, List.getElem_cons_succ, List.getElem_cons_zero, Act.put, List.setIfInBounds_toArray, List.set_cons_zero, List.set_cons_succ])
    refine wpAnyH_take (i := 6) (v := undef) rfl (by kernel_rfl) (by kernel_rfl) (by kernel_rfl) (fun _ _ _ h => h) (Or.inr ⟨by kernel_rfl, rfl⟩) (by first | assumption | trivial) ?_
    (try simp only [List.append_eq, List.cons_append, List.nil_append, List.getElem_toArray, List.getElem_cons_succ, List.getElem_cons_zero, Act.put, List.setIfInBounds_toArray, List.set_cons_zero, List.set_cons_succ])
    refine wpAnyH_take (i := 7) (v := undef) rfl (by kernel_rfl) (by kernel_rfl) (by kernel_rfl) (fun _ _ _ h => h) (Or.inr ⟨by kernel_rfl, rfl⟩) (by first | assumption | trivial) ?_
    (try simp only [List.append_eq, List.cons_append, List.nil_append, List.getElem_toArray, List.getElem_cons_succ, List.getElem_cons_zero, Act.put, List.setIfInBounds_toArray, List.set_cons_zero, List.set_cons_succ])
    refine wpAnyH_take (i := 8) (v := undef) rfl (by kernel_rfl) (by kernel_rfl) (by kernel_rfl) (fun _ _ _ h => h) (Or.inr ⟨by kernel_rfl, rfl⟩) (by first | assumption | trivial) ?_
    (try simp only [List.append_eq, List.cons_append, List.nil_append, List.getElem_toArray, List.getElem_cons_succ, List.getElem_cons_zero, Act.put, List.setIfInBounds_toArray, List.set_cons_zero, List.set_cons_succ])
    refine wpAnyH_take (i := 9) (v := undef) rfl (by kernel_rfl) (by kernel_rfl) (by kernel_rfl) (fun _ _ _ h => h) (Or.inr ⟨by kernel_rfl, rfl⟩) (by first | assumption | trivial) ?_
    (try simp only [List.append_eq, List.cons_append, List.nil_append, List.getElem_toArray, List.getElem_cons_succ, List.getElem_cons_zero, Act.put, List.setIfInBounds_toArray, List.set_cons_zero, List.set_cons_succ])
    refine wpAnyH_take (i := 10) (v := ?_) rfl (by kernel_rfl) (by kernel_rfl) (by kernel_rfl) (fun _ _ _ h => h) (Or.inl ⟨by kernel_rfl, ?_⟩) (by first | assumption | trivial) ?_
    rotate_left
    · (intro wS hSw; (try dsimp only at hSw); go_simp; try with_reducible rfl)
    (try simp only [List.append_eq, List.cons_append, List.nil_append, List.getElem_toArray, List.getElem_cons_succ, List.getElem_cons_zero, Act.put, List.setIfInBounds_toArray, List.set_cons_zero, List.set_cons_succ])
    refine wpAnyH_take (i := 11) (v := ?_) rfl (by kernel_rfl) (by kernel_rfl) (by kernel_rfl) (fun _ _ _ h => h) (Or.inl ⟨by kernel_rfl, ?_⟩) (by first | assumption | trivial) ?_
    rotate_left
    · (intro wS hSw; (try dsimp only at hSw); go_simp; try with_reducible rfl)
    (try simp only [List.append_eq, List.cons_append, List.nil_append, List.getElem_toArray, List.getElem_cons_succ, List.getElem_cons_zero, Act.put, List.setIfInBounds_toArray, List.set_cons_zero, List.set_cons_succ])
    refine wpAnyH_done (by kernel_rfl) ?_ _
    refine NoPanic.normal ?_
    clear hS hHeld
    go_wp2_with fail
    go_ret
    exact ⟨rfl, B.out⟩
set_option maxRecDepth 100000 in
set_option maxHeartbeats 4000000 in
theorem findex_any (B : Option Addr) (len d : Nat) (A : Option Addr) (n c : Nat) (b name text : List UInt8) (g1 g2 g3 : Nat) (w : World) (hlen : (D17.fieldsL b).length = len) (hr : Row w B ((D17.fieldsL b).flatMap D17.fdC)) (hS : FdS w A n c b name text g1 g2 g3) (hnc : n ≤ c) (hl : n ≤ 600) (hnl : name.length ≤ 1000) (htl : text.length ≤ 1000) :
    Calls Tryz.prog 96 #[.slice B len d, .func (.func 70) #[] #[.pointer (some ⟨g1, 0, none⟩), .pointer (some ⟨g2, 0, none⟩), .pointer (some ⟨g3, 0, none⟩)]] w fun e w' => (∃ k : Int, e = .returned (.int .i64 k) ∧ decide (0 ≤ k) = (D17.fieldsL b).any (fdB b name text)) ∧ Below w.heap.size w w' := by
  have hbl : b.length ≤ 600 := by rw [hS.o.len]; exact hl
  have hll := D17.fields_len b
  have hlb : len ≤ 600 := by omega
  have HR := hid hr
  have HL := hid hlen
  have FZ := hid hS
  clear hr hlen hS hbl hll
  go_enter Tryz.func96, Tryz.ntmps96
  go_wp2_with fail
  go_loopw [5, 8] (fun j i wr => ∃ k : Nat, k ≤ len ∧ i = .int .i64 (k : Int) ∧ Hid (((D17.fieldsL b).drop k).any (fdB b name text) = (D17.fieldsL b).any (fdB b name text) ∧ Below w.heap.size w wr)) (fun j i wr => len - (intOf i).toNat)
  case atStart => exact ⟨0, by omega, rfl, hid ⟨by rw [List.drop_zero], Below.refl _ _⟩⟩
  case round =>
    obtain ⟨k, hk, rfl, HI⟩ := hrel
    by_cases hlt : k < len
    · have d1 : decide ((k : Int) < (len : Int)) = true := by simp; omega
      have d1' : decide (k < len) = true := by simpa using hlt
      have i0 : (0 : Int) ≤ (k : Int) := by omega
      have i1 : (k : Int) < (len : Int) := by omega
      have i2 : (k : Int).toNat = k := by omega
      have hkl : k < (D17.fieldsL b).length := by rw [HL.out]; exact hlt
      obtain ⟨bb, off, rfl, hc⟩ := D17.fd_at HR.out hkl
      have hmem : (D17.fieldsL b)[k]'hkl ∈ D17.fieldsL b := List.getElem_mem hkl
      have hst : ((D17.fieldsL b).drop k).any (fdB b name text) = (fdB b name text ((D17.fieldsL b)[k]'hkl) || ((D17.fieldsL b).drop (k + 1)).any (fdB b name text)) := by rw [List.drop_eq_getElem_cons hkl, List.any_cons]
      obtain ⟨f, hf⟩ : ∃ f, (D17.fieldsL b)[k]'hkl = f := ⟨_, rfl⟩
      have hcc := hc k hkl
      rw [hf] at hcc hst hmem
      have x0 := cells_keep HI.out.2 hcc.1
      have x1 := cells_keep HI.out.2 hcc.2.1
      have x2 := cells_keep HI.out.2 hcc.2.2.1
      have x3 := cells_keep HI.out.2 hcc.2.2.2
      have HC := hid (fun (X : World) (b9 : Below w.heap.size w X) => field1_any A n c b name text f g1 g2 g3 X hmem (FZ.out.below b9) hnc hl hnl htl)
      obtain ⟨z, hz⟩ : ∃ z, fdB b name text f = z := ⟨_, rfl⟩
      rw [hz] at hst HC
      have HST := hid hst
      clear hst hz hf hcc hc hmem
      cases z with
      | true =>
        have HF : Hid ((D17.fieldsL b).any (fdB b name text) = true) := hid (by rw [← HI.out.1, HST.out]; rfl)
        go_wp2_with (go_at_call 70; (with_reducible refine (HC.out _ HI.out.2).mono ?_); rintro e w3 ⟨rfl, b3⟩; have B3 := hid (past HI.out.2 b3); clear b3 x0 x1 x2 x3 HI HC)
        go_ret
        exact ⟨⟨_, rfl, by rw [HF.out]; simp⟩, B3.out⟩
      | false =>
        have HF : Hid (((D17.fieldsL b).drop (k + 1)).any (fdB b name text) = (D17.fieldsL b).any (fdB b name text)) := hid (by rw [← HI.out.1, HST.out, Bool.false_or])
        go_wp2_with (go_at_call 70; (with_reducible refine (HC.out _ HI.out.2).mono ?_); rintro e w3 ⟨rfl, b3⟩; have B3 := hid (past HI.out.2 b3); clear b3 x0 x1 x2 x3 HI HC)
        go_roundw
        case rel => exact ⟨k + 1, by omega, by go_num, hid ⟨HF.out, B3.out⟩⟩
        case measure => simp [intOf]; omega
    · have d1 : decide ((k : Int) < (len : Int)) = false := by simp; omega
      have d1' : decide (k < len) = false := by simpa using hlt
      have HF : Hid ((D17.fieldsL b).any (fdB b name text) = false) := hid (by rw [← HI.out.1, List.drop_of_length_le (by rw [HL.out]; omega)]; rfl)
      have HB := hid HI.out.2
      clear HI
      go_wp2_with fail
      go_ret
      exact ⟨⟨-1, rfl, by rw [HF.out]; rfl⟩, HB.out⟩
theorem fcontains_any (B : Option Addr) (len d : Nat) (A : Option Addr) (n c : Nat) (b name text : List UInt8) (g1 g2 g3 : Nat) (w : World) (hlen : (D17.fieldsL b).length = len) (hr : Row w B ((D17.fieldsL b).flatMap D17.fdC)) (hS : FdS w A n c b name text g1 g2 g3) (hnc : n ≤ c) (hl : n ≤ 600) (hnl : name.length ≤ 1000) (htl : text.length ≤ 1000) :
    Calls Tryz.prog 68 #[.slice B len d, .func (.func 70) #[] #[.pointer (some ⟨g1, 0, none⟩), .pointer (some ⟨g2, 0, none⟩), .pointer (some ⟨g3, 0, none⟩)]] w fun e w' => e = .returned (.bool (fieldF b name text)) ∧ Below w.heap.size w w' := by
  have HC := hid (findex_any B len d A n c b name text g1 g2 g3 w hlen hr hS hnc hl hnl htl)
  obtain ⟨q, hq⟩ : ∃ q, (D17.fieldsL b).any (fdB b name text) = q := ⟨_, rfl⟩
  rw [show fieldF b name text = q from hq]
  rw [hq] at HC
  clear hlen hr hS hq
  go_enter Tryz.func68, Tryz.ntmps68
  go_wp2_with (go_at_call 96; (with_reducible refine HC.out.mono ?_); rintro e w3 ⟨⟨k, rfl, hk⟩, b3⟩; have B3 := hid b3; clear b3)
  go_ret
  exact ⟨rfl, B3.out⟩
set_option maxHeartbeats 4000000 in
theorem field_any (A : Option Addr) (n c : Nat) (b name text : List UInt8) (w : World) (hT : Tabs w) (ho : Oct w A n b) (hnc : n ≤ c) (hl : n ≤ 600) (hnl : name.length ≤ 1000) (htl : text.length ≤ 1000) :
    Calls Tryz.prog 41 #[.slice A n c, .string (str name), .string (str text)] w fun e w' => e = .returned (.bool (fieldF b name text)) ∧ Below w.heap.size w w' := by
  obtain ⟨W3, hW3⟩ : ∃ W3, ((w.alloc (.cells #[.slice A n c] 28)).alloc (.cells #[.string (str name)] 9)).alloc (.cells #[.string (str text)] 9) = W3 := ⟨_, rfl⟩
  have a1 : Below w.heap.size w (w.alloc (.cells #[.slice A n c] 28)) := (Below.refl _ _).alloc (Nat.le_refl _) _
  have a2 : Below w.heap.size w ((w.alloc (.cells #[.slice A n c] 28)).alloc (.cells #[.string (str name)] 9)) := a1.alloc a1.size _
  have a3 : Below w.heap.size w W3 := by rw [← hW3]; exact a2.alloc a2.size _
  have k1 : Below (w.alloc (.cells #[.slice A n c] 28)).heap.size (w.alloc (.cells #[.slice A n c] 28)) ((w.alloc (.cells #[.slice A n c] 28)).alloc (.cells #[.string (str name)] 9)) := (Below.refl _ _).alloc (Nat.le_refl _) _
  have k2 : Below ((w.alloc (.cells #[.slice A n c] 28)).alloc (.cells #[.string (str name)] 9)).heap.size ((w.alloc (.cells #[.slice A n c] 28)).alloc (.cells #[.string (str name)] 9)) W3 := by rw [← hW3]; exact (Below.refl _ _).alloc (Nat.le_refl _) _
  have s1 : (w.alloc (.cells #[.slice A n c] 28)).heap.size = w.heap.size + 1 := by simp
  have s2 : ((w.alloc (.cells #[.slice A n c] 28)).alloc (.cells #[.string (str name)] 9)).heap.size = w.heap.size + 1 + 1 := by simp
  have x0 : W3.cell? ⟨w.heap.size, 0, none⟩ = some (.slice A n c) := (((OwnE.new_ w [.slice A n c] 28).below k1).below k2).cell (j := 0) rfl
  have x1 : W3.cell? ⟨w.heap.size + 1, 0, none⟩ = some (.string (str name)) := by
    have := (OwnE.new_ (w.alloc (.cells #[.slice A n c] 28)) [.string (str name)] 9).below k2
    rw [s1] at this
    exact this.cell (j := 0) rfl
  have x2 : W3.cell? ⟨w.heap.size + 1 + 1, 0, none⟩ = some (.string (str text)) := by
    have := OwnE.new_ ((w.alloc (.cells #[.slice A n c] 28)).alloc (.cells #[.string (str name)] 9)) [.string (str text)] 9
    rw [s2] at this
    rw [← hW3]
    exact this.cell (j := 0) rfl
  have FZ := hid (⟨ho.below a3, x1, x0, x2, hT.below a3⟩ : FdS W3 A n c b name text (w.heap.size + 1) w.heap.size (w.heap.size + 1 + 1))
  have B3 := hid a3
  have HFL := hid (D17.fields_any A n c b W3 (ho.below a3) hnc (by omega))
  have HC := hid (fun (X : World) (k : Below W3.heap.size W3 X) (B : Option Addr) (len d : Nat) (h1 : (D17.fieldsL b).length = len) (h2 : Row X B ((D17.fieldsL b).flatMap D17.fdC)) => fcontains_any B len d A n c b name text (w.heap.size + 1) w.heap.size (w.heap.size + 1 + 1) X h1 h2 (FZ.out.below k) hnc hl hnl htl)
  obtain ⟨len, hlen⟩ : ∃ len, (D17.fieldsL b).length = len := ⟨_, rfl⟩
  rw [hlen] at HFL
  have HLEN := hid hlen
  clear a1 a2 a3 k1 k2 s1 s2 x1 x2 ho hT hlen FZ
  go_enter Tryz.func41, Tryz.ntmps41
  go_wp2_with first
    | (go_at_call 69; (refine HFL.out.mono ?_); rintro e w5 ⟨v, rfl, ho5, b5⟩; have B5 := hid b5; obtain ⟨A5, c5, rfl, -⟩ := own_slice ho5; have HR5 := hid (Row.of_own ho5); clear b5 ho5 x0)
    | (go_at_call 68; (with_reducible refine (HC.out _ B5.out _ _ _ HLEN.out HR5.out).mono ?_); rintro e w6 ⟨rfl, b6⟩; have B6 := hid (past B3.out (past B5.out b6)); clear b6)
  go_ret
  exact ⟨rfl, B6.out⟩
end Go.Proofs.YtonjadmldgloaaaGreatDoor
