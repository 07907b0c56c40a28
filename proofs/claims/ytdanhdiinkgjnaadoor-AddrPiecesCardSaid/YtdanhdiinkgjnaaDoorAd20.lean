/-
  A name that is quoted, ahead of an address in angles, in plain Lean. A part of the proof: see the head of the text that ends in 'Law'.
-/
import Derived.Test.YtdanhdiinkgjnaaDoorAd18
namespace Go.Proofs.YtdanhdiinkgjnaaDoor
open Go.RowKit
set_option linter.unusedVariables false

/-- A name, quoted. -/
def quo (l : List UInt8) : List UInt8 := l.flatMap fun c => if c.toNat = 34 ∨ c.toNat = 92 then [92, c] else [c]
def stQ : St := ⟨1, 0, false⟩
theorem quo_cons (c : UInt8) (l : List UInt8) : quo (c :: l) = (if c.toNat = 34 ∨ c.toNat = 92 then [92, c] else [c]) ++ quo l := by unfold quo; rw [List.flatMap_cons]
theorem quo_len (l : List UInt8) : (quo l).length ≤ 2 * l.length := by
  induction l with
  | nil => exact Nat.le_refl _
  | cons c l ih =>
    rw [quo_cons, List.length_append, List.length_cons]
    split <;> simp <;> omega
theorem quo_snoc (l : List UInt8) (c : UInt8) : quo (l ++ [c]) = quo l ++ (if c.toNat = 34 ∨ c.toNat = 92 then [92, c] else [c]) := by
  unfold quo
  rw [List.flatMap_append]
  simp
theorem markS_q (c : UInt8) (h1 : c.toNat ≠ 34) (h2 : c.toNat ≠ 92) : markS stQ c = (⟨c, 1, false, false, false⟩, stQ) := by
  unfold markS stQ
  simp [h1, h2]
theorem quo_st : ∀ (l : List UInt8), stAfter stQ (quo l) = stQ
  | [] => rfl
  | c :: l => by
    rw [quo_cons, stAfter_append]
    have : stAfter stQ (if c.toNat = 34 ∨ c.toNat = 92 then [92, c] else [c]) = stQ := by
      split
      · rw [stAfter, show markS stQ 92 = (⟨92, 3, false, false, false⟩, ⟨1, 0, true⟩) by rfl, stAfter]
        have := @esc2 1 0 c
        rw [this]
        rfl
      · rename_i h
        rw [stAfter, markS_q c (fun x => h (.inl x)) (fun x => h (.inr x))]
        rfl
    rw [this]
    exact quo_st l
theorem quo_say : ∀ (l : List UInt8) (acc : List UInt8) (R : List (UInt8 × Nat)), sayL false acc (prs (marks stQ (quo l)) ++ R) = sayL false (acc ++ l) R
  | [], acc, R => by rw [List.append_nil]; rfl
  | c :: l, acc, R => by
    have ih := quo_say l (acc ++ [c]) R
    rw [List.append_assoc] at ih
    rw [quo_cons, marks_append]
    by_cases h : c.toNat = 34 ∨ c.toNat = 92
    · rw [if_pos h]
      have e1 : marks stQ [92, c] = [⟨92, 3, false, false, false⟩, ⟨c, 1, true, false, false⟩] := by
        rw [marks, show markS stQ 92 = (⟨92, 3, false, false, false⟩, ⟨1, 0, true⟩) by rfl, marks, @esc2 1 0 c]; rfl
      have e2 : stAfter stQ [92, c] = stQ := by
        rw [stAfter, show markS stQ 92 = (⟨92, 3, false, false, false⟩, ⟨1, 0, true⟩) by rfl, stAfter, @esc2 1 0 c]; rfl
      rw [e1, e2]
      have e3 : prs ([⟨92, 3, false, false, false⟩, ⟨c, 1, true, false, false⟩] ++ marks stQ (quo l)) ++ R = (92, 3) :: (c, 1) :: (prs (marks stQ (quo l)) ++ R) := rfl
      rw [e3, sayL, if_pos rfl, sayL, if_neg (by decide), if_neg (fun x => by rcases x with x | x; cases x; cases x.1), if_neg (by decide)]
      exact ih
    · rw [if_neg h]
      have hm := markS_q c (fun x => h (.inl x)) (fun x => h (.inr x))
      have e1 : marks stQ [c] = [⟨c, 1, false, false, false⟩] := by rw [marks, hm]; rfl
      have e2 : stAfter stQ [c] = stQ := by rw [stAfter, hm]; rfl
      rw [e1, e2]
      have e3 : prs ([⟨c, 1, false, false, false⟩] ++ marks stQ (quo l)) ++ R = (c, 1) :: (prs (marks stQ (quo l)) ++ R) := rfl
      rw [e3, sayL, if_neg (by decide), if_neg (fun x => by rcases x with x | x; cases x; cases x.1), if_neg (by decide)]
      exact ih
theorem quo_u : ∀ (l : List UInt8), ∀ x ∈ prs (marks stQ (quo l)), x.2 ≠ 0
  | [], x, hx => by cases hx
  | c :: l, x, hx => by
    rw [quo_cons, marks_append] at hx
    unfold prs at hx
    rw [List.map_append, List.mem_append] at hx
    by_cases h : c.toNat = 34 ∨ c.toNat = 92
    · rw [if_pos h] at hx
      have e1 : marks stQ [92, c] = [⟨92, 3, false, false, false⟩, ⟨c, 1, true, false, false⟩] := by
        rw [marks, show markS stQ 92 = (⟨92, 3, false, false, false⟩, ⟨1, 0, true⟩) by rfl, marks, @esc2 1 0 c]; rfl
      have e2 : stAfter stQ [92, c] = stQ := by
        rw [stAfter, show markS stQ 92 = (⟨92, 3, false, false, false⟩, ⟨1, 0, true⟩) by rfl, stAfter, @esc2 1 0 c]; rfl
      rw [e1, e2] at hx
      rcases hx with hx | hx
      · simp at hx
        rcases hx with rfl | rfl <;> exact fun h => by cases h
      · exact quo_u l x hx
    · rw [if_neg h] at hx
      have hm := markS_q c (fun x => h (.inl x)) (fun x => h (.inr x))
      have e1 : marks stQ [c] = [⟨c, 1, false, false, false⟩] := by rw [marks, hm]; rfl
      have e2 : stAfter stQ [c] = stQ := by rw [stAfter, hm]; rfl
      rw [e1, e2] at hx
      rcases hx with hx | hx
      · simp at hx
        rw [hx]
        exact fun h => by cases h
      · exact quo_u l x hx
def pm (c : UInt8) : Mk := ⟨c, 0, false, false, false⟩
theorem plain_marks : ∀ (s : List UInt8), (∀ c ∈ s, c.toNat ≠ 34 ∧ c.toNat ≠ 40) → marks st0 s = s.map pm ∧ stAfter st0 s = st0
  | [], _ => ⟨rfl, rfl⟩
  | c :: s, h => by
    have hc := h c List.mem_cons_self
    have hm : markS st0 c = (pm c, st0) := by unfold markS st0 pm; simp [hc.1, hc.2]
    obtain ⟨a, b⟩ := plain_marks s (fun x hx => h x (List.mem_cons_of_mem _ hx))
    rw [marks, stAfter, hm]
    exact ⟨by rw [a]; rfl, b⟩
def p0 (s : List UInt8) : List (UInt8 × Nat) := s.map fun c => (c, 0)
theorem prs_pm (s : List UInt8) : prs (s.map pm) = p0 s := by unfold prs p0; rw [List.map_map]; rfl
theorem say_p0 : ∀ (s acc : List UInt8) (R : List (UInt8 × Nat)), (∀ c ∈ s, bl c = false) → sayL false acc (p0 s ++ R) = sayL false (acc ++ s) R
  | [], acc, R, _ => by rw [List.append_nil]; rfl
  | c :: s, acc, R, h => by
    have ih := say_p0 s (acc ++ [c]) R (fun x hx => h x (List.mem_cons_of_mem _ hx))
    rw [List.append_assoc] at ih
    have e : p0 (c :: s) ++ R = (c, 0) :: (p0 s ++ R) := rfl
    rw [e, sayL, if_neg (by decide), if_neg (fun x => by rcases x with x | x; cases x; rw [h c List.mem_cons_self] at x; cases x.2), if_neg (by decide)]
    exact ih
theorem fdL_app (z : Nat) : ∀ (X : List (UInt8 × Nat)) (i : Nat) (c : UInt8) (Y : List (UInt8 × Nat)), (∀ x ∈ X, ¬(x.2 = 0 ∧ x.1.toNat = z)) → c.toNat = z → fdL z i (X ++ (c, 0) :: Y) = some (i + X.length)
  | [], i, c, Y, _, hc => by rw [List.nil_append, fdL, if_pos ⟨rfl, hc⟩]; rfl
  | x :: X, i, c, Y, h, hc => by
    obtain ⟨a, u⟩ := x
    rw [List.cons_append, fdL, if_neg (h (a, u) List.mem_cons_self), fdL_app z X (i + 1) c Y (fun y hy => h y (List.mem_cons_of_mem _ hy)) hc, List.length_cons]
    congr 1
    omega
theorem fdL_none (z : Nat) : ∀ (X : List (UInt8 × Nat)) (i : Nat), (∀ x ∈ X, ¬(x.2 = 0 ∧ x.1.toNat = z)) → fdL z i X = none
  | [], i, _ => rfl
  | x :: X, i, h => by
    obtain ⟨a, u⟩ := x
    rw [fdL, if_neg (h (a, u) List.mem_cons_self), fdL_none z X (i + 1) (fun y hy => h y (List.mem_cons_of_mem _ hy))]
theorem pcs_no : ∀ (X : List (UInt8 × Nat)) (a : Bool) (cur : List UInt8) (R : List (UInt8 × Nat)), (∀ x ∈ X, cutB a x.1 x.2 = false ∧ ang a x.1 x.2 = a) → pcs a cur (X ++ R) = pcs a (cur ++ X.map (·.1)) R
  | [], a, cur, R, _ => by rw [List.map_nil, List.append_nil]; rfl
  | x :: X, a, cur, R, h => by
    obtain ⟨c, u⟩ := x
    have hx := h (c, u) List.mem_cons_self
    dsimp only at hx
    rw [List.cons_append, pcs, if_neg (by rw [hx.1]; decide), hx.2, pcs_no X a (cur ++ [c]) R (fun y hy => h y (List.mem_cons_of_mem _ hy)), List.map_cons, List.append_assoc]
    rfl
theorem lastN_app (a : List UInt8) : ∀ (t : List UInt8) (n : Nat), n ≤ t.length → (∀ c ∈ t, c.toNat ≠ 64) → lastN (a ++ 64 :: t) (a.length + 1 + n) = some a.length
  | t, 0, _, _ => by
    show lastN (a ++ 64 :: t) (a.length + 1) = some a.length
    rw [lastN, if_pos]
    rw [List.getD_eq_getElem?_getD, List.getElem?_append_right (Nat.le_refl _), Nat.sub_self]
    rfl
  | t, n + 1, hn, h => by
    have e : (a ++ 64 :: t).getD (a.length + 1 + n) 0 = t[n]'(by omega) := by
      rw [List.getD_eq_getElem?_getD, List.getElem?_append_right (by omega), show a.length + 1 + n - a.length = n + 1 by omega, List.getElem?_cons_succ, List.getElem?_eq_getElem (by omega)]
      rfl
    show lastN (a ++ 64 :: t) (a.length + 1 + n + 1) = some a.length
    rw [lastN, e, if_neg (h _ (List.getElem_mem _))]
    exact lastN_app a t n (by omega) h
def HOST : List UInt8 := [104, 111, 115, 116]
def quoT (nm b : List UInt8) : List UInt8 := [34] ++ quo nm ++ [34, 32, 60] ++ b ++ [64, 104, 111, 115, 116, 62, 44, 32, 122]
theorem quoted_list (nm b : List UInt8) (hb : ∀ c ∈ b, 97 ≤ c.toNat ∧ c.toNat ≤ 122) : listL (quoT nm b) = [⟨nm, b, HOST⟩, ⟨[], [122], []⟩] := by
  have hbp : ∀ c ∈ b ++ ([64, 104, 111, 115, 116] : List UInt8), c.toNat ≠ 34 ∧ c.toNat ≠ 40 ∧ c.toNat ≠ 60 ∧ c.toNat ≠ 62 ∧ c.toNat ≠ 44 ∧ bl c = false := fun c hc => by
    rcases List.mem_append.1 hc with hc | hc
    · have := hb c hc
      refine ⟨by omega, by omega, by omega, by omega, by omega, ?_⟩
      unfold bl
      rw [Bool.or_eq_false_iff, beq_eq_false_iff_ne, beq_eq_false_iff_ne]
      omega
    · simp at hc
      rcases hc with rfl | rfl | rfl | rfl | rfl <;> exact ⟨by decide, by decide, by decide, by decide, by decide, by rfl⟩
  obtain ⟨Z, hZ⟩ : ∃ Z, b ++ ([64, 104, 111, 115, 116] : List UInt8) = Z := ⟨_, rfl⟩
  rw [hZ] at hbp
  have hZm := plain_marks Z (fun c hc => ⟨(hbp c hc).1, (hbp c hc).2.1⟩)
  -- the marks of the first piece
  obtain ⟨X, hX⟩ : ∃ X : List (UInt8 × Nat), (34, 3) :: (prs (marks stQ (quo nm)) ++ [(34, 3), (32, 0)]) = X := ⟨_, rfl⟩
  have hXu : ∀ x ∈ X, ¬(x.2 = 0 ∧ x.1.toNat = 60) ∧ ¬(x.2 = 0 ∧ x.1.toNat = 62) ∧ ¬(x.2 = 0 ∧ x.1.toNat = 44) := fun x hx => by
    rw [← hX] at hx
    rcases List.mem_cons.1 hx with rfl | hx
    · exact ⟨by decide, by decide, by decide⟩
    · rcases List.mem_append.1 hx with hx | hx
      · have := quo_u nm x hx
        exact ⟨fun y => this y.1, fun y => this y.1, fun y => this y.1⟩
      · simp at hx
        rcases hx with rfl | rfl <;> exact ⟨by decide, by decide, by decide⟩
  have hpre : ∀ R : List UInt8, prs (marks st0 ([34] ++ quo nm ++ [34, 32, 60] ++ R)) = X ++ (60, 0) :: prs (marks st0 R) := fun R => by
    have e1 : marks st0 ([34] ++ quo nm ++ [34, 32, 60] ++ R) = ⟨34, 3, false, false, false⟩ :: (marks stQ (quo nm) ++ (⟨34, 3, false, false, false⟩ :: pm 32 :: pm 60 :: marks st0 R)) := by
      rw [List.append_assoc, List.append_assoc, List.singleton_append, marks, show markS st0 34 = (⟨34, 3, false, false, false⟩, stQ) by rfl]
      dsimp only
      rw [marks_append, quo_st]
      rfl
    rw [e1, ← hX]
    unfold prs
    simp [pm]
  -- the pieces
  have hT1 : ([34] ++ quo nm ++ [34, 32, 60] ++ (Z ++ [62]) : List UInt8) = X.map (·.1) ++ 60 :: (Z ++ [62]) := by
    rw [← hX]
    have : (prs (marks stQ (quo nm))).map (·.1) = quo nm := prs_c (quo nm) stQ
    simp [this]
  obtain ⟨T1, hT⟩ : ∃ T1 : List UInt8, [34] ++ quo nm ++ [34, 32, 60] ++ (Z ++ [62]) = T1 := ⟨_, rfl⟩
  rw [hT] at hT1
  have hp : piecesL (quoT nm b) = [T1, [32, 122]] := by
    unfold piecesL quoT
    have e0 : ([34] ++ quo nm ++ [34, 32, 60] ++ b ++ [64, 104, 111, 115, 116, 62, 44, 32, 122] : List UInt8) = [34] ++ quo nm ++ [34, 32, 60] ++ (Z ++ [62, 44, 32, 122]) := by
      rw [← hZ]; simp
    rw [e0, hpre, marks_append, hZm.1, hZm.2]
    have e1 : prs (Z.map pm ++ marks st0 [62, 44, 32, 122]) = p0 Z ++ [(62, 0), (44, 0), (32, 0), (122, 0)] := by
      unfold prs
      rw [List.map_append]
      exact congrArg (· ++ _) (prs_pm Z)
    rw [e1, pcs_no X false [] _ (fun x hx => by
      obtain ⟨h1, h2, h3⟩ := hXu x hx
      refine ⟨?_, ?_⟩
      · unfold cutB
        by_cases h0 : x.2 = 0
        · have h4 : x.1.toNat ≠ 44 := fun y => h3 ⟨h0, y⟩
          simp [h4]
        · simp [h0]
      · unfold ang
        by_cases h0 : x.2 = 0
        · rw [if_pos h0, if_neg (fun y => h1 ⟨h0, y⟩), if_neg (fun y => h2 ⟨h0, y⟩)]
        · rw [if_neg h0])]
    rw [pcs, if_neg (by decide)]
    have e2 : ang false 60 0 = true := rfl
    rw [e2, pcs_no (p0 Z) true _ _ (fun x hx => by
      unfold p0 at hx
      obtain ⟨c, hc, rfl⟩ := List.mem_map.1 hx
      have := hbp c hc
      refine ⟨by unfold cutB; simp, ?_⟩
      unfold ang
      rw [if_pos rfl, if_neg this.2.2.1, if_neg this.2.2.2.1])]
    have e3 : (p0 Z).map (·.1) = Z := by unfold p0; rw [List.map_map]; exact List.map_id' Z
    rw [e3]
    have e4 : ∀ cur : List UInt8, pcs true cur [(62, 0), (44, 0), (32, 0), (122, 0)] = [cur ++ [62], [32, 122]] := fun cur => by
      rw [pcs, if_neg (by decide)]
      rfl
    rw [e4, hT1]
    simp
  -- the first piece's address
  have ho : oneL T1 = ⟨nm, b, HOST⟩ := by
    have hP : prs (marks st0 T1) = X ++ (60, 0) :: (p0 Z ++ [(62, 0)]) := by
      rw [← hT, hpre, marks_append, hZm.1, hZm.2]
      congr 1
      congr 1
      unfold prs
      rw [List.map_append]
      exact congrArg (· ++ _) (prs_pm Z)
    have hf := fdL_app 60 X 0 60 (p0 Z ++ [(62, 0)]) (fun x hx => (hXu x hx).1) rfl
    rw [← hP, Nat.zero_add] at hf
    unfold oneL
    rw [hf]
    dsimp only
    rw [toL_gt0 _ _ hf]
    have hd : (prs (marks st0 T1)).drop (X.length + 1) = p0 Z ++ [(62, 0)] := by rw [hP, List.drop_append]; simp
    have hg : gt0 (p0 Z ++ [(62, 0)]) = (p0 Z).length := by
      unfold gt0
      rw [fdL_app 62 (p0 Z) 0 62 [] (fun x hx => by
        unfold p0 at hx
        obtain ⟨c, hc, rfl⟩ := List.mem_map.1 hx
        exact fun y => (hbp c hc).2.2.2.1 y.2) rfl]
      exact Nat.zero_add _
    rw [hd, hg, List.take_left, hP, List.take_left]
    have hs1 : sayL false [] X = nm := by
      rw [← hX, sayL, if_pos rfl, quo_say]
      rw [sayL, if_pos rfl, sayL, if_neg (by decide), if_pos (.inr ⟨rfl, rfl⟩), sayL]
      rfl
    have hs2 : sayL false [] (p0 Z) = Z := by
      have := say_p0 Z [] [] (fun c hc => (hbp c hc).2.2.2.2.2)
      rw [List.append_nil] at this
      rw [this, sayL]
      rfl
    rw [hs1, hs2]
    unfold adOf
    have hl : lastN Z Z.length = some b.length := by
      have := lastN_app b HOST 4 (Nat.le_refl _) (by decide)
      rw [← hZ]
      have e : (b ++ ([64, 104, 111, 115, 116] : List UInt8)).length = b.length + 1 + 4 := by simp
      rw [e]
      exact this
    rw [hl]
    dsimp only
    rw [← hZ]
    have e1 : (b ++ ([64, 104, 111, 115, 116] : List UInt8)).take b.length = b := List.take_left
    have e2 : (b ++ ([64, 104, 111, 115, 116] : List UInt8)).drop (b.length + 1) = HOST := by rw [List.drop_append]; simp [HOST]
    rw [e1, e2]
  have ho2 : oneL [32, 122] = ⟨[], [122], []⟩ := by kernel_rfl
  unfold listL
  rw [hp, listP_cons, ho, if_neg (by intro h; have := congrArg Ad.host h; cases this), listP_cons, ho2, if_neg (by intro h; have := congrArg Ad.box h; cases this)]
  rfl
end Go.Proofs.YtdanhdiinkgjnaaDoor
