/-
  What each octet of a text is for, what is said, pieces and addresses, in plain Lean. A part of the proof: see the head of the text that ends in 'Law'.
-/
import Derived.Test.YtdanhdiinkgjnaaDoorMem
namespace Go.Proofs.YtdanhdiinkgjnaaDoor
open Go.RowKit
set_option linter.unusedVariables false

/-- What the next octet is for (0 plain, 1 quoted, 2 a remark), how deep, and whether it stands behind a \. -/
structure St where
  u : Nat
  d : Nat
  e : Bool
/-- An octet, what it is for (3: left out), whether it stood behind a \, and whether it begins or ends a whole remark. -/
structure Mk where
  c : UInt8
  u : Nat
  e : Bool
  o : Bool
  s : Bool
def markS (t : St) (c : UInt8) : Mk × St :=
  if t.e = true then (⟨c, t.u, true, false, false⟩, ⟨t.u, t.d, false⟩)
  else if t.u ≠ 0 ∧ c.toNat = 92 then (⟨c, 3, false, false, false⟩, ⟨t.u, t.d, true⟩)
  else if t.u = 0 ∧ c.toNat = 34 then (⟨c, 3, false, false, false⟩, ⟨1, t.d, false⟩)
  else if t.u = 1 ∧ c.toNat = 34 then (⟨c, 3, false, false, false⟩, ⟨0, t.d, false⟩)
  else if t.u ≠ 1 ∧ c.toNat = 40 then (⟨c, 2, false, decide (t.u = 0), false⟩, ⟨2, t.d + 1, false⟩)
  else if t.u = 2 ∧ c.toNat = 41 then (⟨c, 2, false, false, decide (t.d = 1)⟩, if t.d = 1 then ⟨0, 0, false⟩ else ⟨2, t.d - 1, false⟩)
  else (⟨c, t.u, false, false, false⟩, ⟨t.u, t.d, false⟩)
def marks : St → List UInt8 → List Mk
  | _, [] => []
  | t, c :: l => (markS t c).1 :: marks (markS t c).2 l
def stAfter : St → List UInt8 → St
  | t, [] => t
  | t, c :: l => stAfter (markS t c).2 l
def st0 : St := ⟨0, 0, false⟩
/-- A state that may be. -/
structure StOk (t : St) : Prop where
  u : t.u ≤ 2
  d : t.u = 2 ↔ 0 < t.d
  e : t.e = true → t.u ≠ 0
theorem st0_ok : StOk st0 := ⟨by decide, by decide, by decide⟩
theorem markS_ok (t : St) (c : UInt8) (h : StOk t) : StOk (markS t c).2 := by
  obtain ⟨h1, h2, h3⟩ := h
  unfold markS
  split
  · exact ⟨h1, h2, fun x => by cases x⟩
  split
  · rename_i h4; exact ⟨h1, h2, fun _ => h4.1⟩
  split
  · rename_i h4; exact ⟨by show 1 ≤ 2; decide, ⟨(fun x => by cases x), fun x => by have := h2.2 x; omega⟩, fun x => by cases x⟩
  split
  · rename_i h4; exact ⟨by show 0 ≤ 2; decide, ⟨(fun x => by cases x), fun x => by have := h2.2 x; omega⟩, fun x => by cases x⟩
  split
  · exact ⟨by show 2 ≤ 2; decide, ⟨fun _ => by show 0 < t.d + 1; omega, fun _ => rfl⟩, fun x => by cases x⟩
  split
  · rename_i h4
    have := h2.1 h4.1
    dsimp only
    split
    · exact ⟨by decide, by decide, by decide⟩
    · exact ⟨by show 2 ≤ 2; decide, ⟨fun _ => by show 0 < t.d - 1; omega, fun _ => rfl⟩, fun x => by cases x⟩
  · exact ⟨h1, h2, fun x => by cases x⟩
theorem stAfter_ok : ∀ (l : List UInt8) (t : St), StOk t → StOk (stAfter t l)
  | [], _, h => h
  | c :: l, t, h => stAfter_ok l _ (markS_ok t c h)
theorem markS_c (t : St) (c : UInt8) : (markS t c).1.c = c := by
  unfold markS
  repeat' split
  all_goals rfl
theorem marks_len : ∀ (l : List UInt8) (t : St), (marks t l).length = l.length
  | [], _ => rfl
  | c :: l, t => by rw [marks, List.length_cons, marks_len l, List.length_cons]
theorem marks_c : ∀ (l : List UInt8) (t : St), (marks t l).map (·.c) = l
  | [], _ => rfl
  | c :: l, t => by rw [marks, List.map_cons, marks_c l, markS_c]
theorem marks_append : ∀ (a b : List UInt8) (t : St), marks t (a ++ b) = marks t a ++ marks (stAfter t a) b
  | [], _, _ => rfl
  | c :: a, b, t => by rw [List.cons_append, marks, marks_append a b, marks, stAfter, List.cons_append]
theorem stAfter_append : ∀ (a b : List UInt8) (t : St), stAfter t (a ++ b) = stAfter (stAfter t a) b
  | [], _, _ => rfl
  | c :: a, b, t => by rw [List.cons_append, stAfter, stAfter_append a b, stAfter]

/-- A sign of the document. -/
structure Sg where
  c : UInt8
  q : Bool
  r : Bool
  o : Bool
  s : Bool
def sgOf (m : Mk) : Sg := ⟨m.c, decide (m.u = 1), decide (m.u = 2), m.o, m.s⟩
def sgs (l : List Mk) : List Sg := (l.filter fun m => decide (m.u ≠ 3)).map sgOf
def signsL (l : List UInt8) : List Sg := sgs (marks st0 l)
def bl (c : UInt8) : Bool := c.toNat == 32 || c.toNat == 9
/-- What is said of octets, each for something: whether a gap waits, and what is said so far. -/
def sayL : Bool → List UInt8 → List (UInt8 × Nat) → List UInt8
  | _, acc, [] => acc
  | g, acc, (c, u) :: l => if u = 3 then sayL g acc l else if u = 2 ∨ u = 0 ∧ bl c = true then sayL (!acc.isEmpty) acc l else sayL false ((if g = true then acc ++ [32] else acc) ++ [c]) l
def prs (l : List Mk) : List (UInt8 × Nat) := l.map fun m => (m.c, m.u)
def sayR : Bool → List UInt8 → List Sg → List UInt8
  | _, acc, [] => acc
  | g, acc, x :: l => if x.r = true ∨ x.q = false ∧ bl x.c = true then sayR true acc l else sayR false ((if g = true ∧ acc.isEmpty = false then acc ++ [32] else acc) ++ [x.c]) l
theorem markS_u (t : St) (c : UInt8) (h : StOk t) : (markS t c).1.u ≤ 3 := by
  have := h.u
  unfold markS
  repeat' split
  all_goals (dsimp only; omega)
theorem marks_u : ∀ (l : List UInt8) (t : St), StOk t → ∀ m ∈ marks t l, m.u ≤ 3
  | [], _, _, m, hm => by cases hm
  | c :: l, t, h, m, hm => by
    rcases List.mem_cons.1 hm with rfl | hm
    · exact markS_u t c h
    · exact marks_u l _ (markS_ok t c h) m hm
theorem say_sgs : ∀ (l : List Mk) (g : Bool) (acc : List UInt8), (∀ m ∈ l, m.u ≤ 3) → sayR g acc (sgs l) = sayL (g && !acc.isEmpty) acc (prs l)
  | [], _, _, _ => rfl
  | m :: l, g, acc, h => by
    have hm := h m List.mem_cons_self
    have hl : ∀ x ∈ l, x.u ≤ 3 := fun x hx => h x (List.mem_cons_of_mem _ hx)
    unfold sgs prs
    rw [List.map_cons, sayL]
    by_cases h3 : m.u = 3
    · rw [List.filter_cons_of_neg (by simp [h3]), if_pos h3]
      exact say_sgs l g acc hl
    · rw [List.filter_cons_of_pos (by simp [h3]), List.map_cons, sayR, if_neg h3]
      have e1 : ((sgOf m).r = true ∨ (sgOf m).q = false ∧ bl (sgOf m).c = true) ↔ (m.u = 2 ∨ m.u = 0 ∧ bl m.c = true) := by
        simp only [sgOf, decide_eq_true_iff, decide_eq_false_iff_not]
        constructor
        · rintro (h | ⟨h, k⟩)
          · exact .inl h
          · by_cases h2 : m.u = 2
            · exact .inl h2
            · exact .inr ⟨by omega, k⟩
        · rintro (h | ⟨h, k⟩)
          · exact .inl h
          · exact .inr ⟨by omega, k⟩
      by_cases h4 : m.u = 2 ∨ m.u = 0 ∧ bl m.c = true
      · rw [if_pos (e1.2 h4), if_pos h4]
        have := say_sgs l true acc hl
        rw [Bool.true_and] at this
        exact this
      · rw [if_neg (fun x => h4 (e1.1 x)), if_neg h4]
        have := say_sgs l false ((if g = true ∧ acc.isEmpty = false then acc ++ [32] else acc) ++ [m.c]) hl
        rw [Bool.false_and] at this
        refine Eq.trans this ?_
        congr 2
        cases g <;> cases acc <;> simp
def saysL (l : List UInt8) : List UInt8 := sayL false [] (prs (marks st0 l))
theorem say_signs (l : List UInt8) : sayR false [] (signsL l) = saysL l := say_sgs _ _ _ (marks_u l st0 st0_ok)
theorem sayL_len : ∀ (l : List (UInt8 × Nat)) (g : Bool) (acc : List UInt8), (sayL g acc l).length ≤ acc.length + 2 * l.length
  | [], _, _ => by rw [sayL]; simp
  | (c, u) :: l, g, acc => by
    rw [sayL]
    split
    · have := sayL_len l g acc; simp only [List.length_cons]; omega
    split
    · have := sayL_len l (!acc.isEmpty) acc; simp only [List.length_cons]; omega
    · have := sayL_len l false ((if g = true then acc ++ [32] else acc) ++ [c])
      have h2 : ((if g = true then acc ++ [32] else acc) ++ [c]).length ≤ acc.length + 2 := by
        split <;> simp
      simp only [List.length_cons]
      omega

/-- A text's pieces: whether a comma stands in angles, and the piece so far. -/
def ang (a : Bool) (c : UInt8) (u : Nat) : Bool := if u = 0 then (if c.toNat = 60 then true else if c.toNat = 62 then false else a) else a
def cutB (a : Bool) (c : UInt8) (u : Nat) : Bool := u == 0 && c.toNat == 44 && !a
def pcs : Bool → List UInt8 → List (UInt8 × Nat) → List (List UInt8)
  | _, cur, [] => [cur]
  | a, cur, (c, u) :: l => if cutB a c u = true then cur :: pcs a [] l else pcs (ang a c u) (cur ++ [c]) l
def piecesL (l : List UInt8) : List (List UInt8) := pcs false [] (prs (marks st0 l))
def cutM : Bool → List Mk → List Mk → List (List Mk)
  | _, cur, [] => [cur]
  | a, cur, m :: l => if cutB a m.c m.u = true then cur :: cutM a [] l else cutM (ang a m.c m.u) (cur ++ [m]) l
def cutR : Bool → List Sg → List Sg → List (List Sg)
  | _, cur, [] => [cur]
  | a, cur, x :: l => if (!x.q && !x.r && x.c.toNat == 44 && !a) = true then cur :: cutR a [] l else cutR (if (!x.q && !x.r) = true then (if x.c.toNat = 60 then true else if x.c.toNat = 62 then false else a) else a) (cur ++ [x]) l
theorem pcs_cut : ∀ (l : List Mk) (a : Bool) (cur : List Mk), pcs a (cur.map (·.c)) (prs l) = (cutM a cur l).map (fun p => p.map (·.c))
  | [], _, _ => rfl
  | m :: l, a, cur => by
    unfold prs
    rw [List.map_cons, pcs, cutM]
    by_cases h : cutB a m.c m.u = true
    · rw [if_pos h, if_pos h, List.map_cons]
      exact congrArg _ (pcs_cut l a [])
    · rw [if_neg h, if_neg h]
      have := pcs_cut l (ang a m.c m.u) (cur ++ [m])
      rw [List.map_append] at this
      exact this
theorem cutR_cut : ∀ (l : List Mk) (a : Bool) (cur : List Mk), (∀ m ∈ l, m.u ≤ 3) → cutR a (sgs cur) (sgs l) = (cutM a cur l).map sgs
  | [], _, _, _ => rfl
  | m :: l, a, cur, h => by
    have hm := h m List.mem_cons_self
    have hl : ∀ x ∈ l, x.u ≤ 3 := fun x hx => h x (List.mem_cons_of_mem _ hx)
    have hap : sgs (cur ++ [m]) = sgs cur ++ sgs [m] := by unfold sgs; rw [List.filter_append, List.map_append]
    by_cases h3 : m.u = 3
    · have e1 : sgs (m :: l) = sgs l := by unfold sgs; rw [List.filter_cons_of_neg (by simp [h3])]
      have e2 : sgs [m] = [] := by unfold sgs; rw [List.filter_cons_of_neg (by simp [h3])]; rfl
      have hc : cutB a m.c m.u = false := by unfold cutB; rw [h3]; rfl
      have ha : ang a m.c m.u = a := by unfold ang; rw [if_neg (by omega)]
      rw [e1, cutM, if_neg (by rw [hc]; decide), ha]
      have := cutR_cut l a (cur ++ [m]) hl
      rw [hap, e2, List.append_nil] at this
      exact this
    · have e1 : sgs (m :: l) = sgOf m :: sgs l := by unfold sgs; rw [List.filter_cons_of_pos (by simp [h3])]; rfl
      have e2 : sgs [m] = [sgOf m] := by unfold sgs; rw [List.filter_cons_of_pos (by simp [h3])]; rfl
      have hp : (!(sgOf m).q && !(sgOf m).r) = (m.u == 0) := by
        simp only [sgOf]
        rcases (by omega : m.u = 0 ∨ m.u = 1 ∨ m.u = 2) with h | h | h <;> rw [h] <;> rfl
      rw [e1, cutR, cutM]
      have hc : (!(sgOf m).q && !(sgOf m).r && (sgOf m).c.toNat == 44 && !a) = cutB a m.c m.u := by rw [hp]; rfl
      rw [hc, hp]
      by_cases h4 : cutB a m.c m.u = true
      · rw [if_pos h4, if_pos h4, List.map_cons]
        exact congrArg _ (cutR_cut l a [] hl)
      · rw [if_neg h4, if_neg h4]
        have := cutR_cut l (ang a m.c m.u) (cur ++ [m]) hl
        rw [hap, e2] at this
        refine Eq.trans ?_ this
        congr 1
        unfold ang
        by_cases h0 : m.u = 0
        · rw [if_pos (by rw [h0]; rfl), if_pos h0]; rfl
        · rw [if_neg (by simpa using h0), if_neg h0]
/-- Each piece's marks are those that it has by itself. -/
theorem cutM_marks : ∀ (l p : List UInt8) (a : Bool), StOk (stAfter st0 p) → (∀ q ∈ cutM a (marks st0 p) (marks (stAfter st0 p) l), marks st0 (q.map (·.c)) = q)
  | [], p, a, h, q, hq => by
    rw [marks, cutM, List.mem_singleton] at hq
    rw [hq, marks_c]
  | c :: l, p, a, h, q, hq => by
    rw [marks, cutM] at hq
    have hk := markS_ok (stAfter st0 p) c h
    split at hq
    · rename_i h4
      rcases List.mem_cons.1 hq with rfl | hq
      · rw [marks_c]
      · have h5 : (markS (stAfter st0 p) c).1.u = 0 := by
          unfold cutB at h4
          simp only [Bool.and_eq_true, beq_iff_eq] at h4
          exact h4.1.1
        have h6 : c.toNat = 44 := by
          unfold cutB at h4
          simp only [Bool.and_eq_true, beq_iff_eq, markS_c] at h4
          exact h4.1.2
        have h7 : (markS (stAfter st0 p) c).2 = st0 := by
          revert h5 hk
          obtain ⟨h1, h2, h3⟩ := h
          generalize stAfter st0 p = t at *
          unfold markS
          split
          · rename_i h8; intro hk5 h5; exact absurd h5 (h3 h8)
          rw [if_neg (by omega), if_neg (by omega), if_neg (by omega), if_neg (by omega), if_neg (by omega)]
          intro hk h5
          dsimp only at h5 hk ⊢
          have := hk.d
          dsimp only at this
          unfold st0
          have : t.d = 0 := by
            have := h2.2
            omega
          rw [h5, this]
        rw [h7] at hq
        exact cutM_marks l [] a st0_ok q hq
    · have := cutM_marks l (p ++ [c]) (ang a (markS (stAfter st0 p) c).1.c (markS (stAfter st0 p) c).1.u)
      rw [stAfter_append, marks_append] at this
      exact this hk q hq
def piecesM (l : List UInt8) : List (List Mk) := cutM false [] (marks st0 l)
theorem piecesM_c (l : List UInt8) : (piecesM l).map (fun p => p.map (·.c)) = piecesL l := (pcs_cut (marks st0 l) false []).symm
theorem piecesM_sg (l : List UInt8) : (piecesM l).map sgs = cutR false [] (signsL l) := (cutR_cut (marks st0 l) false [] (marks_u l st0 st0_ok)).symm
theorem piecesM_marks (l : List UInt8) : ∀ q ∈ piecesM l, marks st0 (q.map (·.c)) = q := cutM_marks l [] false st0_ok
end Go.Proofs.YtdanhdiinkgjnaaDoor
