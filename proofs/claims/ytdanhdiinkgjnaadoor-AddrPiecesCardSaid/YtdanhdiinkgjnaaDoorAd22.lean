/-
  Pieces with commas between, and texts that have no sign of their own, in plain Lean. A part of the proof: see the head of the text that ends in 'Law'.
-/
import Derived.Test.YtdanhdiinkgjnaaDoorAd21
namespace Go.Proofs.YtdanhdiinkgjnaaDoor
open Go.RowKit
set_option linter.unusedVariables false

/-- Pieces with commas between. -/
def joinK (ps : List (List UInt8)) (k : Nat) : List UInt8 := (ps.take k).flatMap (fun p => p ++ [44])
def joinC : List (List UInt8) → List UInt8
  | [] => []
  | p :: ps => p ++ ps.flatMap (fun q => 44 :: q)
theorem joinC_snoc (ps : List (List UInt8)) (q : List UInt8) (h : ps ≠ []) : joinC (ps ++ [q]) = joinC ps ++ [44] ++ q := by
  cases ps with
  | nil => exact absurd rfl h
  | cons p ps =>
    show p ++ (ps ++ [q]).flatMap (fun q => 44 :: q) = (p ++ ps.flatMap (fun q => 44 :: q)) ++ [44] ++ q
    rw [List.flatMap_append]
    simp
theorem pcs_join : ∀ (P : List (UInt8 × Nat)) (a : Bool) (cur : List UInt8), joinC (pcs a cur P) = cur ++ P.map (·.1)
  | [], a, cur => by rw [pcs, joinC]; simp
  | (c, u) :: P, a, cur => by
    rw [pcs]
    by_cases h : cutB a c u = true
    · rw [if_pos h]
      have ih := pcs_join P a []
      have hc : c.toNat = 44 := by
        unfold cutB at h
        simp only [Bool.and_eq_true, beq_iff_eq] at h
        exact h.1.2
      have hc2 : c = 44 := UInt8.toNat_inj.1 hc
      obtain ⟨q, qs, hq⟩ : ∃ q qs, pcs a [] P = q :: qs := by
        cases P with
        | nil => exact ⟨_, _, rfl⟩
        | cons x P =>
          obtain ⟨c2, u2⟩ := x
          rw [pcs]
          split
          · exact ⟨_, _, rfl⟩
          · cases hh : pcs (ang a c2 u2) ([] ++ [c2]) P with
            | nil =>
              have : ∀ (P : List (UInt8 × Nat)) (a : Bool) (cur : List UInt8), pcs a cur P ≠ [] := fun P => by
                induction P with
                | nil => intro a cur; rw [pcs]; simp
                | cons x P ih =>
                  obtain ⟨c3, u3⟩ := x
                  intro a cur
                  rw [pcs]
                  split
                  · simp
                  · exact ih _ _
              exact absurd hh (this _ _ _)
            | cons x y => exact ⟨_, _, rfl⟩
      rw [hq] at ih ⊢
      have ih2 : q ++ qs.flatMap (fun q => 44 :: q) = [] ++ P.map (·.1) := ih
      show cur ++ (q :: qs).flatMap (fun q => 44 :: q) = cur ++ ((c, u) :: P).map (·.1)
      rw [List.flatMap_cons, List.cons_append, ih2, List.map_cons, hc2]
      rfl
    · rw [if_neg h]
      have ih := pcs_join P (ang a c u) (cur ++ [c])
      rw [ih, List.map_cons, List.append_assoc]
      rfl
theorem pieces_join (l : List UInt8) : joinC (piecesL l) = l := by
  unfold piecesL
  rw [pcs_join, prs_c]
  rfl
/-- A text's piece, and what is behind it. -/
def wordT (w : List UInt8) : List UInt8 := w ++ [32, 44, 32]
def low9 (l : List UInt8) : List UInt8 := (l.take 9).map lowC
def textT (ws : List (List UInt8)) : List UInt8 := ws.flatMap wordT
def wordsA (ws : List (List UInt8)) : List Ad := (ws.filter fun w => decide (w ≠ [])).map fun w => ⟨[], w, []⟩
def LowW (w : List UInt8) : Prop := ∀ c ∈ w, 97 ≤ c.toNat ∧ c.toNat ≤ 122
theorem frM_pm : ∀ (s acc : List UInt8), frM acc (s.map pm) = acc
  | [], acc => rfl
  | c :: s, acc => by
    rw [List.map_cons, frM, if_neg (fun h => by cases h), if_neg (fun h => by cases h), if_neg (fun h => by cases h)]
    exact frM_pm s acc
theorem low_bl {w : List UInt8} (h : LowW w) : ∀ c ∈ w, bl c = false := fun c hc => by
  have := h c hc
  unfold bl
  rw [Bool.or_eq_false_iff, beq_eq_false_iff_ne, beq_eq_false_iff_ne]
  omega
theorem lastN_none (l : List UInt8) (h : ∀ c ∈ l, c.toNat ≠ 64) : ∀ n, n ≤ l.length → lastN l n = none
  | 0, _ => rfl
  | n + 1, hn => by
    have e : l.getD n 0 = l[n]'(by omega) := by rw [List.getD_eq_getElem?_getD, List.getElem?_eq_getElem (by omega)]; rfl
    rw [lastN, e, if_neg (h _ (List.getElem_mem _))]
    exact lastN_none l h n (by omega)
/-- A piece of blanks ahead, small letters, and a blank behind. -/
theorem one_word (cur w : List UInt8) (hc : cur = [] ∨ cur = [32]) (hw : LowW w) : oneL (cur ++ w ++ [32]) = ⟨[], w, []⟩ := by
  have hall : ∀ c ∈ cur ++ w ++ ([32] : List UInt8), c.toNat ≠ 34 ∧ c.toNat ≠ 40 ∧ c.toNat ≠ 60 := fun c hm => by
    rcases List.mem_append.1 hm with hm | hm
    · rcases List.mem_append.1 hm with hm | hm
      · rcases hc with rfl | rfl
        · cases hm
        · simp at hm; subst hm; exact ⟨by decide, by decide, by decide⟩
      · have := hw c hm
        exact ⟨by omega, by omega, by omega⟩
    · simp at hm; subst hm; exact ⟨by decide, by decide, by decide⟩
  have hm := (plain_marks _ (fun c h => ⟨(hall c h).1, (hall c h).2.1⟩)).1
  unfold oneL
  rw [hm, prs_pm, fdL_none 60 _ 0 (fun x hx => by
    unfold p0 at hx
    obtain ⟨c, hc2, rfl⟩ := List.mem_map.1 hx
    exact fun y => (hall c hc2).2.2 y.2)]
  dsimp only
  rw [frM_pm]
  have e0 : trimB [] = [] := rfl
  have hs : sayL false [] (p0 (cur ++ w ++ [32])) = w := by
    have hend : ∀ acc : List UInt8, sayL false acc (p0 [32]) = acc := fun acc => by
      have e : p0 [32] = [(32, 0)] := rfl
      rw [e, sayL, if_neg (by decide), if_pos (.inr ⟨rfl, rfl⟩), sayL]
    have e1 : p0 (cur ++ w ++ [32]) = p0 cur ++ (p0 w ++ p0 [32]) := by unfold p0; rw [List.map_append, List.map_append, List.append_assoc]
    rw [e1]
    have h2 : sayL false [] (p0 w ++ p0 [32]) = w := by
      rw [say_p0 w [] _ (low_bl hw), hend]
      rfl
    rcases hc with rfl | rfl
    · exact h2
    · have e2 : p0 [32] ++ (p0 w ++ p0 [32]) = (32, 0) :: (p0 w ++ p0 [32]) := rfl
      rw [e2, sayL, if_neg (by decide), if_pos (.inr ⟨rfl, rfl⟩)]
      exact h2
  rw [e0, hs]
  unfold adOf
  rw [lastN_none w (fun c h => by have := hw c h; omega) _ (Nat.le_refl _)]
theorem text_list : ∀ (ws : List (List UInt8)) (cur : List UInt8), (cur = [] ∨ cur = [32]) → (∀ w ∈ ws, LowW w) → listP (pcs false cur (p0 (textT ws))) = wordsA ws
  | [], cur, hc, _ => by
    have e : pcs false cur (p0 (textT [])) = [cur] := rfl
    rw [e, listP_cons]
    rcases hc with rfl | rfl
    · have h : oneL [] = nilA := by kernel_rfl
      rw [if_pos h]
      rfl
    · have h : oneL [32] = nilA := by kernel_rfl
      rw [if_pos h]
      rfl
  | w :: ws, cur, hc, hw => by
    have hw0 := hw w List.mem_cons_self
    have ih := text_list ws [32] (.inr rfl) (fun x hx => hw x (List.mem_cons_of_mem _ hx))
    have e1 : p0 (textT (w :: ws)) = p0 (w ++ [32]) ++ ((44, 0) :: (32, 0) :: p0 (textT ws)) := by
      unfold textT wordT p0
      rw [List.flatMap_cons]
      simp
    have hno : ∀ x ∈ p0 (w ++ [32]), cutB false x.1 x.2 = false ∧ ang false x.1 x.2 = false := fun x hx => by
      unfold p0 at hx
      obtain ⟨c, hc2, rfl⟩ := List.mem_map.1 hx
      have h3 : c.toNat ≠ 44 ∧ c.toNat ≠ 60 ∧ c.toNat ≠ 62 := by
        rcases List.mem_append.1 hc2 with h | h
        · have := hw0 c h; exact ⟨by omega, by omega, by omega⟩
        · simp at h; subst h; exact ⟨by decide, by decide, by decide⟩
      refine ⟨by unfold cutB; simp [h3.1], ?_⟩
      unfold ang
      rw [if_pos rfl, if_neg h3.2.1, if_neg h3.2.2]
    have e2 : (p0 (w ++ [32])).map (·.1) = w ++ [32] := by unfold p0; rw [List.map_map]; exact List.map_id' _
    rw [e1, pcs_no _ false cur _ hno, e2, pcs, if_pos (show cutB false 44 0 = true from rfl), pcs, if_neg (by decide)]
    have e3 : ang false 32 0 = false := rfl
    rw [e3, listP_cons]
    have e4 : cur ++ (w ++ [32]) = cur ++ w ++ [32] := by rw [List.append_assoc]
    rw [e4, one_word cur w hc hw0]
    have e5 : ([] : List UInt8) ++ [32] = [32] := rfl
    rw [e5, ih]
    unfold wordsA
    by_cases h0 : w = []
    · subst h0
      rw [if_pos (show (⟨[], [], []⟩ : Ad) = nilA from rfl), List.filter_cons_of_neg (by simp)]
      rfl
    · rw [if_neg (fun h => h0 (congrArg Ad.box h)), List.filter_cons_of_pos (by simpa using h0)]
      rfl
theorem texts_list (ws : List (List UInt8)) (hw : ∀ w ∈ ws, LowW w) : listL (textT ws) = wordsA ws := by
  have hall : ∀ c ∈ textT ws, c.toNat ≠ 34 ∧ c.toNat ≠ 40 := fun c hc => by
    obtain ⟨w, h1, h2⟩ := List.mem_flatMap.1 hc
    unfold wordT at h2
    rcases List.mem_append.1 h2 with h | h
    · have := hw w h1 c h; exact ⟨by omega, by omega⟩
    · simp at h
      rcases h with rfl | rfl | rfl <;> exact ⟨by decide, by decide⟩
  unfold listL piecesL
  rw [(plain_marks _ hall).1, prs_pm]
  exact text_list ws [] (.inl rfl) hw
theorem low9_ok (l : List UInt8) : LowW (low9 l) := low_ok _
theorem textT_snoc (ws : List (List UInt8)) (w : List UInt8) : textT (ws ++ [w]) = textT ws ++ (w ++ [32, 44, 32]) := by unfold textT; rw [List.flatMap_append]; simp [wordT]
theorem textT_len (ws : List (List UInt8)) (h : ∀ w ∈ ws, w.length ≤ 9) : (textT ws).length ≤ 12 * ws.length := by
  induction ws with
  | nil => exact Nat.le_refl _
  | cons w ws ih =>
    have h1 := h w List.mem_cons_self
    have h2 := ih (fun x hx => h x (List.mem_cons_of_mem _ hx))
    unfold textT at h2 ⊢
    rw [List.flatMap_cons, List.length_append, List.length_cons]
    unfold wordT at h2 ⊢
    simp only [List.length_append, List.length_cons, List.length_nil]
    omega
theorem low9_len (l : List UInt8) : (low9 l).length ≤ 9 := by unfold low9; rw [List.length_map, List.length_take]; omega
end Go.Proofs.YtdanhdiinkgjnaaDoor
