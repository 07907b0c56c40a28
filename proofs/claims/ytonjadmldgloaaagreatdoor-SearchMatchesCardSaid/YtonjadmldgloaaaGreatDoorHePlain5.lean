/-
  Lines by their places, in plain Lean. A part of the proof: see the head of the text that ends in 'Law'.
-/
import Derived.Test.YtonjadmldgloaaaGreatDoorHe8
namespace Go.Proofs.YtonjadmldgloaaaGreatDoor.D17
open Go.RowKit
set_option linter.unusedVariables false

theorem posL_eq (l : List UInt8) : posL l = posF 0 (cutL l) := by unfold posL posAt; rw [List.drop_zero]
theorem posL_lines (l : List UInt8) : cutL l = (posF 0 (cutL l)).map (lineL l) := by rw [← posL_eq]; exact (lines_of l).symm
theorem posF_nil (a : Nat) (ls : List (List UInt8)) (h : posF a ls = []) : ls = [] := by
  cases ls with
  | nil => rfl
  | cons x r => rw [posF] at h; cases h
theorem spG_stop (L : Nat × Nat → List UInt8) : ∀ (pre : List (Nat × Nat)) (a : Nat) (ls : List (List UInt8)) (p : Nat × Nat) (rest : List (Nat × Nat)), posF a ls = pre ++ p :: rest → ls = (posF a ls).map L → (∀ x ∈ pre, emptyB (L x) = false) → emptyB (L p) = true → spG a ls = p.2
  | [], a, [], p, rest, h, _, _, _ => by rw [posF] at h; cases h
  | [], a, x :: r, p, rest, h, hL, _, he => by
    rw [posF, List.nil_append] at h
    injection h with h1 h2
    rw [posF, List.map_cons] at hL
    injection hL with h3 h4
    rw [h1] at h3
    rw [spG, h3, he, if_pos rfl, ← h3, ← h1]
  | q :: pre, a, [], p, rest, h, _, _, _ => by rw [posF] at h; cases h
  | q :: pre, a, x :: r, p, rest, h, hL, hn, he => by
    rw [posF, List.cons_append] at h
    injection h with h1 h2
    rw [posF, List.map_cons] at hL
    injection hL with h3 h4
    have hx : emptyB x = false := by rw [h3, h1]; exact hn q (List.mem_cons_self ..)
    rw [spG, hx, if_neg (by decide)]
    exact spG_stop L pre (a + x.length) r p rest h2 h4 (fun y hy => hn y (List.mem_cons_of_mem _ hy)) he
theorem spG_done (L : Nat × Nat → List UInt8) : ∀ (a : Nat) (ls : List (List UInt8)), ls = (posF a ls).map L → (∀ x ∈ posF a ls, emptyB (L x) = false) → spG a ls = a + ls.flatten.length
  | a, [], _, _ => rfl
  | a, x :: r, hL, hn => by
    rw [posF, List.map_cons] at hL
    injection hL with h3 h4
    have hx : emptyB x = false := by rw [h3]; exact hn _ (by rw [posF]; exact List.mem_cons_self ..)
    rw [spG, hx, if_neg (by decide), spG_done L (a + x.length) r h4 (fun y hy => hn y (by rw [posF]; exact List.mem_cons_of_mem _ hy)), List.flatten_cons, List.length_append]
    omega
theorem split_stop {l : List UInt8} {pre : List (Nat × Nat)} {p : Nat × Nat} (h : pre ++ [p] <+: posL l) (hn : ∀ x ∈ pre, emptyB (lineL l x) = false) (he : emptyB (lineL l p) = true) : splitL l = p.2 := by
  obtain ⟨rest, h⟩ := h
  rw [posL_eq, List.append_assoc] at h
  exact spG_stop (lineL l) pre 0 (cutL l) p rest h.symm (posL_lines l) hn he
theorem split_done {l : List UInt8} (hn : ∀ x ∈ posL l, emptyB (lineL l x) = false) : splitL l = l.length := by
  have := spG_done (lineL l) 0 (cutL l) (posL_lines l) (by rw [← posL_eq]; exact hn)
  rw [cutL_flat] at this
  unfold splitL
  omega
/-- One line more. -/
def fdStep (L : Nat × Nat → List UInt8) (s : List Fd × Bool) (p : Nat × Nat) : List Fd × Bool :=
  if bl ((L p).headD 0) = true then (if s.2 = true then setTo s.1 p.2 else s.1, s.2)
  else match nameL (L p) with
    | none => (s.1, false)
    | some (m, k) => (s.1 ++ [⟨m, p.1, p.2, p.1 + k⟩], true)
theorem fdG_step (L : Nat × Nat → List UInt8) (a : Nat) (x : List UInt8) (r : List (List UInt8)) (out : List Fd) (o : Bool) (hx : x = L (a, a + x.length)) (he : emptyB x = false) :
    fdG a (x :: r) out o = fdG (a + x.length) r (fdStep L (out, o) (a, a + x.length)).1 (fdStep L (out, o) (a, a + x.length)).2 := by
  rw [fdG, if_neg (by rw [he]; decide)]
  unfold fdStep
  rw [← hx]
  by_cases hb : bl (x.headD 0) = true
  · rw [if_pos hb, if_pos hb]
  · rw [if_neg hb, if_neg hb]
    cases nameL x with
    | none => rfl
    | some v => obtain ⟨m, k⟩ := v; rfl
theorem fdG_stop (L : Nat × Nat → List UInt8) : ∀ (pre : List (Nat × Nat)) (a : Nat) (ls : List (List UInt8)) (p : Nat × Nat) (rest : List (Nat × Nat)) (out : List Fd) (o : Bool), posF a ls = pre ++ p :: rest → ls = (posF a ls).map L → (∀ x ∈ pre, emptyB (L x) = false) → emptyB (L p) = true → fdG a ls out o = (pre.foldl (fdStep L) (out, o)).1
  | [], a, [], p, rest, _, _, h, _, _, _ => by rw [posF] at h; cases h
  | [], a, x :: r, p, rest, out, o, h, hL, _, he => by
    rw [posF, List.nil_append] at h
    injection h with h1 h2
    rw [posF, List.map_cons] at hL
    injection hL with h3 h4
    rw [h1] at h3
    rw [fdG, h3, he, if_pos rfl]
    rfl
  | q :: pre, a, [], p, rest, _, _, h, _, _, _ => by rw [posF] at h; cases h
  | q :: pre, a, x :: r, p, rest, out, o, h, hL, hn, he => by
    rw [posF, List.cons_append] at h
    injection h with h1 h2
    rw [posF, List.map_cons] at hL
    injection hL with h3 h4
    have hx : emptyB x = false := by rw [h3, h1]; exact hn q (List.mem_cons_self ..)
    rw [fdG_step L a x r out o h3 hx, fdG_stop L pre (a + x.length) r p rest _ _ h2 h4 (fun y hy => hn y (List.mem_cons_of_mem _ hy)) he, List.foldl_cons, h1]
theorem fdG_done (L : Nat × Nat → List UInt8) : ∀ (a : Nat) (ls : List (List UInt8)) (out : List Fd) (o : Bool), ls = (posF a ls).map L → (∀ x ∈ posF a ls, emptyB (L x) = false) → fdG a ls out o = ((posF a ls).foldl (fdStep L) (out, o)).1
  | a, [], out, o, _, _ => rfl
  | a, x :: r, out, o, hL, hn => by
    rw [posF, List.map_cons] at hL
    injection hL with h3 h4
    have hx : emptyB x = false := by rw [h3]; exact hn _ (by rw [posF]; exact List.mem_cons_self ..)
    rw [fdG_step L a x r out o h3 hx, fdG_done L (a + x.length) r _ _ h4 (fun y hy => hn y (by rw [posF]; exact List.mem_cons_of_mem _ hy)), posF, List.foldl_cons]
def fdFold (l : List UInt8) (pre : List (Nat × Nat)) : List Fd × Bool := pre.foldl (fdStep (lineL l)) ([], false)
theorem fdFold_snoc (l : List UInt8) (pre : List (Nat × Nat)) (p : Nat × Nat) : fdFold l (pre ++ [p]) = fdStep (lineL l) (fdFold l pre) p := by unfold fdFold; rw [List.foldl_append]; rfl
theorem fields_stop {l : List UInt8} {pre : List (Nat × Nat)} {p : Nat × Nat} (h : pre ++ [p] <+: posL l) (hn : ∀ x ∈ pre, emptyB (lineL l x) = false) (he : emptyB (lineL l p) = true) : fieldsL l = (fdFold l pre).1 := by
  obtain ⟨rest, h⟩ := h
  rw [posL_eq, List.append_assoc] at h
  exact fdG_stop (lineL l) pre 0 (cutL l) p rest [] false h.symm (posL_lines l) hn he
theorem fields_done {l : List UInt8} (hn : ∀ x ∈ posL l, emptyB (lineL l x) = false) : fieldsL l = (fdFold l (posL l)).1 := by
  have := fdG_done (lineL l) 0 (cutL l) [] false (posL_lines l) (by rw [← posL_eq]; exact hn)
  rw [← posL_eq] at this
  exact this
/-- What stands as lines. -/
def Ln (x : List UInt8) : Prop := ∃ y c, x = y ++ [c] ∧ c.toNat = 10 ∧ ∀ d ∈ y, d.toNat ≠ 10
def Lns : List (List UInt8) → Prop
  | [] => True
  | x :: r => (Ln x ∧ Lns r) ∨ (r = [] ∧ x ≠ [] ∧ ∀ d ∈ x, d.toNat ≠ 10)
theorem cutF_line : ∀ (y cur l : List UInt8) (c : UInt8), (∀ d ∈ y, d.toNat ≠ 10) → c.toNat = 10 → cutF cur (y ++ c :: l) = (cur ++ y ++ [c]) :: cutF [] l
  | [], cur, l, c, _, hc => by rw [List.nil_append, cutF, if_pos hc, List.append_nil]
  | d :: y, cur, l, c, h, hc => by
    rw [List.cons_append, cutF, if_neg (h d (List.mem_cons_self ..)), cutF_line y (cur ++ [d]) l c (fun e he => h e (List.mem_cons_of_mem _ he)) hc]
    simp
theorem cutF_rest : ∀ (y cur : List UInt8), (∀ d ∈ y, d.toNat ≠ 10) → cutF cur y = if cur ++ y = [] then [] else [cur ++ y]
  | [], cur, _ => by rw [cutF, List.append_nil]
  | d :: y, cur, h => by
    rw [cutF, if_neg (h d (List.mem_cons_self ..)), cutF_rest y (cur ++ [d]) (fun e he => h e (List.mem_cons_of_mem _ he))]
    simp
theorem cutL_of_lns : ∀ (ls : List (List UInt8)), Lns ls → cutL ls.flatten = ls
  | [], _ => rfl
  | x :: r, h => by
    rcases h with ⟨⟨y, c, rfl, hc, hy⟩, hr⟩ | ⟨rfl, hx, hd⟩
    · rw [List.flatten_cons, List.append_assoc, List.singleton_append]
      unfold cutL
      rw [cutF_line y [] _ c hy hc, List.nil_append]
      have := cutL_of_lns r hr
      unfold cutL at this
      rw [this]
    · rw [List.flatten_cons, List.flatten_nil, List.append_nil]
      unfold cutL
      rw [cutF_rest x [] hd, List.nil_append, if_neg hx]
theorem lns_cutF : ∀ (l cur : List UInt8), (∀ d ∈ cur, d.toNat ≠ 10) → Lns (cutF cur l)
  | [], cur, h => by
    rw [cutF]
    split
    · trivial
    · rename_i hc
      exact .inr ⟨rfl, hc, h⟩
  | c :: l, cur, h => by
    rw [cutF]
    split
    · rename_i hc
      exact .inl ⟨⟨cur, c, rfl, hc, h⟩, lns_cutF l [] (fun d hd => by cases hd)⟩
    · rename_i hc
      exact lns_cutF l (cur ++ [c]) (fun d hd => by
        rcases List.mem_append.1 hd with hd | hd
        · exact h d hd
        · rw [List.mem_singleton] at hd
          rw [hd]
          exact hc)
theorem lns_cutL (l : List UInt8) : Lns (cutL l) := lns_cutF l [] (fun d hd => by cases hd)
theorem lns_take : ∀ (ls : List (List UInt8)) (k : Nat), Lns ls → Lns (ls.take k)
  | [], k, h => by rw [List.take_nil]; trivial
  | x :: r, 0, h => trivial
  | x :: r, k + 1, h => by
    rw [List.take_succ_cons]
    rcases h with ⟨h1, h2⟩ | ⟨rfl, h1, h2⟩
    · exact .inl ⟨h1, lns_take r k h2⟩
    · exact .inr ⟨by rw [List.take_nil], h1, h2⟩
/-- The lines up to the empty one. -/
def upto : List (List UInt8) → List (List UInt8)
  | [] => []
  | x :: r => if emptyB x = true then [x] else x :: upto r
theorem upto_take : ∀ (ls : List (List UInt8)), ∃ k, upto ls = ls.take k
  | [] => ⟨0, rfl⟩
  | x :: r => by
    unfold upto
    split
    · exact ⟨1, rfl⟩
    · obtain ⟨k, hk⟩ := upto_take r
      exact ⟨k + 1, by rw [hk]; rfl⟩
theorem spG_upto : ∀ (ls : List (List UInt8)) (a : Nat), spG a ls = a + (upto ls).flatten.length
  | [], a => rfl
  | x :: r, a => by
    unfold spG upto
    split
    · simp
    · rw [spG_upto r (a + x.length), List.flatten_cons, List.length_append]
      omega
theorem fdG_upto : ∀ (ls : List (List UInt8)) (a : Nat) (out : List Fd) (o : Bool), fdG a (upto ls) out o = fdG a ls out o
  | [], a, out, o => rfl
  | x :: r, a, out, o => by
    unfold upto
    by_cases he : emptyB x = true
    · have e1 : ∀ z, fdG a (x :: z) out o = out := fun z => by rw [fdG, if_pos he]
      rw [if_pos he, e1, e1]
    · rw [if_neg he, fdG, if_neg he]
      conv => rhs; rw [fdG, if_neg he]
      by_cases hb : bl (x.headD 0) = true
      · rw [if_pos hb, if_pos hb]
        exact fdG_upto r _ _ _
      · rw [if_neg hb, if_neg hb]
        cases nameL x with
        | none => exact fdG_upto r _ _ _
        | some v => obtain ⟨m, k⟩ := v; exact fdG_upto r _ _ _
theorem take_split (l : List UInt8) : l.take (splitL l) = (upto (cutL l)).flatten ∧ splitL l ≤ l.length := by
  obtain ⟨k, hk⟩ := upto_take (cutL l)
  have h1 : splitL l = ((cutL l).take k).flatten.length := by unfold splitL; rw [spG_upto, hk]; omega
  have h2 : ((cutL l).take k).flatten ++ ((cutL l).drop k).flatten = l := by rw [← List.flatten_append, List.take_append_drop, cutL_flat]
  refine ⟨?_, ?_⟩
  · rw [hk]
    obtain ⟨n, hn⟩ : ∃ n, splitL l = n := ⟨_, rfl⟩
    rw [hn]
    have h3 : l.take n = (((cutL l).take k).flatten ++ ((cutL l).drop k).flatten).take n := by rw [h2]
    rw [h3, List.take_left' (by rw [← hn, h1])]
  · rw [h1]
    have := congrArg List.length h2
    rw [List.length_append] at this
    omega
theorem split_le (l : List UInt8) : splitL l ≤ l.length := (take_split l).2
theorem cut_head (l : List UInt8) : cutL (l.take (splitL l)) = upto (cutL l) := by
  rw [(take_split l).1]
  obtain ⟨k, hk⟩ := upto_take (cutL l)
  rw [hk]
  exact cutL_of_lns _ (lns_take _ k (lns_cutL l))
/-- The fields of a letter are its header's. -/
theorem fields_head (l : List UInt8) : fieldsL (l.take (splitL l)) = fieldsL l := by
  unfold fieldsL
  rw [cut_head, fdG_upto]
end Go.Proofs.YtonjadmldgloaaaGreatDoor.D17
