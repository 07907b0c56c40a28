/-
  The program's addresses are the document's. A part of the proof: see the head of the text that ends in 'Law'.
-/
import Derived.Test.YtdanhdiinkgjnaaDoorAd15
namespace Go.Proofs.YtdanhdiinkgjnaaDoor
open Go.RowKit
set_option linter.unusedVariables false

theorem fdL_shift (z : Nat) : ∀ (P : List (UInt8 × Nat)) (i : Nat), fdL z i P = (fdL z 0 P).map (· + i)
  | [], i => rfl
  | (c, u) :: P, i => by
    unfold fdL
    split
    · simp
    · rw [fdL_shift z P (i + 1), fdL_shift z P (0 + 1), Option.map_map]
      congr 1
      funext x
      simp
      omega
theorem sgs_cons3 (m : Mk) (M : List Mk) (h : m.u = 3) : sgs (m :: M) = sgs M := by unfold sgs; rw [List.filter_cons_of_neg (by simp [h])]
theorem sgs_cons (m : Mk) (M : List Mk) (h : m.u ≠ 3) : sgs (m :: M) = sgOf m :: sgs M := by unfold sgs; rw [List.filter_cons_of_pos (by simpa using h)]; rfl
theorem sgOf_plain (m : Mk) (h : m.u ≤ 3) (h3 : m.u ≠ 3) : (!(sgOf m).q && !(sgOf m).r) = (m.u == 0) := by
  simp only [sgOf]
  rcases (by omega : m.u = 0 ∨ m.u = 1 ∨ m.u = 2) with h | h | h <;> rw [h] <;> rfl
/-- The first plain sign of a kind stands at the same octet. -/
theorem fd_sgs (z : Nat) : ∀ (M : List Mk), (∀ m ∈ M, m.u ≤ 3) →
    (fdL z 0 (prs M) = none ∧ fdL z 0 (prS (sgs M)) = none) ∨ ∃ f f', fdL z 0 (prs M) = some f ∧ fdL z 0 (prS (sgs M)) = some f' ∧ (sgs M).take f' = sgs (M.take f) ∧ (sgs M).drop (f' + 1) = sgs (M.drop (f + 1))
  | [], _ => .inl ⟨rfl, rfl⟩
  | m :: M, h => by
    have hm := h m List.mem_cons_self
    have hl : ∀ x ∈ M, x.u ≤ 3 := fun x hx => h x (List.mem_cons_of_mem _ hx)
    have ih := fd_sgs z M hl
    have e1 : prs (m :: M) = (m.c, m.u) :: prs M := rfl
    rw [e1, fdL]
    by_cases h0 : m.u = 0 ∧ m.c.toNat = z
    · rw [if_pos h0]
      refine .inr ⟨0, 0, rfl, ?_, rfl, ?_⟩
      · rw [sgs_cons m M (by omega)]
        have e2 : prS (sgOf m :: sgs M) = ((sgOf m).c, if (!(sgOf m).q && !(sgOf m).r) = true then 0 else 1) :: prS (sgs M) := rfl
        rw [e2, fdL, sgOf_plain m hm (by omega), h0.1, if_pos ⟨rfl, h0.2⟩]
      · rw [sgs_cons m M (by omega)]; rfl
    · rw [if_neg h0, fdL_shift z (prs M) (0 + 1)]
      by_cases h3 : m.u = 3
      · rw [sgs_cons3 m M h3]
        rcases ih with ⟨a, b⟩ | ⟨f, f', a, b, c, d⟩
        · exact .inl ⟨by rw [a]; rfl, b⟩
        · refine .inr ⟨f + 1, f', by rw [a]; rfl, b, ?_, ?_⟩
          · rw [c, List.take_succ_cons, sgs_cons3 m _ h3]
          · rw [d, List.drop_succ_cons]
      · rw [sgs_cons m M h3]
        have e2 : prS (sgOf m :: sgs M) = ((sgOf m).c, if (!(sgOf m).q && !(sgOf m).r) = true then 0 else 1) :: prS (sgs M) := rfl
        have hne : ¬((if (!(sgOf m).q && !(sgOf m).r) = true then 0 else 1) = 0 ∧ (sgOf m).c.toNat = z) := fun x => by
          rw [sgOf_plain m hm h3] at x
          by_cases h0' : m.u = 0
          · exact h0 ⟨h0', x.2⟩
          · have : (m.u == 0) = false := by simpa using h0'
            rw [this] at x
            simp at x
        rw [e2, fdL, if_neg hne, fdL_shift z (prS (sgs M)) (0 + 1)]
        rcases ih with ⟨a, b⟩ | ⟨f, f', a, b, c, d⟩
        · exact .inl ⟨by rw [a]; rfl, by rw [b]; rfl⟩
        · refine .inr ⟨f + 1, f' + 1, by rw [a]; rfl, by rw [b]; rfl, ?_, ?_⟩
          · rw [List.take_succ_cons, List.take_succ_cons, sgs_cons m _ h3, c]
          · rw [List.drop_succ_cons, List.drop_succ_cons, d]
def gt0 (P : List (UInt8 × Nat)) : Nat := match fdL 62 0 P with
  | none => P.length
  | some g => g
theorem toL_gt0 (P : List (UInt8 × Nat)) (f : Nat) (h : fdL 60 0 P = some f) : toL P f - (f + 1) = gt0 (P.drop (f + 1)) := by
  have hf := fdL_lt _ _ _ _ h
  obtain ⟨x, h1, h2, h3⟩ := fdL_at _ _ _ _ h
  rw [Nat.sub_zero] at h1
  have hl : f < P.length := by omega
  have hx : P[f]'hl = x := by rw [List.getElem?_eq_getElem hl] at h1; exact Option.some.inj h1
  obtain ⟨c, u⟩ := x
  have e : fdL 62 f (P.drop f) = (fdL 62 0 (P.drop (f + 1))).map (· + (f + 1)) := by
    rw [List.drop_eq_getElem_cons hl, hx, fdL, if_neg (fun y => by dsimp only at h3 y; omega), fdL_shift]
  unfold toL gt0
  rw [e]
  cases fdL 62 0 (P.drop (f + 1)) with
  | none => simp
  | some g => simp
theorem prs_drop' (M : List Mk) (k : Nat) : (prs M).drop k = prs (M.drop k) := by unfold prs; rw [List.map_drop]
theorem prs_take' (M : List Mk) (k : Nat) : (prs M).take k = prs (M.take k) := by unfold prs; rw [List.map_take]
theorem prS_drop' (M : List Sg) (k : Nat) : (prS M).drop k = prS (M.drop k) := by unfold prS; rw [List.map_drop]
theorem prs_len' (M : List Mk) : (prs M).length = M.length := by unfold prs; rw [List.length_map]
/-- Up to the angle that shuts the same signs stand. -/
theorem gt_sgs (D : List Mk) (h : ∀ m ∈ D, m.u ≤ 3) : (sgs D).take (gt0 (prS (sgs D))) = sgs (D.take (gt0 (prs D))) := by
  rcases fd_sgs 62 D h with ⟨a, b⟩ | ⟨f, f', a, b, c, d⟩
  · unfold gt0
    rw [a, b]
    dsimp only
    rw [prS_len, prs_len', List.take_of_length_le (Nat.le_refl _), List.take_of_length_le (Nat.le_refl _)]
  · unfold gt0
    rw [a, b]
    exact c
theorem rem_fr : ∀ (l : List UInt8) (t : St) (i : Bool) (acc : List UInt8), StOk t → (t.u = 2 → i = true) → remR i acc (sgs (marks t l)) = frM acc (marks t l)
  | [], t, i, acc, _, _ => rfl
  | c :: l, t, i, acc, h, hi => by
    have hk := markS_ok t c h
    have ih := rem_fr l (markS t c).2
    have hu := h.u
    rw [marks]
    revert hk ih
    have key : ∀ (m : Mk) (t' : St), markS t c = (m, t') → StOk t' → (∀ (i : Bool) (acc : List UInt8), StOk t' → (t'.u = 2 → i = true) → remR i acc (sgs (marks t' l)) = frM acc (marks t' l)) →
        (m.u = 3 → m.o = false ∧ m.s = false ∧ (t'.u = 2 → t.u = 2)) → (m.u ≠ 3 → m.o = false → m.s = false → (m.u = 2 → t.u = 2) ∧ (t'.u = 2 → t.u = 2)) →
        remR i acc (sgs (m :: marks t' l)) = frM acc (m :: marks t' l) := by
      intro m t' hm hk ih h3 hn
      by_cases hu3 : m.u = 3
      · obtain ⟨a, b, d⟩ := h3 hu3
        rw [sgs_cons3 m _ hu3, frM, if_neg (by rw [a]; decide), if_neg (by rw [b]; decide), if_neg (by omega)]
        exact ih i acc hk (fun x => hi (d x))
      · rw [sgs_cons m _ hu3, remR, frM]
        have ho : (sgOf m).o = m.o := rfl
        have hs : (sgOf m).s = m.s := rfl
        rw [ho, hs]
        by_cases h1 : m.o = true
        · rw [if_pos h1, if_pos h1]
          exact ih true acc hk (fun _ => rfl)
        · rw [if_neg h1, if_neg h1]
          by_cases h2 : m.s = true
          · rw [if_pos h2, if_pos h2]
          · rw [if_neg h2, if_neg h2]
            obtain ⟨a, b⟩ := hn hu3 (by simpa using h1) (by simpa using h2)
            have e : (if i = true ∧ (sgOf m).r = true then acc ++ [(sgOf m).c] else acc) = if m.u = 2 then acc ++ [m.c] else acc := by
              by_cases h22 : m.u = 2
              · rw [if_pos ⟨hi (a h22), by simp [sgOf, h22]⟩, if_pos h22]; rfl
              · rw [if_neg (fun x => h22 (by simpa [sgOf] using x.2)), if_neg h22]
            rw [e]
            exact ih i _ hk (fun x => hi (b x))
    intro hk ih
    refine key _ _ rfl hk ih ?_ ?_
    · unfold markS
      split
      · intro h3; dsimp only at h3; omega
      split
      · exact fun _ => ⟨rfl, rfl, id⟩
      split
      · exact fun _ => ⟨rfl, rfl, fun x => by cases x⟩
      split
      · exact fun _ => ⟨rfl, rfl, fun x => by cases x⟩
      split
      · intro h3; cases h3
      split
      · intro h3; cases h3
      · intro h3; dsimp only at h3; omega
    · unfold markS
      split
      · exact fun _ _ _ => ⟨id, id⟩
      split
      · exact fun h3 => absurd rfl h3
      split
      · exact fun h3 => absurd rfl h3
      split
      · exact fun h3 => absurd rfl h3
      split
      · rename_i h40
        intro _ ho _
        have h0 : t.u ≠ 0 := by simpa using ho
        exact ⟨fun _ => by omega, fun _ => by omega⟩
      split
      · rename_i h41
        exact fun _ _ _ => ⟨fun _ => h41.1, fun _ => h41.1⟩
      · exact fun _ _ _ => ⟨id, id⟩
/-- A piece's address is the document's. -/
theorem one_eq (l : List UInt8) : oneR (sgs (marks st0 l)) = oneL l := by
  have hM := marks_u l st0 st0_ok
  have hsub : ∀ (D : List Mk), (∀ m ∈ D, m ∈ marks st0 l) → ∀ m ∈ D, m.u ≤ 3 := fun D h m hm => hM m (h m hm)
  unfold oneR oneL
  rcases fd_sgs 60 (marks st0 l) hM with ⟨a, b⟩ | ⟨f, f', a, b, c, d⟩
  · rw [a, b]
    dsimp only
    rw [rem_fr l st0 false [] st0_ok (fun h => by cases h), say_sgs _ false [] hM]
    rfl
  · rw [a, b]
    dsimp only
    rw [toL_gt0 _ _ a, toL_gt0 _ _ b, c, d, prS_drop', d, prs_take', prs_drop', prs_take']
    have h1 : ∀ m ∈ (marks st0 l).take f, m.u ≤ 3 := hsub _ (fun m hm => List.mem_of_mem_take hm)
    have h2 : ∀ m ∈ (marks st0 l).drop (f + 1), m.u ≤ 3 := hsub _ (fun m hm => List.mem_of_mem_drop hm)
    have h3 : ∀ m ∈ ((marks st0 l).drop (f + 1)).take (gt0 (prs ((marks st0 l).drop (f + 1)))), m.u ≤ 3 := fun m hm => h2 m (List.mem_of_mem_take hm)
    rw [gt_sgs _ h2, say_sgs _ false [] h1, say_sgs _ false [] h3]
    rfl
theorem list_eq (l : List UInt8) : listR (cutR false [] (signsL l)) = listL l := by
  rw [← piecesM_sg]
  unfold listR listL listP
  rw [← piecesM_c]
  congr 1
  rw [List.map_map, List.map_map]
  refine List.map_congr_left fun q hq => ?_
  have h := one_eq (q.map (·.c))
  rw [piecesM_marks l q hq] at h
  exact h
end Go.Proofs.YtdanhdiinkgjnaaDoor
