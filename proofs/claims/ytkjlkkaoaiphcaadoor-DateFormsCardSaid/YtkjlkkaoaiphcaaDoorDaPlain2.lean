/-
  The words of a text; what one rune takes: plain. A part of the proof: see the head of the text that ends in 'Law'.
-/
import Derived.Test.YtkjlkkaoaiphcaaDoorLib2
import Derived.Shelf.Unicode.DecodeAny
namespace Go.Proofs.YtkjlkkaoaiphcaaDoor
set_option linter.unusedVariables false

def blankB (x : UInt8) : Bool := decide (x.toNat = 32 ∨ x.toNat = 9)
/-- From a place to another one. -/
def cutL (l : List UInt8) (s k : Nat) : List UInt8 := (l.drop s).take (k - s)
/-- The words that are at their end ahead of a place, and where the one that goes on begins. -/
def stF (l : List UInt8) : Nat → List (List UInt8) × Option Nat
  | 0 => ([], none)
  | k + 1 => if blankB (l.getD k 0) = true then (match (stF l k).2 with | some s => ((stF l k).1 ++ [cutL l s k], none) | none => ((stF l k).1, none)) else ((stF l k).1, some ((stF l k).2.getD k))
/-- The words. -/
def wordsL (l : List UInt8) : List (List UInt8) := (stF l l.length).1 ++ (match (stF l l.length).2 with | some s => [l.drop s] | none => [])
theorem stF_none {l : List UInt8} {k : Nat} {ws : List (List UInt8)} (h : stF l k = (ws, none)) (hb : blankB (l.getD k 0) = true) : stF l (k + 1) = (ws, none) := by
  rw [stF, if_pos hb, h]
theorem stF_end {l : List UInt8} {k s : Nat} {ws : List (List UInt8)} (h : stF l k = (ws, some s)) (hb : blankB (l.getD k 0) = true) : stF l (k + 1) = (ws ++ [cutL l s k], none) := by
  rw [stF, if_pos hb, h]
theorem stF_on {l : List UInt8} {k : Nat} {ws : List (List UInt8)} {c : Option Nat} (h : stF l k = (ws, c)) (hb : blankB (l.getD k 0) = false) : stF l (k + 1) = (ws, some (c.getD k)) := by
  rw [stF, if_neg (by rw [hb]; decide), h]
theorem stF_run {l : List UInt8} {k : Nat} {ws : List (List UInt8)} {c : Option Nat} (h : stF l k = (ws, c)) : ∀ n, 1 ≤ n → (∀ j, j < n → blankB (l.getD (k + j) 0) = false) → stF l (k + n) = (ws, some (c.getD k)) := by
  intro n
  induction n with
  | zero => intro h1; omega
  | succ n ih =>
    intro _ hb
    by_cases hn : n = 0
    · subst hn
      exact stF_on h (by have := hb 0 (by omega); simpa using this)
    · have h1 := ih (by omega) (fun j hj => hb j (by omega))
      have := stF_on h1 (hb n (by omega))
      rw [show k + (n + 1) = k + n + 1 by omega, this]
      rfl
theorem stF_lt (l : List UInt8) : ∀ k s, (stF l k).2 = some s → s < k := by
  intro k
  induction k with
  | zero => intro s h; simp [stF] at h
  | succ k ih =>
    intro s h
    rw [stF] at h
    split at h
    · split at h <;> simp at h
    · simp only [Option.some.injEq] at h
      cases hc : (stF l k).2 with
      | none => rw [hc] at h; simp at h; omega
      | some t => rw [hc] at h; simp at h; have := ih t hc; omega
theorem stF_mono (l : List UInt8) (k : Nat) : (stF l k).1 <+: (stF l (k + 1)).1 := by
  rw [stF]
  split
  · split
    · exact List.prefix_append _ _
    · exact List.prefix_rfl
  · exact List.prefix_rfl
theorem stF_up (l : List UInt8) (k : Nat) : ∀ n, (stF l k).1 <+: (stF l (k + n)).1 := by
  intro n
  induction n with
  | zero => exact List.prefix_rfl
  | succ n ih => exact ih.trans (stF_mono l (k + n))
theorem stF_pre (l : List UInt8) {k : Nat} (hk : k ≤ l.length) : (stF l k).1 <+: wordsL l := by
  have h := stF_up l k (l.length - k)
  rw [show k + (l.length - k) = l.length by omega] at h
  exact h.trans (List.prefix_append _ _)
theorem stF_words (l : List UInt8) : ∀ k, k ≤ l.length → ∀ x ∈ (stF l k).1, x.length ≤ l.length ∧ x ≠ [] := by
  intro k
  induction k with
  | zero => intro _ x hx; simp [stF] at hx
  | succ k ih =>
    intro hk x hx
    have h0 := ih (by omega)
    rw [stF] at hx
    split at hx
    · split at hx
      · rename_i s hs
        rcases List.mem_append.1 hx with hx | hx
        · exact h0 x hx
        · rw [List.mem_singleton] at hx
          subst hx
          have h1 := stF_lt l k s hs
          unfold cutL
          constructor
          · rw [List.length_take, List.length_drop]; omega
          · intro he
            have := congrArg List.length he
            rw [List.length_take, List.length_drop] at this
            simp at this
            omega
      · exact h0 x hx
    · exact h0 x hx
theorem words_all (l : List UInt8) : ∀ x ∈ wordsL l, x.length ≤ l.length ∧ x ≠ [] := by
  intro x hx
  unfold wordsL at hx
  rcases List.mem_append.1 hx with hx | hx
  · exact stF_words l l.length (Nat.le_refl _) x hx
  · cases hc : (stF l l.length).2 with
    | none => rw [hc] at hx; cases hx
    | some s =>
      rw [hc] at hx
      rw [List.mem_singleton] at hx
      subst hx
      have := stF_lt l l.length s hc
      constructor
      · rw [List.length_drop]; omega
      · intro he
        have := congrArg List.length he
        rw [List.length_drop] at this
        simp at this
        omega
theorem stF_len (l : List UInt8) : ∀ k, (stF l k).1.length ≤ k := by
  intro k
  induction k with
  | zero => simp [stF]
  | succ k ih =>
    rw [stF]
    split
    · split
      · rw [List.length_append]; simp; omega
      · show (stF l k).1.length ≤ _
        omega
    · show (stF l k).1.length ≤ _
      omega
theorem words_len (l : List UInt8) : (wordsL l).length ≤ l.length + 1 := by
  unfold wordsL
  have := stF_len l l.length
  rw [List.length_append]
  split <;> simp <;> omega
theorem get_bang (l : List UInt8) (i : Nat) : (str l).get! i = l.getD i 0 := by
  show l.toArray[i]! = _
  rw [List.getD_eq_getElem?_getD]
  simp
  rfl
theorem rune_ascii (l : List UInt8) (k : Nat) (hk : k < l.length) (h : (l.getD k 0).toNat < 128) : Lib.decodeGo (str (l.drop k)) = ((l.getD k 0).toNat, 1) := by
  have h0 : ¬ (str (l.drop k)).size = 0 := by rw [str_size, List.length_drop]; omega
  unfold Lib.decodeGo
  rw [if_neg h0]
  unfold Utf8.decode
  have e : (str (l.drop k)).get! 0 = l.getD k 0 := by
    rw [get_bang, List.getD_eq_getElem?_getD, List.getElem?_drop, ← List.getD_eq_getElem?_getD]
    rfl
  simp only [Nat.add_zero, e]
  rw [if_pos h]
theorem rune_hi (l : List UInt8) (k : Nat) (hk : k < l.length) (h : ¬ (l.getD k 0).toNat < 128) : ∃ r sz, Lib.decodeGo (str (l.drop k)) = (r, sz) ∧ 128 ≤ r ∧ r < 2200000 ∧ 1 ≤ sz ∧ k + sz ≤ l.length ∧ ∀ j, j < sz → ¬ (l.getD (k + j) 0).toNat < 128 := by
  have h0 : ¬ (str (l.drop k)).size = 0 := by rw [str_size, List.length_drop]; omega
  unfold Lib.decodeGo
  rw [if_neg h0]
  unfold Utf8.decode
  have e : ∀ j, (str (l.drop k)).get! j = l.getD (k + j) 0 := fun j => by
    rw [get_bang, List.getD_eq_getElem?_getD, List.getElem?_drop, ← List.getD_eq_getElem?_getD]
  simp only [Nat.zero_add, e, str_size, List.length_drop, Nat.add_zero]
  have hb := (l.getD k 0).toNat_lt
  have b1 := (l.getD (k + 1) 0).toNat_lt
  have b2 := (l.getD (k + 2) 0).toNat_lt
  have b3 := (l.getD (k + 3) 0).toNat_lt
  have h1 : ∀ j, j < 1 → ¬ (l.getD (k + j) 0).toNat < 128 := by
    intro j hj
    obtain rfl : j = 0 := by omega
    exact h
  rw [if_neg h]
  have one : ∃ r sz, ((Utf8.runeError, 1) : Nat × Nat) = (r, sz) ∧ 128 ≤ r ∧ r < 2200000 ∧ 1 ≤ sz ∧ k + sz ≤ l.length ∧ ∀ j, j < sz → ¬ (l.getD (k + j) 0).toNat < 128 := ⟨_, _, rfl, by decide, by decide, by omega, by omega, h1⟩
  split
  · rename_i hc
    simp only [Bool.and_eq_true, decide_eq_true_eq, beq_iff_eq] at hc
    split
    · rename_i hr
      refine ⟨_, _, rfl, hr, by omega, by omega, by omega, fun j hj => ?_⟩
      obtain rfl | rfl : j = 0 ∨ j = 1 := by omega
      · exact h
      · omega
    · exact one
  · split
    · rename_i hc
      simp only [Bool.and_eq_true, decide_eq_true_eq, beq_iff_eq] at hc
      split
      · rename_i hr
        simp only [Bool.and_eq_true, decide_eq_true_eq] at hr
        refine ⟨_, _, rfl, by omega, by omega, by omega, by omega, fun j hj => ?_⟩
        obtain rfl | rfl | rfl : j = 0 ∨ j = 1 ∨ j = 2 := by omega
        · exact h
        · omega
        · omega
      · exact one
    · split
      · rename_i hc
        simp only [Bool.and_eq_true, decide_eq_true_eq, beq_iff_eq] at hc
        split
        · rename_i hr
          simp only [Bool.and_eq_true, decide_eq_true_eq] at hr
          refine ⟨_, _, rfl, by omega, by omega, by omega, by omega, fun j hj => ?_⟩
          obtain rfl | rfl | rfl | rfl : j = 0 ∨ j = 1 ∨ j = 2 ∨ j = 3 := by omega
          · exact h
          · omega
          · omega
          · omega
        · exact one
      · exact one
end Go.Proofs.YtkjlkkaoaiphcaaDoor
