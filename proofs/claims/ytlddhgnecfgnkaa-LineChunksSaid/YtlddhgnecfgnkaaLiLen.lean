/-
  How many tokens what is told may have: in plain Lean. A part of the proof: see the head of the text that ends in 'Law'.
-/
import Derived.Test.YtlddhgnecfgnkaaLi12
namespace Go.Proofs.Ytlddhgnecfgnkaa
open Go.RowKit
set_option linter.unusedVariables false

theorem tokP_len : ∀ (n : Nat) (l : List UInt8) (out : List Tk) (sp : Nat) (o : List Tk) (q : Nat), tokP n l out sp = some (o, q) → o.length ≤ out.length + l.length
  | n, [], out, sp, o, q, h => by
    have : tokP n [] out sp = some (out, sp) := by cases n <;> rfl
    rw [this] at h
    injection h with h
    injection h with h1 h2
    rw [← h1]
    simp
  | 0, c :: r, out, sp, o, q, h => by
    rw [tokP] at h
    cases h
  | n + 1, c :: r, out, sp, o, q, h => by
    rw [tokP] at h
    split at h
    · have := tokP_len n r out (sp + 1) o q h
      simp
      omega
    · split at h
      · cases h
      · rename_i t k hk
        split at h
        · have h1 := tokP_len n _ _ 0 o q h
          have h2 := nextL_le _ _ _ hk
          rw [List.length_append, List.length_drop, List.length_singleton] at h1
          omega
        · cases h
theorem tokL_len : ∀ (ps : List Pc) (out : List Tk) (sp : Nat) (o : List Tk) (q : Nat), tokL ps out sp = some (o, q) → o.length ≤ out.length + szP ps
  | [], out, sp, o, q, h => by
    rw [tokL] at h
    injection h with h
    injection h with h1 h2
    rw [← h1]
    omega
  | p :: ps, out, sp, o, q, h => by
    have e : szP (p :: ps) = (p.s.length + 1) + szP ps := by simp [szP]
    rw [e]
    rw [tokL] at h
    split at h
    · split at h
      · have := tokL_len ps _ 0 o q h
        simp at this
        omega
      · cases h
    · split at h
      · cases h
      · rename_i o1 q1 h1
        have := tokL_len ps _ _ o q h
        have := tokP_len _ _ _ _ _ _ h1
        omega
theorem tokensL_len (ps : List Pc) (o : List Tk) (h : tokensL ps = some o) : o.length ≤ szP ps := by
  unfold tokensL at h
  split at h
  · cases h
  · rename_i o1 sp h1
    split at h
    · injection h with h
      rw [← h]
      have := tokL_len _ _ _ _ _ h1
      simpa using this
    · cases h
theorem endL_len (ps : List Pc) (kind : Nat) (h : szP ps ≤ 50000) : ∀ x ∈ endL ps kind, x.l.length ≤ 100000 := by
  intro x hx
  unfold endL at hx
  split at hx
  · rw [List.mem_singleton] at hx
    rw [hx]
    unfold endX
    split
    · split
      · rename_i l hl
        have := tokensL_len _ _ hl
        show l.length ≤ _
        omega
      · simp
    · simp
  · cases hx
theorem step_toks (R : Rdr) (c : UInt8) (h : Rok R) : ∀ x ∈ (stepR R c).2, x.l.length ≤ 100000 := by
  have hs := lineS_le R
  have hh := h.hv
  have hm : ∀ s : List UInt8, s.length ≤ 5000 → szP (R.ps ++ [⟨false, s⟩]) ≤ 50000 := fun s hs => (h.more ⟨false, s⟩ hs).1
  intro x hx
  unfold stepR at hx
  split at hx
  · cases hx
  · split at hx
    · unfold lineR at hx
      split at hx
      · exact endL_len _ _ (hm _ (by omega)) x hx
      · split at hx
        · exact endL_len _ _ (hm _ (by omega)) x hx
        · split at hx
          · exact endL_len _ _ (hm _ (by simp; omega)) x hx
          · rw [List.mem_singleton] at hx
            rw [hx]
            simp
    · split at hx
      · cases hx
      · cases hx
theorem feed_toks : ∀ (l : List UInt8) (R : Rdr), Rok R → ∀ x ∈ (feedR R l).2, x.l.length ≤ 100000
  | [], R, h, x, hx => by cases hx
  | c :: l, R, h, x, hx => by
    rw [feedR] at hx
    rcases List.mem_append.1 hx with h1 | h1
    · exact step_toks R c h x h1
    · exact feed_toks l _ (step_ok R c h) x h1
end Go.Proofs.Ytlddhgnecfgnkaa
