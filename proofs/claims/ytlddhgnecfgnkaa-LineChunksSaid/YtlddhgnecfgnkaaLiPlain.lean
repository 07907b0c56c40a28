/-
  What the program makes of octets, in plain Lean: tokens, a reader's state, what comes of an octet. A part of the proof: see the head of the text that ends in 'Law'.
-/
import Derived.Test.YtlddhgnecfgnkaaMem
namespace Go.Proofs.Ytlddhgnecfgnkaa
open Go.RowKit
set_option linter.unusedVariables false

/-- A piece; a token; what is told. -/
structure Pc where
  lit : Bool
  s : List UInt8
deriving DecidableEq
structure Tk where
  kind : Nat
  s : List UInt8
deriving DecidableEq
structure Inp where
  kind : Nat
  tag : List UInt8
  l : List Tk
deriving DecidableEq
/-- May an atom have an octet? -/
def signB (c : UInt8) : Bool := decide (32 < c.toNat) && decide (c.toNat < 127) && c.toNat != 40 && c.toNat != 41 && c.toNat != 34
/-- How many octets an atom has, within brackets or not; none: it has no end. -/
def atomL : Bool → List UInt8 → Option Nat
  | false, [] => some 0
  | true, [] => none
  | false, c :: r => if signB c = true then (atomL (c.toNat == 91) r).map (· + 1) else some 0
  | true, c :: r => if 32 ≤ c.toNat ∧ c.toNat < 127 then (atomL (c.toNat != 93) r).map (· + 1) else none
/-- What is quoted, behind the opening sign, and how many octets that takes; none: it is none. -/
def quoL : List UInt8 → Option (List UInt8 × Nat)
  | [] => none
  | c :: r =>
    if c.toNat = 34 then some ([], 1)
    else if c.toNat < 32 ∨ c.toNat = 127 then none
    else if c.toNat = 92 then
      match r with
      | [] => none
      | d :: r' => if d.toNat = 34 ∨ d.toNat = 92 then (quoL r').map (fun p => (d :: p.1, p.2 + 2)) else none
    else (quoL r).map (fun p => (c :: p.1, p.2 + 1))
/-- The token that stands next, and how many octets it takes. -/
def nextL : List UInt8 → Option (Tk × Nat)
  | [] => none
  | c :: r =>
    if c.toNat = 34 then (quoL r).map (fun p => (⟨1, p.1⟩, p.2 + 1))
    else if c.toNat = 40 then some (⟨2, [40]⟩, 1)
    else if c.toNat = 41 then some (⟨3, [41]⟩, 1)
    else match atomL false (c :: r) with
      | none => none
      | some 0 => none
      | some (n + 1) => some (⟨0, (c :: r).take (n + 1)⟩, n + 1)
/-- Does a token fit behind the others, and so many spaces? -/
def fitL (out : List Tk) (sp : Nat) (t : Tk) : Bool := sp == (if out = [] ∨ (∃ x, out.getLast? = some x ∧ x.kind = 2) ∨ t.kind = 3 then 0 else 1)
/-- The tokens of octets, behind others and so many spaces. -/
def tokP : Nat → List UInt8 → List Tk → Nat → Option (List Tk × Nat)
  | _, [], out, sp => some (out, sp)
  | 0, _ :: _, _, _ => none
  | n + 1, c :: r, out, sp =>
    if c.toNat = 32 then tokP n r out (sp + 1)
    else match nextL (c :: r) with
      | none => none
      | some (t, k) => if fitL out sp t = true then tokP n ((c :: r).drop k) (out ++ [t]) 0 else none
/-- .. of pieces. -/
def tokL : List Pc → List Tk → Nat → Option (List Tk × Nat)
  | [], out, sp => some (out, sp)
  | p :: ps, out, sp =>
    if p.lit = true then (if fitL out sp ⟨1, p.s⟩ = true then tokL ps (out ++ [⟨1, p.s⟩]) 0 else none)
    else match tokP p.s.length p.s out sp with
      | none => none
      | some (o, q) => tokL ps o q
def tokensL (ps : List Pc) : Option (List Tk) := match tokL ps [] 0 with
  | none => none
  | some (o, sp) => if sp = 0 then some o else none
/-- How much pieces may hold. -/
def szP (ps : List Pc) : Nat := (ps.map (fun p => p.s.length + 1)).sum
theorem szP_take (ps : List Pc) (i : Nat) (h : i < ps.length) : szP (ps.take (i + 1)) = szP (ps.take i) + ((ps[i]'h).s.length + 1) := by
  unfold szP
  rw [List.take_succ_eq_append_getElem h, List.map_append, List.sum_append]
  simp only [List.map_cons, List.map_nil, List.sum_cons, List.sum_nil, Nat.add_zero]
theorem szP_le (ps : List Pc) (i : Nat) : szP (ps.take i) ≤ szP ps := by
  have e : szP (ps.take i ++ ps.drop i) = szP (ps.take i) + szP (ps.drop i) := by
    unfold szP
    rw [List.map_append, List.sum_append]
  rw [List.take_append_drop] at e
  omega
theorem quoL_le : ∀ (n : Nat) (l : List UInt8), l.length ≤ n → ∀ x k, quoL l = some (x, k) → 1 ≤ k ∧ k ≤ l.length := by
  intro n
  induction n with
  | zero =>
    intro l hl x k h
    have e := List.eq_nil_of_length_eq_zero (show l.length = 0 by omega)
    subst e
    simp [quoL] at h
  | succ n ih =>
    intro l hl x k h
    cases l with
    | nil => simp [quoL] at h
    | cons c r =>
      have hr : r.length ≤ n := by simpa using hl
      rw [quoL.eq_def] at h
      dsimp only at h
      split at h
      · injection h with h
        injection h with _ h
        subst h
        simp
      · split at h
        · cases h
        · split at h
          · split at h
            · cases h
            · rename_i d r'
              split at h
              · obtain ⟨q, hq, e⟩ := Option.map_eq_some_iff.1 h
                injection e with _ e
                have := ih r' (by simp at hr; omega) q.1 q.2 hq
                simp
                omega
              · cases h
          · obtain ⟨q, hq, e⟩ := Option.map_eq_some_iff.1 h
            injection e with _ e
            have := ih r hr q.1 q.2 hq
            simp
            omega
theorem atomL_len : ∀ (l : List UInt8) (b : Bool) (n : Nat), atomL b l = some n → n ≤ l.length
  | [], false, n, h => by simp [atomL] at h; omega
  | [], true, n, h => by simp [atomL] at h
  | c :: r, false, n, h => by
    unfold atomL at h
    split at h
    · obtain ⟨m, hm, rfl⟩ := Option.map_eq_some_iff.1 h
      have := atomL_len r _ m hm
      simp; omega
    · injection h with h; omega
  | c :: r, true, n, h => by
    unfold atomL at h
    split at h
    · obtain ⟨m, hm, rfl⟩ := Option.map_eq_some_iff.1 h
      have := atomL_len r _ m hm
      simp; omega
    · cases h
theorem nextL_le (l : List UInt8) (t : Tk) (k : Nat) (h : nextL l = some (t, k)) : 1 ≤ k ∧ k ≤ l.length := by
  cases l with
  | nil => simp [nextL] at h
  | cons c r =>
    unfold nextL at h
    dsimp only at h
    split at h
    · obtain ⟨q, hq, e⟩ := Option.map_eq_some_iff.1 h
      injection e with _ e
      have := quoL_le _ r (Nat.le_refl _) q.1 q.2 hq
      simp
      omega
    · split at h
      · injection h with h
        injection h with _ h
        subst h
        simp
      · split at h
        · injection h with h
          injection h with _ h
          subst h
          simp
        · split at h
          · cases h
          · cases h
          · rename_i n hn
            injection h with h
            injection h with _ h
            have := atomL_len _ _ _ hn
            omega
end Go.Proofs.Ytlddhgnecfgnkaa
