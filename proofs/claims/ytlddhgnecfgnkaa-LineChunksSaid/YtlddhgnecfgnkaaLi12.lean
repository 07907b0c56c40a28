/-
  A reader: what it is in memory, and what comes of an octet. A part of the proof: see the head of the text that ends in 'Law'.
-/
import Derived.Test.YtlddhgnecfgnkaaLi11
namespace Go.Proofs.Ytlddhgnecfgnkaa
open Go.RowKit
set_option linter.unusedVariables false
attribute [local go_sem] Oper.semAt_some

structure Rdr where
  ps : List Pc
  hv : List UInt8
  over : Bool
  size : Nat
  lits : Nat
  wait : Nat
def nilR : Rdr := ⟨[], [], false, 0, 0, 0⟩
/-- What a command's end tells. -/
def endX (ps : List Pc) (kind : Nat) : Inp := if kind = 0 then (match tokensL ps with | some l => ⟨0, tagL ps, l⟩ | none => ⟨2, tagL ps, []⟩) else ⟨kind, tagL ps, []⟩
def endL (ps : List Pc) (kind : Nat) : List Inp := if ps.any pcSome = true then [endX ps kind] else []
/-- A line, without the sign at its end. -/
def lineS (R : Rdr) : List UInt8 := if R.over = true then R.hv else Lib.trimSuffix R.hv [13]
def lineR (R : Rdr) : Rdr × List Inp :=
  if R.over = true ∨ 600 < R.size + (lineS R).length then (nilR, endL (R.ps ++ [⟨false, lineS R⟩]) 3)
  else match annL (lineS R) with
    | none => (nilR, endL (R.ps ++ [⟨false, lineS R⟩]) 0)
    | some (n, i) =>
      if 4000 < n ∨ R.lits = 4 then (nilR, endL (R.ps ++ [⟨false, (lineS R).take i⟩]) 3)
      else (⟨(R.ps ++ [⟨false, (lineS R).take i⟩]) ++ (if n = 0 then [⟨true, []⟩] else []), [], false, R.size + (lineS R).length, R.lits + 1, n⟩, [⟨1, [], []⟩])
def litR (R : Rdr) (c : UInt8) : Rdr := if R.wait = 1 then { R with hv := [], wait := 0, ps := R.ps ++ [⟨true, R.hv ++ [c]⟩] } else { R with hv := R.hv ++ [c], wait := R.wait - 1 }
def stepR (R : Rdr) (c : UInt8) : Rdr × List Inp :=
  if 0 < R.wait then (litR R c, []) else if c.toNat = 10 then lineR R else if 601 < R.hv.length then ({ R with over := true }, []) else ({ R with hv := R.hv ++ [c] }, [])
/-- What comes of octets. -/
def feedR : Rdr → List UInt8 → Rdr × List Inp
  | R, [] => (R, [])
  | R, c :: l => ((feedR (stepR R c).1 l).1, (stepR R c).2 ++ (feedR (stepR R c).1 l).2)
theorem feedR_append (a b : List UInt8) : ∀ R, feedR R (a ++ b) = ((feedR (feedR R a).1 b).1, (feedR R a).2 ++ (feedR (feedR R a).1 b).2) := by
  induction a with
  | nil => intro R; simp [feedR]
  | cons c a ih => intro R; simp [feedR, ih]
theorem feedR_snoc (R : Rdr) (a : List UInt8) (c : UInt8) : feedR R (a ++ [c]) = ((stepR (feedR R a).1 c).1, (feedR R a).2 ++ (stepR (feedR R a).1 c).2) := by
  rw [feedR_append]
  simp [feedR]
/-- No number in a reader is great. -/
structure Rok (R : Rdr) : Prop where
  size : R.size ≤ 600
  lits : R.lits ≤ 4
  wait : R.wait ≤ 4000
  n : R.ps.length + (if 0 < R.wait then 1 else 0) ≤ 2 * R.lits
  each : ∀ p ∈ R.ps, p.s.length ≤ 5000
  lit : 0 < R.wait → R.hv.length + R.wait ≤ 4000
  line : R.wait = 0 → R.hv.length ≤ 602
theorem Rok.hv {R : Rdr} (h : Rok R) : R.hv.length ≤ 4000 := by
  have h1 := h.lit
  have h2 := h.line
  omega
theorem szP_of (ps : List Pc) (h : ∀ p ∈ ps, p.s.length ≤ 5000) : szP ps ≤ ps.length * 5001 := by
  unfold szP
  induction ps with
  | nil => simp
  | cons p ps ih =>
    have h1 := h p (by simp)
    have h2 := ih (fun q hq => h q (by simp [hq]))
    rw [List.map_cons, List.sum_cons, List.length_cons, Nat.succ_mul]
    omega
theorem nilR_ok : Rok nilR := ⟨by decide, by decide, by decide, by decide, (fun p hp => by cases hp), by decide, by decide⟩
theorem trim_le (l : List UInt8) : (Lib.trimSuffix l [13]).length ≤ l.length := by
  unfold Lib.trimSuffix
  split
  · simp
  · exact Nat.le_refl _
theorem lineS_le (R : Rdr) : (lineS R).length ≤ R.hv.length := by
  unfold lineS
  split
  · exact Nat.le_refl _
  · exact trim_le _
theorem Rok.more {R : Rdr} (h : Rok R) (p : Pc) (hp : p.s.length ≤ 5000) : szP (R.ps ++ [p]) ≤ 50000 ∧ (R.ps ++ [p]).length ≤ 100 := by
  have h1 := h.n
  have h2 := h.lits
  have h3 := szP_of (R.ps ++ [p]) (fun q hq => by
    rcases List.mem_append.1 hq with h4 | h4
    · exact h.each q h4
    · rw [List.mem_singleton] at h4; rw [h4]; exact hp)
  rw [List.length_append, List.length_singleton] at h3 ⊢
  have h4 : (R.ps.length + 1) * 5001 ≤ 9 * 5001 := Nat.mul_le_mul_right _ (by omega)
  omega
theorem step_ok (R : Rdr) (c : UInt8) (h : Rok R) : Rok (stepR R c).1 := by
  have hs := lineS_le R
  have hh := h.hv
  unfold stepR
  split
  · rename_i hw
    have h1 := h.lit hw
    have h2 := h.n
    rw [if_pos hw] at h2
    have h3 := h.wait
    unfold litR
    dsimp only
    split
    · refine ⟨h.size, h.lits, by simp, by simp; omega, fun p hp => ?_, by simp, by simp⟩
      rcases List.mem_append.1 hp with h4 | h4
      · exact h.each p h4
      · rw [List.mem_singleton] at h4; rw [h4]; simp; omega
    · exact ⟨h.size, h.lits, by show R.wait - 1 ≤ 4000; omega, by show R.ps.length + (if 0 < R.wait - 1 then 1 else 0) ≤ _; split <;> omega, h.each, by show 0 < R.wait - 1 → (R.hv ++ [c]).length + (R.wait - 1) ≤ 4000; simp; omega, by show R.wait - 1 = 0 → _; intro; omega⟩
  · rename_i hw
    have h0 : R.wait = 0 := by omega
    have h1 := h.line h0
    split
    · unfold lineR
      split
      · exact nilR_ok
      · rename_i hov
        split
        · exact nilR_ok
        · rename_i n i hann
          split
          · exact nilR_ok
          · rename_i hbig
            have h2 := h.n
            have h3 := h.lits
            refine ⟨by show R.size + (lineS R).length ≤ 600; omega, by show R.lits + 1 ≤ 4; omega, by show n ≤ 4000; omega, ?_, fun p hp => ?_, by intro _; show 0 + n ≤ 4000; omega, by intro _; simp⟩
            · show (R.ps ++ [(⟨false, (lineS R).take i⟩ : Pc)] ++ (if n = 0 then [(⟨true, []⟩ : Pc)] else [])).length + (if 0 < n then 1 else 0) ≤ 2 * (R.lits + 1)
              split <;> split <;> simp <;> omega
            · rcases List.mem_append.1 hp with h4 | h4
              · rcases List.mem_append.1 h4 with h5 | h5
                · exact h.each p h5
                · rw [List.mem_singleton] at h5; rw [h5]; simp; omega
              · split at h4
                · rw [List.mem_singleton] at h4; rw [h4]; simp
                · cases h4
    · split
      · exact ⟨h.size, h.lits, h.wait, h.n, h.each, h.lit, h.line⟩
      · exact ⟨h.size, h.lits, h.wait, h.n, h.each, by intro h5; exact absurd h5 hw, by intro _; simp; omega⟩
theorem feed_ok : ∀ (l : List UInt8) (R : Rdr), Rok R → Rok (feedR R l).1
  | [], R, h => h
  | c :: l, R, h => feed_ok l _ (step_ok R c h)
/-- A reader at r in W. -/
structure RdAt (W : World) (b0 r : Nat) (VP VH : Value) (R : Rdr) : Prop where
  r0 : b0 ≤ r
  cells : OwnE W r 48 [VP, VH, .bool R.over, .int .i64 (R.size : Int), .int .i64 (R.lits : Int), .int .i64 (R.wait : Int)]
  ps : W.ownsRow b0 40 2 VP R.ps.length (R.ps.flatMap pcC)
  hv : W.ownsRow b0 5 1 VH R.hv.length (R.hv.map B8)
def RM (r : Nat) (VP VH : Value) (g : Nat) : Prop := g = r ∨ VP.ownBlock = some g ∨ VH.ownBlock = some g
theorem RdAt.below {W W' : World} {b0 r : Nat} {VP VH : Value} {R : Rdr} (h : RdAt W b0 r VP VH R) (hb : Below W.heap.size W W') : RdAt W' b0 r VP VH R := ⟨h.r0, h.cells.below hb, own_below h.ps hb, own_below h.hv hb⟩
theorem RdAt.only {W W' : World} {b0 r : Nat} {VP VH : Value} {R : Rdr} (h : RdAt W b0 r VP VH R) {T : Nat → Prop} (hO : Only T W W') (hT : ∀ g, T g → ¬ RM r VP VH g) : RdAt W' b0 r VP VH R :=
  ⟨h.r0, h.cells.only hO (fun t => hT _ t (.inl rfl)), own_only h.ps hO (fun g hg t => hT g t (.inr (.inl hg))), own_only h.hv hO (fun g hg t => hT g t (.inr (.inr hg)))⟩
theorem RdAt.mine {W : World} {b0 r : Nat} {VP VH : Value} {R : Rdr} (h : RdAt W b0 r VP VH R) (g : Nat) (hg : RM r VP VH g) : b0 ≤ g ∧ g < W.heap.size := by
  rcases hg with rfl | hg | hg
  · exact ⟨h.r0, h.cells.lt⟩
  · exact own_lt h.ps g hg
  · exact own_lt h.hv g hg
theorem RdAt.nr {W : World} {b0 r : Nat} {VP VH : Value} {R : Rdr} (h : RdAt W b0 r VP VH R) : VP.ownBlock ≠ some r ∧ VH.ownBlock ≠ some r := ⟨h.cells.row_ne h.ps (by decide), h.cells.row_ne h.hv (by decide)⟩
theorem RdAt.pcs {W : World} {b0 r : Nat} {A : Option Addr} {n c : Nat} {VH : Value} {R : Rdr} (h : RdAt W b0 r (.slice A n c) VH R) (hn : R.ps.length = n) : PcIn W A n R.ps := ⟨hn, by have := h.ps; rw [hn] at this; exact Row.of_own this⟩
/-- What is told, as cells. -/
inductive InsC (W : World) (b0 : Nat) : List Value → List Inp → Prop
  | nil : InsC W b0 [] []
  | cons (A : Option Addr) (c : Nat) (x : Inp) (vs : List Value) (xs : List Inp) : W.ownsRow b0 34 2 (.slice A x.l.length c) x.l.length (x.l.flatMap tkC) → InsC W b0 vs xs → InsC W b0 (.int .i64 (x.kind : Int) :: .string (str x.tag) :: .slice A x.l.length c :: vs) (x :: xs)
theorem InsC.append {W : World} {b0 : Nat} {vs us : List Value} {xs ys : List Inp} (h : InsC W b0 vs xs) (k : InsC W b0 us ys) : InsC W b0 (vs ++ us) (xs ++ ys) := by
  induction h with
  | nil => exact k
  | cons A c x vs xs h1 h2 ih => exact .cons A c x _ _ h1 ih
theorem InsC.len {W : World} {b0 : Nat} {vs : List Value} {xs : List Inp} (h : InsC W b0 vs xs) : vs.length = xs.length * 3 := by
  induction h with
  | nil => rfl
  | cons A c x vs xs h1 h2 ih => simp [ih]; omega
theorem InsC.one {W : World} {b0 : Nat} {vs : List Value} {xs : List Inp} (h : InsC W b0 vs xs) : ∀ u ∈ vs, u.oneCell' = true := by
  induction h with
  | nil => intro u hu; cases hu
  | cons A c x vs xs h1 h2 ih =>
    intro u hu
    simp only [List.mem_cons] at hu
    rcases hu with rfl | rfl | rfl | hu
    · rfl
    · rfl
    · rfl
    · exact ih u hu
theorem InsC.keep {W W' : World} {b0 b1 : Nat} {vs : List Value} {xs : List Inp} (h : InsC W b0 vs xs) (hk : ∀ v n ys, W.ownsRow b0 34 2 v n ys → W'.ownsRow b1 34 2 v n ys) : InsC W' b1 vs xs := by
  induction h with
  | nil => exact .nil
  | cons A c x vs xs h1 h2 ih => exact .cons A c x _ _ (hk _ _ _ h1) ih
theorem InsC.past {W W' : World} {b0 : Nat} {vs : List Value} {xs : List Inp} (h : InsC W b0 vs xs) (hb : Below W.heap.size W W') : InsC W' b0 vs xs := h.keep (fun _ _ _ k => own_below k hb)
theorem InsC.low {W : World} {b0 b1 : Nat} {vs : List Value} {xs : List Inp} (h : InsC W b0 vs xs) (hb : b1 ≤ b0) : InsC W b1 vs xs := h.keep (fun _ _ _ k => own_low k hb)
end Go.Proofs.Ytlddhgnecfgnkaa
