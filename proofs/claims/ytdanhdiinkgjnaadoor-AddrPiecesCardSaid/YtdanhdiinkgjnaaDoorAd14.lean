/-
  A text's addresses: the document's walk. A part of the proof: see the head of the text that ends in 'Law'.
-/
import Derived.Test.YtdanhdiinkgjnaaDoorAd13
namespace Go.Proofs.YtdanhdiinkgjnaaDoor
open Go.RowKit
set_option linter.unusedVariables false
attribute [local go_sem] Oper.semAt_some

def prS (xs : List Sg) : List (UInt8 × Nat) := xs.map fun x => (x.c, if (!x.q && !x.r) = true then 0 else 1)
theorem prS_len (xs : List Sg) : (prS xs).length = xs.length := by unfold prS; rw [List.length_map]
def oneR (xs : List Sg) : Ad := match fdL 60 0 (prS xs) with
  | none => adOf (trimB (remR false [] xs)) (sayR false [] xs)
  | some f => adOf (sayR false [] (xs.take f)) (sayR false [] ((xs.drop (f + 1)).take (toL (prS xs) f - (f + 1))))
def listR (ps : List (List Sg)) : List Ad := (ps.map oneR).filter fun a => decide (a ≠ nilA)
/-- What stands while angles are looked for. -/
def FtI (P : List (UInt8 × Nat)) (k : Nat) : Option Nat → Nat → Prop
  | none, tv => fdL 60 0 P = fdL 60 k (P.drop k) ∧ tv = P.length
  | some f, tv => fdL 60 0 P = some f ∧ f < k ∧ (tv = P.length ∧ fdL 62 f (P.drop f) = fdL 62 k (P.drop k) ∨ tv < P.length ∧ fdL 62 f (P.drop f) = some tv)
theorem fdL_skip (P : List (UInt8 × Nat)) (z k : Nat) (hk : k < P.length) (h : ¬((P[k]'hk).2 = 0 ∧ (P[k]'hk).1.toNat = z)) : fdL z k (P.drop k) = fdL z (k + 1) (P.drop (k + 1)) := by
  rw [List.drop_eq_getElem_cons hk]
  generalize P[k]'hk = y at h
  obtain ⟨c, u⟩ := y
  rw [fdL, if_neg h]
theorem fdL_hit (P : List (UInt8 × Nat)) (z k : Nat) (hk : k < P.length) (h : (P[k]'hk).2 = 0 ∧ (P[k]'hk).1.toNat = z) : fdL z k (P.drop k) = some k := by
  rw [List.drop_eq_getElem_cons hk]
  generalize P[k]'hk = y at h
  obtain ⟨c, u⟩ := y
  rw [fdL, if_pos h]
theorem FtI.other {P : List (UInt8 × Nat)} {k : Nat} {fo : Option Nat} {tv : Nat} (h : FtI P k fo tv) (hk : k < P.length) (h1 : fo = none → ¬((P[k]'hk).2 = 0 ∧ (P[k]'hk).1.toNat = 60)) (h2 : fo ≠ none → tv = P.length → ¬((P[k]'hk).2 = 0 ∧ (P[k]'hk).1.toNat = 62)) : FtI P (k + 1) fo tv := by
  cases fo with
  | none => exact ⟨h.1.trans (fdL_skip P 60 k hk (h1 rfl)), h.2⟩
  | some f =>
    obtain ⟨a, b, c⟩ := h
    refine ⟨a, by omega, ?_⟩
    rcases c with ⟨c1, c2⟩ | c
    · exact .inl ⟨c1, c2.trans (fdL_skip P 62 k hk (h2 (by simp) c1))⟩
    · exact .inr c
theorem FtI.from_ {P : List (UInt8 × Nat)} {k tv : Nat} (h : FtI P k none tv) (hk : k < P.length) (h1 : (P[k]'hk).2 = 0 ∧ (P[k]'hk).1.toNat = 60) : FtI P (k + 1) (some k) tv :=
  ⟨h.1.trans (fdL_hit P 60 k hk h1), by omega, .inl ⟨h.2, fdL_skip P 62 k hk (fun h2 => by omega)⟩⟩
theorem FtI.to_ {P : List (UInt8 × Nat)} {k f : Nat} (h : FtI P k (some f) P.length) (hk : k < P.length) (h1 : (P[k]'hk).2 = 0 ∧ (P[k]'hk).1.toNat = 62) : FtI P (k + 1) (some f) k := by
  obtain ⟨a, b, c⟩ := h
  refine ⟨a, by omega, .inr ⟨hk, ?_⟩⟩
  rcases c with c | c
  · exact c.2.trans (fdL_hit P 62 k hk h1)
  · omega
theorem FtI.end_ {P : List (UInt8 × Nat)} {n : Nat} {fo : Option Nat} {tv : Nat} (h : FtI P n fo tv) (hn : P.length = n) : fdL 60 0 P = fo ∧ ∀ f, fo = some f → f < n ∧ tv = toL P f := by
  have e : P.drop n = [] := List.drop_of_length_le (by omega)
  cases fo with
  | none => exact ⟨by rw [h.1, e, fdL], fun f hf => by cases hf⟩
  | some f =>
    obtain ⟨a, b, c⟩ := h
    refine ⟨a, fun f2 hf => ?_⟩
    injection hf with hf
    subst hf
    refine ⟨b, ?_⟩
    rcases c with c | c
    · unfold toL
      rw [c.2, e, fdL]
      exact c.1
    · unfold toL
      rw [c.2]
theorem toL_bounds (P : List (UInt8 × Nat)) (f : Nat) (h : fdL 60 0 P = some f) : f < toL P f ∧ toL P f ≤ P.length := by
  have hf := fdL_lt _ _ _ _ h
  unfold toL
  cases ht : fdL 62 f (P.drop f) with
  | none => exact ⟨by dsimp only; omega, Nat.le_refl _⟩
  | some t =>
    have hb := fdL_lt _ _ _ _ ht
    rw [List.length_drop] at hb
    refine ⟨?_, by dsimp only; omega⟩
    rcases Nat.lt_or_ge f t with h1 | h1
    · exact h1
    · obtain rfl : f = t := by omega
      obtain ⟨x, h1, h2, h3⟩ := fdL_at _ _ _ _ ht
      obtain ⟨y, h4, h5, h6⟩ := fdL_at _ _ _ _ h
      rw [List.getElem?_drop, show f + (f - f) = f by omega] at h1
      rw [Nat.sub_zero] at h4
      rw [h4] at h1
      injection h1 with h1
      subst h1
      omega
theorem sayR_len : ∀ (xs : List Sg) (g : Bool) (acc : List UInt8), (sayR g acc xs).length ≤ acc.length + 2 * xs.length
  | [], _, _ => by rw [sayR]; simp
  | x :: l, g, acc => by
    rw [sayR]
    split
    · have := sayR_len l true acc; simp only [List.length_cons]; omega
    · have := sayR_len l false ((if g = true ∧ acc.isEmpty = false then acc ++ [32] else acc) ++ [x.c])
      have h2 : ((if g = true ∧ acc.isEmpty = false then acc ++ [32] else acc) ++ [x.c]).length ≤ acc.length + 2 := by
        split <;> simp
      simp only [List.length_cons]
      omega
/-- k pieces are looked at; the addresses so far stand in a row of its own. -/
structure LrI (w wr : World) (ps : List (List Sg)) (k : Nat) (A : Option Addr) (m c : Nat) (out : List Ad) : Prop where
  own : wr.ownsRow w.heap.size 35 3 (.slice A m c) m (out.flatMap adC)
  bel : Below w.heap.size w wr
  eq : listR ps = out ++ listR (ps.drop k)
  len : out.length = m
  le : m ≤ k
theorem LrI.start (w : World) (ps : List (List Sg)) : LrI w w ps 0 none 0 0 [] := ⟨World.ownsRow_nil _ _ _ _, Below.refl _ _, rfl, rfl, Nat.le_refl _⟩
theorem listR_cons (p : List Sg) (ps : List (List Sg)) : listR (p :: ps) = (if oneR p = nilA then [] else [oneR p]) ++ listR ps := by
  unfold listR
  rw [List.map_cons]
  by_cases h : oneR p = nilA
  · rw [List.filter_cons_of_neg (by simpa using h), if_pos h]; rfl
  · rw [List.filter_cons_of_pos (by simpa using h), if_neg h]; rfl
theorem LrI.skip {w wr w' : World} {ps : List (List Sg)} {k : Nat} {A : Option Addr} {m c : Nat} {out : List Ad} (h : LrI w wr ps k A m c out) (hk : k < ps.length) (p : List Sg) (hp : ps[k]'hk = p) (h0 : oneR p = nilA) (hb : Below wr.heap.size wr w') : LrI w w' ps (k + 1) A m c out := by
  refine ⟨own_below h.own hb, next h.bel hb, ?_, h.len, by have := h.le; omega⟩
  rw [h.eq, List.drop_eq_getElem_cons hk, hp, listR_cons, if_pos h0]
  rfl
theorem LrI.put {w wr w' : World} {ps : List (List Sg)} {k : Nat} {A A' : Option Addr} {m c c' : Nat} {out : List Ad} (h : LrI w wr ps k A m c out) (hk : k < ps.length) (p : List Sg) (hp : ps[k]'hk = p) (a : Ad) (ha : oneR p = a) (h0 : a ≠ nilA)
    (ho : w'.ownsRow w.heap.size 35 3 (.slice A' (m + 1) c') (m + 1) (out.flatMap adC ++ adC a)) (hb : Below w.heap.size w w') : LrI w w' ps (k + 1) A' (m + 1) c' (out ++ [a]) := by
  subst ha
  refine ⟨by rw [List.flatMap_append]; simpa using ho, hb, ?_, by rw [List.length_append, h.len]; rfl, by have := h.le; omega⟩
  rw [h.eq, List.drop_eq_getElem_cons hk, hp, listR_cons, if_neg h0, List.append_assoc]
/-- The address's box at g, behind wr. -/
structure LaS (wr W : World) (g : Nat) (nm bx hs : List UInt8) : Prop where
  own : OwnE W g 35 [.string (str nm), .string (str bx), .string (str hs)]
  bel : Below wr.heap.size wr W
  ge : wr.heap.size ≤ g
theorem LaS.below {wr W W' : World} {g : Nat} {nm bx hs : List UInt8} (h : LaS wr W g nm bx hs) (hb : Below W.heap.size W W') : LaS wr W' g nm bx hs := ⟨h.own.below hb, next h.bel hb, h.ge⟩
theorem LaS.set0 {wr W : World} {g : Nat} {nm bx hs : List UInt8} (h : LaS wr W g nm bx hs) (y : List UInt8) : LaS wr (W.setCell ⟨g, 0, none⟩ (.string (str y))) g y bx hs := ⟨h.own.set 0 _, h.bel.setCell (p := ⟨g, 0, none⟩) h.ge _, h.ge⟩
theorem LaS.set1 {wr W : World} {g : Nat} {nm bx hs : List UInt8} (h : LaS wr W g nm bx hs) (y : List UInt8) : LaS wr (W.setCell ⟨g, 1, none⟩ (.string (str y))) g nm y hs := ⟨h.own.set 1 _, h.bel.setCell (p := ⟨g, 1, none⟩) h.ge _, h.ge⟩
theorem LaS.set2 {wr W : World} {g : Nat} {nm bx hs : List UInt8} (h : LaS wr W g nm bx hs) (y : List UInt8) : LaS wr (W.setCell ⟨g, 2, none⟩ (.string (str y))) g nm bx y := ⟨h.own.set 2 _, h.bel.setCell (p := ⟨g, 2, none⟩) h.ge _, h.ge⟩
end Go.Proofs.YtdanhdiinkgjnaaDoor
