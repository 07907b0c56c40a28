/-
  Keys and messages, and what is meant: plain Lean, no program in sight. A part of the proof: see the head of the text that ends in 'Law'.
-/
import Derived.Test.YtonjadmldgloaaaGreatDoorMem
import Derived.Lib.IndexMore
import Derived.Test.YtonjadmldgloaaaGreatDoorHeE
import Derived.Test.YtonjadmldgloaaaGreatDoorDa21
namespace Go.Proofs.YtonjadmldgloaaaGreatDoor
open Go.RowKit
set_option linter.unusedVariables false

/-- A key: its kind, texts, number, spans, and the keys within it, and where they lie. -/
structure KeyT where
  kind : Int
  s : List UInt8
  t : List UInt8
  n : Int
  SA : Option Addr
  sn : Nat
  sc : Nat
  sp : List (Int × Int)
  LA : Option Addr
  ln : Nat
  lc : Nat
  l : List KeyT
/-- A message. -/
structure HitV where
  uid : Int
  sec : Int
  zone : Int
  size : Int
  blob : Nat
  FA : Option Addr
  fn : Nat
  fc : Nat
  fl : List (List UInt8)
  place : Int
  many : Int
  great : Int
  BA : Option Addr
  bn : Nat
  bc : Nat
  b : List UInt8
abbrev smallL (l : List UInt8) : List UInt8 := l.map D16.smallU
/-- Has a text another one, however its letters are? -/
def hasL (s t : List UInt8) : Bool := Lib.contains (smallL s) (smallL t)
def fiveL : List (List UInt8) := [[92, 65, 110, 115, 119, 101, 114, 101, 100], [92, 68, 101, 108, 101, 116, 101, 100], [92, 68, 114, 97, 102, 116], [92, 70, 108, 97, 103, 103, 101, 100], [92, 83, 101, 101, 110]]
/-- May a keyword have an octet, told in small letters? -/
def signB (c : UInt8) : Bool := decide (97 ≤ c.toNat ∧ c.toNat ≤ 122) || decide (48 ≤ c.toNat ∧ c.toNat ≤ 57) || c.toNat == 36 || c.toNat == 45 || c.toNat == 46 || c.toNat == 95
/-- A flag as it is told; empty: it is none. -/
def toldF (s : List UInt8) : List UInt8 :=
  match fiveL.find? (fun f => D16.alikeL s f) with
  | some f => f
  | none => if (smallL s).all signB = true ∧ s.length ≤ 20 then smallL s else []
def flagF (fl : List (List UInt8)) (s : List UInt8) : Bool := !(toldF s).isEmpty && fl.contains (toldF s)
def dayF (which n other : Int) : Bool := if which = 0 then decide (n < other) else if which = 1 then decide (n = other) else decide (other ≤ n)
def dayN (h : HitV) : Int := if D16.mayD h.sec h.zone = true then (h.sec + 60 * h.zone) / 86400 else 0
def dateL : List UInt8 := [68, 97, 116, 101]
/-- The day that a message tells. -/
def sentF (b : List UInt8) : Option Int :=
  match D17.findF b dateL (D17.fieldsL b) with
  | none => none
  | some t => if (D16.mailF t).2 = 0 then some (D16.mailF t).1 else none
def sentB (which : Int) (b : List UInt8) (n : Int) : Bool :=
  match sentF b with
  | none => false
  | some d => dayF which d n
def fieldF (b name text : List UInt8) : Bool := (D17.fieldsL b).any fun f => D16.alikeL f.nm name && hasL (D17.fdText b f) text
def endsF (p : Int × Int) (g : Int) : Int × Int :=
  let a := if p.1 = 0 then g else p.1
  let b := if p.2 = 0 then g else p.2
  if b < a then (b, a) else (a, b)
def inB (n g : Int) (p : Int × Int) : Bool := decide ((endsF p g).1 ≤ n) && decide (n ≤ (endsF p g).2)
def seqF (l : List (Int × Int)) (n g : Int) : Bool := decide (0 < n) && decide (0 < g) && l.any (inB n g)
/-- Is a message meant, of a key that may be? -/
def meansF : Nat → HitV → KeyT → Bool
  | 0, _, _ => false
  | f + 1, h, k =>
    if k.kind = 1 then flagF h.fl k.s
    else if 2 ≤ k.kind ∧ k.kind ≤ 4 then dayF (k.kind - 2) (dayN h) k.n
    else if 5 ≤ k.kind ∧ k.kind ≤ 7 then sentB (k.kind - 5) h.b k.n
    else if k.kind = 8 then decide (k.n < h.size)
    else if k.kind = 9 then decide (h.size < k.n)
    else if k.kind = 10 then fieldF h.b k.s k.t
    else if k.kind = 11 then hasL (h.b.drop (D17.splitL h.b)) k.s
    else if k.kind = 12 then hasL h.b k.s
    else if k.kind = 13 then seqF k.sp h.uid h.great
    else if k.kind = 14 then seqF k.sp h.place h.many
    else if k.kind = 15 then !(k.l.all (meansF f h))
    else if k.kind = 16 then k.l.any (meansF f h)
    else if k.kind = 17 then k.l.all (meansF f h)
    else true
/-- Asks a key the octets? -/
def readsF : Nat → KeyT → Bool
  | 0, _ => false
  | f + 1, k => (decide (5 ≤ k.kind ∧ k.kind ≤ 7) || decide (10 ≤ k.kind ∧ k.kind ≤ 12)) || (decide (15 ≤ k.kind) && k.l.any (readsF f))
/-- May a key not be, without a look at those within it? -/
def badK (k : KeyT) : Bool := decide (k.kind < 0) || decide (17 < k.kind) || (decide (k.kind = 1) && (toldF k.s).isEmpty) || (decide (k.kind = 15) && decide (k.l.length ≠ 1)) || (decide (k.kind = 16) && decide (k.l.length ≠ 2))
/-- Counted on: how many keys there are then; none: one may not be, or they are too many. -/
def goK : Nat → Nat → KeyT → Option Nat
  | 0, _, _ => none
  | f + 1, c, k => if 64 < c + 1 ∨ badK k = true then none else if k.kind < 15 then some (c + 1) else k.l.foldlM (goK f) (c + 1)
def loopR (g : KeyT → Nat) : List KeyT → Nat → Nat
  | [], n => n
  | x :: r, n => if n < 65 then loopR g r (n + g x) else n
/-- How many keys there are; more than 64 as soon as one may not be. -/
def cntR : Nat → KeyT → Nat
  | 0, _ => 65
  | f + 1, k => if badK k = true then 65 else if k.kind < 15 then 1 else loopR (cntR f) k.l 1
theorem loopR_ge (g : KeyT → Nat) : ∀ (l : List KeyT) (n : Nat), n ≤ loopR g l n
  | [], n => Nat.le_refl n
  | x :: r, n => by
    unfold loopR
    split
    · exact Nat.le_trans (Nat.le_add_right _ _) (loopR_ge g r _)
    · exact Nat.le_refl n
theorem go_loop (f : Nat) (ih : ∀ c k, goK f c k = if c + cntR f k ≤ 64 then some (c + cntR f k) else none) : ∀ (l : List KeyT) (c n : Nat), c + n ≤ 64 → l.foldlM (goK f) (c + n) = if c + loopR (cntR f) l n ≤ 64 then some (c + loopR (cntR f) l n) else none
  | [], c, n, h => by
    unfold loopR
    rw [if_pos h]
    rfl
  | x :: r, c, n, h => by
    unfold loopR
    rw [if_pos (show n < 65 by omega), List.foldlM_cons, ih]
    by_cases h1 : c + n + cntR f x ≤ 64
    · rw [if_pos h1]
      show r.foldlM (goK f) (c + n + cntR f x) = _
      rw [Nat.add_assoc]
      exact go_loop f ih r c (n + cntR f x) (by omega)
    · rw [if_neg h1]
      have := loopR_ge (cntR f) r (n + cntR f x)
      rw [if_neg (by omega)]
      rfl
theorem go_cnt : ∀ (f c : Nat) (k : KeyT), goK f c k = if c + cntR f k ≤ 64 then some (c + cntR f k) else none
  | 0, c, k => by
    show none = if c + 65 ≤ 64 then some (c + 65) else none
    rw [if_neg (by omega)]
  | f + 1, c, k => by
    unfold goK cntR
    by_cases hb : badK k = true
    · rw [if_pos (.inr hb), if_pos hb, if_neg (by omega)]
    · rw [if_neg hb]
      by_cases hc : 64 < c + 1
      · rw [if_pos (.inl hc)]
        split
        · rw [if_neg (by omega)]
        · have := loopR_ge (cntR f) k.l 1
          rw [if_neg (by omega)]
      · rw [if_neg (by rintro (h | h); exact hc h; exact hb h)]
        split
        · rw [if_pos (by omega)]
        · exact go_loop f (fun c k => go_cnt f c k) k.l c 1 (by omega)
/-- May a key be? -/
def mayB (k : KeyT) : Bool := (goK 9 0 k).isSome
theorem may_cnt (k : KeyT) : mayB k = decide (cntR 9 k ≤ 64) := by
  unfold mayB
  rw [go_cnt, Nat.zero_add]
  by_cases h : cntR 9 k ≤ 64
  · rw [if_pos h, decide_eq_true h]; rfl
  · rw [if_neg h, decide_eq_false h]; rfl
/-- A key that may be, so deep. -/
def MayD : Nat → KeyT → Prop
  | 0, _ => False
  | f + 1, k => badK k = false ∧ (15 ≤ k.kind → ∀ x ∈ k.l, MayD f x)
theorem fold_all (f : Nat) (ih : ∀ c k c', goK f c k = some c' → MayD f k) : ∀ (l : List KeyT) (c c' : Nat), l.foldlM (goK f) c = some c' → ∀ x ∈ l, MayD f x
  | [], _, _, _, x, hx => by cases hx
  | y :: r, c, c', h, x, hx => by
    rw [List.foldlM_cons] at h
    cases hy : goK f c y with
    | none => rw [hy] at h; cases h
    | some c1 =>
      rw [hy] at h
      rcases List.mem_cons.1 hx with rfl | hx
      · exact ih _ _ _ hy
      · exact fold_all f ih r c1 c' h x hx
theorem go_may : ∀ (f c : Nat) (k : KeyT) (c' : Nat), goK f c k = some c' → MayD f k
  | 0, c, k, c', h => by cases h
  | f + 1, c, k, c', h => by
    unfold goK at h
    split at h
    · cases h
    · rename_i hb
      refine ⟨by cases hk : badK k with | false => rfl | true => exact absurd (.inr hk) hb, fun h15 => ?_⟩
      rw [if_neg (by omega)] at h
      exact fold_all f (fun c k c' => go_may f c k c') k.l _ _ h
theorem may_of {k : KeyT} (h : mayB k = true) : MayD 9 k := by
  unfold mayB at h
  cases hg : goK 9 0 k with
  | none => rw [hg] at h; cases h
  | some c => exact go_may 9 0 k c hg
end Go.Proofs.YtonjadmldgloaaaGreatDoor
