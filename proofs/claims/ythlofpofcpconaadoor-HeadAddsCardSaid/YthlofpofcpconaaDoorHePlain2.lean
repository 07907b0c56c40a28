/-
  Names, fields and texts of a header, in plain Lean. A part of the proof: see the head of the text that ends in 'Law'.
-/
import Derived.Test.YthlofpofcpconaaDoorHePlain
namespace Go.Proofs.YthlofpofcpconaaDoor
open Go.RowKit
set_option linter.unusedVariables false

/-- How many octets ahead are such ones. -/
def sp (p : UInt8 → Bool) : List UInt8 → Nat
  | [] => 0
  | c :: l => if p c = true then sp p l + 1 else 0
theorem sp_le (p : UInt8 → Bool) : ∀ l, sp p l ≤ l.length
  | [] => Nat.le_refl _
  | c :: l => by
    unfold sp
    split
    · have := sp_le p l; simp; omega
    · simp
theorem sp_yes (p : UInt8 → Bool) (l : List UInt8) (k : Nat) (h : k < l.length) (c : UInt8) (hc : l[k] = c) (hp : p c = true) : sp p (l.drop k) = sp p (l.drop (k + 1)) + 1 := by
  rw [List.drop_eq_getElem_cons h, hc, sp, if_pos hp]
theorem sp_no (p : UInt8 → Bool) (l : List UInt8) (k : Nat) (h : k < l.length) (c : UInt8) (hc : l[k] = c) (hp : p c = false) : sp p (l.drop k) = 0 := by
  rw [List.drop_eq_getElem_cons h, hc, sp, if_neg (by rw [hp]; decide)]
theorem sp_end (p : UInt8 → Bool) (l : List UInt8) (k : Nat) (h : l.length ≤ k) : sp p (l.drop k) = 0 := by
  rw [List.drop_of_length_le h]; rfl
/-- What a name is made of. -/
def nmc (c : UInt8) : Bool := decide (32 < c.toNat) && decide (c.toNat < 127) && c.toNat != 58
def nmN (l : List UInt8) : Nat := sp nmc l
def nmK (l : List UInt8) : Nat := nmN l + sp bl (l.drop (nmN l))
/-- With which a line begins, and the place behind the colon. -/
def nameL (l : List UInt8) : Option (List UInt8 × Nat) :=
  if nmN l = 0 then none else if l[nmK l]?.map (·.toNat) = some 58 then some (l.take (nmN l), nmK l + 1) else none
/-- A field. -/
structure Fd where
  nm : List UInt8
  fr : Nat
  te : Nat
  at_ : Nat
deriving DecidableEq
def setTo : List Fd → Nat → List Fd
  | [], _ => []
  | [x], t => [{ x with te := t }]
  | x :: l, t => x :: setTo l t
/-- The fields of lines: of the place, what stands, and whether one is open. -/
def fdG : Nat → List (List UInt8) → List Fd → Bool → List Fd
  | _, [], out, _ => out
  | a, x :: r, out, o =>
    if emptyB x = true then out
    else if bl (x.headD 0) = true then fdG (a + x.length) r (if o = true then setTo out (a + x.length) else out) o
    else match nameL x with
      | none => fdG (a + x.length) r out false
      | some (m, k) => fdG (a + x.length) r (out ++ [⟨m, a, a + x.length, a + k⟩]) true
def fieldsL (l : List UInt8) : List Fd := fdG 0 (cutL l) [] false
/-- The header's length: lines up to the empty one. -/
def spG : Nat → List (List UInt8) → Nat
  | a, [] => a
  | a, x :: r => if emptyB x = true then a + x.length else spG (a + x.length) r
def splitL (l : List UInt8) : Nat := spG 0 (cutL l)
/-- A line without its end. -/
def chop (x : List UInt8) : List UInt8 :=
  if x.getLast? = some 10 then (if x.dropLast.getLast? = some 13 then x.dropLast.dropLast else x.dropLast) else x
def trimB (l : List UInt8) : List UInt8 := Lib.trimS l [32, 9]
def textL (l : List UInt8) : List UInt8 := trimB ((cutL l).map chop).flatten
def fdText (l : List UInt8) (f : Fd) : List UInt8 := textL ((l.drop f.at_).take (f.te - f.at_))
end Go.Proofs.YthlofpofcpconaaDoor
