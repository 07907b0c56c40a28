/-
  What a page says, in plain Lean; a number of it. A part of the proof: see the head of the text that ends in 'Law'.
-/
import Derived.Test.YtlhngieinmgooaaTr3
namespace Go.Proofs.Ytlhngieinmgooaa
open Go.RowKit
set_option linter.unusedVariables false
set_option maxRecDepth 100000
attribute [local go_sem] Oper.semAt_some

/-- An octet of it, as a number. -/
def octA (b : List UInt8) (i : Nat) : Nat := (b.getD i 0).toNat
def eachP (b : List UInt8) : Nat := if octA b 0 = 2 then 10 else 16
def sizeP (b : List UInt8) : Nat := 2 + eachP b * octA b 1
def kindP (b : List UInt8) : Bool := decide (b.length = 128) && ((decide (octA b 0 = 2) && (decide (octA b 1 ≤ 12) && !decide (octA b 1 = 0))) || (decide (octA b 0 = 1) && decide (octA b 1 ≤ 7)))
/-- Is it a page? -/
def isP (b : List UInt8) : Bool := kindP b && decide (pageP (b.take (sizeP b)) = b)
def pairB (b : List UInt8) (i : Nat) : Pa := ⟨valL (cutL b (2 + 16 * i) 8), valL (cutL b (2 + 16 * i + 8) 8)⟩
def kidB (b : List UInt8) (i : Nat) : Kd := ⟨valL (cutL b (2 + 10 * i) 8), valL (cutL b (2 + 10 * i + 8) 2)⟩
def pairsB (b : List UInt8) : List Pa := if octA b 0 = 2 then [] else (List.range (octA b 1)).map (pairB b)
def kidsB (b : List UInt8) : List Kd := if octA b 0 = 2 then (List.range (octA b 1)).map (kidB b) else []
theorem range_snoc {α : Type} (f : Nat → α) (j : Nat) : (List.range (j + 1)).map f = (List.range j).map f ++ [f j] := by
  rw [List.range_succ, List.map_append]
  rfl
theorem octA_lt (b : List UInt8) (i : Nat) : octA b i < 256 := by unfold octA; exact UInt8.toNat_lt _
theorem tnum_any (A : Option Addr) (n c at_ k : Nat) (l : List UInt8) (w : World) (ho : Oct w A n l) (h1 : 1 ≤ k) (h8 : k ≤ 8) (h : at_ + k ≤ n) (hn : n ≤ 4611686018427387904) :
    Calls Try.prog 41 #[.slice A n c, .int .i64 at_, .int .i64 k] w fun e w' => e = .returned (.int .u64 (valL (cutL l at_ k) : Nat)) ∧ w = w' := by
  have HN := hid (num_any A n c at_ k l w ho h1 h8 h hn)
  clear ho
  go_enter Try.func41, Try.ntmps41
  go_wp2_with (go_at_call 52; refine HN.out.mono ?_; rintro e w1 ⟨rfl, rfl⟩)
  go_ret
  exact ⟨rfl, rfl⟩
end Go.Proofs.Ytlhngieinmgooaa
