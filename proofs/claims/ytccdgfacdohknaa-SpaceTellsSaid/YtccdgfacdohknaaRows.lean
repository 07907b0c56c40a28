/-
  No cell of these rows narrows 'for every input' (looked for: loops, veiled, ifaces, maps, wideKeys, modest, calm, conditions, laid).
  DERIVED. THE GIVEN ROWS OF THIS SEAT. 4 by the template 'for every input the law returns true; each argument reads behind the call as it read before'; 0 by the template 'total and deterministic' (their statements: YtccdgfacdohknaaTotals.lean).
  GIVEN WITH THE SEED: the statements are not yours to turn. If you find one false, say at which input.
  Laid BY PROGRAM, IN A SANDBOX (cutbox-rows.mjs): the forced cells as the released guide's own fill.sh prints them over the translation 7dc755fd0abff252… (all of the seat's roots in one cut). By AI agents, Wed Nov 11 2026. No macro, syntax, notation, axiom, sorry.
-/
import Derived.Test.YtccdgfacdohknaaChecked
import GoSem.Claim
import GoSem.ClaimJoined
import GoSem.ClaimMapViews
import Derived.JoinedTies
import Derived.KernelRfl
namespace Go.Proofs.Ytccdgfacdohknaa
/- THE CELL 'sum', in the pinned program and in every row, IS THE sha256 OF THE DUMP (.gsa) THAT YtccdgfacdohknaaProg.lean LOADS. Nothing in Lean hashes anything: it is a label: what it is worth is what the hold of that sum in a sandbox is worth. -/
noncomputable def Try.pinned : Pinned := { name := "ytccdgfacdohknaa", sum := "7dc755fd0abff25243900a68eb3133eba0499d2a69cdd8754ef863c91273ff61", checked := Try.checked }
namespace Rows
def none {H : Type} : Left H := { results := [], args := [] }

/-- 'hamperlaw05.SpaceDoes': WHATEVER THE INPUT: true; the input reads as it did. -/
def spaceDoesSpec : ChangeSpec := { name := "spaceDoes", fn := fun _ => fun
  | [d1, d2, d3] => { results := [.lit (.bool true)], args := [d1, d2, d3] }
  | _ => none }
def spaceDoesRow : OpenClaim := { program := "ytccdgfacdohknaa", sum := "7dc755fd0abff25243900a68eb3133eba0499d2a69cdd8754ef863c91273ff61", func := "hamper/hamperlaw05.SpaceDoes", spec := "spaceDoes", unfollowed := true, recurses := true, apart := false }
def SpaceDoesSaid : Prop := spaceDoesRow.holds Try.pinned (OpenSpec.ofChange spaceDoesSpec)

/-- ITS FALSE NEIGHBOUR: 'it returns false'. Refute it at one input. -/
def spaceDoesWrong : ChangeSpec := { name := "spaceDoes", fn := fun _ => fun
  | [d1, d2, d3] => { results := [.lit (.bool false)], args := [d1, d2, d3] }
  | _ => none }
def SpaceDoesWrongFalsely : Prop := spaceDoesRow.holds Try.pinned (OpenSpec.ofChange spaceDoesWrong)

/-- 'hamperlaw05.SpaceTakes': WHATEVER THE INPUT: true; the input reads as it did. -/
def spaceTakesSpec : ChangeSpec := { name := "spaceTakes", fn := fun _ => fun
  | [d1, d2, d3] => { results := [.lit (.bool true)], args := [d1, d2, d3] }
  | _ => none }
def spaceTakesRow : OpenClaim := { program := "ytccdgfacdohknaa", sum := "7dc755fd0abff25243900a68eb3133eba0499d2a69cdd8754ef863c91273ff61", func := "hamper/hamperlaw05.SpaceTakes", spec := "spaceTakes", unfollowed := true, recurses := true, apart := false }
def SpaceTakesSaid : Prop := spaceTakesRow.holds Try.pinned (OpenSpec.ofChange spaceTakesSpec)

/-- ITS FALSE NEIGHBOUR: 'it returns false'. Refute it at one input. -/
def spaceTakesWrong : ChangeSpec := { name := "spaceTakes", fn := fun _ => fun
  | [d1, d2, d3] => { results := [.lit (.bool false)], args := [d1, d2, d3] }
  | _ => none }
def SpaceTakesWrongFalsely : Prop := spaceTakesRow.holds Try.pinned (OpenSpec.ofChange spaceTakesWrong)

/-- 'hamperlaw05.SpaceKeeps': WHATEVER THE INPUT: true; the input reads as it did. -/
def spaceKeepsSpec : ChangeSpec := { name := "spaceKeeps", fn := fun _ => fun
  | [d1, d2, d3] => { results := [.lit (.bool true)], args := [d1, d2, d3] }
  | _ => none }
def spaceKeepsRow : OpenClaim := { program := "ytccdgfacdohknaa", sum := "7dc755fd0abff25243900a68eb3133eba0499d2a69cdd8754ef863c91273ff61", func := "hamper/hamperlaw05.SpaceKeeps", spec := "spaceKeeps", unfollowed := true, recurses := true, apart := false }
def SpaceKeepsSaid : Prop := spaceKeepsRow.holds Try.pinned (OpenSpec.ofChange spaceKeepsSpec)

/-- ITS FALSE NEIGHBOUR: 'it returns false'. Refute it at one input. -/
def spaceKeepsWrong : ChangeSpec := { name := "spaceKeeps", fn := fun _ => fun
  | [d1, d2, d3] => { results := [.lit (.bool false)], args := [d1, d2, d3] }
  | _ => none }
def SpaceKeepsWrongFalsely : Prop := spaceKeepsRow.holds Try.pinned (OpenSpec.ofChange spaceKeepsWrong)

/-- 'hamperlaw05.SpaceTells': WHATEVER THE INPUT: true; the input reads as it did. -/
def spaceTellsSpec : ChangeSpec := { name := "spaceTells", fn := fun _ => fun
  | [d1, d2, d3] => { results := [.lit (.bool true)], args := [d1, d2, d3] }
  | _ => none }
def spaceTellsRow : OpenClaim := { program := "ytccdgfacdohknaa", sum := "7dc755fd0abff25243900a68eb3133eba0499d2a69cdd8754ef863c91273ff61", func := "hamper/hamperlaw05.SpaceTells", spec := "spaceTells", unfollowed := true, recurses := true, apart := false }
def SpaceTellsSaid : Prop := spaceTellsRow.holds Try.pinned (OpenSpec.ofChange spaceTellsSpec)

/-- ITS FALSE NEIGHBOUR: 'it returns false'. Refute it at one input. -/
def spaceTellsWrong : ChangeSpec := { name := "spaceTells", fn := fun _ => fun
  | [d1, d2, d3] => { results := [.lit (.bool false)], args := [d1, d2, d3] }
  | _ => none }
def SpaceTellsWrongFalsely : Prop := spaceTellsRow.holds Try.pinned (OpenSpec.ofChange spaceTellsWrong)

/- THE SECOND FORM. 'bulk': how many values and letters a reading holds, each counted each time it is reached (what is shared counts as often as it is met; a slice's spare places count too). A statement '..UptoSaid' is the law's where the arguments, and the package variables that the reading takes, are together of bulk at most 1048576: NARROWER than '..Said'. Prove '..Said' where nothing that the law and all that it calls make is longer than what came in: it says more and counts as full. Else prove '..UptoSaid'. A law counts once. -/
mutual
def uptoBulk {H : Type} : DataW H → Nat
  | .lit (.string bytes) => bytes.length + 1
  | .lit _ => 1
  | .nil => 1
  | .ptr d => uptoBulk d + 1
  | .slice elems spare => uptoBulkAll elems + uptoBulkAll spare + 1
  | .agg parts => uptoBulkAll parts + 1
  | .iface _ d => uptoBulk d + 1
  | .map entries => uptoBulkEntries entries + 1
  | .held _ => 1
def uptoBulkAll {H : Type} : List (DataW H) → Nat
  | [] => 0
  | d :: r => uptoBulk d + uptoBulkAll r
def uptoBulkEntries {H : Type} : List (Lit × DataW H) → Nat
  | [] => 0
  | x :: r => uptoBulkEntry x + uptoBulkEntries r
def uptoBulkEntry {H : Type} : Lit × DataW H → Nat
  | (.string bytes, d) => bytes.length + uptoBulk d + 1
  | (_, d) => uptoBulk d + 1
 end
def uptoSmall : (H : Type) → List (DataW H) → Bool := fun _ ds => decide (uptoBulkAll ds ≤ 1048576)
def OpenSpec.upto (s : _root_.Go.ChangeSpec) : _root_.Go.OpenSpec := { _root_.Go.OpenSpec.ofChange s with cond := some uptoSmall }

/-- 'hamperlaw05.SpaceDoes', WHERE WHAT IT READS IS OF BULK AT MOST 1048576: true; the input reads as it did. -/
def spaceDoesUptoRow : OpenClaim := { program := "ytccdgfacdohknaa", sum := "7dc755fd0abff25243900a68eb3133eba0499d2a69cdd8754ef863c91273ff61", func := "hamper/hamperlaw05.SpaceDoes", spec := "spaceDoes", unfollowed := true, recurses := true, apart := false, narrowed := true }
def SpaceDoesUptoSaid : Prop := spaceDoesUptoRow.holds Try.pinned (OpenSpec.upto spaceDoesSpec)

/-- 'hamperlaw05.SpaceTakes', WHERE WHAT IT READS IS OF BULK AT MOST 1048576: true; the input reads as it did. -/
def spaceTakesUptoRow : OpenClaim := { program := "ytccdgfacdohknaa", sum := "7dc755fd0abff25243900a68eb3133eba0499d2a69cdd8754ef863c91273ff61", func := "hamper/hamperlaw05.SpaceTakes", spec := "spaceTakes", unfollowed := true, recurses := true, apart := false, narrowed := true }
def SpaceTakesUptoSaid : Prop := spaceTakesUptoRow.holds Try.pinned (OpenSpec.upto spaceTakesSpec)

/-- 'hamperlaw05.SpaceKeeps', WHERE WHAT IT READS IS OF BULK AT MOST 1048576: true; the input reads as it did. -/
def spaceKeepsUptoRow : OpenClaim := { program := "ytccdgfacdohknaa", sum := "7dc755fd0abff25243900a68eb3133eba0499d2a69cdd8754ef863c91273ff61", func := "hamper/hamperlaw05.SpaceKeeps", spec := "spaceKeeps", unfollowed := true, recurses := true, apart := false, narrowed := true }
def SpaceKeepsUptoSaid : Prop := spaceKeepsUptoRow.holds Try.pinned (OpenSpec.upto spaceKeepsSpec)

/-- 'hamperlaw05.SpaceTells', WHERE WHAT IT READS IS OF BULK AT MOST 1048576: true; the input reads as it did. -/
def spaceTellsUptoRow : OpenClaim := { program := "ytccdgfacdohknaa", sum := "7dc755fd0abff25243900a68eb3133eba0499d2a69cdd8754ef863c91273ff61", func := "hamper/hamperlaw05.SpaceTells", spec := "spaceTells", unfollowed := true, recurses := true, apart := false, narrowed := true }
def SpaceTellsUptoSaid : Prop := spaceTellsUptoRow.holds Try.pinned (OpenSpec.upto spaceTellsSpec)

end Rows
end Go.Proofs.Ytccdgfacdohknaa
