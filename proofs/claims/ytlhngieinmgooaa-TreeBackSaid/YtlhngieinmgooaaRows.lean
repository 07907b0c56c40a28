/-
  No cell of these rows narrows 'for every input' (looked for: loops, veiled, ifaces, maps, wideKeys, modest, calm, conditions, laid).
  DERIVED. THE GIVEN ROWS OF THIS SEAT. 3 by the template 'for every input the law returns true; each argument reads behind the call as it read before'; 0 by the template 'total and deterministic' (their statements: YtlhngieinmgooaaTotals.lean).
  GIVEN WITH THE SEED: the statements are not yours to turn. If you find one false, say at which input.
  Laid BY PROGRAM, IN A SANDBOX (cutbox-rows.mjs): the forced cells as the released guide's own fill.sh prints them over the translation 32ca6b7f64212f43… (all of the seat's roots in one cut). By AI agents, Wed Nov 11 2026. No macro, syntax, notation, axiom, sorry.
-/
import Derived.Test.YtlhngieinmgooaaChecked
import GoSem.Claim
import GoSem.ClaimJoined
import GoSem.ClaimMapViews
import Derived.JoinedTies
import Derived.KernelRfl
namespace Go.Proofs.Ytlhngieinmgooaa
/- THE CELL 'sum', in the pinned program and in every row, IS THE sha256 OF THE DUMP (.gsa) THAT YtlhngieinmgooaaProg.lean LOADS. Nothing in Lean hashes anything: it is a label: what it is worth is what the hold of that sum in a sandbox is worth. -/
noncomputable def Try.pinned : Pinned := { name := "ytlhngieinmgooaa", sum := "32ca6b7f64212f430628efdc89ec990cb1471d386222dab703f81ce7693604b0", checked := Try.checked }
namespace Rows
def none {H : Type} : Left H := { results := [], args := [] }

/-- 'hamperlaw06.TreeBuilds': WHATEVER THE INPUT: true; the input reads as it did. -/
def treeBuildsSpec : ChangeSpec := { name := "treeBuilds", fn := fun _ => fun
  | [d1, d2] => { results := [.lit (.bool true)], args := [d1, d2] }
  | _ => none }
def treeBuildsRow : OpenClaim := { program := "ytlhngieinmgooaa", sum := "32ca6b7f64212f430628efdc89ec990cb1471d386222dab703f81ce7693604b0", func := "hamper/hamperlaw06.TreeBuilds", spec := "treeBuilds", inPlace := ["internal/reflectlite.ValueOf", "(internal/reflectlite.Value).Len"], unfollowed := true, recurses := true, apart := false }
def TreeBuildsSaid : Prop := treeBuildsRow.holds Try.pinned (OpenSpec.ofChange treeBuildsSpec)

/-- ITS FALSE NEIGHBOUR: 'it returns false'. Refute it at one input. -/
def treeBuildsWrong : ChangeSpec := { name := "treeBuilds", fn := fun _ => fun
  | [d1, d2] => { results := [.lit (.bool false)], args := [d1, d2] }
  | _ => none }
def TreeBuildsWrongFalsely : Prop := treeBuildsRow.holds Try.pinned (OpenSpec.ofChange treeBuildsWrong)

/-- 'hamperlaw06.TreeReads': WHATEVER THE INPUT: true; the input reads as it did. -/
def treeReadsSpec : ChangeSpec := { name := "treeReads", fn := fun _ => fun
  | [d] => { results := [.lit (.bool true)], args := [d] }
  | _ => none }
def treeReadsRow : OpenClaim := { program := "ytlhngieinmgooaa", sum := "32ca6b7f64212f430628efdc89ec990cb1471d386222dab703f81ce7693604b0", func := "hamper/hamperlaw06.TreeReads", spec := "treeReads", inPlace := ["internal/reflectlite.ValueOf", "(internal/reflectlite.Value).Len"], unfollowed := true, recurses := true, apart := false }
def TreeReadsSaid : Prop := treeReadsRow.holds Try.pinned (OpenSpec.ofChange treeReadsSpec)

/-- ITS FALSE NEIGHBOUR: 'it returns false'. Refute it at one input. -/
def treeReadsWrong : ChangeSpec := { name := "treeReads", fn := fun _ => fun
  | [d] => { results := [.lit (.bool false)], args := [d] }
  | _ => none }
def TreeReadsWrongFalsely : Prop := treeReadsRow.holds Try.pinned (OpenSpec.ofChange treeReadsWrong)

/-- 'hamperlaw06.TreeBack': WHATEVER THE INPUT: true; the input reads as it did. -/
def treeBackSpec : ChangeSpec := { name := "treeBack", fn := fun _ => fun
  | [d1, d2] => { results := [.lit (.bool true)], args := [d1, d2] }
  | _ => none }
def treeBackRow : OpenClaim := { program := "ytlhngieinmgooaa", sum := "32ca6b7f64212f430628efdc89ec990cb1471d386222dab703f81ce7693604b0", func := "hamper/hamperlaw06.TreeBack", spec := "treeBack", inPlace := ["internal/reflectlite.ValueOf", "(internal/reflectlite.Value).Len"], unfollowed := true, recurses := true, apart := false }
def TreeBackSaid : Prop := treeBackRow.holds Try.pinned (OpenSpec.ofChange treeBackSpec)

/-- ITS FALSE NEIGHBOUR: 'it returns false'. Refute it at one input. -/
def treeBackWrong : ChangeSpec := { name := "treeBack", fn := fun _ => fun
  | [d1, d2] => { results := [.lit (.bool false)], args := [d1, d2] }
  | _ => none }
def TreeBackWrongFalsely : Prop := treeBackRow.holds Try.pinned (OpenSpec.ofChange treeBackWrong)

/- THE SECOND FORM. 'bulk': how many values and letters a reading holds, each counted each time it is reached (what is shared counts as often as it is met; a slice's spare places count too). A statement '..UptoSaid' is the law's where the arguments, and the package variables that the reading takes, are together of bulk at most 1048576: NARROWER than '..Said'. Prove '..Said' where nothing that the law and all that it calls make is longer than what came in: it says more and counts as full. Else prove '..UptoSaid'. A law counts once. -/
mutual
def uptoBulk {H : Type} : DataW H → Nat
  | .lit (.string bytes) => bytes.length + 1
  | .lit _ => 1
  | .nil => 1
  | .ptr d => uptoBulk d + 1
  | .slice elems spare => uptoBulkAll elems + uptoBulkAll spare + 1
  | .agg parts => uptoBulkAll parts + 1
  | .iface _ d => uptoBulk d + 1
  | .map entries => uptoBulkEntries entries + 1
  | .held _ => 1
def uptoBulkAll {H : Type} : List (DataW H) → Nat
  | [] => 0
  | d :: r => uptoBulk d + uptoBulkAll r
def uptoBulkEntries {H : Type} : List (Lit × DataW H) → Nat
  | [] => 0
  | x :: r => uptoBulkEntry x + uptoBulkEntries r
def uptoBulkEntry {H : Type} : Lit × DataW H → Nat
  | (.string bytes, d) => bytes.length + uptoBulk d + 1
  | (_, d) => uptoBulk d + 1
 end
def uptoSmall : (H : Type) → List (DataW H) → Bool := fun _ ds => decide (uptoBulkAll ds ≤ 1048576)
def OpenSpec.upto (s : _root_.Go.ChangeSpec) : _root_.Go.OpenSpec := { _root_.Go.OpenSpec.ofChange s with cond := some uptoSmall }

/-- 'hamperlaw06.TreeBuilds', WHERE WHAT IT READS IS OF BULK AT MOST 1048576: true; the input reads as it did. -/
def treeBuildsUptoRow : OpenClaim := { program := "ytlhngieinmgooaa", sum := "32ca6b7f64212f430628efdc89ec990cb1471d386222dab703f81ce7693604b0", func := "hamper/hamperlaw06.TreeBuilds", spec := "treeBuilds", inPlace := ["internal/reflectlite.ValueOf", "(internal/reflectlite.Value).Len"], unfollowed := true, recurses := true, apart := false, narrowed := true }
def TreeBuildsUptoSaid : Prop := treeBuildsUptoRow.holds Try.pinned (OpenSpec.upto treeBuildsSpec)

/-- 'hamperlaw06.TreeReads', WHERE WHAT IT READS IS OF BULK AT MOST 1048576: true; the input reads as it did. -/
def treeReadsUptoRow : OpenClaim := { program := "ytlhngieinmgooaa", sum := "32ca6b7f64212f430628efdc89ec990cb1471d386222dab703f81ce7693604b0", func := "hamper/hamperlaw06.TreeReads", spec := "treeReads", inPlace := ["internal/reflectlite.ValueOf", "(internal/reflectlite.Value).Len"], unfollowed := true, recurses := true, apart := false, narrowed := true }
def TreeReadsUptoSaid : Prop := treeReadsUptoRow.holds Try.pinned (OpenSpec.upto treeReadsSpec)

/-- 'hamperlaw06.TreeBack', WHERE WHAT IT READS IS OF BULK AT MOST 1048576: true; the input reads as it did. -/
def treeBackUptoRow : OpenClaim := { program := "ytlhngieinmgooaa", sum := "32ca6b7f64212f430628efdc89ec990cb1471d386222dab703f81ce7693604b0", func := "hamper/hamperlaw06.TreeBack", spec := "treeBack", inPlace := ["internal/reflectlite.ValueOf", "(internal/reflectlite.Value).Len"], unfollowed := true, recurses := true, apart := false, narrowed := true }
def TreeBackUptoSaid : Prop := treeBackUptoRow.holds Try.pinned (OpenSpec.upto treeBackSpec)

end Rows
end Go.Proofs.Ytlhngieinmgooaa
