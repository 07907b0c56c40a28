/-
  No cell of these rows narrows 'for every input' (looked for: loops, veiled, ifaces, maps, wideKeys, modest, calm, conditions, laid).
  DERIVED. THE GIVEN ROWS OF THIS SEAT. 4 by the template 'for every input the law returns true; each argument reads behind the call as it read before'; 0 by the template 'total and deterministic' (their statements: YtpppmijohfjigaaTotals.lean).
  GIVEN WITH THE SEED: the statements are not yours to turn. If you find one false, say at which input.
  Laid BY PROGRAM, IN A SANDBOX (cutbox-rows.mjs): the forced cells as the released guide's own fill.sh prints them over the translation b17532d0b8dea1a4… (all of the seat's roots in one cut). By AI agents, Wed Nov 11 2026. No macro, syntax, notation, axiom, sorry.
-/
import Derived.Test.YtpppmijohfjigaaChecked
import GoSem.Claim
import GoSem.ClaimJoined
import GoSem.ClaimMapViews
import Derived.JoinedTies
import Derived.KernelRfl
namespace Go.Proofs.Ytpppmijohfjigaa
/- THE CELL 'sum', in the pinned program and in every row, IS THE sha256 OF THE DUMP (.gsa) THAT YtpppmijohfjigaaProg.lean LOADS. Nothing in Lean hashes anything: it is a label: what it is worth is what the hold of that sum in a sandbox is worth. -/
noncomputable def Try.pinned : Pinned := { name := "ytpppmijohfjigaa", sum := "b17532d0b8dea1a435d75949776ee7e8324f899bae48ccb9bc799fb45e4d0e32", checked := Try.checked }
namespace Rows
def none {H : Type} : Left H := { results := [], args := [] }

/-- 'hamperlaw04.JournalHeads': WHATEVER THE INPUT: true; the input reads as it did. -/
def journalHeadsSpec : ChangeSpec := { name := "journalHeads", fn := fun _ => fun
  | [d] => { results := [.lit (.bool true)], args := [d] }
  | _ => none }
def journalHeadsRow : OpenClaim := { program := "ytpppmijohfjigaa", sum := "b17532d0b8dea1a435d75949776ee7e8324f899bae48ccb9bc799fb45e4d0e32", func := "hamper/hamperlaw04.JournalHeads", spec := "journalHeads", inPlace := ["internal/bytealg.MakeNoZero"], unfollowed := true, recurses := true, apart := false }
def JournalHeadsSaid : Prop := journalHeadsRow.holds Try.pinned (OpenSpec.ofChange journalHeadsSpec)

/-- ITS FALSE NEIGHBOUR: 'it returns false'. Refute it at one input. -/
def journalHeadsWrong : ChangeSpec := { name := "journalHeads", fn := fun _ => fun
  | [d] => { results := [.lit (.bool false)], args := [d] }
  | _ => none }
def JournalHeadsWrongFalsely : Prop := journalHeadsRow.holds Try.pinned (OpenSpec.ofChange journalHeadsWrong)

/-- 'hamperlaw04.JournalAll': WHATEVER THE INPUT: true; the input reads as it did. -/
def journalAllSpec : ChangeSpec := { name := "journalAll", fn := fun _ => fun
  | [d1, d2, d3] => { results := [.lit (.bool true)], args := [d1, d2, d3] }
  | _ => none }
def journalAllRow : OpenClaim := { program := "ytpppmijohfjigaa", sum := "b17532d0b8dea1a435d75949776ee7e8324f899bae48ccb9bc799fb45e4d0e32", func := "hamper/hamperlaw04.JournalAll", spec := "journalAll", inPlace := ["internal/bytealg.MakeNoZero"], unfollowed := true, recurses := true, apart := false }
def JournalAllSaid : Prop := journalAllRow.holds Try.pinned (OpenSpec.ofChange journalAllSpec)

/-- ITS FALSE NEIGHBOUR: 'it returns false'. Refute it at one input. -/
def journalAllWrong : ChangeSpec := { name := "journalAll", fn := fun _ => fun
  | [d1, d2, d3] => { results := [.lit (.bool false)], args := [d1, d2, d3] }
  | _ => none }
def JournalAllWrongFalsely : Prop := journalAllRow.holds Try.pinned (OpenSpec.ofChange journalAllWrong)

/-- 'hamperlaw04.JournalSettles': WHATEVER THE INPUT: true; the input reads as it did. -/
def journalSettlesSpec : ChangeSpec := { name := "journalSettles", fn := fun _ => fun
  | [d] => { results := [.lit (.bool true)], args := [d] }
  | _ => none }
def journalSettlesRow : OpenClaim := { program := "ytpppmijohfjigaa", sum := "b17532d0b8dea1a435d75949776ee7e8324f899bae48ccb9bc799fb45e4d0e32", func := "hamper/hamperlaw04.JournalSettles", spec := "journalSettles", inPlace := ["internal/bytealg.MakeNoZero"], unfollowed := true, recurses := true, apart := false }
def JournalSettlesSaid : Prop := journalSettlesRow.holds Try.pinned (OpenSpec.ofChange journalSettlesSpec)

/-- ITS FALSE NEIGHBOUR: 'it returns false'. Refute it at one input. -/
def journalSettlesWrong : ChangeSpec := { name := "journalSettles", fn := fun _ => fun
  | [d] => { results := [.lit (.bool false)], args := [d] }
  | _ => none }
def JournalSettlesWrongFalsely : Prop := journalSettlesRow.holds Try.pinned (OpenSpec.ofChange journalSettlesWrong)

/-- 'hamperlaw04.JournalPlays': WHATEVER THE INPUT: true; the input reads as it did. -/
def journalPlaysSpec : ChangeSpec := { name := "journalPlays", fn := fun _ => fun
  | [d1, d2] => { results := [.lit (.bool true)], args := [d1, d2] }
  | _ => none }
def journalPlaysRow : OpenClaim := { program := "ytpppmijohfjigaa", sum := "b17532d0b8dea1a435d75949776ee7e8324f899bae48ccb9bc799fb45e4d0e32", func := "hamper/hamperlaw04.JournalPlays", spec := "journalPlays", inPlace := ["internal/bytealg.MakeNoZero"], unfollowed := true, recurses := true, apart := false }
def JournalPlaysSaid : Prop := journalPlaysRow.holds Try.pinned (OpenSpec.ofChange journalPlaysSpec)

/-- ITS FALSE NEIGHBOUR: 'it returns false'. Refute it at one input. -/
def journalPlaysWrong : ChangeSpec := { name := "journalPlays", fn := fun _ => fun
  | [d1, d2] => { results := [.lit (.bool false)], args := [d1, d2] }
  | _ => none }
def JournalPlaysWrongFalsely : Prop := journalPlaysRow.holds Try.pinned (OpenSpec.ofChange journalPlaysWrong)

/- THE SECOND FORM. 'bulk': how many values and letters a reading holds, each counted each time it is reached (what is shared counts as often as it is met; a slice's spare places count too). A statement '..UptoSaid' is the law's where the arguments, and the package variables that the reading takes, are together of bulk at most 1048576: NARROWER than '..Said'. Prove '..Said' where nothing that the law and all that it calls make is longer than what came in: it says more and counts as full. Else prove '..UptoSaid'. A law counts once. -/
mutual
def uptoBulk {H : Type} : DataW H → Nat
  | .lit (.string bytes) => bytes.length + 1
  | .lit _ => 1
  | .nil => 1
  | .ptr d => uptoBulk d + 1
  | .slice elems spare => uptoBulkAll elems + uptoBulkAll spare + 1
  | .agg parts => uptoBulkAll parts + 1
  | .iface _ d => uptoBulk d + 1
  | .map entries => uptoBulkEntries entries + 1
  | .held _ => 1
def uptoBulkAll {H : Type} : List (DataW H) → Nat
  | [] => 0
  | d :: r => uptoBulk d + uptoBulkAll r
def uptoBulkEntries {H : Type} : List (Lit × DataW H) → Nat
  | [] => 0
  | x :: r => uptoBulkEntry x + uptoBulkEntries r
def uptoBulkEntry {H : Type} : Lit × DataW H → Nat
  | (.string bytes, d) => bytes.length + uptoBulk d + 1
  | (_, d) => uptoBulk d + 1
 end
def uptoSmall : (H : Type) → List (DataW H) → Bool := fun _ ds => decide (uptoBulkAll ds ≤ 1048576)
def OpenSpec.upto (s : _root_.Go.ChangeSpec) : _root_.Go.OpenSpec := { _root_.Go.OpenSpec.ofChange s with cond := some uptoSmall }

/-- 'hamperlaw04.JournalHeads', WHERE WHAT IT READS IS OF BULK AT MOST 1048576: true; the input reads as it did. -/
def journalHeadsUptoRow : OpenClaim := { program := "ytpppmijohfjigaa", sum := "b17532d0b8dea1a435d75949776ee7e8324f899bae48ccb9bc799fb45e4d0e32", func := "hamper/hamperlaw04.JournalHeads", spec := "journalHeads", inPlace := ["internal/bytealg.MakeNoZero"], unfollowed := true, recurses := true, apart := false, narrowed := true }
def JournalHeadsUptoSaid : Prop := journalHeadsUptoRow.holds Try.pinned (OpenSpec.upto journalHeadsSpec)

/-- 'hamperlaw04.JournalAll', WHERE WHAT IT READS IS OF BULK AT MOST 1048576: true; the input reads as it did. -/
def journalAllUptoRow : OpenClaim := { program := "ytpppmijohfjigaa", sum := "b17532d0b8dea1a435d75949776ee7e8324f899bae48ccb9bc799fb45e4d0e32", func := "hamper/hamperlaw04.JournalAll", spec := "journalAll", inPlace := ["internal/bytealg.MakeNoZero"], unfollowed := true, recurses := true, apart := false, narrowed := true }
def JournalAllUptoSaid : Prop := journalAllUptoRow.holds Try.pinned (OpenSpec.upto journalAllSpec)

/-- 'hamperlaw04.JournalSettles', WHERE WHAT IT READS IS OF BULK AT MOST 1048576: true; the input reads as it did. -/
def journalSettlesUptoRow : OpenClaim := { program := "ytpppmijohfjigaa", sum := "b17532d0b8dea1a435d75949776ee7e8324f899bae48ccb9bc799fb45e4d0e32", func := "hamper/hamperlaw04.JournalSettles", spec := "journalSettles", inPlace := ["internal/bytealg.MakeNoZero"], unfollowed := true, recurses := true, apart := false, narrowed := true }
def JournalSettlesUptoSaid : Prop := journalSettlesUptoRow.holds Try.pinned (OpenSpec.upto journalSettlesSpec)

/-- 'hamperlaw04.JournalPlays', WHERE WHAT IT READS IS OF BULK AT MOST 1048576: true; the input reads as it did. -/
def journalPlaysUptoRow : OpenClaim := { program := "ytpppmijohfjigaa", sum := "b17532d0b8dea1a435d75949776ee7e8324f899bae48ccb9bc799fb45e4d0e32", func := "hamper/hamperlaw04.JournalPlays", spec := "journalPlays", inPlace := ["internal/bytealg.MakeNoZero"], unfollowed := true, recurses := true, apart := false, narrowed := true }
def JournalPlaysUptoSaid : Prop := journalPlaysUptoRow.holds Try.pinned (OpenSpec.upto journalPlaysSpec)

end Rows
end Go.Proofs.Ytpppmijohfjigaa
