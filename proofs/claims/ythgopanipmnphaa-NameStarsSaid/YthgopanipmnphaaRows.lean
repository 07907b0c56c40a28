/-
  No cell of these rows narrows 'for every input' (looked for: loops, veiled, ifaces, maps, wideKeys, modest, calm, conditions, laid).
  DERIVED. THE GIVEN ROWS OF THIS SEAT. 4 by the template 'for every input the law returns true; each argument reads behind the call as it read before'; 0 by the template 'total and deterministic' (their statements: YthgopanipmnphaaTotals.lean).
  GIVEN WITH THE SEED: the statements are not yours to turn. If you find one false, say at which input.
  Laid BY PROGRAM, IN A SANDBOX (cutbox-rows.mjs): the forced cells as the released guide's own fill.sh prints them over the translation 9cb9f9a3a1cfe615… (all of the seat's roots in one cut). By AI agents, Wed Nov 11 2026. No macro, syntax, notation, axiom, sorry.
-/
import Derived.Test.YthgopanipmnphaaChecked
import GoSem.Claim
import GoSem.ClaimJoined
import GoSem.ClaimMapViews
import Derived.JoinedTies
import Derived.KernelRfl
namespace Go.Proofs.Ythgopanipmnphaa
/- THE CELL 'sum', in the pinned program and in every row, IS THE sha256 OF THE DUMP (.gsa) THAT YthgopanipmnphaaProg.lean LOADS. Nothing in Lean hashes anything: it is a label: what it is worth is what the hold of that sum in a sandbox is worth. -/
noncomputable def Try.pinned : Pinned := { name := "ythgopanipmnphaa", sum := "9cb9f9a3a1cfe615aa862d3d436acc5170473aa9f4cfb6d921d257d34449d420", checked := Try.checked }
namespace Rows
def none {H : Type} : Left H := { results := [], args := [] }

/-- 'hamperlaw23.NameMeets': WHATEVER THE INPUT: true; the input reads as it did. -/
def nameMeetsSpec : ChangeSpec := { name := "nameMeets", fn := fun _ => fun
  | [d1, d2] => { results := [.lit (.bool true)], args := [d1, d2] }
  | _ => none }
def nameMeetsRow : OpenClaim := { program := "ythgopanipmnphaa", sum := "9cb9f9a3a1cfe615aa862d3d436acc5170473aa9f4cfb6d921d257d34449d420", func := "hamper/hamperlaw23.NameMeets", spec := "nameMeets", inPlace := ["internal/bytealg.IndexByteString", "internal/bytealg.IndexString"], recurses := true, named := ["internal/bytealg.MaxLen"], apart := false }
def NameMeetsSaid : Prop := nameMeetsRow.holds Try.pinned (OpenSpec.ofChange nameMeetsSpec)

/-- ITS FALSE NEIGHBOUR: 'it returns false'. Refute it at one input. -/
def nameMeetsWrong : ChangeSpec := { name := "nameMeets", fn := fun _ => fun
  | [d1, d2] => { results := [.lit (.bool false)], args := [d1, d2] }
  | _ => none }
def NameMeetsWrongFalsely : Prop := nameMeetsRow.holds Try.pinned (OpenSpec.ofChange nameMeetsWrong)

/-- 'hamperlaw23.NameMoves': WHATEVER THE INPUT: true; the input reads as it did. -/
def nameMovesSpec : ChangeSpec := { name := "nameMoves", fn := fun _ => fun
  | [d1, d2, d3] => { results := [.lit (.bool true)], args := [d1, d2, d3] }
  | _ => none }
def nameMovesRow : OpenClaim := { program := "ythgopanipmnphaa", sum := "9cb9f9a3a1cfe615aa862d3d436acc5170473aa9f4cfb6d921d257d34449d420", func := "hamper/hamperlaw23.NameMoves", spec := "nameMoves", inPlace := ["internal/bytealg.IndexByteString", "internal/bytealg.IndexString"], named := ["internal/bytealg.MaxLen"], apart := false }
def NameMovesSaid : Prop := nameMovesRow.holds Try.pinned (OpenSpec.ofChange nameMovesSpec)

/-- ITS FALSE NEIGHBOUR: 'it returns false'. Refute it at one input. -/
def nameMovesWrong : ChangeSpec := { name := "nameMoves", fn := fun _ => fun
  | [d1, d2, d3] => { results := [.lit (.bool false)], args := [d1, d2, d3] }
  | _ => none }
def NameMovesWrongFalsely : Prop := nameMovesRow.holds Try.pinned (OpenSpec.ofChange nameMovesWrong)

/-- 'hamperlaw23.NameStars': WHATEVER THE INPUT: true; the input reads as it did. -/
def nameStarsSpec : ChangeSpec := { name := "nameStars", fn := fun _ => fun
  | [d] => { results := [.lit (.bool true)], args := [d] }
  | _ => none }
def nameStarsRow : OpenClaim := { program := "ythgopanipmnphaa", sum := "9cb9f9a3a1cfe615aa862d3d436acc5170473aa9f4cfb6d921d257d34449d420", func := "hamper/hamperlaw23.NameStars", spec := "nameStars", inPlace := ["internal/bytealg.IndexByteString", "internal/bytealg.IndexString"], named := ["internal/bytealg.MaxLen"], apart := false }
def NameStarsSaid : Prop := nameStarsRow.holds Try.pinned (OpenSpec.ofChange nameStarsSpec)

/-- ITS FALSE NEIGHBOUR: 'it returns false'. Refute it at one input. -/
def nameStarsWrong : ChangeSpec := { name := "nameStars", fn := fun _ => fun
  | [d] => { results := [.lit (.bool false)], args := [d] }
  | _ => none }
def NameStarsWrongFalsely : Prop := nameStarsRow.holds Try.pinned (OpenSpec.ofChange nameStarsWrong)

/-- 'hamperlaw23.NameOwn': WHATEVER THE INPUT: true; the input reads as it did. -/
def nameOwnSpec : ChangeSpec := { name := "nameOwn", fn := fun _ => fun
  | [d1, d2] => { results := [.lit (.bool true)], args := [d1, d2] }
  | _ => none }
def nameOwnRow : OpenClaim := { program := "ythgopanipmnphaa", sum := "9cb9f9a3a1cfe615aa862d3d436acc5170473aa9f4cfb6d921d257d34449d420", func := "hamper/hamperlaw23.NameOwn", spec := "nameOwn", inPlace := ["internal/bytealg.IndexByteString", "internal/bytealg.IndexString"], named := ["internal/bytealg.MaxLen"], apart := false }
def NameOwnSaid : Prop := nameOwnRow.holds Try.pinned (OpenSpec.ofChange nameOwnSpec)

/-- ITS FALSE NEIGHBOUR: 'it returns false'. Refute it at one input. -/
def nameOwnWrong : ChangeSpec := { name := "nameOwn", fn := fun _ => fun
  | [d1, d2] => { results := [.lit (.bool false)], args := [d1, d2] }
  | _ => none }
def NameOwnWrongFalsely : Prop := nameOwnRow.holds Try.pinned (OpenSpec.ofChange nameOwnWrong)

/- THE SECOND FORM. 'bulk': how many values and letters a reading holds, each counted each time it is reached (what is shared counts as often as it is met; a slice's spare places count too). A statement '..UptoSaid' is the law's where the arguments, and the package variables that the reading takes, are together of bulk at most 1048576: NARROWER than '..Said'. Prove '..Said' where nothing that the law and all that it calls make is longer than what came in: it says more and counts as full. Else prove '..UptoSaid'. A law counts once. -/
mutual
def uptoBulk {H : Type} : DataW H → Nat
  | .lit (.string bytes) => bytes.length + 1
  | .lit _ => 1
  | .nil => 1
  | .ptr d => uptoBulk d + 1
  | .slice elems spare => uptoBulkAll elems + uptoBulkAll spare + 1
  | .agg parts => uptoBulkAll parts + 1
  | .iface _ d => uptoBulk d + 1
  | .map entries => uptoBulkEntries entries + 1
  | .held _ => 1
def uptoBulkAll {H : Type} : List (DataW H) → Nat
  | [] => 0
  | d :: r => uptoBulk d + uptoBulkAll r
def uptoBulkEntries {H : Type} : List (Lit × DataW H) → Nat
  | [] => 0
  | x :: r => uptoBulkEntry x + uptoBulkEntries r
def uptoBulkEntry {H : Type} : Lit × DataW H → Nat
  | (.string bytes, d) => bytes.length + uptoBulk d + 1
  | (_, d) => uptoBulk d + 1
 end
def uptoSmall : (H : Type) → List (DataW H) → Bool := fun _ ds => decide (uptoBulkAll ds ≤ 1048576)
def OpenSpec.upto (s : _root_.Go.ChangeSpec) : _root_.Go.OpenSpec := { _root_.Go.OpenSpec.ofChange s with cond := some uptoSmall }

/-- 'hamperlaw23.NameMeets', WHERE WHAT IT READS IS OF BULK AT MOST 1048576: true; the input reads as it did. -/
def nameMeetsUptoRow : OpenClaim := { program := "ythgopanipmnphaa", sum := "9cb9f9a3a1cfe615aa862d3d436acc5170473aa9f4cfb6d921d257d34449d420", func := "hamper/hamperlaw23.NameMeets", spec := "nameMeets", inPlace := ["internal/bytealg.IndexByteString", "internal/bytealg.IndexString"], recurses := true, named := ["internal/bytealg.MaxLen"], apart := false, narrowed := true }
def NameMeetsUptoSaid : Prop := nameMeetsUptoRow.holds Try.pinned (OpenSpec.upto nameMeetsSpec)

/-- 'hamperlaw23.NameMoves', WHERE WHAT IT READS IS OF BULK AT MOST 1048576: true; the input reads as it did. -/
def nameMovesUptoRow : OpenClaim := { program := "ythgopanipmnphaa", sum := "9cb9f9a3a1cfe615aa862d3d436acc5170473aa9f4cfb6d921d257d34449d420", func := "hamper/hamperlaw23.NameMoves", spec := "nameMoves", inPlace := ["internal/bytealg.IndexByteString", "internal/bytealg.IndexString"], named := ["internal/bytealg.MaxLen"], apart := false, narrowed := true }
def NameMovesUptoSaid : Prop := nameMovesUptoRow.holds Try.pinned (OpenSpec.upto nameMovesSpec)

/-- 'hamperlaw23.NameStars', WHERE WHAT IT READS IS OF BULK AT MOST 1048576: true; the input reads as it did. -/
def nameStarsUptoRow : OpenClaim := { program := "ythgopanipmnphaa", sum := "9cb9f9a3a1cfe615aa862d3d436acc5170473aa9f4cfb6d921d257d34449d420", func := "hamper/hamperlaw23.NameStars", spec := "nameStars", inPlace := ["internal/bytealg.IndexByteString", "internal/bytealg.IndexString"], named := ["internal/bytealg.MaxLen"], apart := false, narrowed := true }
def NameStarsUptoSaid : Prop := nameStarsUptoRow.holds Try.pinned (OpenSpec.upto nameStarsSpec)

/-- 'hamperlaw23.NameOwn', WHERE WHAT IT READS IS OF BULK AT MOST 1048576: true; the input reads as it did. -/
def nameOwnUptoRow : OpenClaim := { program := "ythgopanipmnphaa", sum := "9cb9f9a3a1cfe615aa862d3d436acc5170473aa9f4cfb6d921d257d34449d420", func := "hamper/hamperlaw23.NameOwn", spec := "nameOwn", inPlace := ["internal/bytealg.IndexByteString", "internal/bytealg.IndexString"], named := ["internal/bytealg.MaxLen"], apart := false, narrowed := true }
def NameOwnUptoSaid : Prop := nameOwnUptoRow.holds Try.pinned (OpenSpec.upto nameOwnSpec)

end Rows
end Go.Proofs.Ythgopanipmnphaa
