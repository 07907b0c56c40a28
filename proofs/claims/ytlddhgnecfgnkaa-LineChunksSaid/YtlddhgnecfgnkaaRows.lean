/-
  No cell of these rows narrows 'for every input' (looked for: loops, veiled, ifaces, maps, wideKeys, modest, calm, conditions, laid).
  DERIVED. THE GIVEN ROWS OF THIS SEAT. 4 by the template 'for every input the law returns true; each argument reads behind the call as it read before'; 0 by the template 'total and deterministic' (their statements: YtlddhgnecfgnkaaTotals.lean).
  GIVEN WITH THE SEED: the statements are not yours to turn. If you find one false, say at which input.
  Laid BY PROGRAM, IN A SANDBOX (cutbox-rows.mjs): the forced cells as the released guide's own fill.sh prints them over the translation 8710ce974c86273c… (all of the seat's roots in one cut). By AI agents, Wed Nov 11 2026. No macro, syntax, notation, axiom, sorry.
-/
import Derived.Test.YtlddhgnecfgnkaaChecked
import GoSem.Claim
import GoSem.ClaimJoined
import GoSem.ClaimMapViews
import Derived.JoinedTies
import Derived.KernelRfl
namespace Go.Proofs.Ytlddhgnecfgnkaa
/- THE CELL 'sum', in the pinned program and in every row, IS THE sha256 OF THE DUMP (.gsa) THAT YtlddhgnecfgnkaaProg.lean LOADS. Nothing in Lean hashes anything: it is a label: what it is worth is what the hold of that sum in a sandbox is worth. -/
noncomputable def Try.pinned : Pinned := { name := "ytlddhgnecfgnkaa", sum := "8710ce974c86273c92d8501eb643e54d0d8a170a05fa6fd7e9d15a4e3cfd0b30", checked := Try.checked }
namespace Rows
def none {H : Type} : Left H := { results := [], args := [] }

/-- 'hamperlaw29.LineNumbers': WHATEVER THE INPUT: true; the input reads as it did. -/
def lineNumbersSpec : ChangeSpec := { name := "lineNumbers", fn := fun _ => fun
  | [] => { results := [.lit (.bool true)], args := [] }
  | _ => none }
def lineNumbersRow : OpenClaim := { program := "ytlddhgnecfgnkaa", sum := "8710ce974c86273c92d8501eb643e54d0d8a170a05fa6fd7e9d15a4e3cfd0b30", func := "hamper/hamperlaw29.LineNumbers", spec := "lineNumbers", inPlace := ["internal/abi.NoEscape", "internal/bytealg.IndexByteString", "internal/bytealg.IndexString"], unfollowed := true, recurses := true, named := ["internal/bytealg.MaxLen"], apart := false }
def LineNumbersSaid : Prop := lineNumbersRow.holds Try.pinned (OpenSpec.ofChange lineNumbersSpec)

/-- ITS FALSE NEIGHBOUR: 'it returns false'. Refute it at one input. -/
def lineNumbersWrong : ChangeSpec := { name := "lineNumbers", fn := fun _ => fun
  | [] => { results := [.lit (.bool false)], args := [] }
  | _ => none }
def LineNumbersWrongFalsely : Prop := lineNumbersRow.holds Try.pinned (OpenSpec.ofChange lineNumbersWrong)

/-- 'hamperlaw29.LineChunks': WHATEVER THE INPUT: true; the input reads as it did. -/
def lineChunksSpec : ChangeSpec := { name := "lineChunks", fn := fun _ => fun
  | [d] => { results := [.lit (.bool true)], args := [d] }
  | _ => none }
def lineChunksRow : OpenClaim := { program := "ytlddhgnecfgnkaa", sum := "8710ce974c86273c92d8501eb643e54d0d8a170a05fa6fd7e9d15a4e3cfd0b30", func := "hamper/hamperlaw29.LineChunks", spec := "lineChunks", inPlace := ["internal/abi.NoEscape", "internal/bytealg.IndexByteString", "internal/bytealg.IndexString"], unfollowed := true, recurses := true, named := ["internal/bytealg.MaxLen"], apart := false }
def LineChunksSaid : Prop := lineChunksRow.holds Try.pinned (OpenSpec.ofChange lineChunksSpec)

/-- ITS FALSE NEIGHBOUR: 'it returns false'. Refute it at one input. -/
def lineChunksWrong : ChangeSpec := { name := "lineChunks", fn := fun _ => fun
  | [d] => { results := [.lit (.bool false)], args := [d] }
  | _ => none }
def LineChunksWrongFalsely : Prop := lineChunksRow.holds Try.pinned (OpenSpec.ofChange lineChunksWrong)

/-- 'hamperlaw29.LineQuotes': WHATEVER THE INPUT: true; the input reads as it did. -/
def lineQuotesSpec : ChangeSpec := { name := "lineQuotes", fn := fun _ => fun
  | [d] => { results := [.lit (.bool true)], args := [d] }
  | _ => none }
def lineQuotesRow : OpenClaim := { program := "ytlddhgnecfgnkaa", sum := "8710ce974c86273c92d8501eb643e54d0d8a170a05fa6fd7e9d15a4e3cfd0b30", func := "hamper/hamperlaw29.LineQuotes", spec := "lineQuotes", inPlace := ["internal/abi.NoEscape", "internal/bytealg.IndexByteString", "internal/bytealg.IndexString"], unfollowed := true, recurses := true, named := ["internal/bytealg.MaxLen"], apart := false }
def LineQuotesSaid : Prop := lineQuotesRow.holds Try.pinned (OpenSpec.ofChange lineQuotesSpec)

/-- ITS FALSE NEIGHBOUR: 'it returns false'. Refute it at one input. -/
def lineQuotesWrong : ChangeSpec := { name := "lineQuotes", fn := fun _ => fun
  | [d] => { results := [.lit (.bool false)], args := [d] }
  | _ => none }
def LineQuotesWrongFalsely : Prop := lineQuotesRow.holds Try.pinned (OpenSpec.ofChange lineQuotesWrong)

/-- 'hamperlaw29.LineBounds': WHATEVER THE INPUT: true; the input reads as it did. -/
def lineBoundsSpec : ChangeSpec := { name := "lineBounds", fn := fun _ => fun
  | [d1, d2, d3] => { results := [.lit (.bool true)], args := [d1, d2, d3] }
  | _ => none }
def lineBoundsRow : OpenClaim := { program := "ytlddhgnecfgnkaa", sum := "8710ce974c86273c92d8501eb643e54d0d8a170a05fa6fd7e9d15a4e3cfd0b30", func := "hamper/hamperlaw29.LineBounds", spec := "lineBounds", inPlace := ["internal/abi.NoEscape", "internal/bytealg.IndexByteString", "internal/bytealg.IndexString"], unfollowed := true, recurses := true, named := ["internal/bytealg.MaxLen"], apart := false }
def LineBoundsSaid : Prop := lineBoundsRow.holds Try.pinned (OpenSpec.ofChange lineBoundsSpec)

/-- ITS FALSE NEIGHBOUR: 'it returns false'. Refute it at one input. -/
def lineBoundsWrong : ChangeSpec := { name := "lineBounds", fn := fun _ => fun
  | [d1, d2, d3] => { results := [.lit (.bool false)], args := [d1, d2, d3] }
  | _ => none }
def LineBoundsWrongFalsely : Prop := lineBoundsRow.holds Try.pinned (OpenSpec.ofChange lineBoundsWrong)

/- THE SECOND FORM. 'bulk': how many values and letters a reading holds, each counted each time it is reached (what is shared counts as often as it is met; a slice's spare places count too). A statement '..UptoSaid' is the law's where the arguments, and the package variables that the reading takes, are together of bulk at most 1048576: NARROWER than '..Said'. Prove '..Said' where nothing that the law and all that it calls make is longer than what came in: it says more and counts as full. Else prove '..UptoSaid'. A law counts once. -/
mutual
def uptoBulk {H : Type} : DataW H → Nat
  | .lit (.string bytes) => bytes.length + 1
  | .lit _ => 1
  | .nil => 1
  | .ptr d => uptoBulk d + 1
  | .slice elems spare => uptoBulkAll elems + uptoBulkAll spare + 1
  | .agg parts => uptoBulkAll parts + 1
  | .iface _ d => uptoBulk d + 1
  | .map entries => uptoBulkEntries entries + 1
  | .held _ => 1
def uptoBulkAll {H : Type} : List (DataW H) → Nat
  | [] => 0
  | d :: r => uptoBulk d + uptoBulkAll r
def uptoBulkEntries {H : Type} : List (Lit × DataW H) → Nat
  | [] => 0
  | x :: r => uptoBulkEntry x + uptoBulkEntries r
def uptoBulkEntry {H : Type} : Lit × DataW H → Nat
  | (.string bytes, d) => bytes.length + uptoBulk d + 1
  | (_, d) => uptoBulk d + 1
 end
def uptoSmall : (H : Type) → List (DataW H) → Bool := fun _ ds => decide (uptoBulkAll ds ≤ 1048576)
def OpenSpec.upto (s : _root_.Go.ChangeSpec) : _root_.Go.OpenSpec := { _root_.Go.OpenSpec.ofChange s with cond := some uptoSmall }

/-- 'hamperlaw29.LineNumbers', WHERE WHAT IT READS IS OF BULK AT MOST 1048576: true; the input reads as it did. -/
def lineNumbersUptoRow : OpenClaim := { program := "ytlddhgnecfgnkaa", sum := "8710ce974c86273c92d8501eb643e54d0d8a170a05fa6fd7e9d15a4e3cfd0b30", func := "hamper/hamperlaw29.LineNumbers", spec := "lineNumbers", inPlace := ["internal/abi.NoEscape", "internal/bytealg.IndexByteString", "internal/bytealg.IndexString"], unfollowed := true, recurses := true, named := ["internal/bytealg.MaxLen"], apart := false, narrowed := true }
def LineNumbersUptoSaid : Prop := lineNumbersUptoRow.holds Try.pinned (OpenSpec.upto lineNumbersSpec)

/-- 'hamperlaw29.LineChunks', WHERE WHAT IT READS IS OF BULK AT MOST 1048576: true; the input reads as it did. -/
def lineChunksUptoRow : OpenClaim := { program := "ytlddhgnecfgnkaa", sum := "8710ce974c86273c92d8501eb643e54d0d8a170a05fa6fd7e9d15a4e3cfd0b30", func := "hamper/hamperlaw29.LineChunks", spec := "lineChunks", inPlace := ["internal/abi.NoEscape", "internal/bytealg.IndexByteString", "internal/bytealg.IndexString"], unfollowed := true, recurses := true, named := ["internal/bytealg.MaxLen"], apart := false, narrowed := true }
def LineChunksUptoSaid : Prop := lineChunksUptoRow.holds Try.pinned (OpenSpec.upto lineChunksSpec)

/-- 'hamperlaw29.LineQuotes', WHERE WHAT IT READS IS OF BULK AT MOST 1048576: true; the input reads as it did. -/
def lineQuotesUptoRow : OpenClaim := { program := "ytlddhgnecfgnkaa", sum := "8710ce974c86273c92d8501eb643e54d0d8a170a05fa6fd7e9d15a4e3cfd0b30", func := "hamper/hamperlaw29.LineQuotes", spec := "lineQuotes", inPlace := ["internal/abi.NoEscape", "internal/bytealg.IndexByteString", "internal/bytealg.IndexString"], unfollowed := true, recurses := true, named := ["internal/bytealg.MaxLen"], apart := false, narrowed := true }
def LineQuotesUptoSaid : Prop := lineQuotesUptoRow.holds Try.pinned (OpenSpec.upto lineQuotesSpec)

/-- 'hamperlaw29.LineBounds', WHERE WHAT IT READS IS OF BULK AT MOST 1048576: true; the input reads as it did. -/
def lineBoundsUptoRow : OpenClaim := { program := "ytlddhgnecfgnkaa", sum := "8710ce974c86273c92d8501eb643e54d0d8a170a05fa6fd7e9d15a4e3cfd0b30", func := "hamper/hamperlaw29.LineBounds", spec := "lineBounds", inPlace := ["internal/abi.NoEscape", "internal/bytealg.IndexByteString", "internal/bytealg.IndexString"], unfollowed := true, recurses := true, named := ["internal/bytealg.MaxLen"], apart := false, narrowed := true }
def LineBoundsUptoSaid : Prop := lineBoundsUptoRow.holds Try.pinned (OpenSpec.upto lineBoundsSpec)

end Rows
end Go.Proofs.Ytlddhgnecfgnkaa
