/-
  NARROWER THAN 'FOR EVERY INPUT', by the rows' own cells (each row's printed sentence says how): HeadFinds: laid · HeadPicks: laid · HeadOrder: laid · HeadAdds: laid · HeadFields: laid.
  DERIVED. THE GIVEN ROWS OF THIS SEAT. 5 by the template 'for every input the law returns true; each argument reads behind the call as it read before'; 0 by the template 'total and deterministic' (their statements: YthlofpofcpconaaDoorTotals.lean).
  GIVEN WITH THE SEED: the statements are not yours to turn. If you find one false, say at which input.
  Laid BY PROGRAM, IN A SANDBOX (cutbox-rows.mjs): the forced cells as the released guide's own fill.sh prints them over the translation 6a849eb456e1a01f… (all of the seat's roots in one cut). By AI agents, Wed Nov 11 2026. No macro, syntax, notation, axiom, sorry.
-/
import Derived.Test.YthlofpofcpconaaDoorChecked
import GoSem.PinnedTables
import GoSem.Claim
import GoSem.ClaimJoined
import GoSem.ClaimMapViews
import Derived.JoinedTies
import Derived.KernelRfl
namespace Go.Proofs.YthlofpofcpconaaDoor
/- THE CELL 'sum', in the pinned program and in every row, IS THE sha256 OF THE DUMP (.gsa) THAT YthlofpofcpconaaDoorProg.lean LOADS. Nothing in Lean hashes anything: it is a label: what it is worth is what the hold of that sum in a sandbox is worth. -/
noncomputable def Tryd.pinned : Pinned := { name := "ythlofpofcpconaadoor", sum := "6a849eb456e1a01f0ef26f4ae5db3bbb0917f6892b045649dd7417a09bfb2607", checked := Tryd.checked }
namespace Rows
def none {H : Type} : Left H := { results := [], args := [] }

/- WHAT THE LISTED PACKAGE-LEVEL VARIABLES READ AS WHEN THE CALL BEGINS. Each datum BY PROGRAM (the guide's laid-datum.mjs) off the statement by which the dump's own 'gosem.cut.vars' lays the variable. In a bare row this is a premise. The card (YthlofpofcpconaaDoorCards.lean) ties it to the program's text. -/
def laid_unicode_utf8_acceptRanges {H : Type} : DataW H := .agg [.agg [.lit (.int .u8 128), .lit (.int .u8 191)], .agg [.lit (.int .u8 160), .lit (.int .u8 191)], .agg [.lit (.int .u8 128), .lit (.int .u8 159)], .agg [.lit (.int .u8 144), .lit (.int .u8 191)], .agg [.lit (.int .u8 128), .lit (.int .u8 143)], .agg [.lit (.int .u8 0), .lit (.int .u8 0)], .agg [.lit (.int .u8 0), .lit (.int .u8 0)], .agg [.lit (.int .u8 0), .lit (.int .u8 0)], .agg [.lit (.int .u8 0), .lit (.int .u8 0)], .agg [.lit (.int .u8 0), .lit (.int .u8 0)], .agg [.lit (.int .u8 0), .lit (.int .u8 0)], .agg [.lit (.int .u8 0), .lit (.int .u8 0)], .agg [.lit (.int .u8 0), .lit (.int .u8 0)], .agg [.lit (.int .u8 0), .lit (.int .u8 0)], .agg [.lit (.int .u8 0), .lit (.int .u8 0)], .agg [.lit (.int .u8 0), .lit (.int .u8 0)]]
/-- One of Go's own tables, pinned by name: the form's constant. -/
def laid_unicode_utf8_first : DataW Unit := Go.Pinned.utf8First

/-- 'hamperlaw17.HeadFinds': WHATEVER THE INPUT: true; the input reads as it did. -/
def headFindsSpec : ChangeSpec := { name := "headFinds", fn := fun _ => fun
  | [d1, d2, d3] => { results := [.lit (.bool true)], args := [d1, d2, d3] }
  | _ => none }
def headFindsRow : OpenClaim := { program := "ythlofpofcpconaadoor", sum := "6a849eb456e1a01f0ef26f4ae5db3bbb0917f6892b045649dd7417a09bfb2607", func := "hamper/hamperlaw17.HeadFinds", spec := "headFinds", inPlace := ["internal/bytealg.IndexByte", "internal/abi.NoEscape", "internal/bytealg.IndexByteString", "internal/bytealg.IndexString"], unfollowed := true, recurses := true, named := ["unicode/utf8.first", "unicode/utf8.acceptRanges", "internal/bytealg.MaxLen"], apart := false, laid := [("unicode/utf8.acceptRanges", laid_unicode_utf8_acceptRanges), ("unicode/utf8.first", laid_unicode_utf8_first)] }
def HeadFindsSaid : Prop := headFindsRow.holds Tryd.pinned (OpenSpec.ofChange headFindsSpec)

/-- ITS FALSE NEIGHBOUR: 'it returns false'. Refute it at one input. -/
def headFindsWrong : ChangeSpec := { name := "headFinds", fn := fun _ => fun
  | [d1, d2, d3] => { results := [.lit (.bool false)], args := [d1, d2, d3] }
  | _ => none }
def HeadFindsWrongFalsely : Prop := headFindsRow.holds Tryd.pinned (OpenSpec.ofChange headFindsWrong)

/-- 'hamperlaw17.HeadPicks': WHATEVER THE INPUT: true; the input reads as it did. -/
def headPicksSpec : ChangeSpec := { name := "headPicks", fn := fun _ => fun
  | [d1, d2, d3] => { results := [.lit (.bool true)], args := [d1, d2, d3] }
  | _ => none }
def headPicksRow : OpenClaim := { program := "ythlofpofcpconaadoor", sum := "6a849eb456e1a01f0ef26f4ae5db3bbb0917f6892b045649dd7417a09bfb2607", func := "hamper/hamperlaw17.HeadPicks", spec := "headPicks", inPlace := ["internal/bytealg.IndexByte", "internal/abi.NoEscape", "internal/bytealg.IndexByteString", "internal/bytealg.IndexString"], unfollowed := true, recurses := true, named := ["unicode/utf8.first", "unicode/utf8.acceptRanges", "internal/bytealg.MaxLen"], apart := false, laid := [("unicode/utf8.acceptRanges", laid_unicode_utf8_acceptRanges), ("unicode/utf8.first", laid_unicode_utf8_first)] }
def HeadPicksSaid : Prop := headPicksRow.holds Tryd.pinned (OpenSpec.ofChange headPicksSpec)

/-- ITS FALSE NEIGHBOUR: 'it returns false'. Refute it at one input. -/
def headPicksWrong : ChangeSpec := { name := "headPicks", fn := fun _ => fun
  | [d1, d2, d3] => { results := [.lit (.bool false)], args := [d1, d2, d3] }
  | _ => none }
def HeadPicksWrongFalsely : Prop := headPicksRow.holds Tryd.pinned (OpenSpec.ofChange headPicksWrong)

/-- 'hamperlaw17.HeadOrder': WHATEVER THE INPUT: true; the input reads as it did. -/
def headOrderSpec : ChangeSpec := { name := "headOrder", fn := fun _ => fun
  | [d] => { results := [.lit (.bool true)], args := [d] }
  | _ => none }
def headOrderRow : OpenClaim := { program := "ythlofpofcpconaadoor", sum := "6a849eb456e1a01f0ef26f4ae5db3bbb0917f6892b045649dd7417a09bfb2607", func := "hamper/hamperlaw17.HeadOrder", spec := "headOrder", inPlace := ["internal/bytealg.IndexByte", "internal/abi.NoEscape", "internal/bytealg.IndexByteString", "internal/bytealg.IndexString"], unfollowed := true, recurses := true, named := ["unicode/utf8.first", "unicode/utf8.acceptRanges", "internal/bytealg.MaxLen"], apart := false, laid := [("unicode/utf8.acceptRanges", laid_unicode_utf8_acceptRanges), ("unicode/utf8.first", laid_unicode_utf8_first)] }
def HeadOrderSaid : Prop := headOrderRow.holds Tryd.pinned (OpenSpec.ofChange headOrderSpec)

/-- ITS FALSE NEIGHBOUR: 'it returns false'. Refute it at one input. -/
def headOrderWrong : ChangeSpec := { name := "headOrder", fn := fun _ => fun
  | [d] => { results := [.lit (.bool false)], args := [d] }
  | _ => none }
def HeadOrderWrongFalsely : Prop := headOrderRow.holds Tryd.pinned (OpenSpec.ofChange headOrderWrong)

/-- 'hamperlaw17.HeadAdds': WHATEVER THE INPUT: true; the input reads as it did. -/
def headAddsSpec : ChangeSpec := { name := "headAdds", fn := fun _ => fun
  | [d1, d2] => { results := [.lit (.bool true)], args := [d1, d2] }
  | _ => none }
def headAddsRow : OpenClaim := { program := "ythlofpofcpconaadoor", sum := "6a849eb456e1a01f0ef26f4ae5db3bbb0917f6892b045649dd7417a09bfb2607", func := "hamper/hamperlaw17.HeadAdds", spec := "headAdds", inPlace := ["internal/bytealg.IndexByte", "internal/abi.NoEscape", "internal/bytealg.IndexByteString", "internal/bytealg.IndexString"], unfollowed := true, recurses := true, named := ["unicode/utf8.first", "unicode/utf8.acceptRanges", "internal/bytealg.MaxLen"], apart := false, laid := [("unicode/utf8.acceptRanges", laid_unicode_utf8_acceptRanges), ("unicode/utf8.first", laid_unicode_utf8_first)] }
def HeadAddsSaid : Prop := headAddsRow.holds Tryd.pinned (OpenSpec.ofChange headAddsSpec)

/-- ITS FALSE NEIGHBOUR: 'it returns false'. Refute it at one input. -/
def headAddsWrong : ChangeSpec := { name := "headAdds", fn := fun _ => fun
  | [d1, d2] => { results := [.lit (.bool false)], args := [d1, d2] }
  | _ => none }
def HeadAddsWrongFalsely : Prop := headAddsRow.holds Tryd.pinned (OpenSpec.ofChange headAddsWrong)

/-- 'hamperlaw17.HeadFields': WHATEVER THE INPUT: true; the input reads as it did. -/
def headFieldsSpec : ChangeSpec := { name := "headFields", fn := fun _ => fun
  | [d1, d2] => { results := [.lit (.bool true)], args := [d1, d2] }
  | _ => none }
def headFieldsRow : OpenClaim := { program := "ythlofpofcpconaadoor", sum := "6a849eb456e1a01f0ef26f4ae5db3bbb0917f6892b045649dd7417a09bfb2607", func := "hamper/hamperlaw17.HeadFields", spec := "headFields", inPlace := ["internal/bytealg.IndexByte", "internal/abi.NoEscape", "internal/bytealg.IndexByteString", "internal/bytealg.IndexString", "internal/bytealg.Count", "internal/bytealg.Index"], unfollowed := true, recurses := true, named := ["unicode/utf8.first", "unicode/utf8.acceptRanges", "internal/bytealg.MaxLen"], apart := false, laid := [("unicode/utf8.acceptRanges", laid_unicode_utf8_acceptRanges), ("unicode/utf8.first", laid_unicode_utf8_first)] }
def HeadFieldsSaid : Prop := headFieldsRow.holds Tryd.pinned (OpenSpec.ofChange headFieldsSpec)

/-- ITS FALSE NEIGHBOUR: 'it returns false'. Refute it at one input. -/
def headFieldsWrong : ChangeSpec := { name := "headFields", fn := fun _ => fun
  | [d1, d2] => { results := [.lit (.bool false)], args := [d1, d2] }
  | _ => none }
def HeadFieldsWrongFalsely : Prop := headFieldsRow.holds Tryd.pinned (OpenSpec.ofChange headFieldsWrong)

/- THE SECOND FORM. 'bulk': how many values and letters a reading holds, each counted each time it is reached (what is shared counts as often as it is met; a slice's spare places count too). A statement '..UptoSaid' is the law's where the arguments, and the package variables that the reading takes, are together of bulk at most 1048576: NARROWER than '..Said'. Prove '..Said' where nothing that the law and all that it calls make is longer than what came in: it says more and counts as full. Else prove '..UptoSaid'. A law counts once. -/
mutual
def uptoBulk {H : Type} : DataW H → Nat
  | .lit (.string bytes) => bytes.length + 1
  | .lit _ => 1
  | .nil => 1
  | .ptr d => uptoBulk d + 1
  | .slice elems spare => uptoBulkAll elems + uptoBulkAll spare + 1
  | .agg parts => uptoBulkAll parts + 1
  | .iface _ d => uptoBulk d + 1
  | .map entries => uptoBulkEntries entries + 1
  | .held _ => 1
def uptoBulkAll {H : Type} : List (DataW H) → Nat
  | [] => 0
  | d :: r => uptoBulk d + uptoBulkAll r
def uptoBulkEntries {H : Type} : List (Lit × DataW H) → Nat
  | [] => 0
  | x :: r => uptoBulkEntry x + uptoBulkEntries r
def uptoBulkEntry {H : Type} : Lit × DataW H → Nat
  | (.string bytes, d) => bytes.length + uptoBulk d + 1
  | (_, d) => uptoBulk d + 1
 end
def uptoSmall : (H : Type) → List (DataW H) → Bool := fun _ ds => decide (uptoBulkAll ds ≤ 1048576)
def OpenSpec.upto (s : _root_.Go.ChangeSpec) : _root_.Go.OpenSpec := { _root_.Go.OpenSpec.ofChange s with cond := some uptoSmall }

/-- 'hamperlaw17.HeadFinds', WHERE WHAT IT READS IS OF BULK AT MOST 1048576: true; the input reads as it did. -/
def headFindsUptoRow : OpenClaim := { program := "ythlofpofcpconaadoor", sum := "6a849eb456e1a01f0ef26f4ae5db3bbb0917f6892b045649dd7417a09bfb2607", func := "hamper/hamperlaw17.HeadFinds", spec := "headFinds", inPlace := ["internal/bytealg.IndexByte", "internal/abi.NoEscape", "internal/bytealg.IndexByteString", "internal/bytealg.IndexString"], unfollowed := true, recurses := true, named := ["unicode/utf8.first", "unicode/utf8.acceptRanges", "internal/bytealg.MaxLen"], apart := false, laid := [("unicode/utf8.acceptRanges", laid_unicode_utf8_acceptRanges), ("unicode/utf8.first", laid_unicode_utf8_first)], narrowed := true }
def HeadFindsUptoSaid : Prop := headFindsUptoRow.holds Tryd.pinned (OpenSpec.upto headFindsSpec)

/-- 'hamperlaw17.HeadPicks', WHERE WHAT IT READS IS OF BULK AT MOST 1048576: true; the input reads as it did. -/
def headPicksUptoRow : OpenClaim := { program := "ythlofpofcpconaadoor", sum := "6a849eb456e1a01f0ef26f4ae5db3bbb0917f6892b045649dd7417a09bfb2607", func := "hamper/hamperlaw17.HeadPicks", spec := "headPicks", inPlace := ["internal/bytealg.IndexByte", "internal/abi.NoEscape", "internal/bytealg.IndexByteString", "internal/bytealg.IndexString"], unfollowed := true, recurses := true, named := ["unicode/utf8.first", "unicode/utf8.acceptRanges", "internal/bytealg.MaxLen"], apart := false, laid := [("unicode/utf8.acceptRanges", laid_unicode_utf8_acceptRanges), ("unicode/utf8.first", laid_unicode_utf8_first)], narrowed := true }
def HeadPicksUptoSaid : Prop := headPicksUptoRow.holds Tryd.pinned (OpenSpec.upto headPicksSpec)

/-- 'hamperlaw17.HeadOrder', WHERE WHAT IT READS IS OF BULK AT MOST 1048576: true; the input reads as it did. -/
def headOrderUptoRow : OpenClaim := { program := "ythlofpofcpconaadoor", sum := "6a849eb456e1a01f0ef26f4ae5db3bbb0917f6892b045649dd7417a09bfb2607", func := "hamper/hamperlaw17.HeadOrder", spec := "headOrder", inPlace := ["internal/bytealg.IndexByte", "internal/abi.NoEscape", "internal/bytealg.IndexByteString", "internal/bytealg.IndexString"], unfollowed := true, recurses := true, named := ["unicode/utf8.first", "unicode/utf8.acceptRanges", "internal/bytealg.MaxLen"], apart := false, laid := [("unicode/utf8.acceptRanges", laid_unicode_utf8_acceptRanges), ("unicode/utf8.first", laid_unicode_utf8_first)], narrowed := true }
def HeadOrderUptoSaid : Prop := headOrderUptoRow.holds Tryd.pinned (OpenSpec.upto headOrderSpec)

/-- 'hamperlaw17.HeadAdds', WHERE WHAT IT READS IS OF BULK AT MOST 1048576: true; the input reads as it did. -/
def headAddsUptoRow : OpenClaim := { program := "ythlofpofcpconaadoor", sum := "6a849eb456e1a01f0ef26f4ae5db3bbb0917f6892b045649dd7417a09bfb2607", func := "hamper/hamperlaw17.HeadAdds", spec := "headAdds", inPlace := ["internal/bytealg.IndexByte", "internal/abi.NoEscape", "internal/bytealg.IndexByteString", "internal/bytealg.IndexString"], unfollowed := true, recurses := true, named := ["unicode/utf8.first", "unicode/utf8.acceptRanges", "internal/bytealg.MaxLen"], apart := false, laid := [("unicode/utf8.acceptRanges", laid_unicode_utf8_acceptRanges), ("unicode/utf8.first", laid_unicode_utf8_first)], narrowed := true }
def HeadAddsUptoSaid : Prop := headAddsUptoRow.holds Tryd.pinned (OpenSpec.upto headAddsSpec)

/-- 'hamperlaw17.HeadFields', WHERE WHAT IT READS IS OF BULK AT MOST 1048576: true; the input reads as it did. -/
def headFieldsUptoRow : OpenClaim := { program := "ythlofpofcpconaadoor", sum := "6a849eb456e1a01f0ef26f4ae5db3bbb0917f6892b045649dd7417a09bfb2607", func := "hamper/hamperlaw17.HeadFields", spec := "headFields", inPlace := ["internal/bytealg.IndexByte", "internal/abi.NoEscape", "internal/bytealg.IndexByteString", "internal/bytealg.IndexString", "internal/bytealg.Count", "internal/bytealg.Index"], unfollowed := true, recurses := true, named := ["unicode/utf8.first", "unicode/utf8.acceptRanges", "internal/bytealg.MaxLen"], apart := false, laid := [("unicode/utf8.acceptRanges", laid_unicode_utf8_acceptRanges), ("unicode/utf8.first", laid_unicode_utf8_first)], narrowed := true }
def HeadFieldsUptoSaid : Prop := headFieldsUptoRow.holds Tryd.pinned (OpenSpec.upto headFieldsSpec)

end Rows
end Go.Proofs.YthlofpofcpconaaDoor
