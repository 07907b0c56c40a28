/-
  NARROWER THAN 'FOR EVERY INPUT', by the rows' own cells (each row's printed sentence says how): SearchDays: laid · SearchMatches: loops, laid · SearchNumbers: laid · SearchTexts: laid.
  DERIVED. THE GIVEN ROWS OF THIS SEAT. 4 by the template 'for every input the law returns true; each argument reads behind the call as it read before'; 0 by the template 'total and deterministic' (their statements: YtonjadmldgloaaaGreatDoorTotals.lean).
  GIVEN WITH THE SEED: the statements are not yours to turn. If you find one false, say at which input.
  Laid BY PROGRAM, IN A SANDBOX (cutbox-rows.mjs): the forced cells as the released guide's own fill.sh prints them over the translation 1a20e94d36cd6275… (all of the seat's roots in one cut). By AI agents, Wed Nov 11 2026. No macro, syntax, notation, axiom, sorry.
-/
import Derived.Test.YtonjadmldgloaaaGreatDoorChecked
import GoSem.PinnedTables
import GoSem.Claim
import GoSem.ClaimJoined
import GoSem.ClaimMapViews
import Derived.JoinedTies
import Derived.KernelRfl
namespace Go.Proofs.YtonjadmldgloaaaGreatDoor
/- THE CELL 'sum', in the pinned program and in every row, IS THE sha256 OF THE DUMP (.gsa) THAT YtonjadmldgloaaaGreatDoorProg.lean LOADS. Nothing in Lean hashes anything: it is a label: what it is worth is what the hold of that sum in a sandbox is worth. -/
noncomputable def Tryz.pinned : Pinned := { name := "ytonjadmldgloaaagreatdoor", sum := "1a20e94d36cd6275628c2e9a3f4236d60aa3021e3e71222390b7a08690917c1f", checked := Tryz.checked }
namespace Rows
def none {H : Type} : Left H := { results := [], args := [] }

/- WHAT THE LISTED PACKAGE-LEVEL VARIABLES READ AS WHEN THE CALL BEGINS. Each datum BY PROGRAM (the guide's laid-datum.mjs) off the statement by which the dump's own 'gosem.cut.vars' lays the variable. In a bare row this is a premise. The card (YtonjadmldgloaaaGreatDoorCards.lean) ties it to the program's text. -/
def laid_unicode_utf8_acceptRanges {H : Type} : DataW H := .agg [.agg [.lit (.int .u8 128), .lit (.int .u8 191)], .agg [.lit (.int .u8 160), .lit (.int .u8 191)], .agg [.lit (.int .u8 128), .lit (.int .u8 159)], .agg [.lit (.int .u8 144), .lit (.int .u8 191)], .agg [.lit (.int .u8 128), .lit (.int .u8 143)], .agg [.lit (.int .u8 0), .lit (.int .u8 0)], .agg [.lit (.int .u8 0), .lit (.int .u8 0)], .agg [.lit (.int .u8 0), .lit (.int .u8 0)], .agg [.lit (.int .u8 0), .lit (.int .u8 0)], .agg [.lit (.int .u8 0), .lit (.int .u8 0)], .agg [.lit (.int .u8 0), .lit (.int .u8 0)], .agg [.lit (.int .u8 0), .lit (.int .u8 0)], .agg [.lit (.int .u8 0), .lit (.int .u8 0)], .agg [.lit (.int .u8 0), .lit (.int .u8 0)], .agg [.lit (.int .u8 0), .lit (.int .u8 0)], .agg [.lit (.int .u8 0), .lit (.int .u8 0)]]
/-- One of Go's own tables, pinned by name: the form's constant. -/
def laid_unicode_utf8_first : DataW Unit := Go.Pinned.utf8First

/-- 'hamperlaw28.SearchDays': WHATEVER THE INPUT: true; the input reads as it did. -/
def searchDaysSpec : ChangeSpec := { name := "searchDays", fn := fun _ => fun
  | [d1, d2] => { results := [.lit (.bool true)], args := [d1, d2] }
  | _ => none }
def searchDaysRow : OpenClaim := { program := "ytonjadmldgloaaagreatdoor", sum := "1a20e94d36cd6275628c2e9a3f4236d60aa3021e3e71222390b7a08690917c1f", func := "hamper/hamperlaw28.SearchDays", spec := "searchDays", inPlace := ["internal/bytealg.IndexByte", "internal/abi.NoEscape", "internal/bytealg.IndexByteString", "internal/bytealg.IndexString"], unfollowed := true, recurses := true, named := ["unicode/utf8.first", "unicode/utf8.acceptRanges", "internal/bytealg.MaxLen"], apart := false, laid := [("unicode/utf8.acceptRanges", laid_unicode_utf8_acceptRanges), ("unicode/utf8.first", laid_unicode_utf8_first)] }
def SearchDaysSaid : Prop := searchDaysRow.holds Tryz.pinned (OpenSpec.ofChange searchDaysSpec)

/-- ITS FALSE NEIGHBOUR: 'it returns false'. Refute it at one input. -/
def searchDaysWrong : ChangeSpec := { name := "searchDays", fn := fun _ => fun
  | [d1, d2] => { results := [.lit (.bool false)], args := [d1, d2] }
  | _ => none }
def SearchDaysWrongFalsely : Prop := searchDaysRow.holds Tryz.pinned (OpenSpec.ofChange searchDaysWrong)

/-- 'hamperlaw28.SearchMatches': WHATEVER THE INPUT: true; the input reads as it did. -/
def searchMatchesSpec : ChangeSpec := { name := "searchMatches", fn := fun _ => fun
  | [d1, d2] => { results := [.lit (.bool true)], args := [d1, d2] }
  | _ => none }
def searchMatchesRow : OpenClaim := { program := "ytonjadmldgloaaagreatdoor", sum := "1a20e94d36cd6275628c2e9a3f4236d60aa3021e3e71222390b7a08690917c1f", func := "hamper/hamperlaw28.SearchMatches", spec := "searchMatches", inPlace := ["internal/bytealg.IndexByte", "internal/abi.NoEscape", "internal/bytealg.IndexByteString", "internal/bytealg.IndexString"], unfollowed := true, recurses := true, named := ["unicode/utf8.first", "unicode/utf8.acceptRanges", "internal/bytealg.MaxLen"], loops := true, apart := false, laid := [("unicode/utf8.acceptRanges", laid_unicode_utf8_acceptRanges), ("unicode/utf8.first", laid_unicode_utf8_first)] }
def SearchMatchesSaid : Prop := searchMatchesRow.holds Tryz.pinned (OpenSpec.ofChange searchMatchesSpec)

/-- ITS FALSE NEIGHBOUR: 'it returns false'. Refute it at one input. -/
def searchMatchesWrong : ChangeSpec := { name := "searchMatches", fn := fun _ => fun
  | [d1, d2] => { results := [.lit (.bool false)], args := [d1, d2] }
  | _ => none }
def SearchMatchesWrongFalsely : Prop := searchMatchesRow.holds Tryz.pinned (OpenSpec.ofChange searchMatchesWrong)

/-- 'hamperlaw28.SearchNumbers': WHATEVER THE INPUT: true; the input reads as it did. -/
def searchNumbersSpec : ChangeSpec := { name := "searchNumbers", fn := fun _ => fun
  | [] => { results := [.lit (.bool true)], args := [] }
  | _ => none }
def searchNumbersRow : OpenClaim := { program := "ytonjadmldgloaaagreatdoor", sum := "1a20e94d36cd6275628c2e9a3f4236d60aa3021e3e71222390b7a08690917c1f", func := "hamper/hamperlaw28.SearchNumbers", spec := "searchNumbers", inPlace := ["internal/bytealg.IndexByte", "internal/abi.NoEscape", "internal/bytealg.IndexByteString", "internal/bytealg.IndexString"], unfollowed := true, recurses := true, named := ["unicode/utf8.first", "unicode/utf8.acceptRanges", "internal/bytealg.MaxLen"], apart := false, laid := [("unicode/utf8.acceptRanges", laid_unicode_utf8_acceptRanges), ("unicode/utf8.first", laid_unicode_utf8_first)] }
def SearchNumbersSaid : Prop := searchNumbersRow.holds Tryz.pinned (OpenSpec.ofChange searchNumbersSpec)

/-- ITS FALSE NEIGHBOUR: 'it returns false'. Refute it at one input. -/
def searchNumbersWrong : ChangeSpec := { name := "searchNumbers", fn := fun _ => fun
  | [] => { results := [.lit (.bool false)], args := [] }
  | _ => none }
def SearchNumbersWrongFalsely : Prop := searchNumbersRow.holds Tryz.pinned (OpenSpec.ofChange searchNumbersWrong)

/-- 'hamperlaw28.SearchTexts': WHATEVER THE INPUT: true; the input reads as it did. -/
def searchTextsSpec : ChangeSpec := { name := "searchTexts", fn := fun _ => fun
  | [d1, d2, d3] => { results := [.lit (.bool true)], args := [d1, d2, d3] }
  | _ => none }
def searchTextsRow : OpenClaim := { program := "ytonjadmldgloaaagreatdoor", sum := "1a20e94d36cd6275628c2e9a3f4236d60aa3021e3e71222390b7a08690917c1f", func := "hamper/hamperlaw28.SearchTexts", spec := "searchTexts", inPlace := ["internal/bytealg.IndexByte", "internal/abi.NoEscape", "internal/bytealg.IndexByteString", "internal/bytealg.IndexString"], unfollowed := true, recurses := true, named := ["unicode/utf8.first", "unicode/utf8.acceptRanges", "internal/bytealg.MaxLen"], apart := false, laid := [("unicode/utf8.acceptRanges", laid_unicode_utf8_acceptRanges), ("unicode/utf8.first", laid_unicode_utf8_first)] }
def SearchTextsSaid : Prop := searchTextsRow.holds Tryz.pinned (OpenSpec.ofChange searchTextsSpec)

/-- ITS FALSE NEIGHBOUR: 'it returns false'. Refute it at one input. -/
def searchTextsWrong : ChangeSpec := { name := "searchTexts", fn := fun _ => fun
  | [d1, d2, d3] => { results := [.lit (.bool false)], args := [d1, d2, d3] }
  | _ => none }
def SearchTextsWrongFalsely : Prop := searchTextsRow.holds Tryz.pinned (OpenSpec.ofChange searchTextsWrong)

/- THE SECOND FORM. 'bulk': how many values and letters a reading holds, each counted each time it is reached (what is shared counts as often as it is met; a slice's spare places count too). A statement '..UptoSaid' is the law's where the arguments, and the package variables that the reading takes, are together of bulk at most 1048576: NARROWER than '..Said'. Prove '..Said' where nothing that the law and all that it calls make is longer than what came in: it says more and counts as full. Else prove '..UptoSaid'. A law counts once. -/
mutual
def uptoBulk {H : Type} : DataW H → Nat
  | .lit (.string bytes) => bytes.length + 1
  | .lit _ => 1
  | .nil => 1
  | .ptr d => uptoBulk d + 1
  | .slice elems spare => uptoBulkAll elems + uptoBulkAll spare + 1
  | .agg parts => uptoBulkAll parts + 1
  | .iface _ d => uptoBulk d + 1
  | .map entries => uptoBulkEntries entries + 1
  | .held _ => 1
def uptoBulkAll {H : Type} : List (DataW H) → Nat
  | [] => 0
  | d :: r => uptoBulk d + uptoBulkAll r
def uptoBulkEntries {H : Type} : List (Lit × DataW H) → Nat
  | [] => 0
  | x :: r => uptoBulkEntry x + uptoBulkEntries r
def uptoBulkEntry {H : Type} : Lit × DataW H → Nat
  | (.string bytes, d) => bytes.length + uptoBulk d + 1
  | (_, d) => uptoBulk d + 1
 end
def uptoSmall : (H : Type) → List (DataW H) → Bool := fun _ ds => decide (uptoBulkAll ds ≤ 1048576)
def OpenSpec.upto (s : _root_.Go.ChangeSpec) : _root_.Go.OpenSpec := { _root_.Go.OpenSpec.ofChange s with cond := some uptoSmall }

/-- 'hamperlaw28.SearchDays', WHERE WHAT IT READS IS OF BULK AT MOST 1048576: true; the input reads as it did. -/
def searchDaysUptoRow : OpenClaim := { program := "ytonjadmldgloaaagreatdoor", sum := "1a20e94d36cd6275628c2e9a3f4236d60aa3021e3e71222390b7a08690917c1f", func := "hamper/hamperlaw28.SearchDays", spec := "searchDays", inPlace := ["internal/bytealg.IndexByte", "internal/abi.NoEscape", "internal/bytealg.IndexByteString", "internal/bytealg.IndexString"], unfollowed := true, recurses := true, named := ["unicode/utf8.first", "unicode/utf8.acceptRanges", "internal/bytealg.MaxLen"], apart := false, laid := [("unicode/utf8.acceptRanges", laid_unicode_utf8_acceptRanges), ("unicode/utf8.first", laid_unicode_utf8_first)], narrowed := true }
def SearchDaysUptoSaid : Prop := searchDaysUptoRow.holds Tryz.pinned (OpenSpec.upto searchDaysSpec)

/-- 'hamperlaw28.SearchMatches', WHERE WHAT IT READS IS OF BULK AT MOST 1048576: true; the input reads as it did. -/
def searchMatchesUptoRow : OpenClaim := { program := "ytonjadmldgloaaagreatdoor", sum := "1a20e94d36cd6275628c2e9a3f4236d60aa3021e3e71222390b7a08690917c1f", func := "hamper/hamperlaw28.SearchMatches", spec := "searchMatches", inPlace := ["internal/bytealg.IndexByte", "internal/abi.NoEscape", "internal/bytealg.IndexByteString", "internal/bytealg.IndexString"], unfollowed := true, recurses := true, named := ["unicode/utf8.first", "unicode/utf8.acceptRanges", "internal/bytealg.MaxLen"], loops := true, apart := false, laid := [("unicode/utf8.acceptRanges", laid_unicode_utf8_acceptRanges), ("unicode/utf8.first", laid_unicode_utf8_first)], narrowed := true }
def SearchMatchesUptoSaid : Prop := searchMatchesUptoRow.holds Tryz.pinned (OpenSpec.upto searchMatchesSpec)

/-- 'hamperlaw28.SearchNumbers', WHERE WHAT IT READS IS OF BULK AT MOST 1048576: true; the input reads as it did. -/
def searchNumbersUptoRow : OpenClaim := { program := "ytonjadmldgloaaagreatdoor", sum := "1a20e94d36cd6275628c2e9a3f4236d60aa3021e3e71222390b7a08690917c1f", func := "hamper/hamperlaw28.SearchNumbers", spec := "searchNumbers", inPlace := ["internal/bytealg.IndexByte", "internal/abi.NoEscape", "internal/bytealg.IndexByteString", "internal/bytealg.IndexString"], unfollowed := true, recurses := true, named := ["unicode/utf8.first", "unicode/utf8.acceptRanges", "internal/bytealg.MaxLen"], apart := false, laid := [("unicode/utf8.acceptRanges", laid_unicode_utf8_acceptRanges), ("unicode/utf8.first", laid_unicode_utf8_first)], narrowed := true }
def SearchNumbersUptoSaid : Prop := searchNumbersUptoRow.holds Tryz.pinned (OpenSpec.upto searchNumbersSpec)

/-- 'hamperlaw28.SearchTexts', WHERE WHAT IT READS IS OF BULK AT MOST 1048576: true; the input reads as it did. -/
def searchTextsUptoRow : OpenClaim := { program := "ytonjadmldgloaaagreatdoor", sum := "1a20e94d36cd6275628c2e9a3f4236d60aa3021e3e71222390b7a08690917c1f", func := "hamper/hamperlaw28.SearchTexts", spec := "searchTexts", inPlace := ["internal/bytealg.IndexByte", "internal/abi.NoEscape", "internal/bytealg.IndexByteString", "internal/bytealg.IndexString"], unfollowed := true, recurses := true, named := ["unicode/utf8.first", "unicode/utf8.acceptRanges", "internal/bytealg.MaxLen"], apart := false, laid := [("unicode/utf8.acceptRanges", laid_unicode_utf8_acceptRanges), ("unicode/utf8.first", laid_unicode_utf8_first)], narrowed := true }
def SearchTextsUptoSaid : Prop := searchTextsUptoRow.holds Tryz.pinned (OpenSpec.upto searchTextsSpec)

end Rows
end Go.Proofs.YtonjadmldgloaaaGreatDoor
