/-
  NARROWER THAN 'FOR EVERY INPUT', by the rows' own cells (each row's printed sentence says how): DateDays: laid · DateOrder: laid · DateForms: laid · DateZones: laid · DateTexts: laid.
  DERIVED. THE GIVEN ROWS OF THIS SEAT. 5 by the template 'for every input the law returns true; each argument reads behind the call as it read before'; 0 by the template 'total and deterministic' (their statements: YtkjlkkaoaiphcaaDoorTotals.lean).
  GIVEN WITH THE SEED: the statements are not yours to turn. If you find one false, say at which input.
  Laid BY PROGRAM, IN A SANDBOX (cutbox-rows.mjs): the forced cells as the released guide's own fill.sh prints them over the translation aed0f16549eb3a0c… (all of the seat's roots in one cut). By AI agents, Wed Nov 11 2026. No macro, syntax, notation, axiom, sorry.
-/
import Derived.Test.YtkjlkkaoaiphcaaDoorChecked
import GoSem.PinnedTables
import GoSem.Claim
import GoSem.ClaimJoined
import GoSem.ClaimMapViews
import Derived.JoinedTies
import Derived.KernelRfl
namespace Go.Proofs.YtkjlkkaoaiphcaaDoor
/- THE CELL 'sum', in the pinned program and in every row, IS THE sha256 OF THE DUMP (.gsa) THAT YtkjlkkaoaiphcaaDoorProg.lean LOADS. Nothing in Lean hashes anything: it is a label: what it is worth is what the hold of that sum in a sandbox is worth. -/
noncomputable def Tryd.pinned : Pinned := { name := "ytkjlkkaoaiphcaadoor", sum := "aed0f16549eb3a0cbd8e605b8d50e08d553edfdb332b5f6c356c01279dcb4377", checked := Tryd.checked }
namespace Rows
def none {H : Type} : Left H := { results := [], args := [] }

/- WHAT THE LISTED PACKAGE-LEVEL VARIABLES READ AS WHEN THE CALL BEGINS. Each datum BY PROGRAM (the guide's laid-datum.mjs) off the statement by which the dump's own 'gosem.cut.vars' lays the variable. In a bare row this is a premise. The card (YtkjlkkaoaiphcaaDoorCards.lean) ties it to the program's text. -/
def laid_unicode_utf8_acceptRanges {H : Type} : DataW H := .agg [.agg [.lit (.int .u8 128), .lit (.int .u8 191)], .agg [.lit (.int .u8 160), .lit (.int .u8 191)], .agg [.lit (.int .u8 128), .lit (.int .u8 159)], .agg [.lit (.int .u8 144), .lit (.int .u8 191)], .agg [.lit (.int .u8 128), .lit (.int .u8 143)], .agg [.lit (.int .u8 0), .lit (.int .u8 0)], .agg [.lit (.int .u8 0), .lit (.int .u8 0)], .agg [.lit (.int .u8 0), .lit (.int .u8 0)], .agg [.lit (.int .u8 0), .lit (.int .u8 0)], .agg [.lit (.int .u8 0), .lit (.int .u8 0)], .agg [.lit (.int .u8 0), .lit (.int .u8 0)], .agg [.lit (.int .u8 0), .lit (.int .u8 0)], .agg [.lit (.int .u8 0), .lit (.int .u8 0)], .agg [.lit (.int .u8 0), .lit (.int .u8 0)], .agg [.lit (.int .u8 0), .lit (.int .u8 0)], .agg [.lit (.int .u8 0), .lit (.int .u8 0)]]
/-- One of Go's own tables, pinned by name: the form's constant. -/
def laid_unicode_utf8_first : DataW Unit := Go.Pinned.utf8First

/-- 'hamperlaw16.DateDays': WHATEVER THE INPUT: true; the input reads as it did. -/
def dateDaysSpec : ChangeSpec := { name := "dateDays", fn := fun _ => fun
  | [d] => { results := [.lit (.bool true)], args := [d] }
  | _ => none }
def dateDaysRow : OpenClaim := { program := "ytkjlkkaoaiphcaadoor", sum := "aed0f16549eb3a0cbd8e605b8d50e08d553edfdb332b5f6c356c01279dcb4377", func := "hamper/hamperlaw16.DateDays", spec := "dateDays", inPlace := ["internal/abi.NoEscape", "internal/bytealg.MakeNoZero"], unfollowed := true, recurses := true, named := ["unicode/utf8.first", "unicode/utf8.acceptRanges"], apart := false, laid := [("unicode/utf8.acceptRanges", laid_unicode_utf8_acceptRanges), ("unicode/utf8.first", laid_unicode_utf8_first)] }
def DateDaysSaid : Prop := dateDaysRow.holds Tryd.pinned (OpenSpec.ofChange dateDaysSpec)

/-- ITS FALSE NEIGHBOUR: 'it returns false'. Refute it at one input. -/
def dateDaysWrong : ChangeSpec := { name := "dateDays", fn := fun _ => fun
  | [d] => { results := [.lit (.bool false)], args := [d] }
  | _ => none }
def DateDaysWrongFalsely : Prop := dateDaysRow.holds Tryd.pinned (OpenSpec.ofChange dateDaysWrong)

/-- 'hamperlaw16.DateOrder': WHATEVER THE INPUT: true; the input reads as it did. -/
def dateOrderSpec : ChangeSpec := { name := "dateOrder", fn := fun _ => fun
  | [d] => { results := [.lit (.bool true)], args := [d] }
  | _ => none }
def dateOrderRow : OpenClaim := { program := "ytkjlkkaoaiphcaadoor", sum := "aed0f16549eb3a0cbd8e605b8d50e08d553edfdb332b5f6c356c01279dcb4377", func := "hamper/hamperlaw16.DateOrder", spec := "dateOrder", inPlace := ["internal/abi.NoEscape", "internal/bytealg.MakeNoZero"], unfollowed := true, recurses := true, named := ["unicode/utf8.first", "unicode/utf8.acceptRanges"], apart := false, laid := [("unicode/utf8.acceptRanges", laid_unicode_utf8_acceptRanges), ("unicode/utf8.first", laid_unicode_utf8_first)] }
def DateOrderSaid : Prop := dateOrderRow.holds Tryd.pinned (OpenSpec.ofChange dateOrderSpec)

/-- ITS FALSE NEIGHBOUR: 'it returns false'. Refute it at one input. -/
def dateOrderWrong : ChangeSpec := { name := "dateOrder", fn := fun _ => fun
  | [d] => { results := [.lit (.bool false)], args := [d] }
  | _ => none }
def DateOrderWrongFalsely : Prop := dateOrderRow.holds Tryd.pinned (OpenSpec.ofChange dateOrderWrong)

/-- 'hamperlaw16.DateForms': WHATEVER THE INPUT: true; the input reads as it did. -/
def dateFormsSpec : ChangeSpec := { name := "dateForms", fn := fun _ => fun
  | [d1, d2] => { results := [.lit (.bool true)], args := [d1, d2] }
  | _ => none }
def dateFormsRow : OpenClaim := { program := "ytkjlkkaoaiphcaadoor", sum := "aed0f16549eb3a0cbd8e605b8d50e08d553edfdb332b5f6c356c01279dcb4377", func := "hamper/hamperlaw16.DateForms", spec := "dateForms", inPlace := ["internal/abi.NoEscape", "internal/bytealg.MakeNoZero"], unfollowed := true, recurses := true, named := ["unicode/utf8.first", "unicode/utf8.acceptRanges"], apart := false, laid := [("unicode/utf8.acceptRanges", laid_unicode_utf8_acceptRanges), ("unicode/utf8.first", laid_unicode_utf8_first)] }
def DateFormsSaid : Prop := dateFormsRow.holds Tryd.pinned (OpenSpec.ofChange dateFormsSpec)

/-- ITS FALSE NEIGHBOUR: 'it returns false'. Refute it at one input. -/
def dateFormsWrong : ChangeSpec := { name := "dateForms", fn := fun _ => fun
  | [d1, d2] => { results := [.lit (.bool false)], args := [d1, d2] }
  | _ => none }
def DateFormsWrongFalsely : Prop := dateFormsRow.holds Tryd.pinned (OpenSpec.ofChange dateFormsWrong)

/-- 'hamperlaw16.DateZones': WHATEVER THE INPUT: true; the input reads as it did. -/
def dateZonesSpec : ChangeSpec := { name := "dateZones", fn := fun _ => fun
  | [d1, d2] => { results := [.lit (.bool true)], args := [d1, d2] }
  | _ => none }
def dateZonesRow : OpenClaim := { program := "ytkjlkkaoaiphcaadoor", sum := "aed0f16549eb3a0cbd8e605b8d50e08d553edfdb332b5f6c356c01279dcb4377", func := "hamper/hamperlaw16.DateZones", spec := "dateZones", inPlace := ["internal/abi.NoEscape", "internal/bytealg.MakeNoZero"], unfollowed := true, recurses := true, named := ["unicode/utf8.first", "unicode/utf8.acceptRanges"], apart := false, laid := [("unicode/utf8.acceptRanges", laid_unicode_utf8_acceptRanges), ("unicode/utf8.first", laid_unicode_utf8_first)] }
def DateZonesSaid : Prop := dateZonesRow.holds Tryd.pinned (OpenSpec.ofChange dateZonesSpec)

/-- ITS FALSE NEIGHBOUR: 'it returns false'. Refute it at one input. -/
def dateZonesWrong : ChangeSpec := { name := "dateZones", fn := fun _ => fun
  | [d1, d2] => { results := [.lit (.bool false)], args := [d1, d2] }
  | _ => none }
def DateZonesWrongFalsely : Prop := dateZonesRow.holds Tryd.pinned (OpenSpec.ofChange dateZonesWrong)

/-- 'hamperlaw16.DateTexts': WHATEVER THE INPUT: true; the input reads as it did. -/
def dateTextsSpec : ChangeSpec := { name := "dateTexts", fn := fun _ => fun
  | [d] => { results := [.lit (.bool true)], args := [d] }
  | _ => none }
def dateTextsRow : OpenClaim := { program := "ytkjlkkaoaiphcaadoor", sum := "aed0f16549eb3a0cbd8e605b8d50e08d553edfdb332b5f6c356c01279dcb4377", func := "hamper/hamperlaw16.DateTexts", spec := "dateTexts", inPlace := ["internal/bytealg.CountString", "internal/bytealg.IndexByteString", "internal/bytealg.IndexString", "internal/abi.NoEscape", "internal/bytealg.MakeNoZero"], unfollowed := true, recurses := true, named := ["unicode/utf8.first", "unicode/utf8.acceptRanges", "internal/bytealg.MaxLen"], apart := false, laid := [("unicode/utf8.acceptRanges", laid_unicode_utf8_acceptRanges), ("unicode/utf8.first", laid_unicode_utf8_first)] }
def DateTextsSaid : Prop := dateTextsRow.holds Tryd.pinned (OpenSpec.ofChange dateTextsSpec)

/-- ITS FALSE NEIGHBOUR: 'it returns false'. Refute it at one input. -/
def dateTextsWrong : ChangeSpec := { name := "dateTexts", fn := fun _ => fun
  | [d] => { results := [.lit (.bool false)], args := [d] }
  | _ => none }
def DateTextsWrongFalsely : Prop := dateTextsRow.holds Tryd.pinned (OpenSpec.ofChange dateTextsWrong)

/- THE SECOND FORM. 'bulk': how many values and letters a reading holds, each counted each time it is reached (what is shared counts as often as it is met; a slice's spare places count too). A statement '..UptoSaid' is the law's where the arguments, and the package variables that the reading takes, are together of bulk at most 1048576: NARROWER than '..Said'. Prove '..Said' where nothing that the law and all that it calls make is longer than what came in: it says more and counts as full. Else prove '..UptoSaid'. A law counts once. -/
mutual
def uptoBulk {H : Type} : DataW H → Nat
  | .lit (.string bytes) => bytes.length + 1
  | .lit _ => 1
  | .nil => 1
  | .ptr d => uptoBulk d + 1
  | .slice elems spare => uptoBulkAll elems + uptoBulkAll spare + 1
  | .agg parts => uptoBulkAll parts + 1
  | .iface _ d => uptoBulk d + 1
  | .map entries => uptoBulkEntries entries + 1
  | .held _ => 1
def uptoBulkAll {H : Type} : List (DataW H) → Nat
  | [] => 0
  | d :: r => uptoBulk d + uptoBulkAll r
def uptoBulkEntries {H : Type} : List (Lit × DataW H) → Nat
  | [] => 0
  | x :: r => uptoBulkEntry x + uptoBulkEntries r
def uptoBulkEntry {H : Type} : Lit × DataW H → Nat
  | (.string bytes, d) => bytes.length + uptoBulk d + 1
  | (_, d) => uptoBulk d + 1
 end
def uptoSmall : (H : Type) → List (DataW H) → Bool := fun _ ds => decide (uptoBulkAll ds ≤ 1048576)
def OpenSpec.upto (s : _root_.Go.ChangeSpec) : _root_.Go.OpenSpec := { _root_.Go.OpenSpec.ofChange s with cond := some uptoSmall }

/-- 'hamperlaw16.DateDays', WHERE WHAT IT READS IS OF BULK AT MOST 1048576: true; the input reads as it did. -/
def dateDaysUptoRow : OpenClaim := { program := "ytkjlkkaoaiphcaadoor", sum := "aed0f16549eb3a0cbd8e605b8d50e08d553edfdb332b5f6c356c01279dcb4377", func := "hamper/hamperlaw16.DateDays", spec := "dateDays", inPlace := ["internal/abi.NoEscape", "internal/bytealg.MakeNoZero"], unfollowed := true, recurses := true, named := ["unicode/utf8.first", "unicode/utf8.acceptRanges"], apart := false, laid := [("unicode/utf8.acceptRanges", laid_unicode_utf8_acceptRanges), ("unicode/utf8.first", laid_unicode_utf8_first)], narrowed := true }
def DateDaysUptoSaid : Prop := dateDaysUptoRow.holds Tryd.pinned (OpenSpec.upto dateDaysSpec)

/-- 'hamperlaw16.DateOrder', WHERE WHAT IT READS IS OF BULK AT MOST 1048576: true; the input reads as it did. -/
def dateOrderUptoRow : OpenClaim := { program := "ytkjlkkaoaiphcaadoor", sum := "aed0f16549eb3a0cbd8e605b8d50e08d553edfdb332b5f6c356c01279dcb4377", func := "hamper/hamperlaw16.DateOrder", spec := "dateOrder", inPlace := ["internal/abi.NoEscape", "internal/bytealg.MakeNoZero"], unfollowed := true, recurses := true, named := ["unicode/utf8.first", "unicode/utf8.acceptRanges"], apart := false, laid := [("unicode/utf8.acceptRanges", laid_unicode_utf8_acceptRanges), ("unicode/utf8.first", laid_unicode_utf8_first)], narrowed := true }
def DateOrderUptoSaid : Prop := dateOrderUptoRow.holds Tryd.pinned (OpenSpec.upto dateOrderSpec)

/-- 'hamperlaw16.DateForms', WHERE WHAT IT READS IS OF BULK AT MOST 1048576: true; the input reads as it did. -/
def dateFormsUptoRow : OpenClaim := { program := "ytkjlkkaoaiphcaadoor", sum := "aed0f16549eb3a0cbd8e605b8d50e08d553edfdb332b5f6c356c01279dcb4377", func := "hamper/hamperlaw16.DateForms", spec := "dateForms", inPlace := ["internal/abi.NoEscape", "internal/bytealg.MakeNoZero"], unfollowed := true, recurses := true, named := ["unicode/utf8.first", "unicode/utf8.acceptRanges"], apart := false, laid := [("unicode/utf8.acceptRanges", laid_unicode_utf8_acceptRanges), ("unicode/utf8.first", laid_unicode_utf8_first)], narrowed := true }
def DateFormsUptoSaid : Prop := dateFormsUptoRow.holds Tryd.pinned (OpenSpec.upto dateFormsSpec)

/-- 'hamperlaw16.DateZones', WHERE WHAT IT READS IS OF BULK AT MOST 1048576: true; the input reads as it did. -/
def dateZonesUptoRow : OpenClaim := { program := "ytkjlkkaoaiphcaadoor", sum := "aed0f16549eb3a0cbd8e605b8d50e08d553edfdb332b5f6c356c01279dcb4377", func := "hamper/hamperlaw16.DateZones", spec := "dateZones", inPlace := ["internal/abi.NoEscape", "internal/bytealg.MakeNoZero"], unfollowed := true, recurses := true, named := ["unicode/utf8.first", "unicode/utf8.acceptRanges"], apart := false, laid := [("unicode/utf8.acceptRanges", laid_unicode_utf8_acceptRanges), ("unicode/utf8.first", laid_unicode_utf8_first)], narrowed := true }
def DateZonesUptoSaid : Prop := dateZonesUptoRow.holds Tryd.pinned (OpenSpec.upto dateZonesSpec)

/-- 'hamperlaw16.DateTexts', WHERE WHAT IT READS IS OF BULK AT MOST 1048576: true; the input reads as it did. -/
def dateTextsUptoRow : OpenClaim := { program := "ytkjlkkaoaiphcaadoor", sum := "aed0f16549eb3a0cbd8e605b8d50e08d553edfdb332b5f6c356c01279dcb4377", func := "hamper/hamperlaw16.DateTexts", spec := "dateTexts", inPlace := ["internal/bytealg.CountString", "internal/bytealg.IndexByteString", "internal/bytealg.IndexString", "internal/abi.NoEscape", "internal/bytealg.MakeNoZero"], unfollowed := true, recurses := true, named := ["unicode/utf8.first", "unicode/utf8.acceptRanges", "internal/bytealg.MaxLen"], apart := false, laid := [("unicode/utf8.acceptRanges", laid_unicode_utf8_acceptRanges), ("unicode/utf8.first", laid_unicode_utf8_first)], narrowed := true }
def DateTextsUptoSaid : Prop := dateTextsUptoRow.holds Tryd.pinned (OpenSpec.upto dateTextsSpec)

end Rows
end Go.Proofs.YtkjlkkaoaiphcaaDoor
