/-
  DERIVED. GIVEN WITH THE SEED: THE CARDS: each row of YtkjlkkaoaiphcaaDoorRows.lean that lists a variable, with what it lists TIED to the program's text (the seventh form; the later family's looks); each row that meets fmt, with fmt's text TOLD by the authors' own Lean function (tested against real Go, not proved from fmt's source: count such statements apart). THE CARD IS WHAT COUNTS. Prove the row's statement (the work); the ties are given (YtkjlkkaoaiphcaaDoorTie.lean); close each card by the builder's one call (the guide's Derived/Test/ToyasCard.lean, 'card_holds'). Laid BY PROGRAM, IN A SANDBOX (cutbox-door.mjs). By AI agents, Wed Nov 11 2026. No macro, syntax, notation, axiom, sorry.
-/
import Derived.Test.YtkjlkkaoaiphcaaDoorRows
import GoSem.ClaimSeven
namespace Go.Proofs.YtkjlkkaoaiphcaaDoor
namespace Rows

/-- THE TIED CARD OF 'hamperlaw16.DateDays'. -/
def dateDaysCard : Claim7 := { stood := { row := dateDaysRow, standIns := [], harness := (true, "c9f4dcad216a91c3725f13b5a5764f2b7a6ebe1c5839d27eaa302ef30029d8c3"), looks := false }, kinds := [], alts := [], laidByText := true, laidKinds := [.data, .pinned], laidTests := true, laidLooks := .later }
def DateDaysCardSaid : Prop := Claim7.holds Tryd.pinned (.plain (OpenSpec.ofChange dateDaysSpec)) dateDaysCard

/-- THE TIED CARD OF 'hamperlaw16.DateOrder'. -/
def dateOrderCard : Claim7 := { stood := { row := dateOrderRow, standIns := [], harness := (true, "c9f4dcad216a91c3725f13b5a5764f2b7a6ebe1c5839d27eaa302ef30029d8c3"), looks := false }, kinds := [], alts := [], laidByText := true, laidKinds := [.data, .pinned], laidTests := true, laidLooks := .later }
def DateOrderCardSaid : Prop := Claim7.holds Tryd.pinned (.plain (OpenSpec.ofChange dateOrderSpec)) dateOrderCard

/-- THE TIED CARD OF 'hamperlaw16.DateForms'. -/
def dateFormsCard : Claim7 := { stood := { row := dateFormsRow, standIns := [], harness := (true, "c9f4dcad216a91c3725f13b5a5764f2b7a6ebe1c5839d27eaa302ef30029d8c3"), looks := false }, kinds := [], alts := [], laidByText := true, laidKinds := [.data, .pinned], laidTests := true, laidLooks := .later }
def DateFormsCardSaid : Prop := Claim7.holds Tryd.pinned (.plain (OpenSpec.ofChange dateFormsSpec)) dateFormsCard

/-- THE TIED CARD OF 'hamperlaw16.DateZones'. -/
def dateZonesCard : Claim7 := { stood := { row := dateZonesRow, standIns := [], harness := (true, "c9f4dcad216a91c3725f13b5a5764f2b7a6ebe1c5839d27eaa302ef30029d8c3"), looks := false }, kinds := [], alts := [], laidByText := true, laidKinds := [.data, .pinned], laidTests := true, laidLooks := .later }
def DateZonesCardSaid : Prop := Claim7.holds Tryd.pinned (.plain (OpenSpec.ofChange dateZonesSpec)) dateZonesCard

/-- THE TIED CARD OF 'hamperlaw16.DateTexts'. -/
def dateTextsCard : Claim7 := { stood := { row := dateTextsRow, standIns := [], harness := (true, "c9f4dcad216a91c3725f13b5a5764f2b7a6ebe1c5839d27eaa302ef30029d8c3"), looks := false }, kinds := [], alts := [], laidByText := true, laidKinds := [.data, .pinned], laidTests := true, laidLooks := .later }
def DateTextsCardSaid : Prop := Claim7.holds Tryd.pinned (.plain (OpenSpec.ofChange dateTextsSpec)) dateTextsCard

/-- THE SECOND FORM's CARD OF 'hamperlaw16.DateDays'. -/
def dateDaysUptoCard : Claim7 := { stood := { row := dateDaysUptoRow, standIns := [], harness := (true, "c9f4dcad216a91c3725f13b5a5764f2b7a6ebe1c5839d27eaa302ef30029d8c3"), looks := false }, kinds := [], alts := [], laidByText := true, laidKinds := [.data, .pinned], laidTests := true, laidLooks := .later }
def DateDaysUptoCardSaid : Prop := Claim7.holds Tryd.pinned (.plain (OpenSpec.upto dateDaysSpec)) dateDaysUptoCard

/-- THE SECOND FORM's CARD OF 'hamperlaw16.DateOrder'. -/
def dateOrderUptoCard : Claim7 := { stood := { row := dateOrderUptoRow, standIns := [], harness := (true, "c9f4dcad216a91c3725f13b5a5764f2b7a6ebe1c5839d27eaa302ef30029d8c3"), looks := false }, kinds := [], alts := [], laidByText := true, laidKinds := [.data, .pinned], laidTests := true, laidLooks := .later }
def DateOrderUptoCardSaid : Prop := Claim7.holds Tryd.pinned (.plain (OpenSpec.upto dateOrderSpec)) dateOrderUptoCard

/-- THE SECOND FORM's CARD OF 'hamperlaw16.DateForms'. -/
def dateFormsUptoCard : Claim7 := { stood := { row := dateFormsUptoRow, standIns := [], harness := (true, "c9f4dcad216a91c3725f13b5a5764f2b7a6ebe1c5839d27eaa302ef30029d8c3"), looks := false }, kinds := [], alts := [], laidByText := true, laidKinds := [.data, .pinned], laidTests := true, laidLooks := .later }
def DateFormsUptoCardSaid : Prop := Claim7.holds Tryd.pinned (.plain (OpenSpec.upto dateFormsSpec)) dateFormsUptoCard

/-- THE SECOND FORM's CARD OF 'hamperlaw16.DateZones'. -/
def dateZonesUptoCard : Claim7 := { stood := { row := dateZonesUptoRow, standIns := [], harness := (true, "c9f4dcad216a91c3725f13b5a5764f2b7a6ebe1c5839d27eaa302ef30029d8c3"), looks := false }, kinds := [], alts := [], laidByText := true, laidKinds := [.data, .pinned], laidTests := true, laidLooks := .later }
def DateZonesUptoCardSaid : Prop := Claim7.holds Tryd.pinned (.plain (OpenSpec.upto dateZonesSpec)) dateZonesUptoCard

/-- THE SECOND FORM's CARD OF 'hamperlaw16.DateTexts'. -/
def dateTextsUptoCard : Claim7 := { stood := { row := dateTextsUptoRow, standIns := [], harness := (true, "c9f4dcad216a91c3725f13b5a5764f2b7a6ebe1c5839d27eaa302ef30029d8c3"), looks := false }, kinds := [], alts := [], laidByText := true, laidKinds := [.data, .pinned], laidTests := true, laidLooks := .later }
def DateTextsUptoCardSaid : Prop := Claim7.holds Tryd.pinned (.plain (OpenSpec.upto dateTextsSpec)) dateTextsUptoCard
end Rows
end Go.Proofs.YtkjlkkaoaiphcaaDoor
