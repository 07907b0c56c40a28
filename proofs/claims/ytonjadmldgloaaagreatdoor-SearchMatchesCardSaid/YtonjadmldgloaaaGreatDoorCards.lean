/-
  DERIVED. GIVEN WITH THE SEED: THE CARDS: each row of YtonjadmldgloaaaGreatDoorRows.lean that lists a variable, with what it lists TIED to the program's text (the seventh form; the later family's looks); each row that meets fmt, with fmt's text TOLD by the authors' own Lean function (tested against real Go, not proved from fmt's source: count such statements apart). THE CARD IS WHAT COUNTS. Prove the row's statement (the work); the ties are given (YtonjadmldgloaaaGreatDoorTie.lean); close each card by the builder's one call (the guide's Derived/Test/ToyasCard.lean, 'card_holds'). Laid BY PROGRAM, IN A SANDBOX (cutbox-door.mjs). By AI agents, Wed Nov 11 2026. No macro, syntax, notation, axiom, sorry.
-/
import Derived.Test.YtonjadmldgloaaaGreatDoorRows
import GoSem.ClaimSeven
namespace Go.Proofs.YtonjadmldgloaaaGreatDoor
namespace Rows

/-- THE TIED CARD OF 'hamperlaw28.SearchDays'. -/
def searchDaysCard : Claim7 := { stood := { row := searchDaysRow, standIns := [], harness := (true, "9e7ee78e412e157b723eea627f675729f25a40679bfaf436703c0e82cc17c218"), looks := false }, kinds := [], alts := [], laidByText := true, laidKinds := [.data, .pinned], laidTests := true, laidLooks := .later }
def SearchDaysCardSaid : Prop := Claim7.holds Tryz.pinned (.plain (OpenSpec.ofChange searchDaysSpec)) searchDaysCard

/-- THE TIED CARD OF 'hamperlaw28.SearchMatches'. -/
def searchMatchesCard : Claim7 := { stood := { row := searchMatchesRow, standIns := [], harness := (true, "9e7ee78e412e157b723eea627f675729f25a40679bfaf436703c0e82cc17c218"), looks := false }, kinds := [], alts := [], laidByText := true, laidKinds := [.data, .pinned], laidTests := true, laidLooks := .later }
def SearchMatchesCardSaid : Prop := Claim7.holds Tryz.pinned (.plain (OpenSpec.ofChange searchMatchesSpec)) searchMatchesCard

/-- THE TIED CARD OF 'hamperlaw28.SearchNumbers'. -/
def searchNumbersCard : Claim7 := { stood := { row := searchNumbersRow, standIns := [], harness := (true, "9e7ee78e412e157b723eea627f675729f25a40679bfaf436703c0e82cc17c218"), looks := false }, kinds := [], alts := [], laidByText := true, laidKinds := [.data, .pinned], laidTests := true, laidLooks := .later }
def SearchNumbersCardSaid : Prop := Claim7.holds Tryz.pinned (.plain (OpenSpec.ofChange searchNumbersSpec)) searchNumbersCard

/-- THE TIED CARD OF 'hamperlaw28.SearchTexts'. -/
def searchTextsCard : Claim7 := { stood := { row := searchTextsRow, standIns := [], harness := (true, "9e7ee78e412e157b723eea627f675729f25a40679bfaf436703c0e82cc17c218"), looks := false }, kinds := [], alts := [], laidByText := true, laidKinds := [.data, .pinned], laidTests := true, laidLooks := .later }
def SearchTextsCardSaid : Prop := Claim7.holds Tryz.pinned (.plain (OpenSpec.ofChange searchTextsSpec)) searchTextsCard

/-- THE SECOND FORM's CARD OF 'hamperlaw28.SearchDays'. -/
def searchDaysUptoCard : Claim7 := { stood := { row := searchDaysUptoRow, standIns := [], harness := (true, "9e7ee78e412e157b723eea627f675729f25a40679bfaf436703c0e82cc17c218"), looks := false }, kinds := [], alts := [], laidByText := true, laidKinds := [.data, .pinned], laidTests := true, laidLooks := .later }
def SearchDaysUptoCardSaid : Prop := Claim7.holds Tryz.pinned (.plain (OpenSpec.upto searchDaysSpec)) searchDaysUptoCard

/-- THE SECOND FORM's CARD OF 'hamperlaw28.SearchMatches'. -/
def searchMatchesUptoCard : Claim7 := { stood := { row := searchMatchesUptoRow, standIns := [], harness := (true, "9e7ee78e412e157b723eea627f675729f25a40679bfaf436703c0e82cc17c218"), looks := false }, kinds := [], alts := [], laidByText := true, laidKinds := [.data, .pinned], laidTests := true, laidLooks := .later }
def SearchMatchesUptoCardSaid : Prop := Claim7.holds Tryz.pinned (.plain (OpenSpec.upto searchMatchesSpec)) searchMatchesUptoCard

/-- THE SECOND FORM's CARD OF 'hamperlaw28.SearchNumbers'. -/
def searchNumbersUptoCard : Claim7 := { stood := { row := searchNumbersUptoRow, standIns := [], harness := (true, "9e7ee78e412e157b723eea627f675729f25a40679bfaf436703c0e82cc17c218"), looks := false }, kinds := [], alts := [], laidByText := true, laidKinds := [.data, .pinned], laidTests := true, laidLooks := .later }
def SearchNumbersUptoCardSaid : Prop := Claim7.holds Tryz.pinned (.plain (OpenSpec.upto searchNumbersSpec)) searchNumbersUptoCard

/-- THE SECOND FORM's CARD OF 'hamperlaw28.SearchTexts'. -/
def searchTextsUptoCard : Claim7 := { stood := { row := searchTextsUptoRow, standIns := [], harness := (true, "9e7ee78e412e157b723eea627f675729f25a40679bfaf436703c0e82cc17c218"), looks := false }, kinds := [], alts := [], laidByText := true, laidKinds := [.data, .pinned], laidTests := true, laidLooks := .later }
def SearchTextsUptoCardSaid : Prop := Claim7.holds Tryz.pinned (.plain (OpenSpec.upto searchTextsSpec)) searchTextsUptoCard
end Rows
end Go.Proofs.YtonjadmldgloaaaGreatDoor
