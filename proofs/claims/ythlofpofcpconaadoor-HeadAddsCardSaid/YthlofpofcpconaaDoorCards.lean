/-
  DERIVED. GIVEN WITH THE SEED: THE CARDS: each row of YthlofpofcpconaaDoorRows.lean that lists a variable, with what it lists TIED to the program's text (the seventh form; the later family's looks); each row that meets fmt, with fmt's text TOLD by the authors' own Lean function (tested against real Go, not proved from fmt's source: count such statements apart). THE CARD IS WHAT COUNTS. Prove the row's statement (the work); the ties are given (YthlofpofcpconaaDoorTie.lean); close each card by the builder's one call (the guide's Derived/Test/ToyasCard.lean, 'card_holds'). Laid BY PROGRAM, IN A SANDBOX (cutbox-door.mjs). By AI agents, Wed Nov 11 2026. No macro, syntax, notation, axiom, sorry.
-/
import Derived.Test.YthlofpofcpconaaDoorRows
import GoSem.ClaimSeven
namespace Go.Proofs.YthlofpofcpconaaDoor
namespace Rows

/-- THE TIED CARD OF 'hamperlaw17.HeadFinds'. -/
def headFindsCard : Claim7 := { stood := { row := headFindsRow, standIns := [], harness := (true, "7054da55ed813193d05d21dbd021d40d86d34438805b2eae9dfdcefc05611db0"), looks := false }, kinds := [], alts := [], laidByText := true, laidKinds := [.data, .pinned], laidTests := true, laidLooks := .later }
def HeadFindsCardSaid : Prop := Claim7.holds Tryd.pinned (.plain (OpenSpec.ofChange headFindsSpec)) headFindsCard

/-- THE TIED CARD OF 'hamperlaw17.HeadPicks'. -/
def headPicksCard : Claim7 := { stood := { row := headPicksRow, standIns := [], harness := (true, "7054da55ed813193d05d21dbd021d40d86d34438805b2eae9dfdcefc05611db0"), looks := false }, kinds := [], alts := [], laidByText := true, laidKinds := [.data, .pinned], laidTests := true, laidLooks := .later }
def HeadPicksCardSaid : Prop := Claim7.holds Tryd.pinned (.plain (OpenSpec.ofChange headPicksSpec)) headPicksCard

/-- THE TIED CARD OF 'hamperlaw17.HeadOrder'. -/
def headOrderCard : Claim7 := { stood := { row := headOrderRow, standIns := [], harness := (true, "7054da55ed813193d05d21dbd021d40d86d34438805b2eae9dfdcefc05611db0"), looks := false }, kinds := [], alts := [], laidByText := true, laidKinds := [.data, .pinned], laidTests := true, laidLooks := .later }
def HeadOrderCardSaid : Prop := Claim7.holds Tryd.pinned (.plain (OpenSpec.ofChange headOrderSpec)) headOrderCard

/-- THE TIED CARD OF 'hamperlaw17.HeadAdds'. -/
def headAddsCard : Claim7 := { stood := { row := headAddsRow, standIns := [], harness := (true, "7054da55ed813193d05d21dbd021d40d86d34438805b2eae9dfdcefc05611db0"), looks := false }, kinds := [], alts := [], laidByText := true, laidKinds := [.data, .pinned], laidTests := true, laidLooks := .later }
def HeadAddsCardSaid : Prop := Claim7.holds Tryd.pinned (.plain (OpenSpec.ofChange headAddsSpec)) headAddsCard

/-- THE TIED CARD OF 'hamperlaw17.HeadFields'. -/
def headFieldsCard : Claim7 := { stood := { row := headFieldsRow, standIns := [], harness := (true, "7054da55ed813193d05d21dbd021d40d86d34438805b2eae9dfdcefc05611db0"), looks := false }, kinds := [], alts := [], laidByText := true, laidKinds := [.data, .pinned], laidTests := true, laidLooks := .later }
def HeadFieldsCardSaid : Prop := Claim7.holds Tryd.pinned (.plain (OpenSpec.ofChange headFieldsSpec)) headFieldsCard

/-- THE SECOND FORM's CARD OF 'hamperlaw17.HeadFinds'. -/
def headFindsUptoCard : Claim7 := { stood := { row := headFindsUptoRow, standIns := [], harness := (true, "7054da55ed813193d05d21dbd021d40d86d34438805b2eae9dfdcefc05611db0"), looks := false }, kinds := [], alts := [], laidByText := true, laidKinds := [.data, .pinned], laidTests := true, laidLooks := .later }
def HeadFindsUptoCardSaid : Prop := Claim7.holds Tryd.pinned (.plain (OpenSpec.upto headFindsSpec)) headFindsUptoCard

/-- THE SECOND FORM's CARD OF 'hamperlaw17.HeadPicks'. -/
def headPicksUptoCard : Claim7 := { stood := { row := headPicksUptoRow, standIns := [], harness := (true, "7054da55ed813193d05d21dbd021d40d86d34438805b2eae9dfdcefc05611db0"), looks := false }, kinds := [], alts := [], laidByText := true, laidKinds := [.data, .pinned], laidTests := true, laidLooks := .later }
def HeadPicksUptoCardSaid : Prop := Claim7.holds Tryd.pinned (.plain (OpenSpec.upto headPicksSpec)) headPicksUptoCard

/-- THE SECOND FORM's CARD OF 'hamperlaw17.HeadOrder'. -/
def headOrderUptoCard : Claim7 := { stood := { row := headOrderUptoRow, standIns := [], harness := (true, "7054da55ed813193d05d21dbd021d40d86d34438805b2eae9dfdcefc05611db0"), looks := false }, kinds := [], alts := [], laidByText := true, laidKinds := [.data, .pinned], laidTests := true, laidLooks := .later }
def HeadOrderUptoCardSaid : Prop := Claim7.holds Tryd.pinned (.plain (OpenSpec.upto headOrderSpec)) headOrderUptoCard

/-- THE SECOND FORM's CARD OF 'hamperlaw17.HeadAdds'. -/
def headAddsUptoCard : Claim7 := { stood := { row := headAddsUptoRow, standIns := [], harness := (true, "7054da55ed813193d05d21dbd021d40d86d34438805b2eae9dfdcefc05611db0"), looks := false }, kinds := [], alts := [], laidByText := true, laidKinds := [.data, .pinned], laidTests := true, laidLooks := .later }
def HeadAddsUptoCardSaid : Prop := Claim7.holds Tryd.pinned (.plain (OpenSpec.upto headAddsSpec)) headAddsUptoCard

/-- THE SECOND FORM's CARD OF 'hamperlaw17.HeadFields'. -/
def headFieldsUptoCard : Claim7 := { stood := { row := headFieldsUptoRow, standIns := [], harness := (true, "7054da55ed813193d05d21dbd021d40d86d34438805b2eae9dfdcefc05611db0"), looks := false }, kinds := [], alts := [], laidByText := true, laidKinds := [.data, .pinned], laidTests := true, laidLooks := .later }
def HeadFieldsUptoCardSaid : Prop := Claim7.holds Tryd.pinned (.plain (OpenSpec.upto headFieldsSpec)) headFieldsUptoCard
end Rows
end Go.Proofs.YthlofpofcpconaaDoor
