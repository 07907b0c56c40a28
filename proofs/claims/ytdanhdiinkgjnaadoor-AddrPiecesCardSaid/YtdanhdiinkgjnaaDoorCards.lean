/-
  DERIVED. GIVEN WITH THE SEED: THE CARDS: each row of YtdanhdiinkgjnaaDoorRows.lean that lists a variable, with what it lists TIED to the program's text (the seventh form; the later family's looks); each row that meets fmt, with fmt's text TOLD by the authors' own Lean function (tested against real Go, not proved from fmt's source: count such statements apart). THE CARD IS WHAT COUNTS. Prove the row's statement (the work); the ties are given (YtdanhdiinkgjnaaDoorTie.lean); close each card by the builder's one call (the guide's Derived/Test/ToyasCard.lean, 'card_holds'). Laid BY PROGRAM, IN A SANDBOX (cutbox-door.mjs). By AI agents, Wed Nov 11 2026. No macro, syntax, notation, axiom, sorry.
-/
import Derived.Test.YtdanhdiinkgjnaaDoorRows
import GoSem.ClaimSeven
namespace Go.Proofs.YtdanhdiinkgjnaaDoor
namespace Rows

/-- THE TIED CARD OF 'hamperlaw18.AddrLists'. -/
def addrListsCard : Claim7 := { stood := { row := addrListsRow, standIns := [], harness := (true, "207f9cac1b062533c02bc0940d5b966b96b3892c9ef3d3587ad54cd79a88e894"), looks := false }, kinds := [], alts := [], laidByText := true, laidKinds := [.data, .pinned], laidTests := true, laidLooks := .later }
def AddrListsCardSaid : Prop := Claim7.holds Tryd.pinned (.plain (OpenSpec.ofChange addrListsSpec)) addrListsCard

/-- THE TIED CARD OF 'hamperlaw18.AddrSays'. -/
def addrSaysCard : Claim7 := { stood := { row := addrSaysRow, standIns := [], harness := (true, "207f9cac1b062533c02bc0940d5b966b96b3892c9ef3d3587ad54cd79a88e894"), looks := false }, kinds := [], alts := [], laidByText := true, laidKinds := [.data, .pinned], laidTests := true, laidLooks := .later }
def AddrSaysCardSaid : Prop := Claim7.holds Tryd.pinned (.plain (OpenSpec.ofChange addrSaysSpec)) addrSaysCard

/-- THE TIED CARD OF 'hamperlaw18.AddrPieces'. -/
def addrPiecesCard : Claim7 := { stood := { row := addrPiecesRow, standIns := [], harness := (true, "207f9cac1b062533c02bc0940d5b966b96b3892c9ef3d3587ad54cd79a88e894"), looks := false }, kinds := [], alts := [], laidByText := true, laidKinds := [.data, .pinned], laidTests := true, laidLooks := .later }
def AddrPiecesCardSaid : Prop := Claim7.holds Tryd.pinned (.plain (OpenSpec.ofChange addrPiecesSpec)) addrPiecesCard

/-- THE TIED CARD OF 'hamperlaw18.AddrQuoted'. -/
def addrQuotedCard : Claim7 := { stood := { row := addrQuotedRow, standIns := [], harness := (true, "207f9cac1b062533c02bc0940d5b966b96b3892c9ef3d3587ad54cd79a88e894"), looks := false }, kinds := [], alts := [], laidByText := true, laidKinds := [.data, .pinned], laidTests := true, laidLooks := .later }
def AddrQuotedCardSaid : Prop := Claim7.holds Tryd.pinned (.plain (OpenSpec.ofChange addrQuotedSpec)) addrQuotedCard

/-- THE SECOND FORM's CARD OF 'hamperlaw18.AddrLists'. -/
def addrListsUptoCard : Claim7 := { stood := { row := addrListsUptoRow, standIns := [], harness := (true, "207f9cac1b062533c02bc0940d5b966b96b3892c9ef3d3587ad54cd79a88e894"), looks := false }, kinds := [], alts := [], laidByText := true, laidKinds := [.data, .pinned], laidTests := true, laidLooks := .later }
def AddrListsUptoCardSaid : Prop := Claim7.holds Tryd.pinned (.plain (OpenSpec.upto addrListsSpec)) addrListsUptoCard

/-- THE SECOND FORM's CARD OF 'hamperlaw18.AddrSays'. -/
def addrSaysUptoCard : Claim7 := { stood := { row := addrSaysUptoRow, standIns := [], harness := (true, "207f9cac1b062533c02bc0940d5b966b96b3892c9ef3d3587ad54cd79a88e894"), looks := false }, kinds := [], alts := [], laidByText := true, laidKinds := [.data, .pinned], laidTests := true, laidLooks := .later }
def AddrSaysUptoCardSaid : Prop := Claim7.holds Tryd.pinned (.plain (OpenSpec.upto addrSaysSpec)) addrSaysUptoCard

/-- THE SECOND FORM's CARD OF 'hamperlaw18.AddrPieces'. -/
def addrPiecesUptoCard : Claim7 := { stood := { row := addrPiecesUptoRow, standIns := [], harness := (true, "207f9cac1b062533c02bc0940d5b966b96b3892c9ef3d3587ad54cd79a88e894"), looks := false }, kinds := [], alts := [], laidByText := true, laidKinds := [.data, .pinned], laidTests := true, laidLooks := .later }
def AddrPiecesUptoCardSaid : Prop := Claim7.holds Tryd.pinned (.plain (OpenSpec.upto addrPiecesSpec)) addrPiecesUptoCard

/-- THE SECOND FORM's CARD OF 'hamperlaw18.AddrQuoted'. -/
def addrQuotedUptoCard : Claim7 := { stood := { row := addrQuotedUptoRow, standIns := [], harness := (true, "207f9cac1b062533c02bc0940d5b966b96b3892c9ef3d3587ad54cd79a88e894"), looks := false }, kinds := [], alts := [], laidByText := true, laidKinds := [.data, .pinned], laidTests := true, laidLooks := .later }
def AddrQuotedUptoCardSaid : Prop := Claim7.holds Tryd.pinned (.plain (OpenSpec.upto addrQuotedSpec)) addrQuotedUptoCard
end Rows
end Go.Proofs.YtdanhdiinkgjnaaDoor
