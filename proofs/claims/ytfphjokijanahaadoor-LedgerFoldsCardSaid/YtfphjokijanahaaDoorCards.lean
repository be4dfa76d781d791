/-
  DERIVED. GIVEN WITH THE SEED: THE CARDS: each row of YtfphjokijanahaaDoorRows.lean that lists a variable, with what it lists TIED to the program's text (the seventh form; the later family's looks); each row that meets fmt, with fmt's text TOLD by the authors' own Lean function (tested against real Go, not proved from fmt's source: count such statements apart). THE CARD IS WHAT COUNTS. Prove the row's statement (the work); the ties are given (YtfphjokijanahaaDoorTie.lean); close each card by the builder's one call (the guide's Derived/Test/ToyasCard.lean, 'card_holds'). Laid BY PROGRAM, IN A SANDBOX (cutbox-door.mjs). By AI agents, Wed Nov 11 2026. No macro, syntax, notation, axiom, sorry.
-/
import Derived.Test.YtfphjokijanahaaDoorRows
import GoSem.ClaimSeven
namespace Go.Proofs.YtfphjokijanahaaDoor
namespace Rows

/-- THE TIED CARD OF 'mulliganlaw33.LedgerFull'. -/
def ledgerFullCard : Claim7 := { stood := { row := ledgerFullRow, standIns := [], harness := (true, "4b68a1f882909624f9c078e23fe9e1990cf3f7279748831dc3195a29e4bc7f60"), looks := true }, kinds := [], alts := [], laidByText := true, laidKinds := [.data], laidTests := true, laidLooks := .later }
def LedgerFullCardSaid : Prop := Claim7.holds Tryd.pinned (.plain (OpenSpec.ofChange ledgerFullSpec)) ledgerFullCard

/-- THE TIED CARD OF 'mulliganlaw33.LedgerStays'. -/
def ledgerStaysCard : Claim7 := { stood := { row := ledgerStaysRow, standIns := [], harness := (true, "4b68a1f882909624f9c078e23fe9e1990cf3f7279748831dc3195a29e4bc7f60"), looks := true }, kinds := [], alts := [], laidByText := true, laidKinds := [.data], laidTests := true, laidLooks := .later }
def LedgerStaysCardSaid : Prop := Claim7.holds Tryd.pinned (.plain (OpenSpec.ofChange ledgerStaysSpec)) ledgerStaysCard

/-- THE TIED CARD OF 'mulliganlaw33.LedgerPlays'. -/
def ledgerPlaysCard : Claim7 := { stood := { row := ledgerPlaysRow, standIns := [], harness := (true, "4b68a1f882909624f9c078e23fe9e1990cf3f7279748831dc3195a29e4bc7f60"), looks := true }, kinds := [], alts := [], laidByText := true, laidKinds := [.data], laidTests := true, laidLooks := .later }
def LedgerPlaysCardSaid : Prop := Claim7.holds Tryd.pinned (.plain (OpenSpec.ofChange ledgerPlaysSpec)) ledgerPlaysCard

/-- THE TIED CARD OF 'mulliganlaw33.LedgerFolds'. -/
def ledgerFoldsCard : Claim7 := { stood := { row := ledgerFoldsRow, standIns := [], harness := (true, "4b68a1f882909624f9c078e23fe9e1990cf3f7279748831dc3195a29e4bc7f60"), looks := true }, kinds := [], alts := [], laidByText := true, laidKinds := [.data], laidTests := true, laidLooks := .later }
def LedgerFoldsCardSaid : Prop := Claim7.holds Tryd.pinned (.plain (OpenSpec.ofChange ledgerFoldsSpec)) ledgerFoldsCard

/-- THE SECOND FORM's CARD OF 'mulliganlaw33.LedgerFull'. -/
def ledgerFullUptoCard : Claim7 := { stood := { row := ledgerFullUptoRow, standIns := [], harness := (true, "4b68a1f882909624f9c078e23fe9e1990cf3f7279748831dc3195a29e4bc7f60"), looks := true }, kinds := [], alts := [], laidByText := true, laidKinds := [.data], laidTests := true, laidLooks := .later }
def LedgerFullUptoCardSaid : Prop := Claim7.holds Tryd.pinned (.plain (OpenSpec.upto ledgerFullSpec)) ledgerFullUptoCard

/-- THE SECOND FORM's CARD OF 'mulliganlaw33.LedgerStays'. -/
def ledgerStaysUptoCard : Claim7 := { stood := { row := ledgerStaysUptoRow, standIns := [], harness := (true, "4b68a1f882909624f9c078e23fe9e1990cf3f7279748831dc3195a29e4bc7f60"), looks := true }, kinds := [], alts := [], laidByText := true, laidKinds := [.data], laidTests := true, laidLooks := .later }
def LedgerStaysUptoCardSaid : Prop := Claim7.holds Tryd.pinned (.plain (OpenSpec.upto ledgerStaysSpec)) ledgerStaysUptoCard

/-- THE SECOND FORM's CARD OF 'mulliganlaw33.LedgerPlays'. -/
def ledgerPlaysUptoCard : Claim7 := { stood := { row := ledgerPlaysUptoRow, standIns := [], harness := (true, "4b68a1f882909624f9c078e23fe9e1990cf3f7279748831dc3195a29e4bc7f60"), looks := true }, kinds := [], alts := [], laidByText := true, laidKinds := [.data], laidTests := true, laidLooks := .later }
def LedgerPlaysUptoCardSaid : Prop := Claim7.holds Tryd.pinned (.plain (OpenSpec.upto ledgerPlaysSpec)) ledgerPlaysUptoCard

/-- THE SECOND FORM's CARD OF 'mulliganlaw33.LedgerFolds'. -/
def ledgerFoldsUptoCard : Claim7 := { stood := { row := ledgerFoldsUptoRow, standIns := [], harness := (true, "4b68a1f882909624f9c078e23fe9e1990cf3f7279748831dc3195a29e4bc7f60"), looks := true }, kinds := [], alts := [], laidByText := true, laidKinds := [.data], laidTests := true, laidLooks := .later }
def LedgerFoldsUptoCardSaid : Prop := Claim7.holds Tryd.pinned (.plain (OpenSpec.upto ledgerFoldsSpec)) ledgerFoldsUptoCard
end Rows
end Go.Proofs.YtfphjokijanahaaDoor
