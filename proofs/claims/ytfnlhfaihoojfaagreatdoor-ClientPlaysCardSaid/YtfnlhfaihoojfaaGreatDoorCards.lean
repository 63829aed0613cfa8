/-
  DERIVED. GIVEN WITH THE SEED: THE CARDS: each row of YtfnlhfaihoojfaaGreatDoorRows.lean that lists a variable, with what it lists TIED to the program's text (the seventh form; the later family's looks); each row that meets fmt, with fmt's text TOLD by the authors' own Lean function (tested against real Go, not proved from fmt's source: count such statements apart). THE CARD IS WHAT COUNTS. Prove the row's statement (the work); the ties are given (YtfnlhfaihoojfaaGreatDoorTie.lean); close each card by the builder's one call (the guide's Derived/Test/ToyasCard.lean, 'card_holds'). Laid BY PROGRAM, IN A SANDBOX (cutbox-door.mjs). By AI agents, Wed Nov 11 2026. No macro, syntax, notation, axiom, sorry.
-/
import Derived.Test.YtfnlhfaihoojfaaGreatDoorRows
import GoSem.ClaimSeven
namespace Go.Proofs.YtfnlhfaihoojfaaGreatDoor
namespace Rows

/-- THE TIED CARD OF 'ledgerlaw13.ClientPlays'. -/
def clientPlaysCard : Claim7 := { stood := { row := clientPlaysRow, standIns := [], harness := (true, "1a47aae5eb3f0aab7e4f98ef103c6758e491ba61951ef58500a512d02ef9e9c5"), looks := false }, kinds := [], alts := [], laidByText := true, laidKinds := [.data, .data, .data, .data], laidTests := true, laidLooks := .later }
def ClientPlaysCardSaid : Prop := Claim7.holds Tryz.pinned (.plain (OpenSpec.ofChange clientPlaysSpec)) clientPlaysCard

/-- THE SECOND FORM's CARD OF 'ledgerlaw13.ClientPlays'. -/
def clientPlaysUptoCard : Claim7 := { stood := { row := clientPlaysUptoRow, standIns := [], harness := (true, "1a47aae5eb3f0aab7e4f98ef103c6758e491ba61951ef58500a512d02ef9e9c5"), looks := false }, kinds := [], alts := [], laidByText := true, laidKinds := [.data, .data, .data, .data], laidTests := true, laidLooks := .later }
def ClientPlaysUptoCardSaid : Prop := Claim7.holds Tryz.pinned (.plain (OpenSpec.upto clientPlaysSpec)) clientPlaysUptoCard
end Rows
end Go.Proofs.YtfnlhfaihoojfaaGreatDoor
