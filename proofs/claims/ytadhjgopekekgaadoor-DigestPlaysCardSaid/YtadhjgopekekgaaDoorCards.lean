/-
  DERIVED. GIVEN WITH THE SEED: THE CARDS: each row of YtadhjgopekekgaaDoorRows.lean that lists a variable, with what it lists TIED to the program's text (the seventh form; the later family's looks); each row that meets fmt, with fmt's text TOLD by the authors' own Lean function (tested against real Go, not proved from fmt's source: count such statements apart). THE CARD IS WHAT COUNTS. Prove the row's statement (the work); the ties are given (YtadhjgopekekgaaDoorTie.lean); close each card by the builder's one call (the guide's Derived/Test/ToyasCard.lean, 'card_holds'). Laid BY PROGRAM, IN A SANDBOX (cutbox-door.mjs). By AI agents, Wed Nov 11 2026. No macro, syntax, notation, axiom, sorry.
-/
import Derived.Test.YtadhjgopekekgaaDoorRows
import GoSem.ClaimSeven
namespace Go.Proofs.YtadhjgopekekgaaDoor
namespace Rows

/-- THE TIED CARD OF 'ledgerlaw1.DigestNames'. -/
def digestNamesCard : Claim7 := { stood := { row := digestNamesRow, standIns := [], harness := (true, "00b6c134c5251a220d1c89488f072b56b6167c8c9ce8a9417e41b6c5b3402e19"), looks := false }, kinds := [], alts := [], laidByText := true, laidKinds := [.data, .data], laidTests := true, laidLooks := .later }
def DigestNamesCardSaid : Prop := Claim7.holds Tryd.pinned (.plain (OpenSpec.ofChange digestNamesSpec)) digestNamesCard

/-- THE TIED CARD OF 'ledgerlaw1.DigestSums'. -/
def digestSumsCard : Claim7 := { stood := { row := digestSumsRow, standIns := [], harness := (true, "00b6c134c5251a220d1c89488f072b56b6167c8c9ce8a9417e41b6c5b3402e19"), looks := false }, kinds := [], alts := [], laidByText := true, laidKinds := [.data, .data, .data, .data], laidTests := true, laidLooks := .later }
def DigestSumsCardSaid : Prop := Claim7.holds Tryd.pinned (.plain (OpenSpec.ofChange digestSumsSpec)) digestSumsCard

/-- THE TIED CARD OF 'ledgerlaw1.DigestPlays'. -/
def digestPlaysCard : Claim7 := { stood := { row := digestPlaysRow, standIns := [], harness := (true, "00b6c134c5251a220d1c89488f072b56b6167c8c9ce8a9417e41b6c5b3402e19"), looks := false }, kinds := [], alts := [], laidByText := true, laidKinds := [.data, .data, .data, .data], laidTests := true, laidLooks := .later }
def DigestPlaysCardSaid : Prop := Claim7.holds Tryd.pinned (.plain (OpenSpec.ofChange digestPlaysSpec)) digestPlaysCard

/-- THE TIED CARD OF 'ledgerlaw1.DigestSplits'. -/
def digestSplitsCard : Claim7 := { stood := { row := digestSplitsRow, standIns := [], harness := (true, "00b6c134c5251a220d1c89488f072b56b6167c8c9ce8a9417e41b6c5b3402e19"), looks := false }, kinds := [], alts := [], laidByText := true, laidKinds := [.data, .data], laidTests := true, laidLooks := .later }
def DigestSplitsCardSaid : Prop := Claim7.holds Tryd.pinned (.plain (OpenSpec.ofChange digestSplitsSpec)) digestSplitsCard

/-- THE TIED CARD OF 'ledgerlaw1.DigestForks'. -/
def digestForksCard : Claim7 := { stood := { row := digestForksRow, standIns := [], harness := (true, "00b6c134c5251a220d1c89488f072b56b6167c8c9ce8a9417e41b6c5b3402e19"), looks := false }, kinds := [], alts := [], laidByText := true, laidKinds := [.data, .data], laidTests := true, laidLooks := .later }
def DigestForksCardSaid : Prop := Claim7.holds Tryd.pinned (.plain (OpenSpec.ofChange digestForksSpec)) digestForksCard

/-- THE SECOND FORM's CARD OF 'ledgerlaw1.DigestNames'. -/
def digestNamesUptoCard : Claim7 := { stood := { row := digestNamesUptoRow, standIns := [], harness := (true, "00b6c134c5251a220d1c89488f072b56b6167c8c9ce8a9417e41b6c5b3402e19"), looks := false }, kinds := [], alts := [], laidByText := true, laidKinds := [.data, .data], laidTests := true, laidLooks := .later }
def DigestNamesUptoCardSaid : Prop := Claim7.holds Tryd.pinned (.plain (OpenSpec.upto digestNamesSpec)) digestNamesUptoCard

/-- THE SECOND FORM's CARD OF 'ledgerlaw1.DigestSums'. -/
def digestSumsUptoCard : Claim7 := { stood := { row := digestSumsUptoRow, standIns := [], harness := (true, "00b6c134c5251a220d1c89488f072b56b6167c8c9ce8a9417e41b6c5b3402e19"), looks := false }, kinds := [], alts := [], laidByText := true, laidKinds := [.data, .data, .data, .data], laidTests := true, laidLooks := .later }
def DigestSumsUptoCardSaid : Prop := Claim7.holds Tryd.pinned (.plain (OpenSpec.upto digestSumsSpec)) digestSumsUptoCard

/-- THE SECOND FORM's CARD OF 'ledgerlaw1.DigestPlays'. -/
def digestPlaysUptoCard : Claim7 := { stood := { row := digestPlaysUptoRow, standIns := [], harness := (true, "00b6c134c5251a220d1c89488f072b56b6167c8c9ce8a9417e41b6c5b3402e19"), looks := false }, kinds := [], alts := [], laidByText := true, laidKinds := [.data, .data, .data, .data], laidTests := true, laidLooks := .later }
def DigestPlaysUptoCardSaid : Prop := Claim7.holds Tryd.pinned (.plain (OpenSpec.upto digestPlaysSpec)) digestPlaysUptoCard

/-- THE SECOND FORM's CARD OF 'ledgerlaw1.DigestSplits'. -/
def digestSplitsUptoCard : Claim7 := { stood := { row := digestSplitsUptoRow, standIns := [], harness := (true, "00b6c134c5251a220d1c89488f072b56b6167c8c9ce8a9417e41b6c5b3402e19"), looks := false }, kinds := [], alts := [], laidByText := true, laidKinds := [.data, .data], laidTests := true, laidLooks := .later }
def DigestSplitsUptoCardSaid : Prop := Claim7.holds Tryd.pinned (.plain (OpenSpec.upto digestSplitsSpec)) digestSplitsUptoCard

/-- THE SECOND FORM's CARD OF 'ledgerlaw1.DigestForks'. -/
def digestForksUptoCard : Claim7 := { stood := { row := digestForksUptoRow, standIns := [], harness := (true, "00b6c134c5251a220d1c89488f072b56b6167c8c9ce8a9417e41b6c5b3402e19"), looks := false }, kinds := [], alts := [], laidByText := true, laidKinds := [.data, .data], laidTests := true, laidLooks := .later }
def DigestForksUptoCardSaid : Prop := Claim7.holds Tryd.pinned (.plain (OpenSpec.upto digestForksSpec)) digestForksUptoCard
end Rows
end Go.Proofs.YtadhjgopekekgaaDoor
