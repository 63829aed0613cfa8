/-
  DERIVED. GIVEN WITH THE SEED: THE CARDS: each row of YtadnckkipppbcaaDoorRows.lean that lists a variable, with what it lists TIED to the program's text (the seventh form; the later family's looks); each row that meets fmt, with fmt's text TOLD by the authors' own Lean function (tested against real Go, not proved from fmt's source: count such statements apart). THE CARD IS WHAT COUNTS. Prove the row's statement (the work); the ties are given (YtadnckkipppbcaaDoorTie.lean); close each card by the builder's one call (the guide's Derived/Test/ToyasCard.lean, 'card_holds'). Laid BY PROGRAM, IN A SANDBOX (cutbox-door.mjs). By AI agents, Wed Nov 11 2026. No macro, syntax, notation, axiom, sorry.
-/
import Derived.Test.YtadnckkipppbcaaDoorRows
import GoSem.ClaimSeven
namespace Go.Proofs.YtadnckkipppbcaaDoor
namespace Rows

/-- THE TIED CARD OF 'ledgerlaw2.CrcSums'. -/
def crcSumsCard : Claim7 := { stood := { row := crcSumsRow, standIns := [], harness := (true, "9d73f6fd13d381c07aca1f43d8dd3def7ea29363dab0743fcbf6e0d2f39e0f36"), looks := false }, kinds := [], alts := [], laidByText := true, laidKinds := [.data], laidTests := true, laidLooks := .later }
def CrcSumsCardSaid : Prop := Claim7.holds Tryd.pinned (.plain (OpenSpec.ofChange crcSumsSpec)) crcSumsCard

/-- THE TIED CARD OF 'ledgerlaw2.CrcUpdates'. -/
def crcUpdatesCard : Claim7 := { stood := { row := crcUpdatesRow, standIns := [], harness := (true, "9d73f6fd13d381c07aca1f43d8dd3def7ea29363dab0743fcbf6e0d2f39e0f36"), looks := false }, kinds := [], alts := [], laidByText := true, laidKinds := [.data], laidTests := true, laidLooks := .later }
def CrcUpdatesCardSaid : Prop := Claim7.holds Tryd.pinned (.plain (OpenSpec.ofChange crcUpdatesSpec)) crcUpdatesCard

/-- THE TIED CARD OF 'ledgerlaw2.CrcSeals'. -/
def crcSealsCard : Claim7 := { stood := { row := crcSealsRow, standIns := [], harness := (true, "9d73f6fd13d381c07aca1f43d8dd3def7ea29363dab0743fcbf6e0d2f39e0f36"), looks := false }, kinds := [], alts := [], laidByText := true, laidKinds := [.data], laidTests := true, laidLooks := .later }
def CrcSealsCardSaid : Prop := Claim7.holds Tryd.pinned (.plain (OpenSpec.ofChange crcSealsSpec)) crcSealsCard

/-- THE TIED CARD OF 'ledgerlaw2.CrcKept'. -/
def crcKeptCard : Claim7 := { stood := { row := crcKeptRow, standIns := [], harness := (true, "9d73f6fd13d381c07aca1f43d8dd3def7ea29363dab0743fcbf6e0d2f39e0f36"), looks := false }, kinds := [], alts := [], laidByText := true, laidKinds := [.data], laidTests := true, laidLooks := .later }
def CrcKeptCardSaid : Prop := Claim7.holds Tryd.pinned (.plain (OpenSpec.ofChange crcKeptSpec)) crcKeptCard

/-- THE TIED CARD OF 'ledgerlaw2.CrcWholes'. -/
def crcWholesCard : Claim7 := { stood := { row := crcWholesRow, standIns := [], harness := (true, "9d73f6fd13d381c07aca1f43d8dd3def7ea29363dab0743fcbf6e0d2f39e0f36"), looks := false }, kinds := [], alts := [], laidByText := true, laidKinds := [.data], laidTests := true, laidLooks := .later }
def CrcWholesCardSaid : Prop := Claim7.holds Tryd.pinned (.plain (OpenSpec.ofChange crcWholesSpec)) crcWholesCard

/-- THE SECOND FORM's CARD OF 'ledgerlaw2.CrcSums'. -/
def crcSumsUptoCard : Claim7 := { stood := { row := crcSumsUptoRow, standIns := [], harness := (true, "9d73f6fd13d381c07aca1f43d8dd3def7ea29363dab0743fcbf6e0d2f39e0f36"), looks := false }, kinds := [], alts := [], laidByText := true, laidKinds := [.data], laidTests := true, laidLooks := .later }
def CrcSumsUptoCardSaid : Prop := Claim7.holds Tryd.pinned (.plain (OpenSpec.upto crcSumsSpec)) crcSumsUptoCard

/-- THE SECOND FORM's CARD OF 'ledgerlaw2.CrcUpdates'. -/
def crcUpdatesUptoCard : Claim7 := { stood := { row := crcUpdatesUptoRow, standIns := [], harness := (true, "9d73f6fd13d381c07aca1f43d8dd3def7ea29363dab0743fcbf6e0d2f39e0f36"), looks := false }, kinds := [], alts := [], laidByText := true, laidKinds := [.data], laidTests := true, laidLooks := .later }
def CrcUpdatesUptoCardSaid : Prop := Claim7.holds Tryd.pinned (.plain (OpenSpec.upto crcUpdatesSpec)) crcUpdatesUptoCard

/-- THE SECOND FORM's CARD OF 'ledgerlaw2.CrcSeals'. -/
def crcSealsUptoCard : Claim7 := { stood := { row := crcSealsUptoRow, standIns := [], harness := (true, "9d73f6fd13d381c07aca1f43d8dd3def7ea29363dab0743fcbf6e0d2f39e0f36"), looks := false }, kinds := [], alts := [], laidByText := true, laidKinds := [.data], laidTests := true, laidLooks := .later }
def CrcSealsUptoCardSaid : Prop := Claim7.holds Tryd.pinned (.plain (OpenSpec.upto crcSealsSpec)) crcSealsUptoCard

/-- THE SECOND FORM's CARD OF 'ledgerlaw2.CrcKept'. -/
def crcKeptUptoCard : Claim7 := { stood := { row := crcKeptUptoRow, standIns := [], harness := (true, "9d73f6fd13d381c07aca1f43d8dd3def7ea29363dab0743fcbf6e0d2f39e0f36"), looks := false }, kinds := [], alts := [], laidByText := true, laidKinds := [.data], laidTests := true, laidLooks := .later }
def CrcKeptUptoCardSaid : Prop := Claim7.holds Tryd.pinned (.plain (OpenSpec.upto crcKeptSpec)) crcKeptUptoCard

/-- THE SECOND FORM's CARD OF 'ledgerlaw2.CrcWholes'. -/
def crcWholesUptoCard : Claim7 := { stood := { row := crcWholesUptoRow, standIns := [], harness := (true, "9d73f6fd13d381c07aca1f43d8dd3def7ea29363dab0743fcbf6e0d2f39e0f36"), looks := false }, kinds := [], alts := [], laidByText := true, laidKinds := [.data], laidTests := true, laidLooks := .later }
def CrcWholesUptoCardSaid : Prop := Claim7.holds Tryd.pinned (.plain (OpenSpec.upto crcWholesSpec)) crcWholesUptoCard
end Rows
end Go.Proofs.YtadnckkipppbcaaDoor
