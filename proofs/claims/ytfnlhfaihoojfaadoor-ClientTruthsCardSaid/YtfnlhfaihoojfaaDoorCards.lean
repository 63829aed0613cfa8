/-
  DERIVED. GIVEN WITH THE SEED: THE CARDS: each row of YtfnlhfaihoojfaaDoorRows.lean that lists a variable, with what it lists TIED to the program's text (the seventh form; the later family's looks); each row that meets fmt, with fmt's text TOLD by the authors' own Lean function (tested against real Go, not proved from fmt's source: count such statements apart). THE CARD IS WHAT COUNTS. Prove the row's statement (the work); the ties are given (YtfnlhfaihoojfaaDoorTie.lean); close each card by the builder's one call (the guide's Derived/Test/ToyasCard.lean, 'card_holds'). Laid BY PROGRAM, IN A SANDBOX (cutbox-door.mjs). By AI agents, Wed Nov 11 2026. No macro, syntax, notation, axiom, sorry.
-/
import Derived.Test.YtfnlhfaihoojfaaDoorRows
import GoSem.ClaimSeven
namespace Go.Proofs.YtfnlhfaihoojfaaDoor
namespace Rows

/-- THE TIED CARD OF 'ledgerlaw13.ClientNames'. -/
def clientNamesCard : Claim7 := { stood := { row := clientNamesRow, standIns := [], harness := (true, "f00b4c85d558a0170d6d7f387667ce633c296fd637ca120d820eda5bfa4e513c"), looks := false }, kinds := [], alts := [], laidByText := true, laidKinds := [.data, .data, .data, .data], laidTests := true, laidLooks := .later }
def ClientNamesCardSaid : Prop := Claim7.holds Tryd.pinned (.plain (OpenSpec.ofChange clientNamesSpec)) clientNamesCard

/-- THE TIED CARD OF 'ledgerlaw13.ClientTruths'. -/
def clientTruthsCard : Claim7 := { stood := { row := clientTruthsRow, standIns := [], harness := (true, "f00b4c85d558a0170d6d7f387667ce633c296fd637ca120d820eda5bfa4e513c"), looks := false }, kinds := [], alts := [], laidByText := true, laidKinds := [.data, .data, .data, .data], laidTests := true, laidLooks := .later }
def ClientTruthsCardSaid : Prop := Claim7.holds Tryd.pinned (.plain (OpenSpec.ofChange clientTruthsSpec)) clientTruthsCard

/-- THE TIED CARD OF 'ledgerlaw13.ClientBinds'. -/
def clientBindsCard : Claim7 := { stood := { row := clientBindsRow, standIns := [], harness := (true, "f00b4c85d558a0170d6d7f387667ce633c296fd637ca120d820eda5bfa4e513c"), looks := false }, kinds := [], alts := [], laidByText := true, laidKinds := [.data, .data, .data, .data], laidTests := true, laidLooks := .later }
def ClientBindsCardSaid : Prop := Claim7.holds Tryd.pinned (.plain (OpenSpec.ofChange clientBindsSpec)) clientBindsCard

/-- THE TIED CARD OF 'ledgerlaw13.ClientForges'. -/
def clientForgesCard : Claim7 := { stood := { row := clientForgesRow, standIns := [], harness := (true, "f00b4c85d558a0170d6d7f387667ce633c296fd637ca120d820eda5bfa4e513c"), looks := false }, kinds := [], alts := [], laidByText := true, laidKinds := [.data, .data, .data, .data], laidTests := true, laidLooks := .later }
def ClientForgesCardSaid : Prop := Claim7.holds Tryd.pinned (.plain (OpenSpec.ofChange clientForgesSpec)) clientForgesCard

/-- THE SECOND FORM's CARD OF 'ledgerlaw13.ClientNames'. -/
def clientNamesUptoCard : Claim7 := { stood := { row := clientNamesUptoRow, standIns := [], harness := (true, "f00b4c85d558a0170d6d7f387667ce633c296fd637ca120d820eda5bfa4e513c"), looks := false }, kinds := [], alts := [], laidByText := true, laidKinds := [.data, .data, .data, .data], laidTests := true, laidLooks := .later }
def ClientNamesUptoCardSaid : Prop := Claim7.holds Tryd.pinned (.plain (OpenSpec.upto clientNamesSpec)) clientNamesUptoCard

/-- THE SECOND FORM's CARD OF 'ledgerlaw13.ClientTruths'. -/
def clientTruthsUptoCard : Claim7 := { stood := { row := clientTruthsUptoRow, standIns := [], harness := (true, "f00b4c85d558a0170d6d7f387667ce633c296fd637ca120d820eda5bfa4e513c"), looks := false }, kinds := [], alts := [], laidByText := true, laidKinds := [.data, .data, .data, .data], laidTests := true, laidLooks := .later }
def ClientTruthsUptoCardSaid : Prop := Claim7.holds Tryd.pinned (.plain (OpenSpec.upto clientTruthsSpec)) clientTruthsUptoCard

/-- THE SECOND FORM's CARD OF 'ledgerlaw13.ClientBinds'. -/
def clientBindsUptoCard : Claim7 := { stood := { row := clientBindsUptoRow, standIns := [], harness := (true, "f00b4c85d558a0170d6d7f387667ce633c296fd637ca120d820eda5bfa4e513c"), looks := false }, kinds := [], alts := [], laidByText := true, laidKinds := [.data, .data, .data, .data], laidTests := true, laidLooks := .later }
def ClientBindsUptoCardSaid : Prop := Claim7.holds Tryd.pinned (.plain (OpenSpec.upto clientBindsSpec)) clientBindsUptoCard

/-- THE SECOND FORM's CARD OF 'ledgerlaw13.ClientForges'. -/
def clientForgesUptoCard : Claim7 := { stood := { row := clientForgesUptoRow, standIns := [], harness := (true, "f00b4c85d558a0170d6d7f387667ce633c296fd637ca120d820eda5bfa4e513c"), looks := false }, kinds := [], alts := [], laidByText := true, laidKinds := [.data, .data, .data, .data], laidTests := true, laidLooks := .later }
def ClientForgesUptoCardSaid : Prop := Claim7.holds Tryd.pinned (.plain (OpenSpec.upto clientForgesSpec)) clientForgesUptoCard
end Rows
end Go.Proofs.YtfnlhfaihoojfaaDoor
