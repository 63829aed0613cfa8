/-
  DERIVED. GIVEN WITH THE SEED: THE CARDS: each row of YtbjbpgbpefkbhaaDoorRows.lean that lists a variable, with what it lists TIED to the program's text (the seventh form; the later family's looks); each row that meets fmt, with fmt's text TOLD by the authors' own Lean function (tested against real Go, not proved from fmt's source: count such statements apart). THE CARD IS WHAT COUNTS. Prove the row's statement (the work); the ties are given (YtbjbpgbpefkbhaaDoorTie.lean); close each card by the builder's one call (the guide's Derived/Test/ToyasCard.lean, 'card_holds'). Laid BY PROGRAM, IN A SANDBOX (cutbox-door.mjs). By AI agents, Wed Nov 11 2026. No macro, syntax, notation, axiom, sorry.
-/
import Derived.Test.YtbjbpgbpefkbhaaDoorRows
import GoSem.ClaimSeven
namespace Go.Proofs.YtbjbpgbpefkbhaaDoor
namespace Rows

/-- THE TIED CARD OF 'ledgerlaw5.FrameSupers'. -/
def frameSupersCard : Claim7 := { stood := { row := frameSupersRow, standIns := [], harness := (true, "e74ebcf93d079d3bcff4387e176ad43c6f289ac5658f837efae0cbe350466bca"), looks := false }, kinds := [], alts := [], laidByText := true, laidKinds := [.data], laidTests := true, laidLooks := .later }
def FrameSupersCardSaid : Prop := Claim7.holds Tryd.pinned (.plain (OpenSpec.ofChange frameSupersSpec)) frameSupersCard

/-- THE TIED CARD OF 'ledgerlaw5.FramePacks'. -/
def framePacksCard : Claim7 := { stood := { row := framePacksRow, standIns := [], harness := (true, "e74ebcf93d079d3bcff4387e176ad43c6f289ac5658f837efae0cbe350466bca"), looks := false }, kinds := [], alts := [], laidByText := true, laidKinds := [.data], laidTests := true, laidLooks := .later }
def FramePacksCardSaid : Prop := Claim7.holds Tryd.pinned (.plain (OpenSpec.ofChange framePacksSpec)) framePacksCard

/-- THE TIED CARD OF 'ledgerlaw5.FrameReads'. -/
def frameReadsCard : Claim7 := { stood := { row := frameReadsRow, standIns := [], harness := (true, "e74ebcf93d079d3bcff4387e176ad43c6f289ac5658f837efae0cbe350466bca"), looks := false }, kinds := [], alts := [], laidByText := true, laidKinds := [.data], laidTests := true, laidLooks := .later }
def FrameReadsCardSaid : Prop := Claim7.holds Tryd.pinned (.plain (OpenSpec.ofChange frameReadsSpec)) frameReadsCard

/-- THE TIED CARD OF 'ledgerlaw5.FrameUnpacks'. -/
def frameUnpacksCard : Claim7 := { stood := { row := frameUnpacksRow, standIns := [], harness := (true, "e74ebcf93d079d3bcff4387e176ad43c6f289ac5658f837efae0cbe350466bca"), looks := false }, kinds := [], alts := [], laidByText := true, laidKinds := [.data], laidTests := true, laidLooks := .later }
def FrameUnpacksCardSaid : Prop := Claim7.holds Tryd.pinned (.plain (OpenSpec.ofChange frameUnpacksSpec)) frameUnpacksCard

/-- THE TIED CARD OF 'ledgerlaw5.FrameChooses'. -/
def frameChoosesCard : Claim7 := { stood := { row := frameChoosesRow, standIns := [], harness := (true, "e74ebcf93d079d3bcff4387e176ad43c6f289ac5658f837efae0cbe350466bca"), looks := false }, kinds := [], alts := [], laidByText := true, laidKinds := [.data], laidTests := true, laidLooks := .later }
def FrameChoosesCardSaid : Prop := Claim7.holds Tryd.pinned (.plain (OpenSpec.ofChange frameChoosesSpec)) frameChoosesCard

/-- THE TIED CARD OF 'ledgerlaw5.FrameKept'. -/
def frameKeptCard : Claim7 := { stood := { row := frameKeptRow, standIns := [], harness := (true, "e74ebcf93d079d3bcff4387e176ad43c6f289ac5658f837efae0cbe350466bca"), looks := false }, kinds := [], alts := [], laidByText := true, laidKinds := [.data], laidTests := true, laidLooks := .later }
def FrameKeptCardSaid : Prop := Claim7.holds Tryd.pinned (.plain (OpenSpec.ofChange frameKeptSpec)) frameKeptCard

/-- THE SECOND FORM's CARD OF 'ledgerlaw5.FrameSupers'. -/
def frameSupersUptoCard : Claim7 := { stood := { row := frameSupersUptoRow, standIns := [], harness := (true, "e74ebcf93d079d3bcff4387e176ad43c6f289ac5658f837efae0cbe350466bca"), looks := false }, kinds := [], alts := [], laidByText := true, laidKinds := [.data], laidTests := true, laidLooks := .later }
def FrameSupersUptoCardSaid : Prop := Claim7.holds Tryd.pinned (.plain (OpenSpec.upto frameSupersSpec)) frameSupersUptoCard

/-- THE SECOND FORM's CARD OF 'ledgerlaw5.FramePacks'. -/
def framePacksUptoCard : Claim7 := { stood := { row := framePacksUptoRow, standIns := [], harness := (true, "e74ebcf93d079d3bcff4387e176ad43c6f289ac5658f837efae0cbe350466bca"), looks := false }, kinds := [], alts := [], laidByText := true, laidKinds := [.data], laidTests := true, laidLooks := .later }
def FramePacksUptoCardSaid : Prop := Claim7.holds Tryd.pinned (.plain (OpenSpec.upto framePacksSpec)) framePacksUptoCard

/-- THE SECOND FORM's CARD OF 'ledgerlaw5.FrameReads'. -/
def frameReadsUptoCard : Claim7 := { stood := { row := frameReadsUptoRow, standIns := [], harness := (true, "e74ebcf93d079d3bcff4387e176ad43c6f289ac5658f837efae0cbe350466bca"), looks := false }, kinds := [], alts := [], laidByText := true, laidKinds := [.data], laidTests := true, laidLooks := .later }
def FrameReadsUptoCardSaid : Prop := Claim7.holds Tryd.pinned (.plain (OpenSpec.upto frameReadsSpec)) frameReadsUptoCard

/-- THE SECOND FORM's CARD OF 'ledgerlaw5.FrameUnpacks'. -/
def frameUnpacksUptoCard : Claim7 := { stood := { row := frameUnpacksUptoRow, standIns := [], harness := (true, "e74ebcf93d079d3bcff4387e176ad43c6f289ac5658f837efae0cbe350466bca"), looks := false }, kinds := [], alts := [], laidByText := true, laidKinds := [.data], laidTests := true, laidLooks := .later }
def FrameUnpacksUptoCardSaid : Prop := Claim7.holds Tryd.pinned (.plain (OpenSpec.upto frameUnpacksSpec)) frameUnpacksUptoCard

/-- THE SECOND FORM's CARD OF 'ledgerlaw5.FrameChooses'. -/
def frameChoosesUptoCard : Claim7 := { stood := { row := frameChoosesUptoRow, standIns := [], harness := (true, "e74ebcf93d079d3bcff4387e176ad43c6f289ac5658f837efae0cbe350466bca"), looks := false }, kinds := [], alts := [], laidByText := true, laidKinds := [.data], laidTests := true, laidLooks := .later }
def FrameChoosesUptoCardSaid : Prop := Claim7.holds Tryd.pinned (.plain (OpenSpec.upto frameChoosesSpec)) frameChoosesUptoCard

/-- THE SECOND FORM's CARD OF 'ledgerlaw5.FrameKept'. -/
def frameKeptUptoCard : Claim7 := { stood := { row := frameKeptUptoRow, standIns := [], harness := (true, "e74ebcf93d079d3bcff4387e176ad43c6f289ac5658f837efae0cbe350466bca"), looks := false }, kinds := [], alts := [], laidByText := true, laidKinds := [.data], laidTests := true, laidLooks := .later }
def FrameKeptUptoCardSaid : Prop := Claim7.holds Tryd.pinned (.plain (OpenSpec.upto frameKeptSpec)) frameKeptUptoCard
end Rows
end Go.Proofs.YtbjbpgbpefkbhaaDoor
