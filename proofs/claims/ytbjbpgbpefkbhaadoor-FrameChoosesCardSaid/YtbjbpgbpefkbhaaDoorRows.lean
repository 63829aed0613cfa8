/-
  NARROWER THAN 'FOR EVERY INPUT', by the rows' own cells (each row's printed sentence says how): FrameSupers: laid · FramePacks: laid · FrameReads: laid · FrameUnpacks: laid · FrameChooses: laid · FrameKept: laid.
  DERIVED. THE GIVEN ROWS OF THIS SEAT. 6 by the template 'for every input the law returns true; each argument reads behind the call as it read before'; 0 by the template 'total and deterministic' (their statements: YtbjbpgbpefkbhaaDoorTotals.lean).
  GIVEN WITH THE SEED: the statements are not yours to turn. If you find one false, say at which input.
  Laid BY PROGRAM, IN A SANDBOX (cutbox-rows.mjs): the forced cells as the released guide's own fill.sh prints them over the translation db8d89e97f17457c… (all of the seat's roots in one cut). By AI agents, Wed Nov 11 2026. No macro, syntax, notation, axiom, sorry.
-/
import Derived.Test.YtbjbpgbpefkbhaaDoorChecked
import GoSem.Claim
import GoSem.ClaimJoined
import GoSem.ClaimMapViews
import Derived.JoinedTies
import Derived.KernelRfl
namespace Go.Proofs.YtbjbpgbpefkbhaaDoor
/- THE CELL 'sum', in the pinned program and in every row, IS THE sha256 OF THE DUMP (.gsa) THAT YtbjbpgbpefkbhaaDoorProg.lean LOADS. Nothing in Lean hashes anything: it is a label: what it is worth is what the hold of that sum in a sandbox is worth. -/
noncomputable def Tryd.pinned : Pinned := { name := "ytbjbpgbpefkbhaadoor", sum := "db8d89e97f17457c9e8a55b9aee8f5ba6774a6da88598b59dfe6e271c11a02fd", checked := Tryd.checked }
namespace Rows
def none {H : Type} : Left H := { results := [], args := [] }

/- WHAT THE LISTED PACKAGE-LEVEL VARIABLES READ AS WHEN THE CALL BEGINS. Each datum BY PROGRAM (the guide's laid-datum.mjs) off the statement by which the dump's own 'gosem.cut.vars' lays the variable. In a bare row this is a premise. The card (YtbjbpgbpefkbhaaDoorCards.lean) ties it to the program's text. -/
def laid_ledger_ledgerref2_divisor {H : Type} : DataW H := .agg [.lit (.int .u8 1), .lit (.int .u8 0), .lit (.int .u8 0), .lit (.int .u8 0), .lit (.int .u8 0), .lit (.int .u8 0), .lit (.int .u8 1), .lit (.int .u8 0), .lit (.int .u8 0), .lit (.int .u8 1), .lit (.int .u8 1), .lit (.int .u8 0), .lit (.int .u8 0), .lit (.int .u8 0), .lit (.int .u8 0), .lit (.int .u8 0), .lit (.int .u8 1), .lit (.int .u8 0), .lit (.int .u8 0), .lit (.int .u8 0), .lit (.int .u8 1), .lit (.int .u8 1), .lit (.int .u8 1), .lit (.int .u8 0), .lit (.int .u8 1), .lit (.int .u8 1), .lit (.int .u8 0), .lit (.int .u8 1), .lit (.int .u8 1), .lit (.int .u8 0), .lit (.int .u8 1), .lit (.int .u8 1), .lit (.int .u8 1)]

/-- 'ledgerlaw5.FrameSupers': WHATEVER THE INPUT: true; the input reads as it did. -/
def frameSupersSpec : ChangeSpec := { name := "frameSupers", fn := fun _ => fun
  | [d] => { results := [.lit (.bool true)], args := [d] }
  | _ => none }
def frameSupersRow : OpenClaim := { program := "ytbjbpgbpefkbhaadoor", sum := "db8d89e97f17457c9e8a55b9aee8f5ba6774a6da88598b59dfe6e271c11a02fd", func := "ledger/ledgerlaw5.FrameSupers", spec := "frameSupers", named := ["ledger/ledgerref2.divisor"], apart := false, laid := [("ledger/ledgerref2.divisor", laid_ledger_ledgerref2_divisor)] }
def FrameSupersSaid : Prop := frameSupersRow.holds Tryd.pinned (OpenSpec.ofChange frameSupersSpec)

/-- ITS FALSE NEIGHBOUR: 'it returns false'. Refute it at one input. -/
def frameSupersWrong : ChangeSpec := { name := "frameSupers", fn := fun _ => fun
  | [d] => { results := [.lit (.bool false)], args := [d] }
  | _ => none }
def FrameSupersWrongFalsely : Prop := frameSupersRow.holds Tryd.pinned (OpenSpec.ofChange frameSupersWrong)

/-- 'ledgerlaw5.FramePacks': WHATEVER THE INPUT: true; the input reads as it did. -/
def framePacksSpec : ChangeSpec := { name := "framePacks", fn := fun _ => fun
  | [d1, d2, d3] => { results := [.lit (.bool true)], args := [d1, d2, d3] }
  | _ => none }
def framePacksRow : OpenClaim := { program := "ytbjbpgbpefkbhaadoor", sum := "db8d89e97f17457c9e8a55b9aee8f5ba6774a6da88598b59dfe6e271c11a02fd", func := "ledger/ledgerlaw5.FramePacks", spec := "framePacks", named := ["ledger/ledgerref2.divisor"], apart := false, laid := [("ledger/ledgerref2.divisor", laid_ledger_ledgerref2_divisor)] }
def FramePacksSaid : Prop := framePacksRow.holds Tryd.pinned (OpenSpec.ofChange framePacksSpec)

/-- ITS FALSE NEIGHBOUR: 'it returns false'. Refute it at one input. -/
def framePacksWrong : ChangeSpec := { name := "framePacks", fn := fun _ => fun
  | [d1, d2, d3] => { results := [.lit (.bool false)], args := [d1, d2, d3] }
  | _ => none }
def FramePacksWrongFalsely : Prop := framePacksRow.holds Tryd.pinned (OpenSpec.ofChange framePacksWrong)

/-- 'ledgerlaw5.FrameReads': WHATEVER THE INPUT: true; the input reads as it did. -/
def frameReadsSpec : ChangeSpec := { name := "frameReads", fn := fun _ => fun
  | [d] => { results := [.lit (.bool true)], args := [d] }
  | _ => none }
def frameReadsRow : OpenClaim := { program := "ytbjbpgbpefkbhaadoor", sum := "db8d89e97f17457c9e8a55b9aee8f5ba6774a6da88598b59dfe6e271c11a02fd", func := "ledger/ledgerlaw5.FrameReads", spec := "frameReads", named := ["ledger/ledgerref2.divisor"], apart := false, laid := [("ledger/ledgerref2.divisor", laid_ledger_ledgerref2_divisor)] }
def FrameReadsSaid : Prop := frameReadsRow.holds Tryd.pinned (OpenSpec.ofChange frameReadsSpec)

/-- ITS FALSE NEIGHBOUR: 'it returns false'. Refute it at one input. -/
def frameReadsWrong : ChangeSpec := { name := "frameReads", fn := fun _ => fun
  | [d] => { results := [.lit (.bool false)], args := [d] }
  | _ => none }
def FrameReadsWrongFalsely : Prop := frameReadsRow.holds Tryd.pinned (OpenSpec.ofChange frameReadsWrong)

/-- 'ledgerlaw5.FrameUnpacks': WHATEVER THE INPUT: true; the input reads as it did. -/
def frameUnpacksSpec : ChangeSpec := { name := "frameUnpacks", fn := fun _ => fun
  | [d1, d2] => { results := [.lit (.bool true)], args := [d1, d2] }
  | _ => none }
def frameUnpacksRow : OpenClaim := { program := "ytbjbpgbpefkbhaadoor", sum := "db8d89e97f17457c9e8a55b9aee8f5ba6774a6da88598b59dfe6e271c11a02fd", func := "ledger/ledgerlaw5.FrameUnpacks", spec := "frameUnpacks", named := ["ledger/ledgerref2.divisor"], apart := false, laid := [("ledger/ledgerref2.divisor", laid_ledger_ledgerref2_divisor)] }
def FrameUnpacksSaid : Prop := frameUnpacksRow.holds Tryd.pinned (OpenSpec.ofChange frameUnpacksSpec)

/-- ITS FALSE NEIGHBOUR: 'it returns false'. Refute it at one input. -/
def frameUnpacksWrong : ChangeSpec := { name := "frameUnpacks", fn := fun _ => fun
  | [d1, d2] => { results := [.lit (.bool false)], args := [d1, d2] }
  | _ => none }
def FrameUnpacksWrongFalsely : Prop := frameUnpacksRow.holds Tryd.pinned (OpenSpec.ofChange frameUnpacksWrong)

/-- 'ledgerlaw5.FrameChooses': WHATEVER THE INPUT: true; the input reads as it did. -/
def frameChoosesSpec : ChangeSpec := { name := "frameChooses", fn := fun _ => fun
  | [d1, d2] => { results := [.lit (.bool true)], args := [d1, d2] }
  | _ => none }
def frameChoosesRow : OpenClaim := { program := "ytbjbpgbpefkbhaadoor", sum := "db8d89e97f17457c9e8a55b9aee8f5ba6774a6da88598b59dfe6e271c11a02fd", func := "ledger/ledgerlaw5.FrameChooses", spec := "frameChooses", named := ["ledger/ledgerref2.divisor"], apart := false, laid := [("ledger/ledgerref2.divisor", laid_ledger_ledgerref2_divisor)] }
def FrameChoosesSaid : Prop := frameChoosesRow.holds Tryd.pinned (OpenSpec.ofChange frameChoosesSpec)

/-- ITS FALSE NEIGHBOUR: 'it returns false'. Refute it at one input. -/
def frameChoosesWrong : ChangeSpec := { name := "frameChooses", fn := fun _ => fun
  | [d1, d2] => { results := [.lit (.bool false)], args := [d1, d2] }
  | _ => none }
def FrameChoosesWrongFalsely : Prop := frameChoosesRow.holds Tryd.pinned (OpenSpec.ofChange frameChoosesWrong)

/-- 'ledgerlaw5.FrameKept': WHATEVER THE INPUT: true; the input reads as it did. -/
def frameKeptSpec : ChangeSpec := { name := "frameKept", fn := fun _ => fun
  | [d] => { results := [.lit (.bool true)], args := [d] }
  | _ => none }
def frameKeptRow : OpenClaim := { program := "ytbjbpgbpefkbhaadoor", sum := "db8d89e97f17457c9e8a55b9aee8f5ba6774a6da88598b59dfe6e271c11a02fd", func := "ledger/ledgerlaw5.FrameKept", spec := "frameKept", named := ["ledger/ledgerref2.divisor"], apart := false, laid := [("ledger/ledgerref2.divisor", laid_ledger_ledgerref2_divisor)] }
def FrameKeptSaid : Prop := frameKeptRow.holds Tryd.pinned (OpenSpec.ofChange frameKeptSpec)

/-- ITS FALSE NEIGHBOUR: 'it returns false'. Refute it at one input. -/
def frameKeptWrong : ChangeSpec := { name := "frameKept", fn := fun _ => fun
  | [d] => { results := [.lit (.bool false)], args := [d] }
  | _ => none }
def FrameKeptWrongFalsely : Prop := frameKeptRow.holds Tryd.pinned (OpenSpec.ofChange frameKeptWrong)

/- THE SECOND FORM. 'bulk': how many values and letters a reading holds, each counted each time it is reached (what is shared counts as often as it is met; a slice's spare places count too). A statement '..UptoSaid' is the law's where the arguments, and the package variables that the reading takes, are together of bulk at most 1048576: NARROWER than '..Said'. Prove '..Said' where nothing that the law and all that it calls make is longer than what came in: it says more and counts as full. Else prove '..UptoSaid'. A law counts once. -/
mutual
def uptoBulk {H : Type} : DataW H → Nat
  | .lit (.string bytes) => bytes.length + 1
  | .lit _ => 1
  | .nil => 1
  | .ptr d => uptoBulk d + 1
  | .slice elems spare => uptoBulkAll elems + uptoBulkAll spare + 1
  | .agg parts => uptoBulkAll parts + 1
  | .iface _ d => uptoBulk d + 1
  | .map entries => uptoBulkEntries entries + 1
  | .held _ => 1
def uptoBulkAll {H : Type} : List (DataW H) → Nat
  | [] => 0
  | d :: r => uptoBulk d + uptoBulkAll r
def uptoBulkEntries {H : Type} : List (Lit × DataW H) → Nat
  | [] => 0
  | x :: r => uptoBulkEntry x + uptoBulkEntries r
def uptoBulkEntry {H : Type} : Lit × DataW H → Nat
  | (.string bytes, d) => bytes.length + uptoBulk d + 1
  | (_, d) => uptoBulk d + 1
 end
def uptoSmall : (H : Type) → List (DataW H) → Bool := fun _ ds => decide (uptoBulkAll ds ≤ 1048576)
def OpenSpec.upto (s : _root_.Go.ChangeSpec) : _root_.Go.OpenSpec := { _root_.Go.OpenSpec.ofChange s with cond := some uptoSmall }

/-- 'ledgerlaw5.FrameSupers', WHERE WHAT IT READS IS OF BULK AT MOST 1048576: true; the input reads as it did. -/
def frameSupersUptoRow : OpenClaim := { program := "ytbjbpgbpefkbhaadoor", sum := "db8d89e97f17457c9e8a55b9aee8f5ba6774a6da88598b59dfe6e271c11a02fd", func := "ledger/ledgerlaw5.FrameSupers", spec := "frameSupers", named := ["ledger/ledgerref2.divisor"], apart := false, laid := [("ledger/ledgerref2.divisor", laid_ledger_ledgerref2_divisor)], narrowed := true }
def FrameSupersUptoSaid : Prop := frameSupersUptoRow.holds Tryd.pinned (OpenSpec.upto frameSupersSpec)

/-- 'ledgerlaw5.FramePacks', WHERE WHAT IT READS IS OF BULK AT MOST 1048576: true; the input reads as it did. -/
def framePacksUptoRow : OpenClaim := { program := "ytbjbpgbpefkbhaadoor", sum := "db8d89e97f17457c9e8a55b9aee8f5ba6774a6da88598b59dfe6e271c11a02fd", func := "ledger/ledgerlaw5.FramePacks", spec := "framePacks", named := ["ledger/ledgerref2.divisor"], apart := false, laid := [("ledger/ledgerref2.divisor", laid_ledger_ledgerref2_divisor)], narrowed := true }
def FramePacksUptoSaid : Prop := framePacksUptoRow.holds Tryd.pinned (OpenSpec.upto framePacksSpec)

/-- 'ledgerlaw5.FrameReads', WHERE WHAT IT READS IS OF BULK AT MOST 1048576: true; the input reads as it did. -/
def frameReadsUptoRow : OpenClaim := { program := "ytbjbpgbpefkbhaadoor", sum := "db8d89e97f17457c9e8a55b9aee8f5ba6774a6da88598b59dfe6e271c11a02fd", func := "ledger/ledgerlaw5.FrameReads", spec := "frameReads", named := ["ledger/ledgerref2.divisor"], apart := false, laid := [("ledger/ledgerref2.divisor", laid_ledger_ledgerref2_divisor)], narrowed := true }
def FrameReadsUptoSaid : Prop := frameReadsUptoRow.holds Tryd.pinned (OpenSpec.upto frameReadsSpec)

/-- 'ledgerlaw5.FrameUnpacks', WHERE WHAT IT READS IS OF BULK AT MOST 1048576: true; the input reads as it did. -/
def frameUnpacksUptoRow : OpenClaim := { program := "ytbjbpgbpefkbhaadoor", sum := "db8d89e97f17457c9e8a55b9aee8f5ba6774a6da88598b59dfe6e271c11a02fd", func := "ledger/ledgerlaw5.FrameUnpacks", spec := "frameUnpacks", named := ["ledger/ledgerref2.divisor"], apart := false, laid := [("ledger/ledgerref2.divisor", laid_ledger_ledgerref2_divisor)], narrowed := true }
def FrameUnpacksUptoSaid : Prop := frameUnpacksUptoRow.holds Tryd.pinned (OpenSpec.upto frameUnpacksSpec)

/-- 'ledgerlaw5.FrameChooses', WHERE WHAT IT READS IS OF BULK AT MOST 1048576: true; the input reads as it did. -/
def frameChoosesUptoRow : OpenClaim := { program := "ytbjbpgbpefkbhaadoor", sum := "db8d89e97f17457c9e8a55b9aee8f5ba6774a6da88598b59dfe6e271c11a02fd", func := "ledger/ledgerlaw5.FrameChooses", spec := "frameChooses", named := ["ledger/ledgerref2.divisor"], apart := false, laid := [("ledger/ledgerref2.divisor", laid_ledger_ledgerref2_divisor)], narrowed := true }
def FrameChoosesUptoSaid : Prop := frameChoosesUptoRow.holds Tryd.pinned (OpenSpec.upto frameChoosesSpec)

/-- 'ledgerlaw5.FrameKept', WHERE WHAT IT READS IS OF BULK AT MOST 1048576: true; the input reads as it did. -/
def frameKeptUptoRow : OpenClaim := { program := "ytbjbpgbpefkbhaadoor", sum := "db8d89e97f17457c9e8a55b9aee8f5ba6774a6da88598b59dfe6e271c11a02fd", func := "ledger/ledgerlaw5.FrameKept", spec := "frameKept", named := ["ledger/ledgerref2.divisor"], apart := false, laid := [("ledger/ledgerref2.divisor", laid_ledger_ledgerref2_divisor)], narrowed := true }
def FrameKeptUptoSaid : Prop := frameKeptUptoRow.holds Tryd.pinned (OpenSpec.upto frameKeptSpec)

end Rows
end Go.Proofs.YtbjbpgbpefkbhaaDoor
