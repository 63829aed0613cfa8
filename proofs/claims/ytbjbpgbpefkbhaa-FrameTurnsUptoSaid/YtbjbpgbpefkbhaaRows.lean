/-
  No cell of these rows narrows 'for every input' (looked for: loops, veiled, ifaces, maps, wideKeys, modest, calm, conditions, laid).
  DERIVED. THE GIVEN ROWS OF THIS SEAT. 9 by the template 'for every input the law returns true; each argument reads behind the call as it read before'; 0 by the template 'total and deterministic' (their statements: YtbjbpgbpefkbhaaTotals.lean).
  GIVEN WITH THE SEED: the statements are not yours to turn. If you find one false, say at which input.
  Laid BY PROGRAM, IN A SANDBOX (cutbox-rows.mjs): the forced cells as the released guide's own fill.sh prints them over the translation 562689384a1a3bf3… (all of the seat's roots in one cut). By AI agents, Wed Nov 11 2026. No macro, syntax, notation, axiom, sorry.
-/
import Derived.Test.YtbjbpgbpefkbhaaChecked
import GoSem.Claim
import GoSem.ClaimJoined
import GoSem.ClaimMapViews
import Derived.JoinedTies
import Derived.KernelRfl
namespace Go.Proofs.Ytbjbpgbpefkbhaa
/- THE CELL 'sum', in the pinned program and in every row, IS THE sha256 OF THE DUMP (.gsa) THAT YtbjbpgbpefkbhaaProg.lean LOADS. Nothing in Lean hashes anything: it is a label: what it is worth is what the hold of that sum in a sandbox is worth. -/
noncomputable def Try.pinned : Pinned := { name := "ytbjbpgbpefkbhaa", sum := "562689384a1a3bf3a335f9dcd2c0719f69e6c318b509eb3304a13c85cf85ff04", checked := Try.checked }
namespace Rows
def none {H : Type} : Left H := { results := [], args := [] }

/-- 'ledgerlaw5.FrameNames': WHATEVER THE INPUT: true; the input reads as it did. -/
def frameNamesSpec : ChangeSpec := { name := "frameNames", fn := fun _ => fun
  | [] => { results := [.lit (.bool true)], args := [] }
  | _ => none }
def frameNamesRow : OpenClaim := { program := "ytbjbpgbpefkbhaa", sum := "562689384a1a3bf3a335f9dcd2c0719f69e6c318b509eb3304a13c85cf85ff04", func := "ledger/ledgerlaw5.FrameNames", spec := "frameNames", apart := false }
def FrameNamesSaid : Prop := frameNamesRow.holds Try.pinned (OpenSpec.ofChange frameNamesSpec)

/-- ITS FALSE NEIGHBOUR: 'it returns false'. Refute it at one input. -/
def frameNamesWrong : ChangeSpec := { name := "frameNames", fn := fun _ => fun
  | [] => { results := [.lit (.bool false)], args := [] }
  | _ => none }
def FrameNamesWrongFalsely : Prop := frameNamesRow.holds Try.pinned (OpenSpec.ofChange frameNamesWrong)

/-- 'ledgerlaw5.FrameSuperBack': WHATEVER THE INPUT: true; the input reads as it did. -/
def frameSuperBackSpec : ChangeSpec := { name := "frameSuperBack", fn := fun _ => fun
  | [d1, d2, d3] => { results := [.lit (.bool true)], args := [d1, d2, d3] }
  | _ => none }
def frameSuperBackRow : OpenClaim := { program := "ytbjbpgbpefkbhaa", sum := "562689384a1a3bf3a335f9dcd2c0719f69e6c318b509eb3304a13c85cf85ff04", func := "ledger/ledgerlaw5.FrameSuperBack", spec := "frameSuperBack", apart := false }
def FrameSuperBackSaid : Prop := frameSuperBackRow.holds Try.pinned (OpenSpec.ofChange frameSuperBackSpec)

/-- ITS FALSE NEIGHBOUR: 'it returns false'. Refute it at one input. -/
def frameSuperBackWrong : ChangeSpec := { name := "frameSuperBack", fn := fun _ => fun
  | [d1, d2, d3] => { results := [.lit (.bool false)], args := [d1, d2, d3] }
  | _ => none }
def FrameSuperBackWrongFalsely : Prop := frameSuperBackRow.holds Try.pinned (OpenSpec.ofChange frameSuperBackWrong)

/-- 'ledgerlaw5.FrameSuperBursts': WHATEVER THE INPUT: true; the input reads as it did. -/
def frameSuperBurstsSpec : ChangeSpec := { name := "frameSuperBursts", fn := fun _ => fun
  | [d1, d2, d3, d4, d5, d6, d7] => { results := [.lit (.bool true)], args := [d1, d2, d3, d4, d5, d6, d7] }
  | _ => none }
def frameSuperBurstsRow : OpenClaim := { program := "ytbjbpgbpefkbhaa", sum := "562689384a1a3bf3a335f9dcd2c0719f69e6c318b509eb3304a13c85cf85ff04", func := "ledger/ledgerlaw5.FrameSuperBursts", spec := "frameSuperBursts", apart := false }
def FrameSuperBurstsSaid : Prop := frameSuperBurstsRow.holds Try.pinned (OpenSpec.ofChange frameSuperBurstsSpec)

/-- ITS FALSE NEIGHBOUR: 'it returns false'. Refute it at one input. -/
def frameSuperBurstsWrong : ChangeSpec := { name := "frameSuperBursts", fn := fun _ => fun
  | [d1, d2, d3, d4, d5, d6, d7] => { results := [.lit (.bool false)], args := [d1, d2, d3, d4, d5, d6, d7] }
  | _ => none }
def FrameSuperBurstsWrongFalsely : Prop := frameSuperBurstsRow.holds Try.pinned (OpenSpec.ofChange frameSuperBurstsWrong)

/-- 'ledgerlaw5.FrameBack': WHATEVER THE INPUT: true; the input reads as it did. -/
def frameBackSpec : ChangeSpec := { name := "frameBack", fn := fun _ => fun
  | [d1, d2, d3, d4] => { results := [.lit (.bool true)], args := [d1, d2, d3, d4] }
  | _ => none }
def frameBackRow : OpenClaim := { program := "ytbjbpgbpefkbhaa", sum := "562689384a1a3bf3a335f9dcd2c0719f69e6c318b509eb3304a13c85cf85ff04", func := "ledger/ledgerlaw5.FrameBack", spec := "frameBack", apart := false }
def FrameBackSaid : Prop := frameBackRow.holds Try.pinned (OpenSpec.ofChange frameBackSpec)

/-- ITS FALSE NEIGHBOUR: 'it returns false'. Refute it at one input. -/
def frameBackWrong : ChangeSpec := { name := "frameBack", fn := fun _ => fun
  | [d1, d2, d3, d4] => { results := [.lit (.bool false)], args := [d1, d2, d3, d4] }
  | _ => none }
def FrameBackWrongFalsely : Prop := frameBackRow.holds Try.pinned (OpenSpec.ofChange frameBackWrong)

/-- 'ledgerlaw5.FrameOnly': WHATEVER THE INPUT: true; the input reads as it did. -/
def frameOnlySpec : ChangeSpec := { name := "frameOnly", fn := fun _ => fun
  | [d1, d2] => { results := [.lit (.bool true)], args := [d1, d2] }
  | _ => none }
def frameOnlyRow : OpenClaim := { program := "ytbjbpgbpefkbhaa", sum := "562689384a1a3bf3a335f9dcd2c0719f69e6c318b509eb3304a13c85cf85ff04", func := "ledger/ledgerlaw5.FrameOnly", spec := "frameOnly", apart := false }
def FrameOnlySaid : Prop := frameOnlyRow.holds Try.pinned (OpenSpec.ofChange frameOnlySpec)

/-- ITS FALSE NEIGHBOUR: 'it returns false'. Refute it at one input. -/
def frameOnlyWrong : ChangeSpec := { name := "frameOnly", fn := fun _ => fun
  | [d1, d2] => { results := [.lit (.bool false)], args := [d1, d2] }
  | _ => none }
def FrameOnlyWrongFalsely : Prop := frameOnlyRow.holds Try.pinned (OpenSpec.ofChange frameOnlyWrong)

/-- 'ledgerlaw5.FrameBursts': WHATEVER THE INPUT: true; the input reads as it did. -/
def frameBurstsSpec : ChangeSpec := { name := "frameBursts", fn := fun _ => fun
  | [d1, d2, d3, d4, d5] => { results := [.lit (.bool true)], args := [d1, d2, d3, d4, d5] }
  | _ => none }
def frameBurstsRow : OpenClaim := { program := "ytbjbpgbpefkbhaa", sum := "562689384a1a3bf3a335f9dcd2c0719f69e6c318b509eb3304a13c85cf85ff04", func := "ledger/ledgerlaw5.FrameBursts", spec := "frameBursts", apart := false }
def FrameBurstsSaid : Prop := frameBurstsRow.holds Try.pinned (OpenSpec.ofChange frameBurstsSpec)

/-- ITS FALSE NEIGHBOUR: 'it returns false'. Refute it at one input. -/
def frameBurstsWrong : ChangeSpec := { name := "frameBursts", fn := fun _ => fun
  | [d1, d2, d3, d4, d5] => { results := [.lit (.bool false)], args := [d1, d2, d3, d4, d5] }
  | _ => none }
def FrameBurstsWrongFalsely : Prop := frameBurstsRow.holds Try.pinned (OpenSpec.ofChange frameBurstsWrong)

/-- 'ledgerlaw5.FrameFew': WHATEVER THE INPUT: true; the input reads as it did. -/
def frameFewSpec : ChangeSpec := { name := "frameFew", fn := fun _ => fun
  | [d1, d2, d3, d4, d5, d6, d7] => { results := [.lit (.bool true)], args := [d1, d2, d3, d4, d5, d6, d7] }
  | _ => none }
def frameFewRow : OpenClaim := { program := "ytbjbpgbpefkbhaa", sum := "562689384a1a3bf3a335f9dcd2c0719f69e6c318b509eb3304a13c85cf85ff04", func := "ledger/ledgerlaw5.FrameFew", spec := "frameFew", apart := false }
def FrameFewSaid : Prop := frameFewRow.holds Try.pinned (OpenSpec.ofChange frameFewSpec)

/-- ITS FALSE NEIGHBOUR: 'it returns false'. Refute it at one input. -/
def frameFewWrong : ChangeSpec := { name := "frameFew", fn := fun _ => fun
  | [d1, d2, d3, d4, d5, d6, d7] => { results := [.lit (.bool false)], args := [d1, d2, d3, d4, d5, d6, d7] }
  | _ => none }
def FrameFewWrongFalsely : Prop := frameFewRow.holds Try.pinned (OpenSpec.ofChange frameFewWrong)

/-- 'ledgerlaw5.FrameTurns': WHATEVER THE INPUT: true; the input reads as it did. -/
def frameTurnsSpec : ChangeSpec := { name := "frameTurns", fn := fun _ => fun
  | [d1, d2, d3] => { results := [.lit (.bool true)], args := [d1, d2, d3] }
  | _ => none }
def frameTurnsRow : OpenClaim := { program := "ytbjbpgbpefkbhaa", sum := "562689384a1a3bf3a335f9dcd2c0719f69e6c318b509eb3304a13c85cf85ff04", func := "ledger/ledgerlaw5.FrameTurns", spec := "frameTurns", apart := false }
def FrameTurnsSaid : Prop := frameTurnsRow.holds Try.pinned (OpenSpec.ofChange frameTurnsSpec)

/-- ITS FALSE NEIGHBOUR: 'it returns false'. Refute it at one input. -/
def frameTurnsWrong : ChangeSpec := { name := "frameTurns", fn := fun _ => fun
  | [d1, d2, d3] => { results := [.lit (.bool false)], args := [d1, d2, d3] }
  | _ => none }
def FrameTurnsWrongFalsely : Prop := frameTurnsRow.holds Try.pinned (OpenSpec.ofChange frameTurnsWrong)

/-- 'ledgerlaw5.FrameOne': WHATEVER THE INPUT: true; the input reads as it did. -/
def frameOneSpec : ChangeSpec := { name := "frameOne", fn := fun _ => fun
  | [d1, d2, d3, d4, d5] => { results := [.lit (.bool true)], args := [d1, d2, d3, d4, d5] }
  | _ => none }
def frameOneRow : OpenClaim := { program := "ytbjbpgbpefkbhaa", sum := "562689384a1a3bf3a335f9dcd2c0719f69e6c318b509eb3304a13c85cf85ff04", func := "ledger/ledgerlaw5.FrameOne", spec := "frameOne", apart := false }
def FrameOneSaid : Prop := frameOneRow.holds Try.pinned (OpenSpec.ofChange frameOneSpec)

/-- ITS FALSE NEIGHBOUR: 'it returns false'. Refute it at one input. -/
def frameOneWrong : ChangeSpec := { name := "frameOne", fn := fun _ => fun
  | [d1, d2, d3, d4, d5] => { results := [.lit (.bool false)], args := [d1, d2, d3, d4, d5] }
  | _ => none }
def FrameOneWrongFalsely : Prop := frameOneRow.holds Try.pinned (OpenSpec.ofChange frameOneWrong)

/- THE SECOND FORM. 'bulk': how many values and letters a reading holds, each counted each time it is reached (what is shared counts as often as it is met; a slice's spare places count too). A statement '..UptoSaid' is the law's where the arguments, and the package variables that the reading takes, are together of bulk at most 1048576: NARROWER than '..Said'. Prove '..Said' where nothing that the law and all that it calls make is longer than what came in: it says more and counts as full. Else prove '..UptoSaid'. A law counts once. -/
mutual
def uptoBulk {H : Type} : DataW H → Nat
  | .lit (.string bytes) => bytes.length + 1
  | .lit _ => 1
  | .nil => 1
  | .ptr d => uptoBulk d + 1
  | .slice elems spare => uptoBulkAll elems + uptoBulkAll spare + 1
  | .agg parts => uptoBulkAll parts + 1
  | .iface _ d => uptoBulk d + 1
  | .map entries => uptoBulkEntries entries + 1
  | .held _ => 1
def uptoBulkAll {H : Type} : List (DataW H) → Nat
  | [] => 0
  | d :: r => uptoBulk d + uptoBulkAll r
def uptoBulkEntries {H : Type} : List (Lit × DataW H) → Nat
  | [] => 0
  | x :: r => uptoBulkEntry x + uptoBulkEntries r
def uptoBulkEntry {H : Type} : Lit × DataW H → Nat
  | (.string bytes, d) => bytes.length + uptoBulk d + 1
  | (_, d) => uptoBulk d + 1
 end
def uptoSmall : (H : Type) → List (DataW H) → Bool := fun _ ds => decide (uptoBulkAll ds ≤ 1048576)
def OpenSpec.upto (s : _root_.Go.ChangeSpec) : _root_.Go.OpenSpec := { _root_.Go.OpenSpec.ofChange s with cond := some uptoSmall }

/-- 'ledgerlaw5.FrameNames', WHERE WHAT IT READS IS OF BULK AT MOST 1048576: true; the input reads as it did. -/
def frameNamesUptoRow : OpenClaim := { program := "ytbjbpgbpefkbhaa", sum := "562689384a1a3bf3a335f9dcd2c0719f69e6c318b509eb3304a13c85cf85ff04", func := "ledger/ledgerlaw5.FrameNames", spec := "frameNames", apart := false, narrowed := true }
def FrameNamesUptoSaid : Prop := frameNamesUptoRow.holds Try.pinned (OpenSpec.upto frameNamesSpec)

/-- 'ledgerlaw5.FrameSuperBack', WHERE WHAT IT READS IS OF BULK AT MOST 1048576: true; the input reads as it did. -/
def frameSuperBackUptoRow : OpenClaim := { program := "ytbjbpgbpefkbhaa", sum := "562689384a1a3bf3a335f9dcd2c0719f69e6c318b509eb3304a13c85cf85ff04", func := "ledger/ledgerlaw5.FrameSuperBack", spec := "frameSuperBack", apart := false, narrowed := true }
def FrameSuperBackUptoSaid : Prop := frameSuperBackUptoRow.holds Try.pinned (OpenSpec.upto frameSuperBackSpec)

/-- 'ledgerlaw5.FrameSuperBursts', WHERE WHAT IT READS IS OF BULK AT MOST 1048576: true; the input reads as it did. -/
def frameSuperBurstsUptoRow : OpenClaim := { program := "ytbjbpgbpefkbhaa", sum := "562689384a1a3bf3a335f9dcd2c0719f69e6c318b509eb3304a13c85cf85ff04", func := "ledger/ledgerlaw5.FrameSuperBursts", spec := "frameSuperBursts", apart := false, narrowed := true }
def FrameSuperBurstsUptoSaid : Prop := frameSuperBurstsUptoRow.holds Try.pinned (OpenSpec.upto frameSuperBurstsSpec)

/-- 'ledgerlaw5.FrameBack', WHERE WHAT IT READS IS OF BULK AT MOST 1048576: true; the input reads as it did. -/
def frameBackUptoRow : OpenClaim := { program := "ytbjbpgbpefkbhaa", sum := "562689384a1a3bf3a335f9dcd2c0719f69e6c318b509eb3304a13c85cf85ff04", func := "ledger/ledgerlaw5.FrameBack", spec := "frameBack", apart := false, narrowed := true }
def FrameBackUptoSaid : Prop := frameBackUptoRow.holds Try.pinned (OpenSpec.upto frameBackSpec)

/-- 'ledgerlaw5.FrameOnly', WHERE WHAT IT READS IS OF BULK AT MOST 1048576: true; the input reads as it did. -/
def frameOnlyUptoRow : OpenClaim := { program := "ytbjbpgbpefkbhaa", sum := "562689384a1a3bf3a335f9dcd2c0719f69e6c318b509eb3304a13c85cf85ff04", func := "ledger/ledgerlaw5.FrameOnly", spec := "frameOnly", apart := false, narrowed := true }
def FrameOnlyUptoSaid : Prop := frameOnlyUptoRow.holds Try.pinned (OpenSpec.upto frameOnlySpec)

/-- 'ledgerlaw5.FrameBursts', WHERE WHAT IT READS IS OF BULK AT MOST 1048576: true; the input reads as it did. -/
def frameBurstsUptoRow : OpenClaim := { program := "ytbjbpgbpefkbhaa", sum := "562689384a1a3bf3a335f9dcd2c0719f69e6c318b509eb3304a13c85cf85ff04", func := "ledger/ledgerlaw5.FrameBursts", spec := "frameBursts", apart := false, narrowed := true }
def FrameBurstsUptoSaid : Prop := frameBurstsUptoRow.holds Try.pinned (OpenSpec.upto frameBurstsSpec)

/-- 'ledgerlaw5.FrameFew', WHERE WHAT IT READS IS OF BULK AT MOST 1048576: true; the input reads as it did. -/
def frameFewUptoRow : OpenClaim := { program := "ytbjbpgbpefkbhaa", sum := "562689384a1a3bf3a335f9dcd2c0719f69e6c318b509eb3304a13c85cf85ff04", func := "ledger/ledgerlaw5.FrameFew", spec := "frameFew", apart := false, narrowed := true }
def FrameFewUptoSaid : Prop := frameFewUptoRow.holds Try.pinned (OpenSpec.upto frameFewSpec)

/-- 'ledgerlaw5.FrameTurns', WHERE WHAT IT READS IS OF BULK AT MOST 1048576: true; the input reads as it did. -/
def frameTurnsUptoRow : OpenClaim := { program := "ytbjbpgbpefkbhaa", sum := "562689384a1a3bf3a335f9dcd2c0719f69e6c318b509eb3304a13c85cf85ff04", func := "ledger/ledgerlaw5.FrameTurns", spec := "frameTurns", apart := false, narrowed := true }
def FrameTurnsUptoSaid : Prop := frameTurnsUptoRow.holds Try.pinned (OpenSpec.upto frameTurnsSpec)

/-- 'ledgerlaw5.FrameOne', WHERE WHAT IT READS IS OF BULK AT MOST 1048576: true; the input reads as it did. -/
def frameOneUptoRow : OpenClaim := { program := "ytbjbpgbpefkbhaa", sum := "562689384a1a3bf3a335f9dcd2c0719f69e6c318b509eb3304a13c85cf85ff04", func := "ledger/ledgerlaw5.FrameOne", spec := "frameOne", apart := false, narrowed := true }
def FrameOneUptoSaid : Prop := frameOneUptoRow.holds Try.pinned (OpenSpec.upto frameOneSpec)

end Rows
end Go.Proofs.Ytbjbpgbpefkbhaa
