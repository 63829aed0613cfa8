/-
  No cell of these rows narrows 'for every input' (looked for: loops, veiled, ifaces, maps, wideKeys, modest, calm, conditions, laid).
  DERIVED. THE GIVEN ROWS OF THIS SEAT. 13 by the template 'for every input the law returns true; each argument reads behind the call as it read before'; 0 by the template 'total and deterministic' (their statements: YtkpbeibcfaenhaaTotals.lean).
  GIVEN WITH THE SEED: the statements are not yours to turn. If you find one false, say at which input.
  Laid BY PROGRAM, IN A SANDBOX (cutbox-rows.mjs): the forced cells as the released guide's own fill.sh prints them over the translation 5e0eb04cdebf5720… (all of the seat's roots in one cut). By AI agents, Wed Nov 11 2026. No macro, syntax, notation, axiom, sorry.
-/
import Derived.Test.YtkpbeibcfaenhaaChecked
import GoSem.Claim
import GoSem.ClaimJoined
import GoSem.ClaimMapViews
import Derived.JoinedTies
import Derived.KernelRfl
namespace Go.Proofs.Ytkpbeibcfaenhaa
/- THE CELL 'sum', in the pinned program and in every row, IS THE sha256 OF THE DUMP (.gsa) THAT YtkpbeibcfaenhaaProg.lean LOADS. Nothing in Lean hashes anything: it is a label: what it is worth is what the hold of that sum in a sandbox is worth. -/
noncomputable def Try.pinned : Pinned := { name := "ytkpbeibcfaenhaa", sum := "5e0eb04cdebf5720e7ab034bbb475080775ea4d1017f92b74ce6ac2ac0c6a6e5", checked := Try.checked }
namespace Rows
def none {H : Type} : Left H := { results := [], args := [] }

/-- 'ledgerlaw3.BatchNames': WHATEVER THE INPUT: true; the input reads as it did. -/
def batchNamesSpec : ChangeSpec := { name := "batchNames", fn := fun _ => fun
  | [] => { results := [.lit (.bool true)], args := [] }
  | _ => none }
def batchNamesRow : OpenClaim := { program := "ytkpbeibcfaenhaa", sum := "5e0eb04cdebf5720e7ab034bbb475080775ea4d1017f92b74ce6ac2ac0c6a6e5", func := "ledger/ledgerlaw3.BatchNames", spec := "batchNames", apart := false }
def BatchNamesSaid : Prop := batchNamesRow.holds Try.pinned (OpenSpec.ofChange batchNamesSpec)

/-- ITS FALSE NEIGHBOUR: 'it returns false'. Refute it at one input. -/
def batchNamesWrong : ChangeSpec := { name := "batchNames", fn := fun _ => fun
  | [] => { results := [.lit (.bool false)], args := [] }
  | _ => none }
def BatchNamesWrongFalsely : Prop := batchNamesRow.holds Try.pinned (OpenSpec.ofChange batchNamesWrong)

/-- 'ledgerlaw3.BatchPath': WHATEVER THE INPUT: true; the input reads as it did. -/
def batchPathSpec : ChangeSpec := { name := "batchPath", fn := fun _ => fun
  | [d] => { results := [.lit (.bool true)], args := [d] }
  | _ => none }
def batchPathRow : OpenClaim := { program := "ytkpbeibcfaenhaa", sum := "5e0eb04cdebf5720e7ab034bbb475080775ea4d1017f92b74ce6ac2ac0c6a6e5", func := "ledger/ledgerlaw3.BatchPath", spec := "batchPath", inPlace := ["internal/bytealg.Compare"], apart := false }
def BatchPathSaid : Prop := batchPathRow.holds Try.pinned (OpenSpec.ofChange batchPathSpec)

/-- ITS FALSE NEIGHBOUR: 'it returns false'. Refute it at one input. -/
def batchPathWrong : ChangeSpec := { name := "batchPath", fn := fun _ => fun
  | [d] => { results := [.lit (.bool false)], args := [d] }
  | _ => none }
def BatchPathWrongFalsely : Prop := batchPathRow.holds Try.pinned (OpenSpec.ofChange batchPathWrong)

/-- 'ledgerlaw3.BatchBack': WHATEVER THE INPUT: true; the input reads as it did. -/
def batchBackSpec : ChangeSpec := { name := "batchBack", fn := fun _ => fun
  | [d1, d2] => { results := [.lit (.bool true)], args := [d1, d2] }
  | _ => none }
def batchBackRow : OpenClaim := { program := "ytkpbeibcfaenhaa", sum := "5e0eb04cdebf5720e7ab034bbb475080775ea4d1017f92b74ce6ac2ac0c6a6e5", func := "ledger/ledgerlaw3.BatchBack", spec := "batchBack", apart := false }
def BatchBackSaid : Prop := batchBackRow.holds Try.pinned (OpenSpec.ofChange batchBackSpec)

/-- ITS FALSE NEIGHBOUR: 'it returns false'. Refute it at one input. -/
def batchBackWrong : ChangeSpec := { name := "batchBack", fn := fun _ => fun
  | [d1, d2] => { results := [.lit (.bool false)], args := [d1, d2] }
  | _ => none }
def BatchBackWrongFalsely : Prop := batchBackRow.holds Try.pinned (OpenSpec.ofChange batchBackWrong)

/-- 'ledgerlaw3.BatchCuts': WHATEVER THE INPUT: true; the input reads as it did. -/
def batchCutsSpec : ChangeSpec := { name := "batchCuts", fn := fun _ => fun
  | [d1, d2] => { results := [.lit (.bool true)], args := [d1, d2] }
  | _ => none }
def batchCutsRow : OpenClaim := { program := "ytkpbeibcfaenhaa", sum := "5e0eb04cdebf5720e7ab034bbb475080775ea4d1017f92b74ce6ac2ac0c6a6e5", func := "ledger/ledgerlaw3.BatchCuts", spec := "batchCuts", apart := false }
def BatchCutsSaid : Prop := batchCutsRow.holds Try.pinned (OpenSpec.ofChange batchCutsSpec)

/-- ITS FALSE NEIGHBOUR: 'it returns false'. Refute it at one input. -/
def batchCutsWrong : ChangeSpec := { name := "batchCuts", fn := fun _ => fun
  | [d1, d2] => { results := [.lit (.bool false)], args := [d1, d2] }
  | _ => none }
def BatchCutsWrongFalsely : Prop := batchCutsRow.holds Try.pinned (OpenSpec.ofChange batchCutsWrong)

/-- 'ledgerlaw3.BatchApplies': WHATEVER THE INPUT: true; the input reads as it did. -/
def batchAppliesSpec : ChangeSpec := { name := "batchApplies", fn := fun _ => fun
  | [d1, d2, d3] => { results := [.lit (.bool true)], args := [d1, d2, d3] }
  | _ => none }
def batchAppliesRow : OpenClaim := { program := "ytkpbeibcfaenhaa", sum := "5e0eb04cdebf5720e7ab034bbb475080775ea4d1017f92b74ce6ac2ac0c6a6e5", func := "ledger/ledgerlaw3.BatchApplies", spec := "batchApplies", inPlace := ["internal/bytealg.Compare"], unfollowed := true, recurses := true, apart := false }
def BatchAppliesSaid : Prop := batchAppliesRow.holds Try.pinned (OpenSpec.ofChange batchAppliesSpec)

/-- ITS FALSE NEIGHBOUR: 'it returns false'. Refute it at one input. -/
def batchAppliesWrong : ChangeSpec := { name := "batchApplies", fn := fun _ => fun
  | [d1, d2, d3] => { results := [.lit (.bool false)], args := [d1, d2, d3] }
  | _ => none }
def BatchAppliesWrongFalsely : Prop := batchAppliesRow.holds Try.pinned (OpenSpec.ofChange batchAppliesWrong)

/-- 'ledgerlaw3.BatchChains': WHATEVER THE INPUT: true; the input reads as it did. -/
def batchChainsSpec : ChangeSpec := { name := "batchChains", fn := fun _ => fun
  | [d1, d2, d3] => { results := [.lit (.bool true)], args := [d1, d2, d3] }
  | _ => none }
def batchChainsRow : OpenClaim := { program := "ytkpbeibcfaenhaa", sum := "5e0eb04cdebf5720e7ab034bbb475080775ea4d1017f92b74ce6ac2ac0c6a6e5", func := "ledger/ledgerlaw3.BatchChains", spec := "batchChains", inPlace := ["internal/bytealg.Compare"], unfollowed := true, recurses := true, apart := false }
def BatchChainsSaid : Prop := batchChainsRow.holds Try.pinned (OpenSpec.ofChange batchChainsSpec)

/-- ITS FALSE NEIGHBOUR: 'it returns false'. Refute it at one input. -/
def batchChainsWrong : ChangeSpec := { name := "batchChains", fn := fun _ => fun
  | [d1, d2, d3] => { results := [.lit (.bool false)], args := [d1, d2, d3] }
  | _ => none }
def BatchChainsWrongFalsely : Prop := batchChainsRow.holds Try.pinned (OpenSpec.ofChange batchChainsWrong)

/-- 'ledgerlaw3.BatchFresh': WHATEVER THE INPUT: true; the input reads as it did. -/
def batchFreshSpec : ChangeSpec := { name := "batchFresh", fn := fun _ => fun
  | [d] => { results := [.lit (.bool true)], args := [d] }
  | _ => none }
def batchFreshRow : OpenClaim := { program := "ytkpbeibcfaenhaa", sum := "5e0eb04cdebf5720e7ab034bbb475080775ea4d1017f92b74ce6ac2ac0c6a6e5", func := "ledger/ledgerlaw3.BatchFresh", spec := "batchFresh", inPlace := ["internal/bytealg.Compare"], unfollowed := true, recurses := true, apart := false }
def BatchFreshSaid : Prop := batchFreshRow.holds Try.pinned (OpenSpec.ofChange batchFreshSpec)

/-- ITS FALSE NEIGHBOUR: 'it returns false'. Refute it at one input. -/
def batchFreshWrong : ChangeSpec := { name := "batchFresh", fn := fun _ => fun
  | [d] => { results := [.lit (.bool false)], args := [d] }
  | _ => none }
def BatchFreshWrongFalsely : Prop := batchFreshRow.holds Try.pinned (OpenSpec.ofChange batchFreshWrong)

/-- 'ledgerlaw3.BatchKeys': WHATEVER THE INPUT: true; the input reads as it did. -/
def batchKeysSpec : ChangeSpec := { name := "batchKeys", fn := fun _ => fun
  | [d] => { results := [.lit (.bool true)], args := [d] }
  | _ => none }
def batchKeysRow : OpenClaim := { program := "ytkpbeibcfaenhaa", sum := "5e0eb04cdebf5720e7ab034bbb475080775ea4d1017f92b74ce6ac2ac0c6a6e5", func := "ledger/ledgerlaw3.BatchKeys", spec := "batchKeys", inPlace := ["internal/bytealg.Compare"], unfollowed := true, recurses := true, apart := false }
def BatchKeysSaid : Prop := batchKeysRow.holds Try.pinned (OpenSpec.ofChange batchKeysSpec)

/-- ITS FALSE NEIGHBOUR: 'it returns false'. Refute it at one input. -/
def batchKeysWrong : ChangeSpec := { name := "batchKeys", fn := fun _ => fun
  | [d] => { results := [.lit (.bool false)], args := [d] }
  | _ => none }
def BatchKeysWrongFalsely : Prop := batchKeysRow.holds Try.pinned (OpenSpec.ofChange batchKeysWrong)

/-- 'ledgerlaw3.BatchBuilds': WHATEVER THE INPUT: true; the input reads as it did. -/
def batchBuildsSpec : ChangeSpec := { name := "batchBuilds", fn := fun _ => fun
  | [d] => { results := [.lit (.bool true)], args := [d] }
  | _ => none }
def batchBuildsRow : OpenClaim := { program := "ytkpbeibcfaenhaa", sum := "5e0eb04cdebf5720e7ab034bbb475080775ea4d1017f92b74ce6ac2ac0c6a6e5", func := "ledger/ledgerlaw3.BatchBuilds", spec := "batchBuilds", inPlace := ["internal/bytealg.Compare"], unfollowed := true, recurses := true, apart := false }
def BatchBuildsSaid : Prop := batchBuildsRow.holds Try.pinned (OpenSpec.ofChange batchBuildsSpec)

/-- ITS FALSE NEIGHBOUR: 'it returns false'. Refute it at one input. -/
def batchBuildsWrong : ChangeSpec := { name := "batchBuilds", fn := fun _ => fun
  | [d] => { results := [.lit (.bool false)], args := [d] }
  | _ => none }
def BatchBuildsWrongFalsely : Prop := batchBuildsRow.holds Try.pinned (OpenSpec.ofChange batchBuildsWrong)

/-- 'ledgerlaw3.BatchParses': WHATEVER THE INPUT: true; the input reads as it did. -/
def batchParsesSpec : ChangeSpec := { name := "batchParses", fn := fun _ => fun
  | [d] => { results := [.lit (.bool true)], args := [d] }
  | _ => none }
def batchParsesRow : OpenClaim := { program := "ytkpbeibcfaenhaa", sum := "5e0eb04cdebf5720e7ab034bbb475080775ea4d1017f92b74ce6ac2ac0c6a6e5", func := "ledger/ledgerlaw3.BatchParses", spec := "batchParses", inPlace := ["internal/bytealg.Compare"], unfollowed := true, recurses := true, apart := false }
def BatchParsesSaid : Prop := batchParsesRow.holds Try.pinned (OpenSpec.ofChange batchParsesSpec)

/-- ITS FALSE NEIGHBOUR: 'it returns false'. Refute it at one input. -/
def batchParsesWrong : ChangeSpec := { name := "batchParses", fn := fun _ => fun
  | [d] => { results := [.lit (.bool false)], args := [d] }
  | _ => none }
def BatchParsesWrongFalsely : Prop := batchParsesRow.holds Try.pinned (OpenSpec.ofChange batchParsesWrong)

/-- 'ledgerlaw3.BatchNormals': WHATEVER THE INPUT: true; the input reads as it did. -/
def batchNormalsSpec : ChangeSpec := { name := "batchNormals", fn := fun _ => fun
  | [d] => { results := [.lit (.bool true)], args := [d] }
  | _ => none }
def batchNormalsRow : OpenClaim := { program := "ytkpbeibcfaenhaa", sum := "5e0eb04cdebf5720e7ab034bbb475080775ea4d1017f92b74ce6ac2ac0c6a6e5", func := "ledger/ledgerlaw3.BatchNormals", spec := "batchNormals", inPlace := ["internal/bytealg.Compare"], unfollowed := true, recurses := true, apart := false }
def BatchNormalsSaid : Prop := batchNormalsRow.holds Try.pinned (OpenSpec.ofChange batchNormalsSpec)

/-- ITS FALSE NEIGHBOUR: 'it returns false'. Refute it at one input. -/
def batchNormalsWrong : ChangeSpec := { name := "batchNormals", fn := fun _ => fun
  | [d] => { results := [.lit (.bool false)], args := [d] }
  | _ => none }
def BatchNormalsWrongFalsely : Prop := batchNormalsRow.holds Try.pinned (OpenSpec.ofChange batchNormalsWrong)

/-- 'ledgerlaw3.BatchFolds': WHATEVER THE INPUT: true; the input reads as it did. -/
def batchFoldsSpec : ChangeSpec := { name := "batchFolds", fn := fun _ => fun
  | [d] => { results := [.lit (.bool true)], args := [d] }
  | _ => none }
def batchFoldsRow : OpenClaim := { program := "ytkpbeibcfaenhaa", sum := "5e0eb04cdebf5720e7ab034bbb475080775ea4d1017f92b74ce6ac2ac0c6a6e5", func := "ledger/ledgerlaw3.BatchFolds", spec := "batchFolds", inPlace := ["internal/bytealg.Compare"], unfollowed := true, recurses := true, apart := false }
def BatchFoldsSaid : Prop := batchFoldsRow.holds Try.pinned (OpenSpec.ofChange batchFoldsSpec)

/-- ITS FALSE NEIGHBOUR: 'it returns false'. Refute it at one input. -/
def batchFoldsWrong : ChangeSpec := { name := "batchFolds", fn := fun _ => fun
  | [d] => { results := [.lit (.bool false)], args := [d] }
  | _ => none }
def BatchFoldsWrongFalsely : Prop := batchFoldsRow.holds Try.pinned (OpenSpec.ofChange batchFoldsWrong)

/-- 'ledgerlaw3.BatchPlays': WHATEVER THE INPUT: true; the input reads as it did. -/
def batchPlaysSpec : ChangeSpec := { name := "batchPlays", fn := fun _ => fun
  | [d] => { results := [.lit (.bool true)], args := [d] }
  | _ => none }
def batchPlaysRow : OpenClaim := { program := "ytkpbeibcfaenhaa", sum := "5e0eb04cdebf5720e7ab034bbb475080775ea4d1017f92b74ce6ac2ac0c6a6e5", func := "ledger/ledgerlaw3.BatchPlays", spec := "batchPlays", inPlace := ["internal/bytealg.Compare"], unfollowed := true, recurses := true, apart := false }
def BatchPlaysSaid : Prop := batchPlaysRow.holds Try.pinned (OpenSpec.ofChange batchPlaysSpec)

/-- ITS FALSE NEIGHBOUR: 'it returns false'. Refute it at one input. -/
def batchPlaysWrong : ChangeSpec := { name := "batchPlays", fn := fun _ => fun
  | [d] => { results := [.lit (.bool false)], args := [d] }
  | _ => none }
def BatchPlaysWrongFalsely : Prop := batchPlaysRow.holds Try.pinned (OpenSpec.ofChange batchPlaysWrong)

/- THE SECOND FORM. 'bulk': how many values and letters a reading holds, each counted each time it is reached (what is shared counts as often as it is met; a slice's spare places count too). A statement '..UptoSaid' is the law's where the arguments, and the package variables that the reading takes, are together of bulk at most 1048576: NARROWER than '..Said'. Prove '..Said' where nothing that the law and all that it calls make is longer than what came in: it says more and counts as full. Else prove '..UptoSaid'. A law counts once. -/
mutual
def uptoBulk {H : Type} : DataW H → Nat
  | .lit (.string bytes) => bytes.length + 1
  | .lit _ => 1
  | .nil => 1
  | .ptr d => uptoBulk d + 1
  | .slice elems spare => uptoBulkAll elems + uptoBulkAll spare + 1
  | .agg parts => uptoBulkAll parts + 1
  | .iface _ d => uptoBulk d + 1
  | .map entries => uptoBulkEntries entries + 1
  | .held _ => 1
def uptoBulkAll {H : Type} : List (DataW H) → Nat
  | [] => 0
  | d :: r => uptoBulk d + uptoBulkAll r
def uptoBulkEntries {H : Type} : List (Lit × DataW H) → Nat
  | [] => 0
  | x :: r => uptoBulkEntry x + uptoBulkEntries r
def uptoBulkEntry {H : Type} : Lit × DataW H → Nat
  | (.string bytes, d) => bytes.length + uptoBulk d + 1
  | (_, d) => uptoBulk d + 1
 end
def uptoSmall : (H : Type) → List (DataW H) → Bool := fun _ ds => decide (uptoBulkAll ds ≤ 1048576)
def OpenSpec.upto (s : _root_.Go.ChangeSpec) : _root_.Go.OpenSpec := { _root_.Go.OpenSpec.ofChange s with cond := some uptoSmall }

/-- 'ledgerlaw3.BatchNames', WHERE WHAT IT READS IS OF BULK AT MOST 1048576: true; the input reads as it did. -/
def batchNamesUptoRow : OpenClaim := { program := "ytkpbeibcfaenhaa", sum := "5e0eb04cdebf5720e7ab034bbb475080775ea4d1017f92b74ce6ac2ac0c6a6e5", func := "ledger/ledgerlaw3.BatchNames", spec := "batchNames", apart := false, narrowed := true }
def BatchNamesUptoSaid : Prop := batchNamesUptoRow.holds Try.pinned (OpenSpec.upto batchNamesSpec)

/-- 'ledgerlaw3.BatchPath', WHERE WHAT IT READS IS OF BULK AT MOST 1048576: true; the input reads as it did. -/
def batchPathUptoRow : OpenClaim := { program := "ytkpbeibcfaenhaa", sum := "5e0eb04cdebf5720e7ab034bbb475080775ea4d1017f92b74ce6ac2ac0c6a6e5", func := "ledger/ledgerlaw3.BatchPath", spec := "batchPath", inPlace := ["internal/bytealg.Compare"], apart := false, narrowed := true }
def BatchPathUptoSaid : Prop := batchPathUptoRow.holds Try.pinned (OpenSpec.upto batchPathSpec)

/-- 'ledgerlaw3.BatchBack', WHERE WHAT IT READS IS OF BULK AT MOST 1048576: true; the input reads as it did. -/
def batchBackUptoRow : OpenClaim := { program := "ytkpbeibcfaenhaa", sum := "5e0eb04cdebf5720e7ab034bbb475080775ea4d1017f92b74ce6ac2ac0c6a6e5", func := "ledger/ledgerlaw3.BatchBack", spec := "batchBack", apart := false, narrowed := true }
def BatchBackUptoSaid : Prop := batchBackUptoRow.holds Try.pinned (OpenSpec.upto batchBackSpec)

/-- 'ledgerlaw3.BatchCuts', WHERE WHAT IT READS IS OF BULK AT MOST 1048576: true; the input reads as it did. -/
def batchCutsUptoRow : OpenClaim := { program := "ytkpbeibcfaenhaa", sum := "5e0eb04cdebf5720e7ab034bbb475080775ea4d1017f92b74ce6ac2ac0c6a6e5", func := "ledger/ledgerlaw3.BatchCuts", spec := "batchCuts", apart := false, narrowed := true }
def BatchCutsUptoSaid : Prop := batchCutsUptoRow.holds Try.pinned (OpenSpec.upto batchCutsSpec)

/-- 'ledgerlaw3.BatchApplies', WHERE WHAT IT READS IS OF BULK AT MOST 1048576: true; the input reads as it did. -/
def batchAppliesUptoRow : OpenClaim := { program := "ytkpbeibcfaenhaa", sum := "5e0eb04cdebf5720e7ab034bbb475080775ea4d1017f92b74ce6ac2ac0c6a6e5", func := "ledger/ledgerlaw3.BatchApplies", spec := "batchApplies", inPlace := ["internal/bytealg.Compare"], unfollowed := true, recurses := true, apart := false, narrowed := true }
def BatchAppliesUptoSaid : Prop := batchAppliesUptoRow.holds Try.pinned (OpenSpec.upto batchAppliesSpec)

/-- 'ledgerlaw3.BatchChains', WHERE WHAT IT READS IS OF BULK AT MOST 1048576: true; the input reads as it did. -/
def batchChainsUptoRow : OpenClaim := { program := "ytkpbeibcfaenhaa", sum := "5e0eb04cdebf5720e7ab034bbb475080775ea4d1017f92b74ce6ac2ac0c6a6e5", func := "ledger/ledgerlaw3.BatchChains", spec := "batchChains", inPlace := ["internal/bytealg.Compare"], unfollowed := true, recurses := true, apart := false, narrowed := true }
def BatchChainsUptoSaid : Prop := batchChainsUptoRow.holds Try.pinned (OpenSpec.upto batchChainsSpec)

/-- 'ledgerlaw3.BatchFresh', WHERE WHAT IT READS IS OF BULK AT MOST 1048576: true; the input reads as it did. -/
def batchFreshUptoRow : OpenClaim := { program := "ytkpbeibcfaenhaa", sum := "5e0eb04cdebf5720e7ab034bbb475080775ea4d1017f92b74ce6ac2ac0c6a6e5", func := "ledger/ledgerlaw3.BatchFresh", spec := "batchFresh", inPlace := ["internal/bytealg.Compare"], unfollowed := true, recurses := true, apart := false, narrowed := true }
def BatchFreshUptoSaid : Prop := batchFreshUptoRow.holds Try.pinned (OpenSpec.upto batchFreshSpec)

/-- 'ledgerlaw3.BatchKeys', WHERE WHAT IT READS IS OF BULK AT MOST 1048576: true; the input reads as it did. -/
def batchKeysUptoRow : OpenClaim := { program := "ytkpbeibcfaenhaa", sum := "5e0eb04cdebf5720e7ab034bbb475080775ea4d1017f92b74ce6ac2ac0c6a6e5", func := "ledger/ledgerlaw3.BatchKeys", spec := "batchKeys", inPlace := ["internal/bytealg.Compare"], unfollowed := true, recurses := true, apart := false, narrowed := true }
def BatchKeysUptoSaid : Prop := batchKeysUptoRow.holds Try.pinned (OpenSpec.upto batchKeysSpec)

/-- 'ledgerlaw3.BatchBuilds', WHERE WHAT IT READS IS OF BULK AT MOST 1048576: true; the input reads as it did. -/
def batchBuildsUptoRow : OpenClaim := { program := "ytkpbeibcfaenhaa", sum := "5e0eb04cdebf5720e7ab034bbb475080775ea4d1017f92b74ce6ac2ac0c6a6e5", func := "ledger/ledgerlaw3.BatchBuilds", spec := "batchBuilds", inPlace := ["internal/bytealg.Compare"], unfollowed := true, recurses := true, apart := false, narrowed := true }
def BatchBuildsUptoSaid : Prop := batchBuildsUptoRow.holds Try.pinned (OpenSpec.upto batchBuildsSpec)

/-- 'ledgerlaw3.BatchParses', WHERE WHAT IT READS IS OF BULK AT MOST 1048576: true; the input reads as it did. -/
def batchParsesUptoRow : OpenClaim := { program := "ytkpbeibcfaenhaa", sum := "5e0eb04cdebf5720e7ab034bbb475080775ea4d1017f92b74ce6ac2ac0c6a6e5", func := "ledger/ledgerlaw3.BatchParses", spec := "batchParses", inPlace := ["internal/bytealg.Compare"], unfollowed := true, recurses := true, apart := false, narrowed := true }
def BatchParsesUptoSaid : Prop := batchParsesUptoRow.holds Try.pinned (OpenSpec.upto batchParsesSpec)

/-- 'ledgerlaw3.BatchNormals', WHERE WHAT IT READS IS OF BULK AT MOST 1048576: true; the input reads as it did. -/
def batchNormalsUptoRow : OpenClaim := { program := "ytkpbeibcfaenhaa", sum := "5e0eb04cdebf5720e7ab034bbb475080775ea4d1017f92b74ce6ac2ac0c6a6e5", func := "ledger/ledgerlaw3.BatchNormals", spec := "batchNormals", inPlace := ["internal/bytealg.Compare"], unfollowed := true, recurses := true, apart := false, narrowed := true }
def BatchNormalsUptoSaid : Prop := batchNormalsUptoRow.holds Try.pinned (OpenSpec.upto batchNormalsSpec)

/-- 'ledgerlaw3.BatchFolds', WHERE WHAT IT READS IS OF BULK AT MOST 1048576: true; the input reads as it did. -/
def batchFoldsUptoRow : OpenClaim := { program := "ytkpbeibcfaenhaa", sum := "5e0eb04cdebf5720e7ab034bbb475080775ea4d1017f92b74ce6ac2ac0c6a6e5", func := "ledger/ledgerlaw3.BatchFolds", spec := "batchFolds", inPlace := ["internal/bytealg.Compare"], unfollowed := true, recurses := true, apart := false, narrowed := true }
def BatchFoldsUptoSaid : Prop := batchFoldsUptoRow.holds Try.pinned (OpenSpec.upto batchFoldsSpec)

/-- 'ledgerlaw3.BatchPlays', WHERE WHAT IT READS IS OF BULK AT MOST 1048576: true; the input reads as it did. -/
def batchPlaysUptoRow : OpenClaim := { program := "ytkpbeibcfaenhaa", sum := "5e0eb04cdebf5720e7ab034bbb475080775ea4d1017f92b74ce6ac2ac0c6a6e5", func := "ledger/ledgerlaw3.BatchPlays", spec := "batchPlays", inPlace := ["internal/bytealg.Compare"], unfollowed := true, recurses := true, apart := false, narrowed := true }
def BatchPlaysUptoSaid : Prop := batchPlaysUptoRow.holds Try.pinned (OpenSpec.upto batchPlaysSpec)

end Rows
end Go.Proofs.Ytkpbeibcfaenhaa
