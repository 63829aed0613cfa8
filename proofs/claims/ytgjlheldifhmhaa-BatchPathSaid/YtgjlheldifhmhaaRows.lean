/-
  No cell of these rows narrows 'for every input' (looked for: loops, veiled, ifaces, maps, wideKeys, modest, calm, conditions, laid).
  DERIVED. THE GIVEN ROWS OF THIS SEAT. 3 by the template 'for every input the law returns true; each argument reads behind the call as it read before'; 0 by the template 'total and deterministic' (their statements: YtgjlheldifhmhaaTotals.lean).
  GIVEN WITH THE SEED: the statements are not yours to turn. If you find one false, say at which input.
  Laid BY PROGRAM, IN A SANDBOX (cutbox-rows.mjs): the forced cells as the released guide's own fill.sh prints them over the translation 6cf9776c8b46eb22… (all of the seat's roots in one cut). By AI agents, Wed Nov 11 2026. No macro, syntax, notation, axiom, sorry.
-/
import Derived.Test.YtgjlheldifhmhaaChecked
import GoSem.Claim
import GoSem.ClaimJoined
import GoSem.ClaimMapViews
import Derived.JoinedTies
import Derived.KernelRfl
namespace Go.Proofs.Ytgjlheldifhmhaa
/- THE CELL 'sum', in the pinned program and in every row, IS THE sha256 OF THE DUMP (.gsa) THAT YtgjlheldifhmhaaProg.lean LOADS. Nothing in Lean hashes anything: it is a label: what it is worth is what the hold of that sum in a sandbox is worth. -/
noncomputable def Try.pinned : Pinned := { name := "ytgjlheldifhmhaa", sum := "6cf9776c8b46eb2273bbd72f9b553880eb0ff18f55a4efc7e0756a54c66c9e91", checked := Try.checked }
namespace Rows
def none {H : Type} : Left H := { results := [], args := [] }

/-- 'ledgerlaw3.BatchNames': WHATEVER THE INPUT: true; the input reads as it did. -/
def batchNamesSpec : ChangeSpec := { name := "batchNames", fn := fun _ => fun
  | [] => { results := [.lit (.bool true)], args := [] }
  | _ => none }
def batchNamesRow : OpenClaim := { program := "ytgjlheldifhmhaa", sum := "6cf9776c8b46eb2273bbd72f9b553880eb0ff18f55a4efc7e0756a54c66c9e91", func := "ledger/ledgerlaw3.BatchNames", spec := "batchNames", apart := false }
def BatchNamesSaid : Prop := batchNamesRow.holds Try.pinned (OpenSpec.ofChange batchNamesSpec)

/-- ITS FALSE NEIGHBOUR: 'it returns false'. Refute it at one input. -/
def batchNamesWrong : ChangeSpec := { name := "batchNames", fn := fun _ => fun
  | [] => { results := [.lit (.bool false)], args := [] }
  | _ => none }
def BatchNamesWrongFalsely : Prop := batchNamesRow.holds Try.pinned (OpenSpec.ofChange batchNamesWrong)

/-- 'ledgerlaw1.DigestCuts': WHATEVER THE INPUT: true; the input reads as it did. -/
def digestCutsSpec : ChangeSpec := { name := "digestCuts", fn := fun _ => fun
  | [d1, d2, d3] => { results := [.lit (.bool true)], args := [d1, d2, d3] }
  | _ => none }
def digestCutsRow : OpenClaim := { program := "ytgjlheldifhmhaa", sum := "6cf9776c8b46eb2273bbd72f9b553880eb0ff18f55a4efc7e0756a54c66c9e91", func := "ledger/ledgerlaw1.DigestCuts", spec := "digestCuts", apart := false }
def DigestCutsSaid : Prop := digestCutsRow.holds Try.pinned (OpenSpec.ofChange digestCutsSpec)

/-- ITS FALSE NEIGHBOUR: 'it returns false'. Refute it at one input. -/
def digestCutsWrong : ChangeSpec := { name := "digestCuts", fn := fun _ => fun
  | [d1, d2, d3] => { results := [.lit (.bool false)], args := [d1, d2, d3] }
  | _ => none }
def DigestCutsWrongFalsely : Prop := digestCutsRow.holds Try.pinned (OpenSpec.ofChange digestCutsWrong)

/-- 'ledgerlaw3.BatchPath': WHATEVER THE INPUT: true; the input reads as it did. -/
def batchPathSpec : ChangeSpec := { name := "batchPath", fn := fun _ => fun
  | [d] => { results := [.lit (.bool true)], args := [d] }
  | _ => none }
def batchPathRow : OpenClaim := { program := "ytgjlheldifhmhaa", sum := "6cf9776c8b46eb2273bbd72f9b553880eb0ff18f55a4efc7e0756a54c66c9e91", func := "ledger/ledgerlaw3.BatchPath", spec := "batchPath", inPlace := ["internal/bytealg.Compare"], apart := false }
def BatchPathSaid : Prop := batchPathRow.holds Try.pinned (OpenSpec.ofChange batchPathSpec)

/-- ITS FALSE NEIGHBOUR: 'it returns false'. Refute it at one input. -/
def batchPathWrong : ChangeSpec := { name := "batchPath", fn := fun _ => fun
  | [d] => { results := [.lit (.bool false)], args := [d] }
  | _ => none }
def BatchPathWrongFalsely : Prop := batchPathRow.holds Try.pinned (OpenSpec.ofChange batchPathWrong)

/- THE SECOND FORM. 'bulk': how many values and letters a reading holds, each counted each time it is reached (what is shared counts as often as it is met; a slice's spare places count too). A statement '..UptoSaid' is the law's where the arguments, and the package variables that the reading takes, are together of bulk at most 1048576: NARROWER than '..Said'. Prove '..Said' where nothing that the law and all that it calls make is longer than what came in: it says more and counts as full. Else prove '..UptoSaid'. A law counts once. -/
mutual
def uptoBulk {H : Type} : DataW H → Nat
  | .lit (.string bytes) => bytes.length + 1
  | .lit _ => 1
  | .nil => 1
  | .ptr d => uptoBulk d + 1
  | .slice elems spare => uptoBulkAll elems + uptoBulkAll spare + 1
  | .agg parts => uptoBulkAll parts + 1
  | .iface _ d => uptoBulk d + 1
  | .map entries => uptoBulkEntries entries + 1
  | .held _ => 1
def uptoBulkAll {H : Type} : List (DataW H) → Nat
  | [] => 0
  | d :: r => uptoBulk d + uptoBulkAll r
def uptoBulkEntries {H : Type} : List (Lit × DataW H) → Nat
  | [] => 0
  | x :: r => uptoBulkEntry x + uptoBulkEntries r
def uptoBulkEntry {H : Type} : Lit × DataW H → Nat
  | (.string bytes, d) => bytes.length + uptoBulk d + 1
  | (_, d) => uptoBulk d + 1
 end
def uptoSmall : (H : Type) → List (DataW H) → Bool := fun _ ds => decide (uptoBulkAll ds ≤ 1048576)
def OpenSpec.upto (s : _root_.Go.ChangeSpec) : _root_.Go.OpenSpec := { _root_.Go.OpenSpec.ofChange s with cond := some uptoSmall }

/-- 'ledgerlaw3.BatchNames', WHERE WHAT IT READS IS OF BULK AT MOST 1048576: true; the input reads as it did. -/
def batchNamesUptoRow : OpenClaim := { program := "ytgjlheldifhmhaa", sum := "6cf9776c8b46eb2273bbd72f9b553880eb0ff18f55a4efc7e0756a54c66c9e91", func := "ledger/ledgerlaw3.BatchNames", spec := "batchNames", apart := false, narrowed := true }
def BatchNamesUptoSaid : Prop := batchNamesUptoRow.holds Try.pinned (OpenSpec.upto batchNamesSpec)

/-- 'ledgerlaw1.DigestCuts', WHERE WHAT IT READS IS OF BULK AT MOST 1048576: true; the input reads as it did. -/
def digestCutsUptoRow : OpenClaim := { program := "ytgjlheldifhmhaa", sum := "6cf9776c8b46eb2273bbd72f9b553880eb0ff18f55a4efc7e0756a54c66c9e91", func := "ledger/ledgerlaw1.DigestCuts", spec := "digestCuts", apart := false, narrowed := true }
def DigestCutsUptoSaid : Prop := digestCutsUptoRow.holds Try.pinned (OpenSpec.upto digestCutsSpec)

/-- 'ledgerlaw3.BatchPath', WHERE WHAT IT READS IS OF BULK AT MOST 1048576: true; the input reads as it did. -/
def batchPathUptoRow : OpenClaim := { program := "ytgjlheldifhmhaa", sum := "6cf9776c8b46eb2273bbd72f9b553880eb0ff18f55a4efc7e0756a54c66c9e91", func := "ledger/ledgerlaw3.BatchPath", spec := "batchPath", inPlace := ["internal/bytealg.Compare"], apart := false, narrowed := true }
def BatchPathUptoSaid : Prop := batchPathUptoRow.holds Try.pinned (OpenSpec.upto batchPathSpec)

end Rows
end Go.Proofs.Ytgjlheldifhmhaa
