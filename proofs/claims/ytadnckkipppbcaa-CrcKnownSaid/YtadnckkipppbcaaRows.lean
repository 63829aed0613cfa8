/-
  No cell of these rows narrows 'for every input' (looked for: loops, veiled, ifaces, maps, wideKeys, modest, calm, conditions, laid).
  DERIVED. THE GIVEN ROWS OF THIS SEAT. 9 by the template 'for every input the law returns true; each argument reads behind the call as it read before'; 0 by the template 'total and deterministic' (their statements: YtadnckkipppbcaaTotals.lean).
  GIVEN WITH THE SEED: the statements are not yours to turn. If you find one false, say at which input.
  Laid BY PROGRAM, IN A SANDBOX (cutbox-rows.mjs): the forced cells as the released guide's own fill.sh prints them over the translation 5efa2517aa18e548… (all of the seat's roots in one cut). By AI agents, Wed Nov 11 2026. No macro, syntax, notation, axiom, sorry.
-/
import Derived.Test.YtadnckkipppbcaaChecked
import GoSem.Claim
import GoSem.ClaimJoined
import GoSem.ClaimMapViews
import Derived.JoinedTies
import Derived.KernelRfl
namespace Go.Proofs.Ytadnckkipppbcaa
/- THE CELL 'sum', in the pinned program and in every row, IS THE sha256 OF THE DUMP (.gsa) THAT YtadnckkipppbcaaProg.lean LOADS. Nothing in Lean hashes anything: it is a label: what it is worth is what the hold of that sum in a sandbox is worth. -/
noncomputable def Try.pinned : Pinned := { name := "ytadnckkipppbcaa", sum := "5efa2517aa18e54889fcec6280685c350f57d1736a304a399a48494319a50ef3", checked := Try.checked }
namespace Rows
def none {H : Type} : Left H := { results := [], args := [] }

/-- 'ledgerlaw2.CrcAdds': WHATEVER THE INPUT: true; the input reads as it did. -/
def crcAddsSpec : ChangeSpec := { name := "crcAdds", fn := fun _ => fun
  | [d1, d2] => { results := [.lit (.bool true)], args := [d1, d2] }
  | _ => none }
def crcAddsRow : OpenClaim := { program := "ytadnckkipppbcaa", sum := "5efa2517aa18e54889fcec6280685c350f57d1736a304a399a48494319a50ef3", func := "ledger/ledgerlaw2.CrcAdds", spec := "crcAdds", apart := false }
def CrcAddsSaid : Prop := crcAddsRow.holds Try.pinned (OpenSpec.ofChange crcAddsSpec)

/-- ITS FALSE NEIGHBOUR: 'it returns false'. Refute it at one input. -/
def crcAddsWrong : ChangeSpec := { name := "crcAdds", fn := fun _ => fun
  | [d1, d2] => { results := [.lit (.bool false)], args := [d1, d2] }
  | _ => none }
def CrcAddsWrongFalsely : Prop := crcAddsRow.holds Try.pinned (OpenSpec.ofChange crcAddsWrong)

/-- 'ledgerlaw2.CrcBursts': WHATEVER THE INPUT: true; the input reads as it did. -/
def crcBurstsSpec : ChangeSpec := { name := "crcBursts", fn := fun _ => fun
  | [d1, d2, d3] => { results := [.lit (.bool true)], args := [d1, d2, d3] }
  | _ => none }
def crcBurstsRow : OpenClaim := { program := "ytadnckkipppbcaa", sum := "5efa2517aa18e54889fcec6280685c350f57d1736a304a399a48494319a50ef3", func := "ledger/ledgerlaw2.CrcBursts", spec := "crcBursts", apart := false }
def CrcBurstsSaid : Prop := crcBurstsRow.holds Try.pinned (OpenSpec.ofChange crcBurstsSpec)

/-- ITS FALSE NEIGHBOUR: 'it returns false'. Refute it at one input. -/
def crcBurstsWrong : ChangeSpec := { name := "crcBursts", fn := fun _ => fun
  | [d1, d2, d3] => { results := [.lit (.bool false)], args := [d1, d2, d3] }
  | _ => none }
def CrcBurstsWrongFalsely : Prop := crcBurstsRow.holds Try.pinned (OpenSpec.ofChange crcBurstsWrong)

/-- 'ledgerlaw2.CrcFew': WHATEVER THE INPUT: true; the input reads as it did. -/
def crcFewSpec : ChangeSpec := { name := "crcFew", fn := fun _ => fun
  | [d1, d2, d3, d4, d5] => { results := [.lit (.bool true)], args := [d1, d2, d3, d4, d5] }
  | _ => none }
def crcFewRow : OpenClaim := { program := "ytadnckkipppbcaa", sum := "5efa2517aa18e54889fcec6280685c350f57d1736a304a399a48494319a50ef3", func := "ledger/ledgerlaw2.CrcFew", spec := "crcFew", apart := false }
def CrcFewSaid : Prop := crcFewRow.holds Try.pinned (OpenSpec.ofChange crcFewSpec)

/-- ITS FALSE NEIGHBOUR: 'it returns false'. Refute it at one input. -/
def crcFewWrong : ChangeSpec := { name := "crcFew", fn := fun _ => fun
  | [d1, d2, d3, d4, d5] => { results := [.lit (.bool false)], args := [d1, d2, d3, d4, d5] }
  | _ => none }
def CrcFewWrongFalsely : Prop := crcFewRow.holds Try.pinned (OpenSpec.ofChange crcFewWrong)

/-- 'ledgerlaw2.CrcPairs': WHATEVER THE INPUT: true; the input reads as it did. -/
def crcPairsSpec : ChangeSpec := { name := "crcPairs", fn := fun _ => fun
  | [d1, d2, d3] => { results := [.lit (.bool true)], args := [d1, d2, d3] }
  | _ => none }
def crcPairsRow : OpenClaim := { program := "ytadnckkipppbcaa", sum := "5efa2517aa18e54889fcec6280685c350f57d1736a304a399a48494319a50ef3", func := "ledger/ledgerlaw2.CrcPairs", spec := "crcPairs", apart := false }
def CrcPairsSaid : Prop := crcPairsRow.holds Try.pinned (OpenSpec.ofChange crcPairsSpec)

/-- ITS FALSE NEIGHBOUR: 'it returns false'. Refute it at one input. -/
def crcPairsWrong : ChangeSpec := { name := "crcPairs", fn := fun _ => fun
  | [d1, d2, d3] => { results := [.lit (.bool false)], args := [d1, d2, d3] }
  | _ => none }
def CrcPairsWrongFalsely : Prop := crcPairsRow.holds Try.pinned (OpenSpec.ofChange crcPairsWrong)

/-- 'ledgerlaw2.CrcJoins': WHATEVER THE INPUT: true; the input reads as it did. -/
def crcJoinsSpec : ChangeSpec := { name := "crcJoins", fn := fun _ => fun
  | [d1, d2, d3] => { results := [.lit (.bool true)], args := [d1, d2, d3] }
  | _ => none }
def crcJoinsRow : OpenClaim := { program := "ytadnckkipppbcaa", sum := "5efa2517aa18e54889fcec6280685c350f57d1736a304a399a48494319a50ef3", func := "ledger/ledgerlaw2.CrcJoins", spec := "crcJoins", apart := false }
def CrcJoinsSaid : Prop := crcJoinsRow.holds Try.pinned (OpenSpec.ofChange crcJoinsSpec)

/-- ITS FALSE NEIGHBOUR: 'it returns false'. Refute it at one input. -/
def crcJoinsWrong : ChangeSpec := { name := "crcJoins", fn := fun _ => fun
  | [d1, d2, d3] => { results := [.lit (.bool false)], args := [d1, d2, d3] }
  | _ => none }
def CrcJoinsWrongFalsely : Prop := crcJoinsRow.holds Try.pinned (OpenSpec.ofChange crcJoinsWrong)

/-- 'ledgerlaw2.CrcChains': WHATEVER THE INPUT: true; the input reads as it did. -/
def crcChainsSpec : ChangeSpec := { name := "crcChains", fn := fun _ => fun
  | [d1, d2, d3, d4, d5] => { results := [.lit (.bool true)], args := [d1, d2, d3, d4, d5] }
  | _ => none }
def crcChainsRow : OpenClaim := { program := "ytadnckkipppbcaa", sum := "5efa2517aa18e54889fcec6280685c350f57d1736a304a399a48494319a50ef3", func := "ledger/ledgerlaw2.CrcChains", spec := "crcChains", apart := false }
def CrcChainsSaid : Prop := crcChainsRow.holds Try.pinned (OpenSpec.ofChange crcChainsSpec)

/-- ITS FALSE NEIGHBOUR: 'it returns false'. Refute it at one input. -/
def crcChainsWrong : ChangeSpec := { name := "crcChains", fn := fun _ => fun
  | [d1, d2, d3, d4, d5] => { results := [.lit (.bool false)], args := [d1, d2, d3, d4, d5] }
  | _ => none }
def CrcChainsWrongFalsely : Prop := crcChainsRow.holds Try.pinned (OpenSpec.ofChange crcChainsWrong)

/-- 'ledgerlaw2.CrcRound': WHATEVER THE INPUT: true; the input reads as it did. -/
def crcRoundSpec : ChangeSpec := { name := "crcRound", fn := fun _ => fun
  | [d1, d2, d3] => { results := [.lit (.bool true)], args := [d1, d2, d3] }
  | _ => none }
def crcRoundRow : OpenClaim := { program := "ytadnckkipppbcaa", sum := "5efa2517aa18e54889fcec6280685c350f57d1736a304a399a48494319a50ef3", func := "ledger/ledgerlaw2.CrcRound", spec := "crcRound", apart := false }
def CrcRoundSaid : Prop := crcRoundRow.holds Try.pinned (OpenSpec.ofChange crcRoundSpec)

/-- ITS FALSE NEIGHBOUR: 'it returns false'. Refute it at one input. -/
def crcRoundWrong : ChangeSpec := { name := "crcRound", fn := fun _ => fun
  | [d1, d2, d3] => { results := [.lit (.bool false)], args := [d1, d2, d3] }
  | _ => none }
def CrcRoundWrongFalsely : Prop := crcRoundRow.holds Try.pinned (OpenSpec.ofChange crcRoundWrong)

/-- 'ledgerlaw2.CrcSplits': WHATEVER THE INPUT: true; the input reads as it did. -/
def crcSplitsSpec : ChangeSpec := { name := "crcSplits", fn := fun _ => fun
  | [d1, d2] => { results := [.lit (.bool true)], args := [d1, d2] }
  | _ => none }
def crcSplitsRow : OpenClaim := { program := "ytadnckkipppbcaa", sum := "5efa2517aa18e54889fcec6280685c350f57d1736a304a399a48494319a50ef3", func := "ledger/ledgerlaw2.CrcSplits", spec := "crcSplits", apart := false }
def CrcSplitsSaid : Prop := crcSplitsRow.holds Try.pinned (OpenSpec.ofChange crcSplitsSpec)

/-- ITS FALSE NEIGHBOUR: 'it returns false'. Refute it at one input. -/
def crcSplitsWrong : ChangeSpec := { name := "crcSplits", fn := fun _ => fun
  | [d1, d2] => { results := [.lit (.bool false)], args := [d1, d2] }
  | _ => none }
def CrcSplitsWrongFalsely : Prop := crcSplitsRow.holds Try.pinned (OpenSpec.ofChange crcSplitsWrong)

/-- 'ledgerlaw2.CrcKnown': WHATEVER THE INPUT: true; the input reads as it did. -/
def crcKnownSpec : ChangeSpec := { name := "crcKnown", fn := fun _ => fun
  | [] => { results := [.lit (.bool true)], args := [] }
  | _ => none }
def crcKnownRow : OpenClaim := { program := "ytadnckkipppbcaa", sum := "5efa2517aa18e54889fcec6280685c350f57d1736a304a399a48494319a50ef3", func := "ledger/ledgerlaw2.CrcKnown", spec := "crcKnown", apart := false }
def CrcKnownSaid : Prop := crcKnownRow.holds Try.pinned (OpenSpec.ofChange crcKnownSpec)

/-- ITS FALSE NEIGHBOUR: 'it returns false'. Refute it at one input. -/
def crcKnownWrong : ChangeSpec := { name := "crcKnown", fn := fun _ => fun
  | [] => { results := [.lit (.bool false)], args := [] }
  | _ => none }
def CrcKnownWrongFalsely : Prop := crcKnownRow.holds Try.pinned (OpenSpec.ofChange crcKnownWrong)

/- THE SECOND FORM. 'bulk': how many values and letters a reading holds, each counted each time it is reached (what is shared counts as often as it is met; a slice's spare places count too). A statement '..UptoSaid' is the law's where the arguments, and the package variables that the reading takes, are together of bulk at most 1048576: NARROWER than '..Said'. Prove '..Said' where nothing that the law and all that it calls make is longer than what came in: it says more and counts as full. Else prove '..UptoSaid'. A law counts once. -/
mutual
def uptoBulk {H : Type} : DataW H → Nat
  | .lit (.string bytes) => bytes.length + 1
  | .lit _ => 1
  | .nil => 1
  | .ptr d => uptoBulk d + 1
  | .slice elems spare => uptoBulkAll elems + uptoBulkAll spare + 1
  | .agg parts => uptoBulkAll parts + 1
  | .iface _ d => uptoBulk d + 1
  | .map entries => uptoBulkEntries entries + 1
  | .held _ => 1
def uptoBulkAll {H : Type} : List (DataW H) → Nat
  | [] => 0
  | d :: r => uptoBulk d + uptoBulkAll r
def uptoBulkEntries {H : Type} : List (Lit × DataW H) → Nat
  | [] => 0
  | x :: r => uptoBulkEntry x + uptoBulkEntries r
def uptoBulkEntry {H : Type} : Lit × DataW H → Nat
  | (.string bytes, d) => bytes.length + uptoBulk d + 1
  | (_, d) => uptoBulk d + 1
 end
def uptoSmall : (H : Type) → List (DataW H) → Bool := fun _ ds => decide (uptoBulkAll ds ≤ 1048576)
def OpenSpec.upto (s : _root_.Go.ChangeSpec) : _root_.Go.OpenSpec := { _root_.Go.OpenSpec.ofChange s with cond := some uptoSmall }

/-- 'ledgerlaw2.CrcAdds', WHERE WHAT IT READS IS OF BULK AT MOST 1048576: true; the input reads as it did. -/
def crcAddsUptoRow : OpenClaim := { program := "ytadnckkipppbcaa", sum := "5efa2517aa18e54889fcec6280685c350f57d1736a304a399a48494319a50ef3", func := "ledger/ledgerlaw2.CrcAdds", spec := "crcAdds", apart := false, narrowed := true }
def CrcAddsUptoSaid : Prop := crcAddsUptoRow.holds Try.pinned (OpenSpec.upto crcAddsSpec)

/-- 'ledgerlaw2.CrcBursts', WHERE WHAT IT READS IS OF BULK AT MOST 1048576: true; the input reads as it did. -/
def crcBurstsUptoRow : OpenClaim := { program := "ytadnckkipppbcaa", sum := "5efa2517aa18e54889fcec6280685c350f57d1736a304a399a48494319a50ef3", func := "ledger/ledgerlaw2.CrcBursts", spec := "crcBursts", apart := false, narrowed := true }
def CrcBurstsUptoSaid : Prop := crcBurstsUptoRow.holds Try.pinned (OpenSpec.upto crcBurstsSpec)

/-- 'ledgerlaw2.CrcFew', WHERE WHAT IT READS IS OF BULK AT MOST 1048576: true; the input reads as it did. -/
def crcFewUptoRow : OpenClaim := { program := "ytadnckkipppbcaa", sum := "5efa2517aa18e54889fcec6280685c350f57d1736a304a399a48494319a50ef3", func := "ledger/ledgerlaw2.CrcFew", spec := "crcFew", apart := false, narrowed := true }
def CrcFewUptoSaid : Prop := crcFewUptoRow.holds Try.pinned (OpenSpec.upto crcFewSpec)

/-- 'ledgerlaw2.CrcPairs', WHERE WHAT IT READS IS OF BULK AT MOST 1048576: true; the input reads as it did. -/
def crcPairsUptoRow : OpenClaim := { program := "ytadnckkipppbcaa", sum := "5efa2517aa18e54889fcec6280685c350f57d1736a304a399a48494319a50ef3", func := "ledger/ledgerlaw2.CrcPairs", spec := "crcPairs", apart := false, narrowed := true }
def CrcPairsUptoSaid : Prop := crcPairsUptoRow.holds Try.pinned (OpenSpec.upto crcPairsSpec)

/-- 'ledgerlaw2.CrcJoins', WHERE WHAT IT READS IS OF BULK AT MOST 1048576: true; the input reads as it did. -/
def crcJoinsUptoRow : OpenClaim := { program := "ytadnckkipppbcaa", sum := "5efa2517aa18e54889fcec6280685c350f57d1736a304a399a48494319a50ef3", func := "ledger/ledgerlaw2.CrcJoins", spec := "crcJoins", apart := false, narrowed := true }
def CrcJoinsUptoSaid : Prop := crcJoinsUptoRow.holds Try.pinned (OpenSpec.upto crcJoinsSpec)

/-- 'ledgerlaw2.CrcChains', WHERE WHAT IT READS IS OF BULK AT MOST 1048576: true; the input reads as it did. -/
def crcChainsUptoRow : OpenClaim := { program := "ytadnckkipppbcaa", sum := "5efa2517aa18e54889fcec6280685c350f57d1736a304a399a48494319a50ef3", func := "ledger/ledgerlaw2.CrcChains", spec := "crcChains", apart := false, narrowed := true }
def CrcChainsUptoSaid : Prop := crcChainsUptoRow.holds Try.pinned (OpenSpec.upto crcChainsSpec)

/-- 'ledgerlaw2.CrcRound', WHERE WHAT IT READS IS OF BULK AT MOST 1048576: true; the input reads as it did. -/
def crcRoundUptoRow : OpenClaim := { program := "ytadnckkipppbcaa", sum := "5efa2517aa18e54889fcec6280685c350f57d1736a304a399a48494319a50ef3", func := "ledger/ledgerlaw2.CrcRound", spec := "crcRound", apart := false, narrowed := true }
def CrcRoundUptoSaid : Prop := crcRoundUptoRow.holds Try.pinned (OpenSpec.upto crcRoundSpec)

/-- 'ledgerlaw2.CrcSplits', WHERE WHAT IT READS IS OF BULK AT MOST 1048576: true; the input reads as it did. -/
def crcSplitsUptoRow : OpenClaim := { program := "ytadnckkipppbcaa", sum := "5efa2517aa18e54889fcec6280685c350f57d1736a304a399a48494319a50ef3", func := "ledger/ledgerlaw2.CrcSplits", spec := "crcSplits", apart := false, narrowed := true }
def CrcSplitsUptoSaid : Prop := crcSplitsUptoRow.holds Try.pinned (OpenSpec.upto crcSplitsSpec)

/-- 'ledgerlaw2.CrcKnown', WHERE WHAT IT READS IS OF BULK AT MOST 1048576: true; the input reads as it did. -/
def crcKnownUptoRow : OpenClaim := { program := "ytadnckkipppbcaa", sum := "5efa2517aa18e54889fcec6280685c350f57d1736a304a399a48494319a50ef3", func := "ledger/ledgerlaw2.CrcKnown", spec := "crcKnown", apart := false, narrowed := true }
def CrcKnownUptoSaid : Prop := crcKnownUptoRow.holds Try.pinned (OpenSpec.upto crcKnownSpec)

end Rows
end Go.Proofs.Ytadnckkipppbcaa
