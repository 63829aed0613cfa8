/-
  NARROWER THAN 'FOR EVERY INPUT', by the rows' own cells (each row's printed sentence says how): CrcSums: laid · CrcUpdates: laid · CrcSeals: laid · CrcKept: laid · CrcWholes: laid.
  DERIVED. THE GIVEN ROWS OF THIS SEAT. 5 by the template 'for every input the law returns true; each argument reads behind the call as it read before'; 0 by the template 'total and deterministic' (their statements: YtadnckkipppbcaaDoorTotals.lean).
  GIVEN WITH THE SEED: the statements are not yours to turn. If you find one false, say at which input.
  Laid BY PROGRAM, IN A SANDBOX (cutbox-rows.mjs): the forced cells as the released guide's own fill.sh prints them over the translation 935ac27901338d35… (all of the seat's roots in one cut). By AI agents, Wed Nov 11 2026. No macro, syntax, notation, axiom, sorry.
-/
import Derived.Test.YtadnckkipppbcaaDoorChecked
import GoSem.Claim
import GoSem.ClaimJoined
import GoSem.ClaimMapViews
import Derived.JoinedTies
import Derived.KernelRfl
namespace Go.Proofs.YtadnckkipppbcaaDoor
/- THE CELL 'sum', in the pinned program and in every row, IS THE sha256 OF THE DUMP (.gsa) THAT YtadnckkipppbcaaDoorProg.lean LOADS. Nothing in Lean hashes anything: it is a label: what it is worth is what the hold of that sum in a sandbox is worth. -/
noncomputable def Tryd.pinned : Pinned := { name := "ytadnckkipppbcaadoor", sum := "935ac27901338d356bfe6876cf11cf4eeb332b513d5b53a6960ecc4da6bf5e4d", checked := Tryd.checked }
namespace Rows
def none {H : Type} : Left H := { results := [], args := [] }

/- WHAT THE LISTED PACKAGE-LEVEL VARIABLES READ AS WHEN THE CALL BEGINS. Each datum BY PROGRAM (the guide's laid-datum.mjs) off the statement by which the dump's own 'gosem.cut.vars' lays the variable. In a bare row this is a premise. The card (YtadnckkipppbcaaDoorCards.lean) ties it to the program's text. -/
def laid_ledger_ledgerref2_divisor {H : Type} : DataW H := .agg [.lit (.int .u8 1), .lit (.int .u8 0), .lit (.int .u8 0), .lit (.int .u8 0), .lit (.int .u8 0), .lit (.int .u8 0), .lit (.int .u8 1), .lit (.int .u8 0), .lit (.int .u8 0), .lit (.int .u8 1), .lit (.int .u8 1), .lit (.int .u8 0), .lit (.int .u8 0), .lit (.int .u8 0), .lit (.int .u8 0), .lit (.int .u8 0), .lit (.int .u8 1), .lit (.int .u8 0), .lit (.int .u8 0), .lit (.int .u8 0), .lit (.int .u8 1), .lit (.int .u8 1), .lit (.int .u8 1), .lit (.int .u8 0), .lit (.int .u8 1), .lit (.int .u8 1), .lit (.int .u8 0), .lit (.int .u8 1), .lit (.int .u8 1), .lit (.int .u8 0), .lit (.int .u8 1), .lit (.int .u8 1), .lit (.int .u8 1)]

/-- 'ledgerlaw2.CrcSums': WHATEVER THE INPUT: true; the input reads as it did. -/
def crcSumsSpec : ChangeSpec := { name := "crcSums", fn := fun _ => fun
  | [d] => { results := [.lit (.bool true)], args := [d] }
  | _ => none }
def crcSumsRow : OpenClaim := { program := "ytadnckkipppbcaadoor", sum := "935ac27901338d356bfe6876cf11cf4eeb332b513d5b53a6960ecc4da6bf5e4d", func := "ledger/ledgerlaw2.CrcSums", spec := "crcSums", named := ["ledger/ledgerref2.divisor"], apart := false, laid := [("ledger/ledgerref2.divisor", laid_ledger_ledgerref2_divisor)] }
def CrcSumsSaid : Prop := crcSumsRow.holds Tryd.pinned (OpenSpec.ofChange crcSumsSpec)

/-- ITS FALSE NEIGHBOUR: 'it returns false'. Refute it at one input. -/
def crcSumsWrong : ChangeSpec := { name := "crcSums", fn := fun _ => fun
  | [d] => { results := [.lit (.bool false)], args := [d] }
  | _ => none }
def CrcSumsWrongFalsely : Prop := crcSumsRow.holds Tryd.pinned (OpenSpec.ofChange crcSumsWrong)

/-- 'ledgerlaw2.CrcUpdates': WHATEVER THE INPUT: true; the input reads as it did. -/
def crcUpdatesSpec : ChangeSpec := { name := "crcUpdates", fn := fun _ => fun
  | [d1, d2] => { results := [.lit (.bool true)], args := [d1, d2] }
  | _ => none }
def crcUpdatesRow : OpenClaim := { program := "ytadnckkipppbcaadoor", sum := "935ac27901338d356bfe6876cf11cf4eeb332b513d5b53a6960ecc4da6bf5e4d", func := "ledger/ledgerlaw2.CrcUpdates", spec := "crcUpdates", named := ["ledger/ledgerref2.divisor"], apart := false, laid := [("ledger/ledgerref2.divisor", laid_ledger_ledgerref2_divisor)] }
def CrcUpdatesSaid : Prop := crcUpdatesRow.holds Tryd.pinned (OpenSpec.ofChange crcUpdatesSpec)

/-- ITS FALSE NEIGHBOUR: 'it returns false'. Refute it at one input. -/
def crcUpdatesWrong : ChangeSpec := { name := "crcUpdates", fn := fun _ => fun
  | [d1, d2] => { results := [.lit (.bool false)], args := [d1, d2] }
  | _ => none }
def CrcUpdatesWrongFalsely : Prop := crcUpdatesRow.holds Tryd.pinned (OpenSpec.ofChange crcUpdatesWrong)

/-- 'ledgerlaw2.CrcSeals': WHATEVER THE INPUT: true; the input reads as it did. -/
def crcSealsSpec : ChangeSpec := { name := "crcSeals", fn := fun _ => fun
  | [d] => { results := [.lit (.bool true)], args := [d] }
  | _ => none }
def crcSealsRow : OpenClaim := { program := "ytadnckkipppbcaadoor", sum := "935ac27901338d356bfe6876cf11cf4eeb332b513d5b53a6960ecc4da6bf5e4d", func := "ledger/ledgerlaw2.CrcSeals", spec := "crcSeals", named := ["ledger/ledgerref2.divisor"], apart := false, laid := [("ledger/ledgerref2.divisor", laid_ledger_ledgerref2_divisor)] }
def CrcSealsSaid : Prop := crcSealsRow.holds Tryd.pinned (OpenSpec.ofChange crcSealsSpec)

/-- ITS FALSE NEIGHBOUR: 'it returns false'. Refute it at one input. -/
def crcSealsWrong : ChangeSpec := { name := "crcSeals", fn := fun _ => fun
  | [d] => { results := [.lit (.bool false)], args := [d] }
  | _ => none }
def CrcSealsWrongFalsely : Prop := crcSealsRow.holds Tryd.pinned (OpenSpec.ofChange crcSealsWrong)

/-- 'ledgerlaw2.CrcKept': WHATEVER THE INPUT: true; the input reads as it did. -/
def crcKeptSpec : ChangeSpec := { name := "crcKept", fn := fun _ => fun
  | [d] => { results := [.lit (.bool true)], args := [d] }
  | _ => none }
def crcKeptRow : OpenClaim := { program := "ytadnckkipppbcaadoor", sum := "935ac27901338d356bfe6876cf11cf4eeb332b513d5b53a6960ecc4da6bf5e4d", func := "ledger/ledgerlaw2.CrcKept", spec := "crcKept", named := ["ledger/ledgerref2.divisor"], apart := false, laid := [("ledger/ledgerref2.divisor", laid_ledger_ledgerref2_divisor)] }
def CrcKeptSaid : Prop := crcKeptRow.holds Tryd.pinned (OpenSpec.ofChange crcKeptSpec)

/-- ITS FALSE NEIGHBOUR: 'it returns false'. Refute it at one input. -/
def crcKeptWrong : ChangeSpec := { name := "crcKept", fn := fun _ => fun
  | [d] => { results := [.lit (.bool false)], args := [d] }
  | _ => none }
def CrcKeptWrongFalsely : Prop := crcKeptRow.holds Tryd.pinned (OpenSpec.ofChange crcKeptWrong)

/-- 'ledgerlaw2.CrcWholes': WHATEVER THE INPUT: true; the input reads as it did. -/
def crcWholesSpec : ChangeSpec := { name := "crcWholes", fn := fun _ => fun
  | [d] => { results := [.lit (.bool true)], args := [d] }
  | _ => none }
def crcWholesRow : OpenClaim := { program := "ytadnckkipppbcaadoor", sum := "935ac27901338d356bfe6876cf11cf4eeb332b513d5b53a6960ecc4da6bf5e4d", func := "ledger/ledgerlaw2.CrcWholes", spec := "crcWholes", named := ["ledger/ledgerref2.divisor"], apart := false, laid := [("ledger/ledgerref2.divisor", laid_ledger_ledgerref2_divisor)] }
def CrcWholesSaid : Prop := crcWholesRow.holds Tryd.pinned (OpenSpec.ofChange crcWholesSpec)

/-- ITS FALSE NEIGHBOUR: 'it returns false'. Refute it at one input. -/
def crcWholesWrong : ChangeSpec := { name := "crcWholes", fn := fun _ => fun
  | [d] => { results := [.lit (.bool false)], args := [d] }
  | _ => none }
def CrcWholesWrongFalsely : Prop := crcWholesRow.holds Tryd.pinned (OpenSpec.ofChange crcWholesWrong)

/- THE SECOND FORM. 'bulk': how many values and letters a reading holds, each counted each time it is reached (what is shared counts as often as it is met; a slice's spare places count too). A statement '..UptoSaid' is the law's where the arguments, and the package variables that the reading takes, are together of bulk at most 1048576: NARROWER than '..Said'. Prove '..Said' where nothing that the law and all that it calls make is longer than what came in: it says more and counts as full. Else prove '..UptoSaid'. A law counts once. -/
mutual
def uptoBulk {H : Type} : DataW H → Nat
  | .lit (.string bytes) => bytes.length + 1
  | .lit _ => 1
  | .nil => 1
  | .ptr d => uptoBulk d + 1
  | .slice elems spare => uptoBulkAll elems + uptoBulkAll spare + 1
  | .agg parts => uptoBulkAll parts + 1
  | .iface _ d => uptoBulk d + 1
  | .map entries => uptoBulkEntries entries + 1
  | .held _ => 1
def uptoBulkAll {H : Type} : List (DataW H) → Nat
  | [] => 0
  | d :: r => uptoBulk d + uptoBulkAll r
def uptoBulkEntries {H : Type} : List (Lit × DataW H) → Nat
  | [] => 0
  | x :: r => uptoBulkEntry x + uptoBulkEntries r
def uptoBulkEntry {H : Type} : Lit × DataW H → Nat
  | (.string bytes, d) => bytes.length + uptoBulk d + 1
  | (_, d) => uptoBulk d + 1
 end
def uptoSmall : (H : Type) → List (DataW H) → Bool := fun _ ds => decide (uptoBulkAll ds ≤ 1048576)
def OpenSpec.upto (s : _root_.Go.ChangeSpec) : _root_.Go.OpenSpec := { _root_.Go.OpenSpec.ofChange s with cond := some uptoSmall }

/-- 'ledgerlaw2.CrcSums', WHERE WHAT IT READS IS OF BULK AT MOST 1048576: true; the input reads as it did. -/
def crcSumsUptoRow : OpenClaim := { program := "ytadnckkipppbcaadoor", sum := "935ac27901338d356bfe6876cf11cf4eeb332b513d5b53a6960ecc4da6bf5e4d", func := "ledger/ledgerlaw2.CrcSums", spec := "crcSums", named := ["ledger/ledgerref2.divisor"], apart := false, laid := [("ledger/ledgerref2.divisor", laid_ledger_ledgerref2_divisor)], narrowed := true }
def CrcSumsUptoSaid : Prop := crcSumsUptoRow.holds Tryd.pinned (OpenSpec.upto crcSumsSpec)

/-- 'ledgerlaw2.CrcUpdates', WHERE WHAT IT READS IS OF BULK AT MOST 1048576: true; the input reads as it did. -/
def crcUpdatesUptoRow : OpenClaim := { program := "ytadnckkipppbcaadoor", sum := "935ac27901338d356bfe6876cf11cf4eeb332b513d5b53a6960ecc4da6bf5e4d", func := "ledger/ledgerlaw2.CrcUpdates", spec := "crcUpdates", named := ["ledger/ledgerref2.divisor"], apart := false, laid := [("ledger/ledgerref2.divisor", laid_ledger_ledgerref2_divisor)], narrowed := true }
def CrcUpdatesUptoSaid : Prop := crcUpdatesUptoRow.holds Tryd.pinned (OpenSpec.upto crcUpdatesSpec)

/-- 'ledgerlaw2.CrcSeals', WHERE WHAT IT READS IS OF BULK AT MOST 1048576: true; the input reads as it did. -/
def crcSealsUptoRow : OpenClaim := { program := "ytadnckkipppbcaadoor", sum := "935ac27901338d356bfe6876cf11cf4eeb332b513d5b53a6960ecc4da6bf5e4d", func := "ledger/ledgerlaw2.CrcSeals", spec := "crcSeals", named := ["ledger/ledgerref2.divisor"], apart := false, laid := [("ledger/ledgerref2.divisor", laid_ledger_ledgerref2_divisor)], narrowed := true }
def CrcSealsUptoSaid : Prop := crcSealsUptoRow.holds Tryd.pinned (OpenSpec.upto crcSealsSpec)

/-- 'ledgerlaw2.CrcKept', WHERE WHAT IT READS IS OF BULK AT MOST 1048576: true; the input reads as it did. -/
def crcKeptUptoRow : OpenClaim := { program := "ytadnckkipppbcaadoor", sum := "935ac27901338d356bfe6876cf11cf4eeb332b513d5b53a6960ecc4da6bf5e4d", func := "ledger/ledgerlaw2.CrcKept", spec := "crcKept", named := ["ledger/ledgerref2.divisor"], apart := false, laid := [("ledger/ledgerref2.divisor", laid_ledger_ledgerref2_divisor)], narrowed := true }
def CrcKeptUptoSaid : Prop := crcKeptUptoRow.holds Tryd.pinned (OpenSpec.upto crcKeptSpec)

/-- 'ledgerlaw2.CrcWholes', WHERE WHAT IT READS IS OF BULK AT MOST 1048576: true; the input reads as it did. -/
def crcWholesUptoRow : OpenClaim := { program := "ytadnckkipppbcaadoor", sum := "935ac27901338d356bfe6876cf11cf4eeb332b513d5b53a6960ecc4da6bf5e4d", func := "ledger/ledgerlaw2.CrcWholes", spec := "crcWholes", named := ["ledger/ledgerref2.divisor"], apart := false, laid := [("ledger/ledgerref2.divisor", laid_ledger_ledgerref2_divisor)], narrowed := true }
def CrcWholesUptoSaid : Prop := crcWholesUptoRow.holds Tryd.pinned (OpenSpec.upto crcWholesSpec)

end Rows
end Go.Proofs.YtadnckkipppbcaaDoor
