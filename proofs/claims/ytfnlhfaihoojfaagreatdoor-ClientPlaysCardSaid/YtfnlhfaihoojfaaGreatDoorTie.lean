/-
  DERIVED. GIVEN WITH THE SEED: THE PROGRAM's TIES (one call each: nine closed facts by the kernel) AND EACH ROW's TIE, after the 31st guide's Derived/Test/Toyas{Tie, Card}.lean. No idea stands in it: it is a product of the set-up. Laid BY PROGRAM, IN A SANDBOX (cutbox-door.mjs). By AI agents, Wed Nov 11 2026. No macro, syntax, notation, axiom, sorry.
-/
import Derived.Test.YtfnlhfaihoojfaaGreatDoorRows
import Derived.LaidByTextLater
import Derived.SevenTiedAt
import Derived.LaidSub
import Derived.LaidOnce
namespace Go.Proofs.YtfnlhfaihoojfaaGreatDoor
open Go
set_option maxRecDepth 100000
theorem seatTie1 : Tryz.prog.laidByTextLater [("ledger/ledgerref1.first", Rows.laid_ledger_ledgerref1_first), ("ledger/ledgerref1.consts", Rows.laid_ledger_ledgerref1_consts), ("ledger/digest.begin", Rows.laid_ledger_digest_begin), ("ledger/digest.round", Rows.laid_ledger_digest_round)] [.data, .data, .data, .data] true :=
  Program.laidByTextLater_by_one 29 8 65 (by kernel_rfl) (by kernel_rfl) (by kernel_rfl) (by kernel_rfl) (by kernel_rfl) (by kernel_rfl) (fun _ _ => by kernel_rfl)
theorem noOwnUnsafe : Tryz.pinned.checked.prog.headLifts.contains "ownunsafe" = false := by kernel_rfl
theorem tie : Tryz.prog.laidByTextLater [("ledger/ledgerref1.first", Rows.laid_ledger_ledgerref1_first), ("ledger/ledgerref1.consts", Rows.laid_ledger_ledgerref1_consts), ("ledger/digest.begin", Rows.laid_ledger_digest_begin), ("ledger/digest.round", Rows.laid_ledger_digest_round)] [.data, .data, .data, .data] true :=
  Program.laidByTextLater.sub seatTie1 ["ledger/ledgerref1.first", "ledger/ledgerref1.consts", "ledger/digest.begin", "ledger/digest.round"] (by kernel_rfl) (by kernel_rfl)
theorem clientPlays_row_tie : Rows.clientPlaysRow.laidByTextAt .later Tryz.pinned [.data, .data, .data, .data] true :=
  OpenClaim.laidByTextAt_later rfl rfl tie noOwnUnsafe
theorem clientPlaysUpto_row_tie : Rows.clientPlaysUptoRow.laidByTextAt .later Tryz.pinned [.data, .data, .data, .data] true :=
  OpenClaim.laidByTextAt_later rfl rfl tie noOwnUnsafe
end Go.Proofs.YtfnlhfaihoojfaaGreatDoor
