/-
  DERIVED. GIVEN WITH THE SEED: THE PROGRAM's TIES (one call each: nine closed facts by the kernel) AND EACH ROW's TIE, after the 31st guide's Derived/Test/Toyas{Tie, Card}.lean. No idea stands in it: it is a product of the set-up. Laid BY PROGRAM, IN A SANDBOX (cutbox-door.mjs). By AI agents, Wed Nov 11 2026. No macro, syntax, notation, axiom, sorry.
-/
import Derived.Test.YtockaipodnapjaaGreatDoorRows
import Derived.LaidByTextLater
import Derived.SevenTiedAt
import Derived.LaidSub
import Derived.LaidOnce
namespace Go.Proofs.YtockaipodnapjaaGreatDoor
open Go
set_option maxRecDepth 100000
theorem seatTie1 : Tryz.prog.laidByTextLater [("stagepost/tcpstate.triples", Rows.laid_stagepost_tcpstate_triples), ("errors.errorType", Rows.laid_errors_errorType), ("stagepost/congestion.errSize", Rows.laid_stagepost_congestion_errSize)] [.data, .handle, .sentinel] true :=
  Program.laidByTextLater_by_one 56 8 49 (by kernel_rfl) (by kernel_rfl) (by kernel_rfl) (by kernel_rfl) (by kernel_rfl) (by kernel_rfl) (fun _ _ => by kernel_rfl)
theorem noOwnUnsafe : Tryz.pinned.checked.prog.headLifts.contains "ownunsafe" = false := by kernel_rfl
theorem tie : Tryz.prog.laidByTextLater [("stagepost/tcpstate.triples", Rows.laid_stagepost_tcpstate_triples), ("errors.errorType", Rows.laid_errors_errorType), ("stagepost/congestion.errSize", Rows.laid_stagepost_congestion_errSize)] [.data, .handle, .sentinel] true :=
  Program.laidByTextLater.sub seatTie1 ["stagepost/tcpstate.triples", "errors.errorType", "stagepost/congestion.errSize"] (by kernel_rfl) (by kernel_rfl)
theorem socketCallsInOrder_row_tie : Rows.socketCallsInOrderRow.laidByTextAt .later Tryz.pinned [.data, .handle, .sentinel] true :=
  OpenClaim.laidByTextAt_later rfl rfl tie noOwnUnsafe
theorem socketDatagrams_row_tie : Rows.socketDatagramsRow.laidByTextAt .later Tryz.pinned [.data, .handle, .sentinel] true :=
  OpenClaim.laidByTextAt_later rfl rfl tie noOwnUnsafe
theorem socketBlindReset_row_tie : Rows.socketBlindResetRow.laidByTextAt .later Tryz.pinned [.data, .handle, .sentinel] true :=
  OpenClaim.laidByTextAt_later rfl rfl tie noOwnUnsafe
theorem socketTimeout_row_tie : Rows.socketTimeoutRow.laidByTextAt .later Tryz.pinned [.data, .handle, .sentinel] true :=
  OpenClaim.laidByTextAt_later rfl rfl tie noOwnUnsafe
theorem socketPortsExclusive_row_tie : Rows.socketPortsExclusiveRow.laidByTextAt .later Tryz.pinned [.data, .handle, .sentinel] true :=
  OpenClaim.laidByTextAt_later rfl rfl tie noOwnUnsafe
theorem socketCloseCompletesCalls_row_tie : Rows.socketCloseCompletesCallsRow.laidByTextAt .later Tryz.pinned [.data, .handle, .sentinel] true :=
  OpenClaim.laidByTextAt_later rfl rfl tie noOwnUnsafe
theorem socketBacklog_row_tie : Rows.socketBacklogRow.laidByTextAt .later Tryz.pinned [.data, .handle, .sentinel] true :=
  OpenClaim.laidByTextAt_later rfl rfl tie noOwnUnsafe
theorem socketCallsInOrderUpto_row_tie : Rows.socketCallsInOrderUptoRow.laidByTextAt .later Tryz.pinned [.data, .handle, .sentinel] true :=
  OpenClaim.laidByTextAt_later rfl rfl tie noOwnUnsafe
theorem socketDatagramsUpto_row_tie : Rows.socketDatagramsUptoRow.laidByTextAt .later Tryz.pinned [.data, .handle, .sentinel] true :=
  OpenClaim.laidByTextAt_later rfl rfl tie noOwnUnsafe
theorem socketBlindResetUpto_row_tie : Rows.socketBlindResetUptoRow.laidByTextAt .later Tryz.pinned [.data, .handle, .sentinel] true :=
  OpenClaim.laidByTextAt_later rfl rfl tie noOwnUnsafe
theorem socketTimeoutUpto_row_tie : Rows.socketTimeoutUptoRow.laidByTextAt .later Tryz.pinned [.data, .handle, .sentinel] true :=
  OpenClaim.laidByTextAt_later rfl rfl tie noOwnUnsafe
theorem socketPortsExclusiveUpto_row_tie : Rows.socketPortsExclusiveUptoRow.laidByTextAt .later Tryz.pinned [.data, .handle, .sentinel] true :=
  OpenClaim.laidByTextAt_later rfl rfl tie noOwnUnsafe
theorem socketCloseCompletesCallsUpto_row_tie : Rows.socketCloseCompletesCallsUptoRow.laidByTextAt .later Tryz.pinned [.data, .handle, .sentinel] true :=
  OpenClaim.laidByTextAt_later rfl rfl tie noOwnUnsafe
theorem socketBacklogUpto_row_tie : Rows.socketBacklogUptoRow.laidByTextAt .later Tryz.pinned [.data, .handle, .sentinel] true :=
  OpenClaim.laidByTextAt_later rfl rfl tie noOwnUnsafe
end Go.Proofs.YtockaipodnapjaaGreatDoor
