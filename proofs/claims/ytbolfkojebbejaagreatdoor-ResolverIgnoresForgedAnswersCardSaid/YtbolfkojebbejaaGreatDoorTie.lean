/-
  DERIVED. GIVEN WITH THE SEED: THE PROGRAM's TIES (one call each: nine closed facts by the kernel) AND EACH ROW's TIE, after the 31st guide's Derived/Test/Toyas{Tie, Card}.lean. No idea stands in it: it is a product of the set-up. Laid BY PROGRAM, IN A SANDBOX (cutbox-door.mjs). By AI agents, Wed Nov 11 2026. No macro, syntax, notation, axiom, sorry.
-/
import Derived.Test.YtbolfkojebbejaaGreatDoorRows
import Derived.LaidByTextLater
import Derived.SevenTiedAt
import Derived.LaidSub
import Derived.LaidOnce
namespace Go.Proofs.YtbolfkojebbejaaGreatDoor
open Go
set_option maxRecDepth 100000
theorem seatTie1 : Tryz.prog.laidByTextLater [("errors.errorType", Rows.laid_errors_errorType), ("stagepost/dnscache.errInvalid", Rows.laid_stagepost_dnscache_errInvalid)] [.handle, .sentinel] true :=
  Program.laidByTextLater_by_one 35 8 2 (by kernel_rfl) (by kernel_rfl) (by kernel_rfl) (by kernel_rfl) (by kernel_rfl) (by kernel_rfl) (fun _ _ => by kernel_rfl)
theorem noOwnUnsafe : Tryz.pinned.checked.prog.headLifts.contains "ownunsafe" = false := by kernel_rfl
theorem tie : Tryz.prog.laidByTextLater [("errors.errorType", Rows.laid_errors_errorType)] [.handle] true :=
  Program.laidByTextLater.sub seatTie1 ["errors.errorType"] (by kernel_rfl) (by kernel_rfl)
theorem firewallPassesDNS_row_tie : Rows.firewallPassesDNSRow.laidByTextAt .later Tryz.pinned [.handle] true :=
  OpenClaim.laidByTextAt_later rfl rfl tie noOwnUnsafe
theorem portsResolverRange_row_tie : Rows.portsResolverRangeRow.laidByTextAt .later Tryz.pinned [.handle] true :=
  OpenClaim.laidByTextAt_later rfl rfl tie noOwnUnsafe
theorem tie2 : Tryz.prog.laidByTextLater [("errors.errorType", Rows.laid_errors_errorType), ("stagepost/dnscache.errInvalid", Rows.laid_stagepost_dnscache_errInvalid)] [.handle, .sentinel] true :=
  Program.laidByTextLater.sub seatTie1 ["errors.errorType", "stagepost/dnscache.errInvalid"] (by kernel_rfl) (by kernel_rfl)
theorem resolverUsesCache_row_tie : Rows.resolverUsesCacheRow.laidByTextAt .later Tryz.pinned [.handle, .sentinel] true :=
  OpenClaim.laidByTextAt_later rfl rfl tie2 noOwnUnsafe
theorem resolverFollowsZone_row_tie : Rows.resolverFollowsZoneRow.laidByTextAt .later Tryz.pinned [.handle, .sentinel] true :=
  OpenClaim.laidByTextAt_later rfl rfl tie2 noOwnUnsafe
theorem resolverRetries_row_tie : Rows.resolverRetriesRow.laidByTextAt .later Tryz.pinned [.handle, .sentinel] true :=
  OpenClaim.laidByTextAt_later rfl rfl tie2 noOwnUnsafe
theorem resolverIgnoresForgedAnswers_row_tie : Rows.resolverIgnoresForgedAnswersRow.laidByTextAt .later Tryz.pinned [.handle, .sentinel] true :=
  OpenClaim.laidByTextAt_later rfl rfl tie2 noOwnUnsafe
theorem resolverReportsOnce_row_tie : Rows.resolverReportsOnceRow.laidByTextAt .later Tryz.pinned [.handle, .sentinel] true :=
  OpenClaim.laidByTextAt_later rfl rfl tie2 noOwnUnsafe
theorem resolverNilAndInvalid_row_tie : Rows.resolverNilAndInvalidRow.laidByTextAt .later Tryz.pinned [.handle, .sentinel] true :=
  OpenClaim.laidByTextAt_later rfl rfl tie2 noOwnUnsafe
theorem firewallPassesDNSUpto_row_tie : Rows.firewallPassesDNSUptoRow.laidByTextAt .later Tryz.pinned [.handle] true :=
  OpenClaim.laidByTextAt_later rfl rfl tie noOwnUnsafe
theorem resolverUsesCacheUpto_row_tie : Rows.resolverUsesCacheUptoRow.laidByTextAt .later Tryz.pinned [.handle, .sentinel] true :=
  OpenClaim.laidByTextAt_later rfl rfl tie2 noOwnUnsafe
theorem portsResolverRangeUpto_row_tie : Rows.portsResolverRangeUptoRow.laidByTextAt .later Tryz.pinned [.handle] true :=
  OpenClaim.laidByTextAt_later rfl rfl tie noOwnUnsafe
theorem resolverFollowsZoneUpto_row_tie : Rows.resolverFollowsZoneUptoRow.laidByTextAt .later Tryz.pinned [.handle, .sentinel] true :=
  OpenClaim.laidByTextAt_later rfl rfl tie2 noOwnUnsafe
theorem resolverRetriesUpto_row_tie : Rows.resolverRetriesUptoRow.laidByTextAt .later Tryz.pinned [.handle, .sentinel] true :=
  OpenClaim.laidByTextAt_later rfl rfl tie2 noOwnUnsafe
theorem resolverIgnoresForgedAnswersUpto_row_tie : Rows.resolverIgnoresForgedAnswersUptoRow.laidByTextAt .later Tryz.pinned [.handle, .sentinel] true :=
  OpenClaim.laidByTextAt_later rfl rfl tie2 noOwnUnsafe
theorem resolverReportsOnceUpto_row_tie : Rows.resolverReportsOnceUptoRow.laidByTextAt .later Tryz.pinned [.handle, .sentinel] true :=
  OpenClaim.laidByTextAt_later rfl rfl tie2 noOwnUnsafe
theorem resolverNilAndInvalidUpto_row_tie : Rows.resolverNilAndInvalidUptoRow.laidByTextAt .later Tryz.pinned [.handle, .sentinel] true :=
  OpenClaim.laidByTextAt_later rfl rfl tie2 noOwnUnsafe
end Go.Proofs.YtbolfkojebbejaaGreatDoor
