/- A machine of symbolic values: SocketDatagrams: runs. -/
import Derived.Test.YtockaipodnapjaaGreatDoorVd1
namespace Go.Proofs.YtockaipodnapjaaGreatDoor
open Go Go.RowKit
set_option linter.unusedVariables false
set_option maxRecDepth 100000
theorem dg_run4 (a b m s : Int) : runG kofX (tblD 4) 400 4 [.int true .i64 a, .int true .i64 b, .int true .i64 m, .int true .i64 s] (dgC 4 4) = some (dgL 4 4 a b m s, [.bool false true], 0) := by kernel_rfl
theorem dg_run5 (a b m s : Int) : runG kofX (tblD 5) 400 4 [.int true .i64 a, .int true .i64 b, .int true .i64 m, .int true .i64 s] (dgC 5 5) = some (dgL 5 5 a b m s, [.bool false true], 0) := by kernel_rfl
theorem dg_run6 (a b m s : Int) : runG kofX (tblD 6) 400 4 [.int true .i64 a, .int true .i64 b, .int true .i64 m, .int true .i64 s] (dgC 6 6) = some (dgL 6 6 a b m s, [.bool false true], 0) := by kernel_rfl
end Go.Proofs.YtockaipodnapjaaGreatDoor

