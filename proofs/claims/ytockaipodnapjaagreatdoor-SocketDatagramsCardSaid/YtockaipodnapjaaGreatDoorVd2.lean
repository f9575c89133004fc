/- A machine of symbolic values: SocketDatagrams: runs. -/
import Derived.Test.YtockaipodnapjaaGreatDoorVd1
namespace Go.Proofs.YtockaipodnapjaaGreatDoor
open Go Go.RowKit
set_option linter.unusedVariables false
set_option maxRecDepth 100000
theorem dg_run0 (a b m s : Int) : runG kofX (tblD 0) 400 4 [.int true .i64 a, .int true .i64 b, .int true .i64 m, .int true .i64 s] (dgC 0 0) = some (dgL 0 0 a b m s, [.bool false true], 0) := by kernel_rfl
theorem dg_run1 (a b m s : Int) : runG kofX (tblD 1) 400 4 [.int true .i64 a, .int true .i64 b, .int true .i64 m, .int true .i64 s] (dgC 1 1) = some (dgL 1 1 a b m s, [.bool false true], 0) := by kernel_rfl
theorem dg_run2 (a b m s : Int) : runG kofX (tblD 2) 400 4 [.int true .i64 a, .int true .i64 b, .int true .i64 m, .int true .i64 s] (dgC 2 2) = some (dgL 2 2 a b m s, [.bool false true], 0) := by kernel_rfl
theorem dg_run3 (a b m s : Int) : runG kofX (tblD 3) 400 4 [.int true .i64 a, .int true .i64 b, .int true .i64 m, .int true .i64 s] (dgC 3 3) = some (dgL 3 3 a b m s, [.bool false true], 0) := by kernel_rfl
end Go.Proofs.YtockaipodnapjaaGreatDoor

