/- A machine of symbolic values: SocketDatagrams: runs. -/
import Derived.Test.YtockaipodnapjaaGreatDoorVd1
namespace Go.Proofs.YtockaipodnapjaaGreatDoor
open Go Go.RowKit
set_option linter.unusedVariables false
set_option maxRecDepth 100000
theorem dg_run10 (a b m s : Int) : runG kofX (tblD 10) 400 4 [.int true .i64 a, .int true .i64 b, .int true .i64 m, .int true .i64 s] (dgC 10 8) = some (dgL 10 8 a b m s, [.bool false true], 0) := by kernel_rfl
theorem dg_run11 (a b m s : Int) : runG kofX (tblD 11) 400 4 [.int true .i64 a, .int true .i64 b, .int true .i64 m, .int true .i64 s] (dgC 11 8) = some (dgL 11 8 a b m s, [.bool false true], 0) := by kernel_rfl
theorem dg_run12 (a b m s : Int) : runG kofX (tblD 12) 400 4 [.int true .i64 a, .int true .i64 b, .int true .i64 m, .int true .i64 s] (dgC 12 8) = some (dgL 12 8 a b m s, [.bool false true], 0) := by kernel_rfl
end Go.Proofs.YtockaipodnapjaaGreatDoor

