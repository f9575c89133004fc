/- A machine of symbolic values: SocketDatagrams: runs. -/
import Derived.Test.YtockaipodnapjaaGreatDoorVd1
namespace Go.Proofs.YtockaipodnapjaaGreatDoor
open Go Go.RowKit
set_option linter.unusedVariables false
set_option maxRecDepth 100000
theorem dg_run7 (a b m s : Int) : runG kofX (tblD 7) 400 4 [.int true .i64 a, .int true .i64 b, .int true .i64 m, .int true .i64 s] (dgC 7 7) = some (dgL 7 7 a b m s, [.bool false true], 0) := by kernel_rfl
theorem dg_run8 (a b m s : Int) : runG kofX (tblD 8) 400 4 [.int true .i64 a, .int true .i64 b, .int true .i64 m, .int true .i64 s] (dgC 8 8) = some (dgL 8 8 a b m s, [.bool false true], 0) := by kernel_rfl
theorem dg_run9 (a b m s : Int) : runG kofX (tblD 9) 400 4 [.int true .i64 a, .int true .i64 b, .int true .i64 m, .int true .i64 s] (dgC 9 8) = some (dgL 9 8 a b m s, [.bool false true], 0) := by kernel_rfl
end Go.Proofs.YtockaipodnapjaaGreatDoor

