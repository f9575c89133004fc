/- SocketCallsInOrder: the closed facts of its card. Printed by wip/tools/gencard24.py. -/
import Derived.Test.YtockaipodnapjaaGreatDoorCards
import Derived.Test.YtockaipodnapjaaGreatDoorTie
import Derived.JoinedOf
import Derived.SevenTiedAt
namespace Go.Proofs.YtockaipodnapjaaGreatDoor
open Go
theorem jgSocketCallsInOrder : Rows.socketCallsInOrderRow.wfByText (OpenSpec.ofChange Rows.socketCallsInOrderSpec) = true := by kernel_rfl
theorem jhSocketCallsInOrder : Tryz.pinned.checked.prog.mainIs = some (true, "b2c6cf03689f923673a166e8bdb283f7deedaf7a3c8683d1e1c58adc3e56c8eb".toList) := by kernel_rfl
theorem jiSocketCallsInOrder : true = Tryz.pinned.checked.prog.looks [] := by kernel_rfl
theorem jjSocketCallsInOrder : false = Rows.socketCallsInOrderRow.goesBy Tryz.pinned.checked.prog := by kernel_rfl
theorem jkSocketCallsInOrder : Tryz.prog.funcNamed Rows.socketCallsInOrderRow.func = some 3 := by kernel_rfl
end Go.Proofs.YtockaipodnapjaaGreatDoor
