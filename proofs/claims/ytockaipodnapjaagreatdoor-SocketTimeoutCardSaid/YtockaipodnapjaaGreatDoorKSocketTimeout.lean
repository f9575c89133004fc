/- SocketTimeout: the closed facts of its card. Printed by wip/tools/gencard24.py. -/
import Derived.Test.YtockaipodnapjaaGreatDoorCards
import Derived.Test.YtockaipodnapjaaGreatDoorTie
import Derived.JoinedOf
import Derived.SevenTiedAt
namespace Go.Proofs.YtockaipodnapjaaGreatDoor
open Go
theorem jgSocketTimeout : Rows.socketTimeoutRow.wfByText (OpenSpec.ofChange Rows.socketTimeoutSpec) = true := by kernel_rfl
theorem jhSocketTimeout : Tryz.pinned.checked.prog.mainIs = some (true, "b2c6cf03689f923673a166e8bdb283f7deedaf7a3c8683d1e1c58adc3e56c8eb".toList) := by kernel_rfl
theorem jiSocketTimeout : true = Tryz.pinned.checked.prog.looks [] := by kernel_rfl
theorem jjSocketTimeout : false = Rows.socketTimeoutRow.goesBy Tryz.pinned.checked.prog := by kernel_rfl
theorem jkSocketTimeout : Tryz.prog.funcNamed Rows.socketTimeoutRow.func = some 6 := by kernel_rfl

end Go.Proofs.YtockaipodnapjaaGreatDoor
