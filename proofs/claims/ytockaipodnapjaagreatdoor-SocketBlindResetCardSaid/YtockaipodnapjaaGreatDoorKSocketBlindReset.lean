/- SocketBlindReset: the closed facts of its card. Printed by wip/tools/gencard24.py. -/
import Derived.Test.YtockaipodnapjaaGreatDoorCards
import Derived.Test.YtockaipodnapjaaGreatDoorTie
import Derived.JoinedOf
import Derived.SevenTiedAt
namespace Go.Proofs.YtockaipodnapjaaGreatDoor
open Go
theorem jgSocketBlindReset : Rows.socketBlindResetRow.wfByText (OpenSpec.ofChange Rows.socketBlindResetSpec) = true := by kernel_rfl
theorem jhSocketBlindReset : Tryz.pinned.checked.prog.mainIs = some (true, "b2c6cf03689f923673a166e8bdb283f7deedaf7a3c8683d1e1c58adc3e56c8eb".toList) := by kernel_rfl
theorem jiSocketBlindReset : true = Tryz.pinned.checked.prog.looks [] := by kernel_rfl
theorem jjSocketBlindReset : false = Rows.socketBlindResetRow.goesBy Tryz.pinned.checked.prog := by kernel_rfl
theorem jkSocketBlindReset : Tryz.prog.funcNamed Rows.socketBlindResetRow.func = some 5 := by kernel_rfl
end Go.Proofs.YtockaipodnapjaaGreatDoor
