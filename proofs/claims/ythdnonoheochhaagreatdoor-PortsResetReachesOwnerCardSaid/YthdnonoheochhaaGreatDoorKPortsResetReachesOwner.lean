/- PortsResetReachesOwner: the closed facts of its card. Printed by wip/tools/gencard24.py. -/
import Derived.Test.YthdnonoheochhaaGreatDoorCards
import Derived.Test.YthdnonoheochhaaGreatDoorTie
import Derived.JoinedOf
import Derived.SevenTiedAt
namespace Go.Proofs.YthdnonoheochhaaGreatDoor
open Go
theorem jgPortsResetReachesOwner : Rows.portsResetReachesOwnerRow.wfByText (OpenSpec.ofChange Rows.portsResetReachesOwnerSpec) = true := by kernel_rfl
theorem jhPortsResetReachesOwner : Tryz.pinned.checked.prog.mainIs = some (true, "eea05f628e2dede205ee437ecbbe41721b0472ba273220490a80b6d08047ae5e".toList) := by kernel_rfl
theorem jiPortsResetReachesOwner : true = Tryz.pinned.checked.prog.looks [] := by kernel_rfl
theorem jjPortsResetReachesOwner : false = Rows.portsResetReachesOwnerRow.goesBy Tryz.pinned.checked.prog := by kernel_rfl
theorem jkPortsResetReachesOwner : Tryz.prog.funcNamed Rows.portsResetReachesOwnerRow.func = some 3 := by kernel_rfl
end Go.Proofs.YthdnonoheochhaaGreatDoor
