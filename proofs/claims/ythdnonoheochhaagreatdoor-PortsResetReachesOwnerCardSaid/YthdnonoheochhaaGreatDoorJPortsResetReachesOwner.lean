/- PortsResetReachesOwner: the closed facts of its row. Printed by wip/tools/gencard21.py. -/
import Derived.Test.YthdnonoheochhaaGreatDoorCards
import Derived.JoinedOf
namespace Go.Proofs.YthdnonoheochhaaGreatDoor
open Go
theorem jaPortsResetReachesOwner : laidOutB Tryz.prog = true := by kernel_rfl
theorem jbPortsResetReachesOwner : mapsRowed Tryz.prog = true := by kernel_rfl
theorem jcPortsResetReachesOwner : (Rows.portsResetReachesOwnerRow.inPlace == Tryz.prog.inPlace 3) = true := by kernel_rfl
theorem jdPortsResetReachesOwner : (Rows.portsResetReachesOwnerRow.unfollowed == Tryz.prog.unfollowed 3) = true := by kernel_rfl
theorem jePortsResetReachesOwner : (Rows.portsResetReachesOwnerRow.recurses == Tryz.prog.recurses 3) = true := by kernel_rfl
theorem jfPortsResetReachesOwner : joinedFacts Tryz.prog 3 Tryz.f3 Rows.portsResetReachesOwnerSpec Rows.portsResetReachesOwnerRow = true := by
  unfold joinedFacts
  rw [jaPortsResetReachesOwner, jbPortsResetReachesOwner, jcPortsResetReachesOwner, jdPortsResetReachesOwner, jePortsResetReachesOwner]
  kernel_rfl
end Go.Proofs.YthdnonoheochhaaGreatDoor
