/- SocketPortsExclusive: the closed facts of its row. Printed by wip/tools/gencard21.py. -/
import Derived.Test.YtockaipodnapjaaGreatDoorCards
import Derived.JoinedOf
namespace Go.Proofs.YtockaipodnapjaaGreatDoor
open Go
theorem jaSocketPortsExclusive : laidOutB Tryz.prog = true := by kernel_rfl
theorem jbSocketPortsExclusive : mapsRowed Tryz.prog = true := by kernel_rfl
theorem jcSocketPortsExclusive : (Rows.socketPortsExclusiveRow.inPlace == Tryz.prog.inPlace 7) = true := by kernel_rfl
theorem jdSocketPortsExclusive : (Rows.socketPortsExclusiveRow.unfollowed == Tryz.prog.unfollowed 7) = true := by kernel_rfl
theorem jeSocketPortsExclusive : (Rows.socketPortsExclusiveRow.recurses == Tryz.prog.recurses 7) = true := by kernel_rfl
theorem jfSocketPortsExclusive : joinedFacts Tryz.prog 7 Tryz.f7 Rows.socketPortsExclusiveSpec Rows.socketPortsExclusiveRow = true := by
  unfold joinedFacts
  rw [jaSocketPortsExclusive, jbSocketPortsExclusive, jcSocketPortsExclusive, jdSocketPortsExclusive, jeSocketPortsExclusive]
  kernel_rfl

end Go.Proofs.YtockaipodnapjaaGreatDoor
