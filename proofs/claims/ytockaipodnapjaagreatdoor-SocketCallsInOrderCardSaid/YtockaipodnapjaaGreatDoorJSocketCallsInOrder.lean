/- SocketCallsInOrder: the closed facts of its row. Printed by wip/tools/gencard21.py. -/
import Derived.Test.YtockaipodnapjaaGreatDoorCards
import Derived.JoinedOf
namespace Go.Proofs.YtockaipodnapjaaGreatDoor
open Go
theorem jaSocketCallsInOrder : laidOutB Tryz.prog = true := by kernel_rfl
theorem jbSocketCallsInOrder : mapsRowed Tryz.prog = true := by kernel_rfl
theorem jcSocketCallsInOrder : (Rows.socketCallsInOrderRow.inPlace == Tryz.prog.inPlace 3) = true := by kernel_rfl
theorem jdSocketCallsInOrder : (Rows.socketCallsInOrderRow.unfollowed == Tryz.prog.unfollowed 3) = true := by kernel_rfl
theorem jeSocketCallsInOrder : (Rows.socketCallsInOrderRow.recurses == Tryz.prog.recurses 3) = true := by kernel_rfl
theorem jfSocketCallsInOrder : joinedFacts Tryz.prog 3 Tryz.f3 Rows.socketCallsInOrderSpec Rows.socketCallsInOrderRow = true := by
  unfold joinedFacts
  rw [jaSocketCallsInOrder, jbSocketCallsInOrder, jcSocketCallsInOrder, jdSocketCallsInOrder, jeSocketCallsInOrder]
  kernel_rfl
end Go.Proofs.YtockaipodnapjaaGreatDoor
