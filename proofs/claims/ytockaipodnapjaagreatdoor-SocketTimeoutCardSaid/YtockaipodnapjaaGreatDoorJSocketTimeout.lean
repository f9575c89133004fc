/- SocketTimeout: the closed facts of its row. Printed by wip/tools/gencard21.py. -/
import Derived.Test.YtockaipodnapjaaGreatDoorCards
import Derived.JoinedOf
namespace Go.Proofs.YtockaipodnapjaaGreatDoor
open Go
theorem jaSocketTimeout : laidOutB Tryz.prog = true := by kernel_rfl
theorem jbSocketTimeout : mapsRowed Tryz.prog = true := by kernel_rfl
theorem jcSocketTimeout : (Rows.socketTimeoutRow.inPlace == Tryz.prog.inPlace 6) = true := by kernel_rfl
theorem jdSocketTimeout : (Rows.socketTimeoutRow.unfollowed == Tryz.prog.unfollowed 6) = true := by kernel_rfl
theorem jeSocketTimeout : (Rows.socketTimeoutRow.recurses == Tryz.prog.recurses 6) = true := by kernel_rfl
theorem jfSocketTimeout : joinedFacts Tryz.prog 6 Tryz.f6 Rows.socketTimeoutSpec Rows.socketTimeoutRow = true := by
  unfold joinedFacts
  rw [jaSocketTimeout, jbSocketTimeout, jcSocketTimeout, jdSocketTimeout, jeSocketTimeout]
  kernel_rfl

end Go.Proofs.YtockaipodnapjaaGreatDoor
