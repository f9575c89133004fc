/- SocketCloseCompletesCalls: the closed facts of its row. Printed by wip/tools/gencard21.py. -/
import Derived.Test.YtockaipodnapjaaGreatDoorCards
import Derived.JoinedOf
namespace Go.Proofs.YtockaipodnapjaaGreatDoor
open Go
theorem jaSocketCloseCompletesCalls : laidOutB Tryz.prog = true := by kernel_rfl
theorem jbSocketCloseCompletesCalls : mapsRowed Tryz.prog = true := by kernel_rfl
theorem jcSocketCloseCompletesCalls : (Rows.socketCloseCompletesCallsRow.inPlace == Tryz.prog.inPlace 8) = true := by kernel_rfl
theorem jdSocketCloseCompletesCalls : (Rows.socketCloseCompletesCallsRow.unfollowed == Tryz.prog.unfollowed 8) = true := by kernel_rfl
theorem jeSocketCloseCompletesCalls : (Rows.socketCloseCompletesCallsRow.recurses == Tryz.prog.recurses 8) = true := by kernel_rfl
theorem jfSocketCloseCompletesCalls : joinedFacts Tryz.prog 8 Tryz.f8 Rows.socketCloseCompletesCallsSpec Rows.socketCloseCompletesCallsRow = true := by
  unfold joinedFacts
  rw [jaSocketCloseCompletesCalls, jbSocketCloseCompletesCalls, jcSocketCloseCompletesCalls, jdSocketCloseCompletesCalls, jeSocketCloseCompletesCalls]
  kernel_rfl

end Go.Proofs.YtockaipodnapjaaGreatDoor
