/- SocketDatagrams: the closed facts of its row. Printed by wip/tools/gencard21.py. -/
import Derived.Test.YtockaipodnapjaaGreatDoorCards
import Derived.JoinedOf
namespace Go.Proofs.YtockaipodnapjaaGreatDoor
open Go
theorem jaSocketDatagrams : laidOutB Tryz.prog = true := by kernel_rfl
theorem jbSocketDatagrams : mapsRowed Tryz.prog = true := by kernel_rfl
theorem jcSocketDatagrams : (Rows.socketDatagramsRow.inPlace == Tryz.prog.inPlace 4) = true := by kernel_rfl
theorem jdSocketDatagrams : (Rows.socketDatagramsRow.unfollowed == Tryz.prog.unfollowed 4) = true := by kernel_rfl
theorem jeSocketDatagrams : (Rows.socketDatagramsRow.recurses == Tryz.prog.recurses 4) = true := by kernel_rfl
theorem jfSocketDatagrams : joinedFacts Tryz.prog 4 Tryz.f4 Rows.socketDatagramsSpec Rows.socketDatagramsRow = true := by
  unfold joinedFacts
  rw [jaSocketDatagrams, jbSocketDatagrams, jcSocketDatagrams, jdSocketDatagrams, jeSocketDatagrams]
  kernel_rfl

end Go.Proofs.YtockaipodnapjaaGreatDoor
