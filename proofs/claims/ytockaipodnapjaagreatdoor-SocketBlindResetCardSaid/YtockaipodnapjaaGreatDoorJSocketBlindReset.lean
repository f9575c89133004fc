/- SocketBlindReset: the closed facts of its row. Printed by wip/tools/gencard21.py. -/
import Derived.Test.YtockaipodnapjaaGreatDoorCards
import Derived.JoinedOf
namespace Go.Proofs.YtockaipodnapjaaGreatDoor
open Go
theorem jaSocketBlindReset : laidOutB Tryz.prog = true := by kernel_rfl
theorem jbSocketBlindReset : mapsRowed Tryz.prog = true := by kernel_rfl
theorem jcSocketBlindReset : (Rows.socketBlindResetRow.inPlace == Tryz.prog.inPlace 5) = true := by kernel_rfl
theorem jdSocketBlindReset : (Rows.socketBlindResetRow.unfollowed == Tryz.prog.unfollowed 5) = true := by kernel_rfl
theorem jeSocketBlindReset : (Rows.socketBlindResetRow.recurses == Tryz.prog.recurses 5) = true := by kernel_rfl
theorem jfSocketBlindReset : joinedFacts Tryz.prog 5 Tryz.f5 Rows.socketBlindResetSpec Rows.socketBlindResetRow = true := by
  unfold joinedFacts
  rw [jaSocketBlindReset, jbSocketBlindReset, jcSocketBlindReset, jdSocketBlindReset, jeSocketBlindReset]
  kernel_rfl
end Go.Proofs.YtockaipodnapjaaGreatDoor
