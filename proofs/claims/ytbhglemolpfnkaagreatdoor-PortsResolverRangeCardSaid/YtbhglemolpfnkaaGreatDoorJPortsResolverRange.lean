/- PortsResolverRange: the closed facts of its row. Printed by wip/tools/gencard21.py. -/
import Derived.Test.YtbhglemolpfnkaaGreatDoorCards
import Derived.JoinedOf
set_option linter.unusedVariables false
set_option maxRecDepth 100000
set_option maxHeartbeats 32000000
namespace Go.Proofs.YtbhglemolpfnkaaGreatDoor
open Go
theorem jaPortsResolverRange : laidOutB Tryz.prog = true := by kernel_rfl
theorem jbPortsResolverRange : mapsRowed Tryz.prog = true := by kernel_rfl
theorem jcPortsResolverRange : (Rows.portsResolverRangeRow.inPlace == Tryz.prog.inPlace 3) = true := by kernel_rfl
theorem jdPortsResolverRange : (Rows.portsResolverRangeRow.unfollowed == Tryz.prog.unfollowed 3) = true := by kernel_rfl
theorem jePortsResolverRange : (Rows.portsResolverRangeRow.recurses == Tryz.prog.recurses 3) = true := by kernel_rfl
theorem jfPortsResolverRange : joinedFacts Tryz.prog 3 Tryz.f3 Rows.portsResolverRangeSpec Rows.portsResolverRangeRow = true := by
 unfold joinedFacts
 rw [jaPortsResolverRange, jbPortsResolverRange, jcPortsResolverRange, jdPortsResolverRange, jePortsResolverRange]
 kernel_rfl

end Go.Proofs.YtbhglemolpfnkaaGreatDoor
