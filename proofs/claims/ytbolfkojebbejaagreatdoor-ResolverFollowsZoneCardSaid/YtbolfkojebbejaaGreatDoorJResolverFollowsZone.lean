/- ResolverFollowsZone: the closed facts of its row. Printed by wip/tools/gencard21.py. -/
import Derived.Test.YtbolfkojebbejaaGreatDoorCards
import Derived.JoinedOf
namespace Go.Proofs.YtbolfkojebbejaaGreatDoor
open Go
theorem jfResolverFollowsZone : joinedFacts Tryz.prog 6 Tryz.f6 Rows.resolverFollowsZoneSpec Rows.resolverFollowsZoneRow = true := by kernel_rfl

end Go.Proofs.YtbolfkojebbejaaGreatDoor
