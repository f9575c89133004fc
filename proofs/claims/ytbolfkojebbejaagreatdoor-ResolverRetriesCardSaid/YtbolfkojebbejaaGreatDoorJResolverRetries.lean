/- ResolverRetries: the closed facts of its row. Printed by wip/tools/gencard21.py. -/
import Derived.Test.YtbolfkojebbejaaGreatDoorCards
import Derived.JoinedOf
namespace Go.Proofs.YtbolfkojebbejaaGreatDoor
open Go
theorem jfResolverRetries : joinedFacts Tryz.prog 7 Tryz.f7 Rows.resolverRetriesSpec Rows.resolverRetriesRow = true := by kernel_rfl

end Go.Proofs.YtbolfkojebbejaaGreatDoor
