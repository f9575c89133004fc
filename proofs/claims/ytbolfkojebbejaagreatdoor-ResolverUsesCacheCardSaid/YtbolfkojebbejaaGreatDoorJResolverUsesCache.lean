/- ResolverUsesCache: the closed facts of its row. Printed by wip/tools/gencard21.py. -/
import Derived.Test.YtbolfkojebbejaaGreatDoorCards
import Derived.JoinedOf
set_option linter.unusedVariables false
set_option maxRecDepth 100000
set_option maxHeartbeats 32000000
namespace Go.Proofs.YtbolfkojebbejaaGreatDoor
open Go
theorem jfResolverUsesCache : joinedFacts Tryz.prog 4 Tryz.f4 Rows.resolverUsesCacheSpec Rows.resolverUsesCacheRow = true := by kernel_rfl

end Go.Proofs.YtbolfkojebbejaaGreatDoor
