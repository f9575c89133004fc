/- ResolverNilAndInvalid: the closed facts of its row. Printed by wip/tools/gencard21.py. -/
import Derived.Test.YtbolfkojebbejaaGreatDoorCards
import Derived.JoinedOf
namespace Go.Proofs.YtbolfkojebbejaaGreatDoor
open Go
theorem jfResolverNilAndInvalid : joinedFacts Tryz.prog 10 Tryz.f10 Rows.resolverNilAndInvalidSpec Rows.resolverNilAndInvalidRow = true := by kernel_rfl

end Go.Proofs.YtbolfkojebbejaaGreatDoor
