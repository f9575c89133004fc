/- Contracts of the laws' helpers of chapter 20: pick, Name, Rec. Printed by wip/tools/gen20n.py. Contracts of the laws' helpers of chapter 20: programDo, made. Printed by wip/tools/gen20o.py. Contract of made of chapter 20. Printed by wip/tools/gen20p.py. -/
import Derived.Test.YtbolfkojebbejaaGreatDoorBf
import Derived.Test.YtbolfkojebbejaaGreatDoorBe
namespace Go.Proofs.YtbolfkojebbejaaGreatDoor
open Go.RowKit Go.Sort
set_option linter.unusedVariables false
set_option maxRecDepth 100000

end Go.Proofs.YtbolfkojebbejaaGreatDoor

namespace Go.Proofs.YtbolfkojebbejaaGreatDoor
open Go.RowKit Go.Sort
set_option linter.unusedVariables false
set_option maxRecDepth 100000

end Go.Proofs.YtbolfkojebbejaaGreatDoor

namespace Go.Proofs.YtbolfkojebbejaaGreatDoor
open Go.RowKit Go.Sort
set_option linter.unusedVariables false
set_option maxRecDepth 100000

end Go.Proofs.YtbolfkojebbejaaGreatDoor
