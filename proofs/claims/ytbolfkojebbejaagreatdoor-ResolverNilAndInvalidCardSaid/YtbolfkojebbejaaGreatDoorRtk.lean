/- The resolver's Tick. Printed by wip/tools/gen21k.py. -/
import Derived.Test.YtbolfkojebbejaaGreatDoorRrs
import Derived.Test.YtbolfkojebbejaaGreatDoorBf
namespace Go.Proofs.YtbolfkojebbejaaGreatDoor
open Go.RowKit Go.Sort
set_option linter.unusedVariables false
set_option maxRecDepth 100000

section
variable {now : Int} {z : Rz} {i b : Nat} {k : Lk} {rest : List (Nat × Lk)}
end
end Go.Proofs.YtbolfkojebbejaaGreatDoor
