/- Contract of the law's Rules. Printed by wip/tools/gen22k.py. -/
import Derived.Test.YtbolfkojebbejaaGreatDoorBj
import Derived.Test.YtbolfkojebbejaaGreatDoorBb
namespace Go.Proofs.YtbolfkojebbejaaGreatDoor
open Go.RowKit Go.Sort
set_option linter.unusedVariables false
set_option maxRecDepth 100000

def mnF (x y : Int) : Int := min x y
theorem run_mn (x y : Int) (w : World) : (Builtin.min_ #[3, 3] 3 #[.int .i64 x, .int .i64 y]).run Tryz.prog w = .ok (.int .i64 (mnF x y)) w := by
  have e : mnF x y = if y < x then y else x := by unfold mnF; split <;> omega
  rw [e]
  simp [go_sem]
section
attribute [local go_sem ↓] run_mn
end

end Go.Proofs.YtbolfkojebbejaaGreatDoor
