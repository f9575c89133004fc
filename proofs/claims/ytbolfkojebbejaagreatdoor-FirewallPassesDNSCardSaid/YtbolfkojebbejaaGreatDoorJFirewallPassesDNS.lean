/- FirewallPassesDNS: the closed facts of its row. Printed by wip/tools/gencard21.py. -/
import Derived.Test.YtbolfkojebbejaaGreatDoorCards
import Derived.JoinedOf
namespace Go.Proofs.YtbolfkojebbejaaGreatDoor
open Go
theorem jfFirewallPassesDNS : joinedFacts Tryz.prog 3 Tryz.f3 Rows.firewallPassesDNSSpec Rows.firewallPassesDNSRow = true := by kernel_rfl

end Go.Proofs.YtbolfkojebbejaaGreatDoor
