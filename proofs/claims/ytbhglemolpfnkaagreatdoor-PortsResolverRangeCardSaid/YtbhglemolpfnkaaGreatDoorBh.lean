/- Contracts of the laws' helpers of chapter 20: pick, Name, Rec. -/
import Derived.Test.YtbhglemolpfnkaaGreatDoorBf
import Derived.Test.YtbhglemolpfnkaaGreatDoorBe
set_option linter.unusedVariables false
set_option maxRecDepth 100000
set_option maxHeartbeats 32000000
namespace Go.Proofs.YtbhglemolpfnkaaGreatDoor
end Go.Proofs.YtbhglemolpfnkaaGreatDoor
