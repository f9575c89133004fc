/- PortsResolverRange: for every input the call returns true, and each argument reads afterwards as it read before. No condition but what the program's text lays in the listed variables. Printed by wip/tools/gencard21.py. -/
import Derived.Test.YtbhglemolpfnkaaGreatDoorQPortsResolverRange
import Derived.Test.YtbhglemolpfnkaaGreatDoorJPortsResolverRange
import Derived.Test.YtbhglemolpfnkaaGreatDoorCards
import Derived.Test.YtbhglemolpfnkaaGreatDoorTie
import Derived.Test.YtbhglemolpfnkaaGreatDoorOpn21
import Derived.Test.YtbhglemolpfnkaaGreatDoorPrW
import Derived.ProofKit
import Derived.LaidMore
import Derived.OpenShut
import Derived.ShutString
import Derived.ChangeOld
import Derived.Stop.Joined
import Derived.SevenTiedAt
set_option linter.unusedVariables false
set_option maxRecDepth 100000
set_option maxHeartbeats 32000000
namespace Go.Proofs.YtbhglemolpfnkaaGreatDoor
open Go.ChangeShapes Go.WideShapes Go.ChangeAt Go.RowKit

theorem portsResolverRange_over : Rows.PortsResolverRangeSaid :=
 OpenClaim.holds_of_wide 3 Tryz.f3 rfl rfl rfl rfl rfl rfl rfl ⟨rfl, rfl, rfl, rfl, rfl⟩ rfl rfl rfl rfl rfl (by kernel_rfl) Tryz.func3 jfPortsResolverRange
  (of_decide_eq_true (by kernel_rfl)) (by unfold Func.isWrapper; first | (rw [if_pos (by decide +kernel)]; kernel_rfl) | (rw [if_neg (by decide +kernel)]; exact ⟨rfl, rfl⟩))
  (fun os started H enc _ => portsResolverRange_lifted os started H enc)

theorem portsResolverRange_holds : Rows.PortsResolverRangeCardSaid :=
 Claim7.holds_tied_plain_at .later [] [.handle] true (true, "b88b8ca5b6c5fdfabc57fde22acad724ae5f8771f068b4865f2dd46aa722a1d9") true
  portsResolverRange_over (fun _ h => by cases h) (by kernel_rfl) (fun _ h => by cases h) portsResolverRange_row_tie rfl ⟨rfl, rfl⟩ (by kernel_rfl) rfl
  (fun f fn hf hfn => by
   obtain rfl : f = 3 := Option.some.inj ((show Tryz.prog.funcNamed Rows.portsResolverRangeRow.func = some 3 by kernel_rfl).symm.trans hf) |>.symm
   obtain rfl : fn = Tryz.f3 := (Option.some.inj (Tryz.func3.symm.trans hfn)).symm
   exact ⟨by kernel_rfl, fun j t ht => by
    rw [Tryz.params3] at ht
    have hm : t ∈ [3, 3, 5] := by simpa using Array.mem_of_getElem? ht
    have hall : ([3, 3, 5].all fun u => !Tryz.prog.wantsStandIn u) = true := by kernel_rfl
    exact (show Tryz.prog.wantsStandIn t = false by simpa using List.all_eq_true.1 hall t hm)⟩)
  (by kernel_rfl)

#print axioms portsResolverRange_holds

end Go.Proofs.YtbhglemolpfnkaaGreatDoor
