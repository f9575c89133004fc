/- PortsResetReachesOwner: for every input the call returns true, and each argument reads afterwards as it read before. No condition but what the program's text lays in the listed variables. Printed by wip/tools/gencard21.py. -/
import Derived.Test.YthdnonoheochhaaGreatDoorQPortsResetReachesOwner
import Derived.Test.YthdnonoheochhaaGreatDoorJPortsResetReachesOwner
import Derived.Test.YthdnonoheochhaaGreatDoorKPortsResetReachesOwner
import Derived.Test.YthdnonoheochhaaGreatDoorCards
import Derived.Test.YthdnonoheochhaaGreatDoorTie
import Derived.Test.YthdnonoheochhaaGreatDoorOpn25
import Derived.Test.YthdnonoheochhaaGreatDoorVpw
import Derived.ProofKit
import Derived.LaidMore
import Derived.OpenShut
import Derived.ShutString
import Derived.ChangeOld
import Derived.Stop.Joined
import Derived.SevenTiedAt
namespace Go.Proofs.YthdnonoheochhaaGreatDoor
open Go.ChangeShapes Go.WideShapes Go.ChangeAt Go.RowKit
set_option linter.unusedVariables false
set_option maxRecDepth 100000
theorem portsResetReachesOwner_over : Rows.PortsResetReachesOwnerSaid :=
  OpenClaim.holds_of_wide 3 Tryz.f3 rfl rfl rfl rfl rfl rfl rfl ⟨rfl, rfl, rfl, rfl, rfl⟩ rfl rfl rfl rfl rfl (by kernel_rfl) Tryz.func3 jfPortsResetReachesOwner
    (of_decide_eq_true (by kernel_rfl)) (by unfold Func.isWrapper; first | (rw [if_pos (by decide +kernel)]; kernel_rfl) | (rw [if_neg (by decide +kernel)]; exact ⟨rfl, rfl⟩))
    (fun os started H enc _ => portsResetReachesOwner_lifted os started H enc)
theorem portsResetReachesOwner_holds : Rows.PortsResetReachesOwnerCardSaid :=
  Claim7.holds_tied_plain_at .later [] [.data, .sentinel] true (true, "eea05f628e2dede205ee437ecbbe41721b0472ba273220490a80b6d08047ae5e") true
    portsResetReachesOwner_over (fun _ h => by cases h) jgPortsResetReachesOwner (fun _ h => by cases h) portsResetReachesOwner_row_tie rfl ⟨rfl, rfl⟩ jhPortsResetReachesOwner rfl
    (fun f fn hf hfn => by
      obtain rfl : f = 3 := Option.some.inj (jkPortsResetReachesOwner.symm.trans hf) |>.symm
      obtain rfl : fn = Tryz.f3 := (Option.some.inj (Tryz.func3.symm.trans hfn)).symm
      exact ⟨jiPortsResetReachesOwner, fun j t ht => by
        rw [Tryz.params3] at ht
        have hm : t ∈ [3, 22, 5, 5] := by simpa using Array.mem_of_getElem? ht
        have hall : ([3, 22, 5, 5].all fun u => !Tryz.prog.wantsStandIn u) = true := by kernel_rfl
        exact (show Tryz.prog.wantsStandIn t = false by simpa using List.all_eq_true.1 hall t hm)⟩)
    jjPortsResetReachesOwner
#print axioms portsResetReachesOwner_holds
end Go.Proofs.YthdnonoheochhaaGreatDoor
