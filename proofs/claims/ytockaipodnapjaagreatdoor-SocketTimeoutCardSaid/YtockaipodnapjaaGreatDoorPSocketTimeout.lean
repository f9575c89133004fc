/- SocketTimeout: for every input the call returns true, and each argument reads afterwards as it read before. No condition but what the program's text lays in the listed variables. Printed by wip/tools/gencard21.py. -/
import Derived.Test.YtockaipodnapjaaGreatDoorQSocketTimeout
import Derived.Test.YtockaipodnapjaaGreatDoorJSocketTimeout
import Derived.Test.YtockaipodnapjaaGreatDoorKSocketTimeout
import Derived.Test.YtockaipodnapjaaGreatDoorCards
import Derived.Test.YtockaipodnapjaaGreatDoorTie
import Derived.Test.YtockaipodnapjaaGreatDoorOpn24
import Derived.Test.YtockaipodnapjaaGreatDoorVtw
import Derived.ProofKit
import Derived.LaidMore
import Derived.OpenShut
import Derived.ShutString
import Derived.ChangeOld
import Derived.Stop.Joined
import Derived.SevenTiedAt
namespace Go.Proofs.YtockaipodnapjaaGreatDoor
open Go.ChangeShapes Go.WideShapes Go.ChangeAt Go.RowKit
set_option linter.unusedVariables false
set_option maxRecDepth 100000

theorem socketTimeout_over : Rows.SocketTimeoutSaid :=
  OpenClaim.holds_of_wide 6 Tryz.f6 rfl rfl rfl rfl rfl rfl rfl ⟨rfl, rfl, rfl, rfl, rfl⟩ rfl rfl rfl rfl rfl (by kernel_rfl) Tryz.func6 jfSocketTimeout
    (of_decide_eq_true (by kernel_rfl)) (by unfold Func.isWrapper; first | (rw [if_pos (by decide +kernel)]; kernel_rfl) | (rw [if_neg (by decide +kernel)]; exact ⟨rfl, rfl⟩))
    (fun os started H enc _ => socketTimeout_lifted os started H enc)

theorem socketTimeout_holds : Rows.SocketTimeoutCardSaid :=
  Claim7.holds_tied_plain_at .later [] [.data, .handle, .sentinel] true (true, "b2c6cf03689f923673a166e8bdb283f7deedaf7a3c8683d1e1c58adc3e56c8eb") true
    socketTimeout_over (fun _ h => by cases h) jgSocketTimeout (fun _ h => by cases h) socketTimeout_row_tie rfl ⟨rfl, rfl⟩ jhSocketTimeout rfl
    (fun f fn hf hfn => by
      obtain rfl : f = 6 := Option.some.inj (jkSocketTimeout.symm.trans hf) |>.symm
      obtain rfl : fn = Tryz.f6 := (Option.some.inj (Tryz.func6.symm.trans hfn)).symm
      exact ⟨jiSocketTimeout, fun j t ht => by
        rw [Tryz.params6] at ht
        have hm : t ∈ [3, 3, 4] := by simpa using Array.mem_of_getElem? ht
        have hall : ([3, 3, 4].all fun u => !Tryz.prog.wantsStandIn u) = true := by kernel_rfl
        exact (show Tryz.prog.wantsStandIn t = false by simpa using List.all_eq_true.1 hall t hm)⟩)
    jjSocketTimeout

#print axioms socketTimeout_holds

end Go.Proofs.YtockaipodnapjaaGreatDoor
