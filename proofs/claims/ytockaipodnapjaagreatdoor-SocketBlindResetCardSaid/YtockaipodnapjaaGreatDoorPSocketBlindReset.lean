/- SocketBlindReset: for every input the call returns true, and each argument reads afterwards as it read before. No condition but what the program's text lays in the listed variables. Printed by wip/tools/gencard21.py. -/
import Derived.Test.YtockaipodnapjaaGreatDoorQSocketBlindReset
import Derived.Test.YtockaipodnapjaaGreatDoorJSocketBlindReset
import Derived.Test.YtockaipodnapjaaGreatDoorKSocketBlindReset
import Derived.Test.YtockaipodnapjaaGreatDoorCards
import Derived.Test.YtockaipodnapjaaGreatDoorTie
import Derived.Test.YtockaipodnapjaaGreatDoorOpn24
import Derived.Test.YtockaipodnapjaaGreatDoorVbw
import Derived.ProofKit
import Derived.LaidMore
import Derived.OpenShut
import Derived.ShutString
import Derived.ChangeOld
import Derived.Stop.Joined
import Derived.SevenTiedAt
namespace Go.Proofs.YtockaipodnapjaaGreatDoor
open Go.ChangeShapes Go.WideShapes Go.ChangeAt Go.RowKit
set_option linter.unusedVariables false
set_option maxRecDepth 100000
theorem socketBlindReset_over : Rows.SocketBlindResetSaid :=
  OpenClaim.holds_of_wide 5 Tryz.f5 rfl rfl rfl rfl rfl rfl rfl ⟨rfl, rfl, rfl, rfl, rfl⟩ rfl rfl rfl rfl rfl (by kernel_rfl) Tryz.func5 jfSocketBlindReset
    (of_decide_eq_true (by kernel_rfl)) (by unfold Func.isWrapper; first | (rw [if_pos (by decide +kernel)]; kernel_rfl) | (rw [if_neg (by decide +kernel)]; exact ⟨rfl, rfl⟩))
    (fun os started H enc _ => socketBlindReset_lifted os started H enc)
theorem socketBlindReset_holds : Rows.SocketBlindResetCardSaid :=
  Claim7.holds_tied_plain_at .later [] [.data, .handle, .sentinel] true (true, "b2c6cf03689f923673a166e8bdb283f7deedaf7a3c8683d1e1c58adc3e56c8eb") true
    socketBlindReset_over (fun _ h => by cases h) jgSocketBlindReset (fun _ h => by cases h) socketBlindReset_row_tie rfl ⟨rfl, rfl⟩ jhSocketBlindReset rfl
    (fun f fn hf hfn => by
      obtain rfl : f = 5 := Option.some.inj (jkSocketBlindReset.symm.trans hf) |>.symm
      obtain rfl : fn = Tryz.f5 := (Option.some.inj (Tryz.func5.symm.trans hfn)).symm
      exact ⟨jiSocketBlindReset, fun j t ht => by
        rw [Tryz.params5] at ht
        have hm : t ∈ [3, 3, 3, 3] := by simpa using Array.mem_of_getElem? ht
        have hall : ([3, 3, 3, 3].all fun u => !Tryz.prog.wantsStandIn u) = true := by kernel_rfl
        exact (show Tryz.prog.wantsStandIn t = false by simpa using List.all_eq_true.1 hall t hm)⟩)
    jjSocketBlindReset
#print axioms socketBlindReset_holds
end Go.Proofs.YtockaipodnapjaaGreatDoor
