/- ResolverIgnoresForgedAnswers: for every input the call returns true, and each argument reads afterwards as it read before. No condition but what the program's text lays in the listed variables. Printed by wip/tools/gencard21.py. -/
import Derived.Test.YtbolfkojebbejaaGreatDoorQResolverIgnoresForgedAnswers
import Derived.Test.YtbolfkojebbejaaGreatDoorJResolverIgnoresForgedAnswers
import Derived.Test.YtbolfkojebbejaaGreatDoorCards
import Derived.Test.YtbolfkojebbejaaGreatDoorTie
import Derived.Test.YtbolfkojebbejaaGreatDoorOpn21
import Derived.Test.YtbolfkojebbejaaGreatDoorFgW
import Derived.ProofKit
import Derived.LaidMore
import Derived.OpenShut
import Derived.ShutString
import Derived.ChangeOld
import Derived.Stop.Joined
import Derived.SevenTiedAt
set_option linter.unusedVariables false
set_option maxRecDepth 100000
set_option maxHeartbeats 32000000
namespace Go.Proofs.YtbolfkojebbejaaGreatDoor
open Go.ChangeShapes Go.WideShapes Go.ChangeAt Go.RowKit

theorem resolverIgnoresForgedAnswers_over : Rows.ResolverIgnoresForgedAnswersSaid :=
 OpenClaim.holds_of_wide 8 Tryz.f8 rfl rfl rfl rfl rfl rfl rfl ⟨rfl, rfl, rfl, rfl, rfl⟩ rfl rfl rfl rfl rfl (by kernel_rfl) Tryz.func8 jfResolverIgnoresForgedAnswers
  (of_decide_eq_true (by kernel_rfl)) (by unfold Func.isWrapper; first | (rw [if_pos (by decide +kernel)]; kernel_rfl) | (rw [if_neg (by decide +kernel)]; exact ⟨rfl, rfl⟩))
  (fun os started H enc _ => resolverIgnoresForgedAnswers_lifted os started H enc)

theorem resolverIgnoresForgedAnswers_holds : Rows.ResolverIgnoresForgedAnswersCardSaid :=
 Claim7.holds_tied_plain_at .later [] [.handle, .sentinel] true (true, "961f243fc896834c2dd06fc356a9cce6b50a719b0844cd31c5a42f0f00c1376d") true
  resolverIgnoresForgedAnswers_over (fun _ h => by cases h) (by kernel_rfl) (fun _ h => by cases h) resolverIgnoresForgedAnswers_row_tie rfl ⟨rfl, rfl⟩ (by kernel_rfl) rfl
  (fun f fn hf hfn => by
   obtain rfl : f = 8 := Option.some.inj ((show Tryz.prog.funcNamed Rows.resolverIgnoresForgedAnswersRow.func = some 8 by kernel_rfl).symm.trans hf) |>.symm
   obtain rfl : fn = Tryz.f8 := (Option.some.inj (Tryz.func8.symm.trans hfn)).symm
   exact ⟨by kernel_rfl, fun j t ht => by
    rw [Tryz.params8] at ht
    have hm : t ∈ [3, 3, 90, 3, 78] := by simpa using Array.mem_of_getElem? ht
    have hall : ([3, 3, 90, 3, 78].all fun u => !Tryz.prog.wantsStandIn u) = true := by kernel_rfl
    exact (show Tryz.prog.wantsStandIn t = false by simpa using List.all_eq_true.1 hall t hm)⟩)
  (by kernel_rfl)

#print axioms resolverIgnoresForgedAnswers_holds

end Go.Proofs.YtbolfkojebbejaaGreatDoor
