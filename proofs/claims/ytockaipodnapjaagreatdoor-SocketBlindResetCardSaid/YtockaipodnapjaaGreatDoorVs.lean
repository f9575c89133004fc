/- A machine of symbolic values: sane() of law 24 is true. -/
import Derived.Test.YtockaipodnapjaaGreatDoorVn
import Derived.Test.YtockaipodnapjaaGreatDoorVf
namespace Go.Proofs.YtockaipodnapjaaGreatDoor
open Go Go.RowKit
set_option linter.unusedVariables false
set_option maxRecDepth 100000
def isT (v : V) : Bool := match v with
  | .bool _ b => b
  | _ => false
theorem sane_run : runF (fun _ => false) ((evF Tryz.prog kofS tblN 400).call 10 [] rt) [] 4 (trM 0 MS .z) [] 0 0 (endW isT 15) = true := by kernel_rfl
end Go.Proofs.YtockaipodnapjaaGreatDoor
