/- Contract of Quoted. Printed by wip/tools/gen22i.py. -/
import Derived.Test.YtjngfhgcifhioaaFw8
namespace Go.Proofs.Ytjngfhgcifhioaa
open Go.RowKit Go.Sort
set_option linter.unusedVariables false
set_option maxRecDepth 100000

def quoF (now : Int) (x : Fl) (m : List (FK × Us)) : Bool := validF x && (getU (keyF x) (expF now m)).isSome
section
variable {w0 w : World} {D : Nat → Prop} {L : List Res} {f : Nat} {st : FSt}
end

end Go.Proofs.Ytjngfhgcifhioaa
