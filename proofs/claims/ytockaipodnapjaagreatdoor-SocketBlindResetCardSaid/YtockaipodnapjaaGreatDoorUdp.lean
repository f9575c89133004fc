/- Package udp: Encode at any valid datagram, and Decode at what Encode wrote. Printed by wip/tools/gen23I.py. -/
import Derived.Shelf.Strings.OnBuilder
import Derived.Test.YtockaipodnapjaaGreatDoorProg
import Derived.Test.YtockaipodnapjaaGreatDoorCks
import Derived.Test.YtockaipodnapjaaGreatDoorOwnH
namespace Go.Proofs.YtockaipodnapjaaGreatDoor
open Go.RowKit Go.Sort
set_option linter.unusedVariables false
set_option maxRecDepth 100000
attribute [local go_sem] Oper.semAt_some
def bS (k : Nat) (n : Int) : ByteArray := ⟨(beN k n).toArray⟩
def enU (fr to : Int) : ByteArray := bS 4 fr ++ bS 4 to
def hdU (fp tp : Int) (s : ByteArray) : ByteArray := bS 2 fp ++ bS 2 tp ++ bS 2 (8 + (s.size : Int))
def ptU (fr to fp tp : Int) (s : ByteArray) : List ByteArray := [enU fr to, bS 1 0, bS 1 17, bS 2 (8 + (s.size : Int)), hdU fp tp s, bS 2 0, s]
def jnU (fr to fp tp : Int) (s : ByteArray) : ByteArray := ⟨(Lib.join ((ptU fr to fp tp s).map (·.data.toList)) (⟨#[]⟩ : ByteArray).data.toList).toArray⟩
def encU (fr to fp tp : Int) (s : ByteArray) : ByteArray := hdU fp tp s ++ bS 2 (ckF (jnU fr to fp tp s)) ++ s
end Go.Proofs.YtockaipodnapjaaGreatDoor
