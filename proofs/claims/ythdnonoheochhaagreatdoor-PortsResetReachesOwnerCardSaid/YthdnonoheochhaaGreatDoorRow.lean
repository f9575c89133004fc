/- Appends as single operations of a region: onto an empty slice without room, and onto a row that the call owns. No program in sight. -/
import Derived.Test.YthdnonoheochhaaGreatDoorRegH
import Derived.ArgAppend
import Derived.Laws.AppendOwn
namespace Go.Proofs.YthdnonoheochhaaGreatDoor
open Go.RowKit Go.Sort
set_option linter.unusedVariables false
set_option maxRecDepth 100000
theorem below_of_grown {w w' : World} (h : w.grownBy w' none) : Below w.heap.size w w' := ⟨h.os, h.tape, h.output, h.size, fun k hk => h.block k hk (by simp)⟩
section
variable {P : Program} {o : Oper} {a : Act} {w : World} {Q : Exit → Act → World → Prop}
end
end Go.Proofs.YthdnonoheochhaaGreatDoor
