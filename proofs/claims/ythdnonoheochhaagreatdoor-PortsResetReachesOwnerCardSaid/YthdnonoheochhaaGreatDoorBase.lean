/- Plain helpers for the walks: worlds that only grow, cells that stay, masks of low bits. No program in sight. -/
import Derived.WalkKit
import Derived.Lib.Hide
import Derived.Deep.QuietTactic
import Derived.BigQuiet
import Derived.Lib.QuietBelow
namespace Go.Proofs.YthdnonoheochhaaGreatDoor
open Go.RowKit Go.Sort
theorem keep {w w' : World} {a : Addr} {v : Value} (hb : Below w.heap.size w w') (h : w.cell? a = some v) : w'.cell? a = some v := by
  rw [hb.cell (block_lt_of_cell h)]; exact h
theorem below_mid {w W w' : World} (h : Below w.heap.size w W) (h' : Below W.heap.size W w') : Below w.heap.size w w' := h.trans (h'.mono h.size)
end Go.Proofs.YthdnonoheochhaaGreatDoor
