/- A rule as an element of a row. -/
import Derived.Test.YtjngfhgcifhioaaFdat
namespace Go.Proofs.Ytjngfhgcifhioaa
open Go.RowKit Go.Sort
set_option linter.unusedVariables false
set_option maxRecDepth 100000

theorem run_bsRl (a : Bool) (b c d e f : Int) (g : Bool) (w : World) : (Instr.buildSlice 68 1 #[(0, .agg #[.bool a, .int .i64 b, .int .i64 c, .int .i64 d, .int .i64 e, .int .i64 f, .bool g])]).run Try.prog w = .ok (.slice (some ⟨w.heap.size, 0, none⟩) 1 1) (w.alloc (.cells #[.bool a, .int .i64 b, .int .i64 c, .int .i64 d, .int .i64 e, .int .i64 f, .bool g] 74)) := by kernel_rfl
theorem infoRl : (Try.prog.info? 74).map (fun i => (i.zero, i.size, i.bytes)) = some (some (.agg #[.bool false, .int .i64 0, .int .i64 0, .int .i64 0, .int .i64 0, .int .i64 0, .bool false]), 7, 56) := by kernel_rfl
theorem oneRl (a : Bool) (b c d e f : Int) (g : Bool) : ∀ u ∈ ([.bool a, .int .i64 b, .int .i64 c, .int .i64 d, .int .i64 e, .int .i64 f, .bool g] : List Value), u.oneCell' = true := by
  intro u hu; simp at hu; rcases hu with h | h | h | h | h | h | h <;> (subst h; rfl)

end Go.Proofs.Ytjngfhgcifhioaa
