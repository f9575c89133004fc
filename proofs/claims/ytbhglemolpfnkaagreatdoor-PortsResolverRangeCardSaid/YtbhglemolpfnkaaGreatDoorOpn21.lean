/- What the cards of the resolver's rows lay: the cells of the package variables. -/
import Derived.Test.YtbhglemolpfnkaaGreatDoorBn
import Derived.Test.YtbhglemolpfnkaaGreatDoorCards
import Derived.Test.YtbhglemolpfnkaaGreatDoorTie
import Derived.ProofKit
import Derived.LaidMore
import Derived.ChangeSame
import Derived.ChangeVars
import Derived.LaidLaws
import Derived.LaidHandle
import Derived.Stop.ErrReads
import Derived.Stop.LaidErr
import Derived.JoinedOf
import Derived.Lay
import Derived.MakeChecks
set_option linter.unusedVariables false
set_option maxRecDepth 100000
set_option maxHeartbeats 32000000
namespace Go.Proofs.YtbhglemolpfnkaaGreatDoor
open Go.RowKit

theorem gEt : Tryz.prog.globalNamed "errors.errorType" = some 1 := by kernel_rfl
theorem rtEt : (Tryz.prog.cutTypes.find? (·.1 == "internal/reflectlite.rtype")).map (·.2) = some 281 := by kernel_rfl
theorem oneEt : ((List.range 348).filter fun t => Tryz.prog.rowNamed t [101, 114, 114, 111, 114]) = [165] := by kernel_rfl
theorem sizeEt : Tryz.prog.types.size = 348 := by kernel_rfl
theorem handle_ert {W : World} {l : List (String × DataW Unit)} (h : handlesMet Tryz.prog l W) (hm : ("errors.errorType", Rows.laid_errors_errorType) ∈ l) : W.cell? ⟨ertG, 0, none⟩ = some ertV := by
 obtain ⟨name, u, ty, e1, e2, e3, e4, e5⟩ := h _ hm
 have en : name = [101, 114, 114, 111, 114] := (Option.some.inj e1).symm
 subst en
 obtain rfl := Option.some.inj (rtEt.symm.trans e2)
 have hm : ty ∈ (List.range 348).filter fun t => Tryz.prog.rowNamed t [101, 114, 114, 111, 114] := List.mem_filter.2 ⟨List.mem_range.2 (by rw [← sizeEt]; exact e3), e4⟩
 rw [oneEt] at hm
 obtain rfl := List.mem_singleton.1 hm
 have hh : typeHandle Tryz.prog 165 = .pointer (some ⟨3, 165, none⟩) := by kernel_rfl
 rw [hh] at e5
 simpa using World.var?_cell gEt e5 0
theorem of_laid1 {W : World} (h : laidMetH Tryz.prog [("errors.errorType", Rows.laid_errors_errorType)] W) : W.cell? ⟨ertG, 0, none⟩ = some ertV := by
 have h' : laidMet Tryz.prog [] W ∧ handlesMet Tryz.prog [("errors.errorType", Rows.laid_errors_errorType)] W := h
 exact handle_ert h'.2 (List.mem_singleton.2 rfl)
theorem door_met1 (os : Os) (args : Array Value) : laidMetH Tryz.prog [("errors.errorType", Rows.laid_errors_errorType)] ((World.doorLaid Tryz.prog 400 os).forCall (fun _ _ => 0) ⟨#[], args, []⟩).memory :=
 laidMetH_of_parts3 (fuel := 8) (laidMet_of_run' 8 (by kernel_rfl) (by kernel_rfl)) (by kernel_rfl) (by kernel_rfl)

section
open Go.Extern.Stop Go.Stop Go.Extern
end

theorem wf_i64 {n : Int} (h : (Lit.int .i64 n).wf = true) : -9223372036854775808 ≤ n ∧ n ≤ 9223372036854775807 := by
 simpa [Lit.wf, IntKind.min, IntKind.max, IntKind.signed, IntKind.bits] using h

end Go.Proofs.YtbhglemolpfnkaaGreatDoor
