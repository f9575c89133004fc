/- What the cards of the resolver's rows lay: the cells of the package variables. -/
import Derived.Test.YtbolfkojebbejaaGreatDoorBn
import Derived.Test.YtbolfkojebbejaaGreatDoorCards
import Derived.Test.YtbolfkojebbejaaGreatDoorTie
import Derived.ProofKit
import Derived.LaidMore
namespace Go.Proofs.YtbolfkojebbejaaGreatDoor
open Go.RowKit
set_option linter.unusedVariables false
set_option maxRecDepth 100000

theorem gEt : Tryz.prog.globalNamed "errors.errorType" = some 1 := by kernel_rfl
theorem rtEt : (Tryz.prog.cutTypes.find? (·.1 == "internal/reflectlite.rtype")).map (·.2) = some 324 := by kernel_rfl
theorem oneEt : ((List.range 391).filter fun t => Tryz.prog.rowNamed t [101, 114, 114, 111, 114]) = [207] := by kernel_rfl
theorem sizeEt : Tryz.prog.types.size = 391 := by kernel_rfl
theorem handle_ert {W : World} {l : List (String × DataW Unit)} (h : handlesMet Tryz.prog l W) (hm : ("errors.errorType", Rows.laid_errors_errorType) ∈ l) : W.cell? ⟨ertG, 0, none⟩ = some ertV := by
  obtain ⟨name, u, ty, e1, e2, e3, e4, e5⟩ := h _ hm
  have en : name = [101, 114, 114, 111, 114] := (Option.some.inj e1).symm
  subst en
  obtain rfl := Option.some.inj (rtEt.symm.trans e2)
  have hm : ty ∈ (List.range 391).filter fun t => Tryz.prog.rowNamed t [101, 114, 114, 111, 114] := List.mem_filter.2 ⟨List.mem_range.2 (by rw [← sizeEt]; exact e3), e4⟩
  rw [oneEt] at hm
  obtain rfl := List.mem_singleton.1 hm
  have hh : typeHandle Tryz.prog 207 = .pointer (some ⟨3, 207, none⟩) := by kernel_rfl
  rw [hh] at e5
  simpa using World.var?_cell gEt e5 0
theorem of_laid1 {W : World} (h : laidMetH Tryz.prog [("errors.errorType", Rows.laid_errors_errorType)] W) : W.cell? ⟨ertG, 0, none⟩ = some ertV := by
  have h' : laidMet Tryz.prog [] W ∧ handlesMet Tryz.prog [("errors.errorType", Rows.laid_errors_errorType)] W := h
  exact handle_ert h'.2 (List.mem_singleton.2 rfl)
theorem door_met1 (os : Os) (args : Array Value) : laidMetH Tryz.prog [("errors.errorType", Rows.laid_errors_errorType)] ((World.doorLaid Tryz.prog 400 os).forCall (fun _ _ => 0) ⟨#[], args, []⟩).memory :=
  laidMetH_of_parts3 (fuel := 8) (laidMet_of_run' 8 (by kernel_rfl) (by kernel_rfl)) (by kernel_rfl) (by kernel_rfl)

theorem wf_i64 {n : Int} (h : (Lit.int .i64 n).wf = true) : -9223372036854775808 ≤ n ∧ n ≤ 9223372036854775807 := by
  simpa [Lit.wf, IntKind.min, IntKind.max, IntKind.signed, IntKind.bits] using h

end Go.Proofs.YtbolfkojebbejaaGreatDoor
