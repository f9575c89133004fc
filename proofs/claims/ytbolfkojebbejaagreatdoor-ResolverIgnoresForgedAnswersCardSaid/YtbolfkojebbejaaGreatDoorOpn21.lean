/- What the cards of the resolver's rows lay: the cells of the package variables. -/
import Derived.Test.YtbolfkojebbejaaGreatDoorBn
import Derived.Test.YtbolfkojebbejaaGreatDoorCards
import Derived.Test.YtbolfkojebbejaaGreatDoorTie
import Derived.ProofKit
import Derived.LaidMore
import Derived.ChangeSame
import Derived.ChangeVars
import Derived.LaidLaws
import Derived.LaidHandle
import Derived.Stop.ErrReads
import Derived.Stop.LaidErr
import Derived.JoinedOf
import Derived.Lay
import Derived.MakeChecks
set_option linter.unusedVariables false
set_option maxRecDepth 100000
set_option maxHeartbeats 32000000
namespace Go.Proofs.YtbolfkojebbejaaGreatDoor
open Go.RowKit

theorem gEt : Tryz.prog.globalNamed "errors.errorType" = some 1 := by kernel_rfl
theorem rtEt : (Tryz.prog.cutTypes.find? (·.1 == "internal/reflectlite.rtype")).map (·.2) = some 324 := by kernel_rfl
theorem oneEt : ((List.range 391).filter fun t => Tryz.prog.rowNamed t [101, 114, 114, 111, 114]) = [207] := by kernel_rfl
theorem sizeEt : Tryz.prog.types.size = 391 := by kernel_rfl
theorem handle_ert {W : World} {l : List (String × DataW Unit)} (h : handlesMet Tryz.prog l W) (hm : ("errors.errorType", Rows.laid_errors_errorType) ∈ l) : W.cell? ⟨ertG, 0, none⟩ = some ertV := by
 obtain ⟨name, u, ty, e1, e2, e3, e4, e5⟩ := h _ hm
 have en : name = [101, 114, 114, 111, 114] := (Option.some.inj e1).symm
 subst en
 obtain rfl := Option.some.inj (rtEt.symm.trans e2)
 have hm : ty ∈ (List.range 391).filter fun t => Tryz.prog.rowNamed t [101, 114, 114, 111, 114] := List.mem_filter.2 ⟨List.mem_range.2 (by rw [← sizeEt]; exact e3), e4⟩
 rw [oneEt] at hm
 obtain rfl := List.mem_singleton.1 hm
 have hh : typeHandle Tryz.prog 207 = .pointer (some ⟨3, 207, none⟩) := by kernel_rfl
 rw [hh] at e5
 simpa using World.var?_cell gEt e5 0
section
open Go.Extern.Stop Go.Stop Go.Extern
theorem cellsSt21 : Tryz.prog.cellsOf 9 = 1 := by kernel_rfl
theorem gErr : Tryz.prog.globalNamed "stagepost/dnscache.errInvalid" = some errG := by kernel_rfl
theorem gErrT : (Tryz.prog.globals[errG]?).map (·.type) = some 207 := by kernel_rfl
theorem cellsEs : Tryz.prog.cellsOf 379 = 1 := by kernel_rfl
theorem starEs : "*" ++ "errors.errorString" = "*errors.errorString" := by decide
theorem rowEs (u : TypeId) (h : Tryz.prog.typeName? 3 u = some "*errors.errorString") : u = 361 :=
 typeName_ptr_named (nm := "errors.errorString") (by rw [starEs]; kernel_rfl) (by kernel_rfl) (by decide) u (by rw [starEs]; exact h)
theorem of_laid2 {W : World} (h : laidMetH Tryz.prog [("errors.errorType", Rows.laid_errors_errorType), ("stagepost/dnscache.errInvalid", Rows.laid_stagepost_dnscache_errInvalid)] W) : W.cell? ⟨ertG, 0, none⟩ = some ertV ∧ ∃ a, W.cell? ⟨errG, 0, none⟩ = some (errV a) := by
 have h' : laidMet Tryz.prog [("stagepost/dnscache.errInvalid", Rows.laid_stagepost_dnscache_errInvalid)] W ∧ handlesMet Tryz.prog [("errors.errorType", Rows.laid_errors_errorType)] W := h
 refine ⟨handle_ert h'.2 (List.mem_singleton.2 rfl), ?_⟩
 obtain ⟨a1, s1, hv1, hc1, hs1, hz1⟩ := laid_sentinel h'.1 gErr gErrT Tryz.underlying207 rowEs Tryz.underlying361 Tryz.underlying379 rfl rfl Tryz.underlying9 cellsEs cellsSt21
 exact ⟨a1, by simpa using World.var?_cell gErr hv1 0⟩
theorem door_met2 (os : Os) (args : Array Value) : laidMetH Tryz.prog [("errors.errorType", Rows.laid_errors_errorType), ("stagepost/dnscache.errInvalid", Rows.laid_stagepost_dnscache_errInvalid)] ((World.doorLaid Tryz.prog 400 os).forCall (fun _ _ => 0) ⟨#[], args, []⟩).memory :=
 laidMetH_of_parts3 (fuel := 8) (laidMet_of_run' 8 (by kernel_rfl) (by kernel_rfl)) (by kernel_rfl) (by kernel_rfl)
end

theorem wf_i64 {n : Int} (h : (Lit.int .i64 n).wf = true) : -9223372036854775808 ≤ n ∧ n ≤ 9223372036854775807 := by
 simpa [Lit.wf, IntKind.min, IntKind.max, IntKind.signed, IntKind.bits] using h

end Go.Proofs.YtbolfkojebbejaaGreatDoor
