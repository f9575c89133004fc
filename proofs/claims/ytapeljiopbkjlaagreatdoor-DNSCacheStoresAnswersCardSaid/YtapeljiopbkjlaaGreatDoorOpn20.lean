/- The arguments of the laws of chapter 20, opened; what the listed variable holds. Printed by wip/tools/gen20t.py. -/
import Derived.Test.YtapeljiopbkjlaaGreatDoorOpnG
import Derived.Test.YtapeljiopbkjlaaGreatDoorCl3
import Derived.Test.YtapeljiopbkjlaaGreatDoorRows
import Derived.ChangeSame
import Derived.ChangeVars
import Derived.LaidLaws
import Derived.LaidHandle
import Derived.Stop.ErrReads
import Derived.Stop.LaidErr
import Derived.JoinedOf
import Derived.Lay
import Derived.LaidMore
import Derived.MakeChecks
namespace Go.Proofs.YtapeljiopbkjlaaGreatDoor
open Go.RowKit Go.Sort Go.Deep
open Go.ChangeShapes Go.WideShapes
open Go.Extern.Stop Go.Stop Go.Extern
set_option linter.unusedVariables false
set_option maxRecDepth 100000

theorem cellsSt : Tryz.prog.cellsOf 9 = 1 := by kernel_rfl
theorem cells_rw : Tryz.prog.cellsOf 31 = 4 := by kernel_rfl
theorem open_rw {H : Type} {enc : TypeId × Value → H} {W : World} {fuel : Nat} {cs : List Value} {x : DataW H × List MemPlace} (hl : cs.length = 4)
    (h : DataW.trod enc Tryz.prog W 0 (fun _ => true) true fuel 31 cs = some x) : ∃ c : Rw, RwOk c ∧ cs = (rwA c).toList := by
  match cs, hl with
  | [v0, v1, v2, v3], _ =>
    obtain ⟨xs, n, _, _, _, hl, hf⟩ := DataW.trod_struct Tryz.underlying31 h
    have hl2 : xs.length = 4 := hl
    match xs, hl2 with
    | [y0, y1, y2, y3], _ =>
      have t0 : DataW.trod enc Tryz.prog W 0 (fun _ => true) true n 3 (([v0, v1, v2, v3].drop 0).take (Tryz.prog.cellsOf 3)) = [y0, y1, y2, y3][0]? := hf 0 _ rfl
      have t1 : DataW.trod enc Tryz.prog W 0 (fun _ => true) true n 3 (([v0, v1, v2, v3].drop 1).take (Tryz.prog.cellsOf 3)) = [y0, y1, y2, y3][1]? := hf 1 _ rfl
      have t2 : DataW.trod enc Tryz.prog W 0 (fun _ => true) true n 3 (([v0, v1, v2, v3].drop 2).take (Tryz.prog.cellsOf 3)) = [y0, y1, y2, y3][2]? := hf 2 _ rfl
      have t3 : DataW.trod enc Tryz.prog W 0 (fun _ => true) true n 3 (([v0, v1, v2, v3].drop 3).take (Tryz.prog.cellsOf 3)) = [y0, y1, y2, y3][3]? := hf 3 _ rfl
      simp only [cellsI] at t0 t1 t2 t3
      obtain ⟨p0, e0, _, w0⟩ := DataW.trod_int Tryz.underlying3 t0
      obtain ⟨p1, e1, _, w1⟩ := DataW.trod_int Tryz.underlying3 t1
      obtain ⟨p2, e2, _, w2⟩ := DataW.trod_int Tryz.underlying3 t2
      obtain ⟨p3, e3, _, w3⟩ := DataW.trod_int Tryz.underlying3 t3
      simp at e0 e1 e2 e3
      exact ⟨⟨p0, p1, p2, p3⟩, ⟨wf_i64 w0, wf_i64 w1, wf_i64 w2, wf_i64 w3⟩, by simp [e0, e1, e2, e3]⟩
theorem open_rw_v {H : Type} {enc : TypeId × Value → H} {W : World} {r : Reach} {b0 : Nat} {v : Value} {d : DataW H} {p : List MemPlace} (hv : Value.okWide Tryz.prog W r b0 31 v)
    (h : DataW.Trod enc Tryz.prog W 0 (fun _ => true) true 31 v d p) : ∃ x : Rw, v = .agg (rwA x) ∧ RwOk x := by
  obtain ⟨cs, rfl, hsz⟩ := okWide_struct Tryz.underlying31 hv
  obtain ⟨l⟩ := cs
  match l, hsz.trans cells_rw with
  | [c0, c1, c2, c3], _ =>
    obtain ⟨fuel, hf⟩ := h
    obtain ⟨y, hy, e⟩ := open_rw rfl hf
    exact ⟨y, congrArg (fun l => Value.agg (Array.mk l)) (show [c0, c1, c2, c3] = (rwA y).toList from e), hy⟩
theorem cells_rr : Tryz.prog.cellsOf 28 = 5 := by kernel_rfl
theorem open_rr {H : Type} {enc : TypeId × Value → H} {W : World} {fuel : Nat} {cs : List Value} {x : DataW H × List MemPlace} (hl : cs.length = 5)
    (h : DataW.trod enc Tryz.prog W 0 (fun _ => true) true fuel 28 cs = some x) : ∃ c : Rc, RcOk c ∧ cs = (rcA c).toList := by
  match cs, hl with
  | [v0, v1, v2, v3, v4], _ =>
    obtain ⟨xs, n, _, _, _, hl, hf⟩ := DataW.trod_struct Tryz.underlying28 h
    have hl2 : xs.length = 5 := hl
    match xs, hl2 with
    | [y0, y1, y2, y3, y4], _ =>
      have t0 : DataW.trod enc Tryz.prog W 0 (fun _ => true) true n 9 (([v0, v1, v2, v3, v4].drop 0).take (Tryz.prog.cellsOf 9)) = [y0, y1, y2, y3, y4][0]? := hf 0 _ rfl
      have t1 : DataW.trod enc Tryz.prog W 0 (fun _ => true) true n 3 (([v0, v1, v2, v3, v4].drop 1).take (Tryz.prog.cellsOf 3)) = [y0, y1, y2, y3, y4][1]? := hf 1 _ rfl
      have t2 : DataW.trod enc Tryz.prog W 0 (fun _ => true) true n 3 (([v0, v1, v2, v3, v4].drop 2).take (Tryz.prog.cellsOf 3)) = [y0, y1, y2, y3, y4][2]? := hf 2 _ rfl
      have t3 : DataW.trod enc Tryz.prog W 0 (fun _ => true) true n 3 (([v0, v1, v2, v3, v4].drop 3).take (Tryz.prog.cellsOf 3)) = [y0, y1, y2, y3, y4][3]? := hf 3 _ rfl
      have t4 : DataW.trod enc Tryz.prog W 0 (fun _ => true) true n 9 (([v0, v1, v2, v3, v4].drop 4).take (Tryz.prog.cellsOf 9)) = [y0, y1, y2, y3, y4][4]? := hf 4 _ rfl
      simp only [cellsI, cellsSt] at t0 t1 t2 t3 t4
      obtain ⟨p0, e0, _, w0⟩ := DataW.trod_string Tryz.underlying9 t0
      obtain ⟨p1, e1, _, w1⟩ := DataW.trod_int Tryz.underlying3 t1
      obtain ⟨p2, e2, _, w2⟩ := DataW.trod_int Tryz.underlying3 t2
      obtain ⟨p3, e3, _, w3⟩ := DataW.trod_int Tryz.underlying3 t3
      obtain ⟨p4, e4, _, w4⟩ := DataW.trod_string Tryz.underlying9 t4
      simp at e0 e1 e2 e3 e4
      exact ⟨⟨p0, p1, p2, p3, p4⟩, ⟨w0, wf_i64 w1, wf_i64 w2, wf_i64 w3, w4⟩, by simp [e0, e1, e2, e3, e4]⟩
theorem open_rr_v {H : Type} {enc : TypeId × Value → H} {W : World} {r : Reach} {b0 : Nat} {v : Value} {d : DataW H} {p : List MemPlace} (hv : Value.okWide Tryz.prog W r b0 28 v)
    (h : DataW.Trod enc Tryz.prog W 0 (fun _ => true) true 28 v d p) : ∃ x : Rc, v = .agg (rcA x) ∧ RcOk x := by
  obtain ⟨cs, rfl, hsz⟩ := okWide_struct Tryz.underlying28 hv
  obtain ⟨l⟩ := cs
  match l, hsz.trans cells_rr with
  | [c0, c1, c2, c3, c4], _ =>
    obtain ⟨fuel, hf⟩ := h
    obtain ⟨y, hy, e⟩ := open_rr rfl hf
    exact ⟨y, congrArg (fun l => Value.agg (Array.mk l)) (show [c0, c1, c2, c3, c4] = (rcA y).toList from e), hy⟩
theorem gErr : Tryz.prog.globalNamed "stagepost/dnscache.errInvalid" = some errG := by kernel_rfl
theorem gErrT : (Tryz.prog.globals[errG]?).map (·.type) = some 72 := by kernel_rfl
theorem cellsEs : Tryz.prog.cellsOf 181 = 1 := by kernel_rfl
theorem starEs : "*" ++ "errors.errorString" = "*errors.errorString" := by decide
theorem rowEs (u : TypeId) (h : Tryz.prog.typeName? 3 u = some "*errors.errorString") : u = 159 :=
  typeName_ptr_named (nm := "errors.errorString") (by rw [starEs]; kernel_rfl) (by kernel_rfl) (by decide) u (by rw [starEs]; exact h)
/-- What the tie gives a walk: the variable's cell. -/
theorem of_laid {W : World} (h : laidMetH Tryz.prog [("stagepost/dnscache.errInvalid", Rows.laid_stagepost_dnscache_errInvalid)] W) : ∃ a, W.cell? ⟨errG, 0, none⟩ = some (errV a) := by
  rw [MakeChecks.laidMetH_plain _ _ _ (by kernel_rfl)] at h
  obtain ⟨a1, s1, hv1, hc1, hs1, hz1⟩ := laid_sentinel h gErr gErrT Tryz.underlying72 rowEs Tryz.underlying159 Tryz.underlying181 rfl rfl Tryz.underlying9 cellsEs cellsSt
  exact ⟨a1, by simpa using World.var?_cell gErr hv1 0⟩
theorem door_met (os : Os) (args : Array Value) : laidMetH Tryz.prog [("stagepost/dnscache.errInvalid", Rows.laid_stagepost_dnscache_errInvalid)] ((World.doorLaid Tryz.prog 400 os).forCall (fun _ _ => 0) ⟨#[], args, []⟩).memory :=
  laidMetH_of_parts3 (fuel := 8) (laidMet_of_run' 8 (by kernel_rfl) (by kernel_rfl)) (by kernel_rfl) (by kernel_rfl)

end Go.Proofs.YtapeljiopbkjlaaGreatDoor
