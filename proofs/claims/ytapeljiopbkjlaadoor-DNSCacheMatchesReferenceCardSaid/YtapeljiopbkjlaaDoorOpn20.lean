/- The arguments of the laws of chapter 20, opened; what the listed variable holds. Printed by wip/tools/gen20t.py. -/
import Derived.Test.YtapeljiopbkjlaaDoorOpnG
import Derived.Test.YtapeljiopbkjlaaDoorCl3
import Derived.Test.YtapeljiopbkjlaaDoorRows
import Derived.ChangeSame
import Derived.ChangeVars
import Derived.LaidLaws
import Derived.LaidHandle
import Derived.Stop.ErrReads
import Derived.Stop.LaidErr
import Derived.JoinedOf
import Derived.Lay
import Derived.LaidMore
import Derived.MakeChecks
namespace Go.Proofs.YtapeljiopbkjlaaDoor
open Go.RowKit Go.Sort Go.Deep
open Go.ChangeShapes Go.WideShapes
open Go.Extern.Stop Go.Stop Go.Extern
set_option linter.unusedVariables false
set_option maxRecDepth 100000

theorem cellsSt : Tryd.prog.cellsOf 9 = 1 := by kernel_rfl
theorem cells_rw : Tryd.prog.cellsOf 32 = 4 := by kernel_rfl
theorem open_rw {H : Type} {enc : TypeId × Value → H} {W : World} {fuel : Nat} {cs : List Value} {x : DataW H × List MemPlace} (hl : cs.length = 4)
    (h : DataW.trod enc Tryd.prog W 0 (fun _ => true) true fuel 32 cs = some x) : ∃ c : Rw, RwOk c ∧ cs = (rwA c).toList := by
  match cs, hl with
  | [v0, v1, v2, v3], _ =>
    obtain ⟨xs, n, _, _, _, hl, hf⟩ := DataW.trod_struct Tryd.underlying32 h
    have hl2 : xs.length = 4 := hl
    match xs, hl2 with
    | [y0, y1, y2, y3], _ =>
      have t0 : DataW.trod enc Tryd.prog W 0 (fun _ => true) true n 3 (([v0, v1, v2, v3].drop 0).take (Tryd.prog.cellsOf 3)) = [y0, y1, y2, y3][0]? := hf 0 _ rfl
      have t1 : DataW.trod enc Tryd.prog W 0 (fun _ => true) true n 3 (([v0, v1, v2, v3].drop 1).take (Tryd.prog.cellsOf 3)) = [y0, y1, y2, y3][1]? := hf 1 _ rfl
      have t2 : DataW.trod enc Tryd.prog W 0 (fun _ => true) true n 3 (([v0, v1, v2, v3].drop 2).take (Tryd.prog.cellsOf 3)) = [y0, y1, y2, y3][2]? := hf 2 _ rfl
      have t3 : DataW.trod enc Tryd.prog W 0 (fun _ => true) true n 3 (([v0, v1, v2, v3].drop 3).take (Tryd.prog.cellsOf 3)) = [y0, y1, y2, y3][3]? := hf 3 _ rfl
      simp only [cellsI] at t0 t1 t2 t3
      obtain ⟨p0, e0, _, w0⟩ := DataW.trod_int Tryd.underlying3 t0
      obtain ⟨p1, e1, _, w1⟩ := DataW.trod_int Tryd.underlying3 t1
      obtain ⟨p2, e2, _, w2⟩ := DataW.trod_int Tryd.underlying3 t2
      obtain ⟨p3, e3, _, w3⟩ := DataW.trod_int Tryd.underlying3 t3
      simp at e0 e1 e2 e3
      exact ⟨⟨p0, p1, p2, p3⟩, ⟨wf_i64 w0, wf_i64 w1, wf_i64 w2, wf_i64 w3⟩, by simp [e0, e1, e2, e3]⟩
theorem open_rw_v {H : Type} {enc : TypeId × Value → H} {W : World} {r : Reach} {b0 : Nat} {v : Value} {d : DataW H} {p : List MemPlace} (hv : Value.okWide Tryd.prog W r b0 32 v)
    (h : DataW.Trod enc Tryd.prog W 0 (fun _ => true) true 32 v d p) : ∃ x : Rw, v = .agg (rwA x) ∧ RwOk x := by
  obtain ⟨cs, rfl, hsz⟩ := okWide_struct Tryd.underlying32 hv
  obtain ⟨l⟩ := cs
  match l, hsz.trans cells_rw with
  | [c0, c1, c2, c3], _ =>
    obtain ⟨fuel, hf⟩ := h
    obtain ⟨y, hy, e⟩ := open_rw rfl hf
    exact ⟨y, congrArg (fun l => Value.agg (Array.mk l)) (show [c0, c1, c2, c3] = (rwA y).toList from e), hy⟩
theorem cells_rr : Tryd.prog.cellsOf 34 = 5 := by kernel_rfl
theorem open_rr {H : Type} {enc : TypeId × Value → H} {W : World} {fuel : Nat} {cs : List Value} {x : DataW H × List MemPlace} (hl : cs.length = 5)
    (h : DataW.trod enc Tryd.prog W 0 (fun _ => true) true fuel 34 cs = some x) : ∃ c : Rc, RcOk c ∧ cs = (rcA c).toList := by
  match cs, hl with
  | [v0, v1, v2, v3, v4], _ =>
    obtain ⟨xs, n, _, _, _, hl, hf⟩ := DataW.trod_struct Tryd.underlying34 h
    have hl2 : xs.length = 5 := hl
    match xs, hl2 with
    | [y0, y1, y2, y3, y4], _ =>
      have t0 : DataW.trod enc Tryd.prog W 0 (fun _ => true) true n 9 (([v0, v1, v2, v3, v4].drop 0).take (Tryd.prog.cellsOf 9)) = [y0, y1, y2, y3, y4][0]? := hf 0 _ rfl
      have t1 : DataW.trod enc Tryd.prog W 0 (fun _ => true) true n 3 (([v0, v1, v2, v3, v4].drop 1).take (Tryd.prog.cellsOf 3)) = [y0, y1, y2, y3, y4][1]? := hf 1 _ rfl
      have t2 : DataW.trod enc Tryd.prog W 0 (fun _ => true) true n 3 (([v0, v1, v2, v3, v4].drop 2).take (Tryd.prog.cellsOf 3)) = [y0, y1, y2, y3, y4][2]? := hf 2 _ rfl
      have t3 : DataW.trod enc Tryd.prog W 0 (fun _ => true) true n 3 (([v0, v1, v2, v3, v4].drop 3).take (Tryd.prog.cellsOf 3)) = [y0, y1, y2, y3, y4][3]? := hf 3 _ rfl
      have t4 : DataW.trod enc Tryd.prog W 0 (fun _ => true) true n 9 (([v0, v1, v2, v3, v4].drop 4).take (Tryd.prog.cellsOf 9)) = [y0, y1, y2, y3, y4][4]? := hf 4 _ rfl
      simp only [cellsI, cellsSt] at t0 t1 t2 t3 t4
      obtain ⟨p0, e0, _, w0⟩ := DataW.trod_string Tryd.underlying9 t0
      obtain ⟨p1, e1, _, w1⟩ := DataW.trod_int Tryd.underlying3 t1
      obtain ⟨p2, e2, _, w2⟩ := DataW.trod_int Tryd.underlying3 t2
      obtain ⟨p3, e3, _, w3⟩ := DataW.trod_int Tryd.underlying3 t3
      obtain ⟨p4, e4, _, w4⟩ := DataW.trod_string Tryd.underlying9 t4
      simp at e0 e1 e2 e3 e4
      exact ⟨⟨p0, p1, p2, p3, p4⟩, ⟨w0, wf_i64 w1, wf_i64 w2, wf_i64 w3, w4⟩, by simp [e0, e1, e2, e3, e4]⟩
theorem open_rr_v {H : Type} {enc : TypeId × Value → H} {W : World} {r : Reach} {b0 : Nat} {v : Value} {d : DataW H} {p : List MemPlace} (hv : Value.okWide Tryd.prog W r b0 34 v)
    (h : DataW.Trod enc Tryd.prog W 0 (fun _ => true) true 34 v d p) : ∃ x : Rc, v = .agg (rcA x) ∧ RcOk x := by
  obtain ⟨cs, rfl, hsz⟩ := okWide_struct Tryd.underlying34 hv
  obtain ⟨l⟩ := cs
  match l, hsz.trans cells_rr with
  | [c0, c1, c2, c3, c4], _ =>
    obtain ⟨fuel, hf⟩ := h
    obtain ⟨y, hy, e⟩ := open_rr rfl hf
    exact ⟨y, congrArg (fun l => Value.agg (Array.mk l)) (show [c0, c1, c2, c3, c4] = (rcA y).toList from e), hy⟩
theorem cells_ca : Tryd.prog.cellsOf 36 = 11 := by kernel_rfl
theorem open_ca {H : Type} {enc : TypeId × Value → H} {W : World} {fuel : Nat} {cs : List Value} {x : DataW H × List MemPlace} (hl : cs.length = 11)
    (h : DataW.trod enc Tryd.prog W 0 (fun _ => true) true fuel 36 cs = some x) : ∃ c : Ca, CaOk c ∧ cs = (caA c).toList := by
  match cs, hl with
  | [v0, v1, v2, v3, v4, v5, v6, v7, v8, v9, v10], _ =>
    obtain ⟨xs, n, _, _, _, hl, hf⟩ := DataW.trod_struct Tryd.underlying36 h
    have hl2 : xs.length = 4 := hl
    match xs, hl2 with
    | [y0, y1, y2, y3], _ =>
      have t0 : DataW.trod enc Tryd.prog W 0 (fun _ => true) true n 3 (([v0, v1, v2, v3, v4, v5, v6, v7, v8, v9, v10].drop 0).take (Tryd.prog.cellsOf 3)) = some y0 := hf 0 _ rfl
      have t1 : DataW.trod enc Tryd.prog W 0 (fun _ => true) true n 3 (([v0, v1, v2, v3, v4, v5, v6, v7, v8, v9, v10].drop 1).take (Tryd.prog.cellsOf 3)) = some y1 := hf 1 _ rfl
      have t2 : DataW.trod enc Tryd.prog W 0 (fun _ => true) true n 32 (([v0, v1, v2, v3, v4, v5, v6, v7, v8, v9, v10].drop 2).take (Tryd.prog.cellsOf 32)) = some y2 := hf 2 _ rfl
      have t3 : DataW.trod enc Tryd.prog W 0 (fun _ => true) true n 34 (([v0, v1, v2, v3, v4, v5, v6, v7, v8, v9, v10].drop 6).take (Tryd.prog.cellsOf 34)) = some y3 := hf 3 _ rfl
      rw [cellsI] at t0 t1
      rw [cells_rw] at t2
      rw [cells_rr] at t3
      obtain ⟨p0, e0, _, w0⟩ := DataW.trod_int Tryd.underlying3 t0
      obtain ⟨p1, e1, _, w1⟩ := DataW.trod_int Tryd.underlying3 t1
      obtain ⟨p2, w2, e2⟩ := open_rw rfl t2
      obtain ⟨p3, w3, e3⟩ := open_rr rfl t3
      obtain ⟨a0, a1, a2, a3⟩ := p2
      obtain ⟨b0, b1, b2, b3, b4⟩ := p3
      simp at e0 e1 e2 e3
      exact ⟨⟨p0, p1, ⟨a0, a1, a2, a3⟩, ⟨b0, b1, b2, b3, b4⟩⟩, ⟨wf_i64 w0, wf_i64 w1, w2, w3⟩, by simp [e0, e1, e2, e3]⟩
theorem open_ca_v {H : Type} {enc : TypeId × Value → H} {W : World} {r : Reach} {b0 : Nat} {v : Value} {d : DataW H} {p : List MemPlace} (hv : Value.okWide Tryd.prog W r b0 36 v)
    (h : DataW.Trod enc Tryd.prog W 0 (fun _ => true) true 36 v d p) : ∃ x : Ca, v = .agg (caA x) ∧ CaOk x := by
  obtain ⟨cs, rfl, hsz⟩ := okWide_struct Tryd.underlying36 hv
  obtain ⟨l⟩ := cs
  match l, hsz.trans cells_ca with
  | [v0, v1, v2, v3, v4, v5, v6, v7, v8, v9, v10], _ =>
    obtain ⟨fuel, hf⟩ := h
    obtain ⟨y, hy, e⟩ := open_ca rfl hf
    exact ⟨y, congrArg (fun l => Value.agg (Array.mk l)) (show [v0, v1, v2, v3, v4, v5, v6, v7, v8, v9, v10] = (caA y).toList from e), hy⟩
theorem open_cas {H : Type} {enc : TypeId × Value → H} {W : World} {a : Option Addr} {len cap fuel : Nat} {x : DataW H × List MemPlace}
    (h : DataW.trod enc Tryd.prog W 0 (fun _ => true) true fuel 22 [.slice a len cap] = some x) : ∃ g, RdCa W (.slice a len cap) len g := by
  obtain ⟨f, ⟨a', cap', e, h1, h2, h3⟩, hq⟩ := open_rows Tryd.underlying22 cells_ca (by decide) (fun cs => ∃ c : Ca, CaOk c ∧ cs = (caA c).toList) (fun hl ht => open_ca hl ht) h
  cases e
  obtain ⟨g, hg⟩ := @choose_lt Ca ⟨⟨0, 0, ⟨0, 0, 0, 0⟩, ⟨⟨#[]⟩, 0, 0, 0, ⟨#[]⟩⟩⟩⟩ len _ (fun i hi => (hq i hi).2)
  refine ⟨g, a, cap, rfl, h1, h2, fun i hi => (hg i hi).1, fun hn => ?_⟩
  obtain ⟨b, o, rfl, hc⟩ := h3 hn
  exact ⟨b, o, rfl, fun i hi j hj => by rw [hc i hi j hj, (hg i hi).2]; simp⟩
theorem gErr : Tryd.prog.globalNamed "stagepost/dnscache.errInvalid" = some errG := by kernel_rfl
theorem gErrT : (Tryd.prog.globals[errG]?).map (·.type) = some 81 := by kernel_rfl
theorem cellsEs : Tryd.prog.cellsOf 169 = 1 := by kernel_rfl
theorem starEs : "*" ++ "errors.errorString" = "*errors.errorString" := by decide
theorem rowEs (u : TypeId) (h : Tryd.prog.typeName? 3 u = some "*errors.errorString") : u = 145 :=
  typeName_ptr_named (nm := "errors.errorString") (by rw [starEs]; kernel_rfl) (by kernel_rfl) (by decide) u (by rw [starEs]; exact h)
/-- What the tie gives a walk: the variable's cell. -/
theorem of_laid {W : World} (h : laidMetH Tryd.prog [("stagepost/dnscache.errInvalid", Rows.laid_stagepost_dnscache_errInvalid)] W) : ∃ a, W.cell? ⟨errG, 0, none⟩ = some (errV a) := by
  rw [MakeChecks.laidMetH_plain _ _ _ (by kernel_rfl)] at h
  obtain ⟨a1, s1, hv1, hc1, hs1, hz1⟩ := laid_sentinel h gErr gErrT Tryd.underlying81 rowEs Tryd.underlying145 Tryd.underlying169 rfl rfl Tryd.underlying9 cellsEs cellsSt
  exact ⟨a1, by simpa using World.var?_cell gErr hv1 0⟩
theorem door_met (os : Os) (args : Array Value) : laidMetH Tryd.prog [("stagepost/dnscache.errInvalid", Rows.laid_stagepost_dnscache_errInvalid)] ((World.doorLaid Tryd.prog 400 os).forCall (fun _ _ => 0) ⟨#[], args, []⟩).memory :=
  laidMetH_of_parts3 (fuel := 8) (laidMet_of_run' 8 (by kernel_rfl) (by kernel_rfl)) (by kernel_rfl) (by kernel_rfl)

end Go.Proofs.YtapeljiopbkjlaaDoor
