/- The arguments of the laws of chapter 22, opened. -/
import Derived.Test.YthhoknhjbkkflaaOpnG
import Derived.Test.YthhoknhjbkkflaaFtbW
import Derived.Test.YthhoknhjbkkflaaFlw3
namespace Go.Proofs.Ythhoknhjbkkflaa
open Go.RowKit Go.Sort Go.Deep
open Go.ChangeShapes Go.WideShapes
set_option linter.unusedVariables false

theorem cellsBo : Try.prog.cellsOf 4 = 1 := by kernel_rfl
theorem cells_fw : Try.prog.cellsOf 39 = 6 := by kernel_rfl
theorem open_fw {H : Type} {enc : TypeId × Value → H} {W : World} {fuel : Nat} {cs : List Value} {x : DataW H × List MemPlace} (hl : cs.length = 6)
    (h : DataW.trod enc Try.prog W 0 (fun _ => true) true fuel 39 cs = some x) : ∃ c : Fw, FwOk c ∧ cs = (fwA c).toList := by
  match cs, hl with
  | [v0, v1, v2, v3, v4, v5], _ =>
    obtain ⟨xs, n, _, _, _, hl, hf⟩ := DataW.trod_struct Try.underlying39 h
    have hl2 : xs.length = 6 := hl
    match xs, hl2 with
    | [y0, y1, y2, y3, y4, y5], _ =>
      have t0 : DataW.trod enc Try.prog W 0 (fun _ => true) true n 3 (([v0, v1, v2, v3, v4, v5].drop 0).take (Try.prog.cellsOf 3)) = [y0, y1, y2, y3, y4, y5][0]? := hf 0 _ rfl
      have t1 : DataW.trod enc Try.prog W 0 (fun _ => true) true n 3 (([v0, v1, v2, v3, v4, v5].drop 1).take (Try.prog.cellsOf 3)) = [y0, y1, y2, y3, y4, y5][1]? := hf 1 _ rfl
      have t2 : DataW.trod enc Try.prog W 0 (fun _ => true) true n 3 (([v0, v1, v2, v3, v4, v5].drop 2).take (Try.prog.cellsOf 3)) = [y0, y1, y2, y3, y4, y5][2]? := hf 2 _ rfl
      have t3 : DataW.trod enc Try.prog W 0 (fun _ => true) true n 3 (([v0, v1, v2, v3, v4, v5].drop 3).take (Try.prog.cellsOf 3)) = [y0, y1, y2, y3, y4, y5][3]? := hf 3 _ rfl
      have t4 : DataW.trod enc Try.prog W 0 (fun _ => true) true n 3 (([v0, v1, v2, v3, v4, v5].drop 4).take (Try.prog.cellsOf 3)) = [y0, y1, y2, y3, y4, y5][4]? := hf 4 _ rfl
      have t5 : DataW.trod enc Try.prog W 0 (fun _ => true) true n 3 (([v0, v1, v2, v3, v4, v5].drop 5).take (Try.prog.cellsOf 3)) = [y0, y1, y2, y3, y4, y5][5]? := hf 5 _ rfl
      simp only [cellsI] at t0 t1 t2 t3 t4 t5
      obtain ⟨p0, e0, _, w0⟩ := DataW.trod_int Try.underlying3 t0
      obtain ⟨p1, e1, _, w1⟩ := DataW.trod_int Try.underlying3 t1
      obtain ⟨p2, e2, _, w2⟩ := DataW.trod_int Try.underlying3 t2
      obtain ⟨p3, e3, _, w3⟩ := DataW.trod_int Try.underlying3 t3
      obtain ⟨p4, e4, _, w4⟩ := DataW.trod_int Try.underlying3 t4
      obtain ⟨p5, e5, _, w5⟩ := DataW.trod_int Try.underlying3 t5
      simp at e0 e1 e2 e3 e4 e5
      exact ⟨⟨p0, p1, p2, p3, p4, p5⟩, ⟨wf_i64 w0, wf_i64 w1, wf_i64 w2, wf_i64 w3, wf_i64 w4, wf_i64 w5⟩, by simp [e0, e1, e2, e3, e4, e5]⟩
theorem open_fw_v {H : Type} {enc : TypeId × Value → H} {W : World} {r : Reach} {b0 : Nat} {v : Value} {d : DataW H} {p : List MemPlace} (hv : Value.okWide Try.prog W r b0 39 v)
    (h : DataW.Trod enc Try.prog W 0 (fun _ => true) true 39 v d p) : ∃ x : Fw, v = .agg (fwA x) ∧ FwOk x := by
  obtain ⟨cs, rfl, hsz⟩ := okWide_struct Try.underlying39 hv
  obtain ⟨l⟩ := cs
  match l, hsz.trans cells_fw with
  | [c0, c1, c2, c3, c4, c5], _ =>
    obtain ⟨fuel, hf⟩ := h
    obtain ⟨y, hy, e⟩ := open_fw rfl hf
    exact ⟨y, congrArg (fun l => Value.agg (Array.mk l)) (show [c0, c1, c2, c3, c4, c5] = (fwA y).toList from e), hy⟩
theorem cells_rw : Try.prog.cellsOf 52 = 6 := by kernel_rfl
theorem open_rw {H : Type} {enc : TypeId × Value → H} {W : World} {fuel : Nat} {cs : List Value} {x : DataW H × List MemPlace} (hl : cs.length = 6)
    (h : DataW.trod enc Try.prog W 0 (fun _ => true) true fuel 52 cs = some x) : ∃ c : Rw, RwOk c ∧ cs = (rwA c).toList := by
  match cs, hl with
  | [v0, v1, v2, v3, v4, v5], _ =>
    obtain ⟨xs, n, _, _, _, hl, hf⟩ := DataW.trod_struct Try.underlying52 h
    have hl2 : xs.length = 6 := hl
    match xs, hl2 with
    | [y0, y1, y2, y3, y4, y5], _ =>
      have t0 : DataW.trod enc Try.prog W 0 (fun _ => true) true n 4 (([v0, v1, v2, v3, v4, v5].drop 0).take (Try.prog.cellsOf 4)) = [y0, y1, y2, y3, y4, y5][0]? := hf 0 _ rfl
      have t1 : DataW.trod enc Try.prog W 0 (fun _ => true) true n 3 (([v0, v1, v2, v3, v4, v5].drop 1).take (Try.prog.cellsOf 3)) = [y0, y1, y2, y3, y4, y5][1]? := hf 1 _ rfl
      have t2 : DataW.trod enc Try.prog W 0 (fun _ => true) true n 3 (([v0, v1, v2, v3, v4, v5].drop 2).take (Try.prog.cellsOf 3)) = [y0, y1, y2, y3, y4, y5][2]? := hf 2 _ rfl
      have t3 : DataW.trod enc Try.prog W 0 (fun _ => true) true n 3 (([v0, v1, v2, v3, v4, v5].drop 3).take (Try.prog.cellsOf 3)) = [y0, y1, y2, y3, y4, y5][3]? := hf 3 _ rfl
      have t4 : DataW.trod enc Try.prog W 0 (fun _ => true) true n 3 (([v0, v1, v2, v3, v4, v5].drop 4).take (Try.prog.cellsOf 3)) = [y0, y1, y2, y3, y4, y5][4]? := hf 4 _ rfl
      have t5 : DataW.trod enc Try.prog W 0 (fun _ => true) true n 4 (([v0, v1, v2, v3, v4, v5].drop 5).take (Try.prog.cellsOf 4)) = [y0, y1, y2, y3, y4, y5][5]? := hf 5 _ rfl
      simp only [cellsBo, cellsI] at t0 t1 t2 t3 t4 t5
      obtain ⟨p0, e0, _⟩ := DataW.trod_bool Try.underlying4 t0
      obtain ⟨p1, e1, _, w1⟩ := DataW.trod_int Try.underlying3 t1
      obtain ⟨p2, e2, _, w2⟩ := DataW.trod_int Try.underlying3 t2
      obtain ⟨p3, e3, _, w3⟩ := DataW.trod_int Try.underlying3 t3
      obtain ⟨p4, e4, _, w4⟩ := DataW.trod_int Try.underlying3 t4
      obtain ⟨p5, e5, _⟩ := DataW.trod_bool Try.underlying4 t5
      simp at e0 e1 e2 e3 e4 e5
      exact ⟨⟨p0, p1, p2, p3, p4, p5⟩, ⟨wf_i64 w1, wf_i64 w2, wf_i64 w3, wf_i64 w4⟩, by simp [e0, e1, e2, e3, e4, e5]⟩
theorem open_rw_v {H : Type} {enc : TypeId × Value → H} {W : World} {r : Reach} {b0 : Nat} {v : Value} {d : DataW H} {p : List MemPlace} (hv : Value.okWide Try.prog W r b0 52 v)
    (h : DataW.Trod enc Try.prog W 0 (fun _ => true) true 52 v d p) : ∃ x : Rw, v = .agg (rwA x) ∧ RwOk x := by
  obtain ⟨cs, rfl, hsz⟩ := okWide_struct Try.underlying52 hv
  obtain ⟨l⟩ := cs
  match l, hsz.trans cells_rw with
  | [c0, c1, c2, c3, c4, c5], _ =>
    obtain ⟨fuel, hf⟩ := h
    obtain ⟨y, hy, e⟩ := open_rw rfl hf
    exact ⟨y, congrArg (fun l => Value.agg (Array.mk l)) (show [c0, c1, c2, c3, c4, c5] = (rwA y).toList from e), hy⟩
theorem open_fws {H : Type} {enc : TypeId × Value → H} {W : World} {a : Option Addr} {len cap fuel : Nat} {x : DataW H × List MemPlace}
    (h : DataW.trod enc Try.prog W 0 (fun _ => true) true fuel 23 [.slice a len cap] = some x) : ∃ g, RdF W (.slice a len cap) len g := by
  obtain ⟨f, ⟨a', cap', e, h1, h2, h3⟩, hq⟩ := open_rows Try.underlying23 cells_fw (by decide) (fun cs => ∃ c : Fw, FwOk c ∧ cs = (fwA c).toList) (fun hl ht => open_fw hl ht) h
  cases e
  obtain ⟨g, hg⟩ := @choose_lt Fw ⟨⟨0, 0, 0, 0, 0, 0⟩⟩ len _ (fun i hi => (hq i hi).2)
  refine ⟨g, a, cap, rfl, h1, h2, fun i hi => (hg i hi).1, fun hn => ?_⟩
  obtain ⟨b, o, rfl, hc⟩ := h3 hn
  exact ⟨b, o, rfl, fun i hi j hj => by rw [hc i hi j hj, (hg i hi).2]; simp⟩
theorem open_rws {H : Type} {enc : TypeId × Value → H} {W : World} {a : Option Addr} {len cap fuel : Nat} {x : DataW H × List MemPlace}
    (h : DataW.trod enc Try.prog W 0 (fun _ => true) true fuel 22 [.slice a len cap] = some x) : ∃ g, RdR W (.slice a len cap) len g := by
  obtain ⟨f, ⟨a', cap', e, h1, h2, h3⟩, hq⟩ := open_rows Try.underlying22 cells_rw (by decide) (fun cs => ∃ c : Rw, RwOk c ∧ cs = (rwA c).toList) (fun hl ht => open_rw hl ht) h
  cases e
  obtain ⟨g, hg⟩ := @choose_lt Rw ⟨⟨false, 0, 0, 0, 0, false⟩⟩ len _ (fun i hi => (hq i hi).2)
  refine ⟨g, a, cap, rfl, h1, h2, fun i hi => (hg i hi).1, fun hn => ?_⟩
  obtain ⟨b, o, rfl, hc⟩ := h3 hn
  exact ⟨b, o, rfl, fun i hi j hj => by rw [hc i hi j hj, (hg i hi).2]; simp⟩
theorem open_ints {H : Type} {enc : TypeId × Value → H} {W : World} {a : Option Addr} {len cap fuel : Nat} {x : DataW H × List MemPlace}
    (h : DataW.trod enc Try.prog W 0 (fun _ => true) true fuel 36 [.slice a len cap] = some x) : ∃ g, RdI W (.slice a len cap) len g := by
  obtain ⟨f, ⟨a', cap', e, h1, h2, h3⟩, hq⟩ := open_rows Try.underlying36 cellsI (by decide) (fun cs => ∃ c : Int, i64B c ∧ cs = [.int .i64 c]) (fun hl ht => by
    rename_i cs x
    match cs, hl with
    | [v0], _ =>
      obtain ⟨p0, e0, _, w0⟩ := DataW.trod_int Try.underlying3 ht
      exact ⟨p0, wf_i64 w0, e0⟩) h
  cases e
  obtain ⟨g, hg⟩ := @choose_lt Int ⟨0⟩ len _ (fun i hi => (hq i hi).2)
  refine ⟨g, a, cap, rfl, h1, h2, fun i hi => (hg i hi).1, fun hn => ?_⟩
  obtain ⟨b, o, rfl, hc⟩ := h3 hn
  exact ⟨b, o, rfl, fun i hi => by have := hc i hi 0 (by decide); rw [(hg i hi).2] at this; simpa using this⟩

end Go.Proofs.Ythhoknhjbkkflaa
