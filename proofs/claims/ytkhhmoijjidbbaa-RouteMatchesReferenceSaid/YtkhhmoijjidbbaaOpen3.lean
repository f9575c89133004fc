/- An interface and a route handed over by value, opened. -/
import Derived.Test.YtkhhmoijjidbbaaOpen2
namespace Go.Proofs.Ytkhhmoijjidbbaa
open Go.RowKit Go.Sort Go.Deep
open Go.ChangeShapes Go.WideShapes

theorem cellsP : Try.prog.cellsOf 25 = 2 := by kernel_rfl
theorem cellsIf : Try.prog.cellsOf 27 = 5 := by kernel_rfl
theorem cellsRt : Try.prog.cellsOf 29 = 4 := by kernel_rfl

theorem open_prefix {H : Type} {enc : TypeId × Value → H} {W : World} {fuel : Nat} {v0 v1 : Value} {x : DataW H × List MemPlace}
    (h : DataW.trod enc Try.prog W 0 (fun _ => true) true fuel 25 [v0, v1] = some x) : ∃ a b : Int, v0 = .int .i64 a ∧ v1 = .int .i64 b := by
  obtain ⟨xs, n, _, _, _, hl, hf⟩ := DataW.trod_struct Try.underlying25 h
  have hl2 : xs.length = 2 := hl
  match xs, hl2 with
  | [y0, y1], _ =>
    have t0 : DataW.trod enc Try.prog W 0 (fun _ => true) true n 3 (([v0, v1].drop 0).take (Try.prog.cellsOf 3)) = [y0, y1][0]? := hf 0 _ rfl
    have t1 : DataW.trod enc Try.prog W 0 (fun _ => true) true n 3 (([v0, v1].drop 1).take (Try.prog.cellsOf 3)) = [y0, y1][1]? := hf 1 _ rfl
    simp only [cellsI] at t0 t1
    obtain ⟨p0, e0, _, _⟩ := DataW.trod_int Try.underlying3 t0
    obtain ⟨p1, e1, _, _⟩ := DataW.trod_int Try.underlying3 t1
    simp at e0 e1
    exact ⟨p0, p1, e0, e1⟩

theorem open_iface {H : Type} {enc : TypeId × Value → H} {W : World} {r : Reach} {b0 : Nat} {v : Value} {d : DataW H} {p : List MemPlace} (hv : Value.okWide Try.prog W r b0 27 v)
    (h : DataW.Trod enc Try.prog W 0 (fun _ => true) true 27 v d p) : ∃ x : If, v = ifV x := by
  obtain ⟨cs, rfl, hsz⟩ := okWide_struct Try.underlying27 hv
  obtain ⟨l⟩ := cs
  match l, hsz.trans cellsIf with
  | [c0, c1, c2, c3, c4], _ =>
    obtain ⟨fuel, hf⟩ := h
    obtain ⟨xs, n, _, _, _, hl, hf⟩ := DataW.trod_struct Try.underlying27 hf
    have hl4 : xs.length = 4 := hl
    match xs, hl4 with
    | [y0, y1, y2, y3], _ =>
      have t0 : DataW.trod enc Try.prog W 0 (fun _ => true) true n 3 (([c0, c1, c2, c3, c4].drop 0).take (Try.prog.cellsOf 3)) = [y0, y1, y2, y3][0]? := hf 0 _ rfl
      have t1 : DataW.trod enc Try.prog W 0 (fun _ => true) true n 3 (([c0, c1, c2, c3, c4].drop 1).take (Try.prog.cellsOf 3)) = [y0, y1, y2, y3][1]? := hf 1 _ rfl
      have t2 : DataW.trod enc Try.prog W 0 (fun _ => true) true n 25 (([c0, c1, c2, c3, c4].drop 2).take (Try.prog.cellsOf 25)) = [y0, y1, y2, y3][2]? := hf 2 _ rfl
      have t3 : DataW.trod enc Try.prog W 0 (fun _ => true) true n 3 (([c0, c1, c2, c3, c4].drop 4).take (Try.prog.cellsOf 3)) = [y0, y1, y2, y3][3]? := hf 3 _ rfl
      simp only [cellsI, cellsP] at t0 t1 t2 t3
      obtain ⟨p0, e0, _, _⟩ := DataW.trod_int Try.underlying3 t0
      obtain ⟨p1, e1, _, _⟩ := DataW.trod_int Try.underlying3 t1
      obtain ⟨p4, e4, _, _⟩ := DataW.trod_int Try.underlying3 t3
      obtain ⟨p2, p3, e2, e3⟩ := open_prefix (v0 := c2) (v1 := c3) (by simpa using t2)
      simp at e0 e1 e4
      subst e0 e1 e2 e3 e4
      exact ⟨⟨p0, p1, p2, p3, p4⟩, rfl⟩

theorem open_route {H : Type} {enc : TypeId × Value → H} {W : World} {r : Reach} {b0 : Nat} {v : Value} {d : DataW H} {p : List MemPlace} (hv : Value.okWide Try.prog W r b0 29 v)
    (h : DataW.Trod enc Try.prog W 0 (fun _ => true) true 29 v d p) : ∃ x : Rt, v = rtV x := by
  obtain ⟨cs, rfl, hsz⟩ := okWide_struct Try.underlying29 hv
  obtain ⟨l⟩ := cs
  match l, hsz.trans cellsRt with
  | [c0, c1, c2, c3], _ =>
    obtain ⟨fuel, hf⟩ := h
    obtain ⟨xs, n, _, _, _, hl, hf⟩ := DataW.trod_struct Try.underlying29 hf
    have hl3 : xs.length = 3 := hl
    match xs, hl3 with
    | [y0, y1, y2], _ =>
      have t0 : DataW.trod enc Try.prog W 0 (fun _ => true) true n 25 (([c0, c1, c2, c3].drop 0).take (Try.prog.cellsOf 25)) = [y0, y1, y2][0]? := hf 0 _ rfl
      have t1 : DataW.trod enc Try.prog W 0 (fun _ => true) true n 3 (([c0, c1, c2, c3].drop 2).take (Try.prog.cellsOf 3)) = [y0, y1, y2][1]? := hf 1 _ rfl
      have t2 : DataW.trod enc Try.prog W 0 (fun _ => true) true n 3 (([c0, c1, c2, c3].drop 3).take (Try.prog.cellsOf 3)) = [y0, y1, y2][2]? := hf 2 _ rfl
      simp only [cellsI, cellsP] at t0 t1 t2
      obtain ⟨p2, e2, _, _⟩ := DataW.trod_int Try.underlying3 t1
      obtain ⟨p3, e3, _, _⟩ := DataW.trod_int Try.underlying3 t2
      obtain ⟨p0, p1, e0, e1⟩ := open_prefix (v0 := c0) (v1 := c1) (by simpa using t0)
      simp at e2 e3
      subst e0 e1 e2 e3
      exact ⟨⟨p0, p1, p2, p3⟩, rfl⟩

end Go.Proofs.Ytkhhmoijjidbbaa
