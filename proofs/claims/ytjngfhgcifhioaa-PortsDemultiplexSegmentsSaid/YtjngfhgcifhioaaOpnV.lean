/- Arguments of arrays of integers, opened. Printed by wip/tools/gen23H.py. -/
import Derived.Test.YtjngfhgcifhioaaOpnU
namespace Go.Proofs.Ytjngfhgcifhioaa
open Go.RowKit Go.Sort Go.Deep
open Go.ChangeShapes Go.WideShapes
set_option linter.unusedVariables false
set_option maxRecDepth 100000

theorem cells_a2i : Try.prog.cellsOf 42 = 2 := by kernel_rfl
theorem open_a2i {H : Type} {enc : TypeId × Value → H} {W : World} {fuel : Nat} {cs : List Value} {x : DataW H × List MemPlace} (hl : cs.length = 2)
    (h : DataW.trod enc Try.prog W 0 (fun _ => true) true fuel 42 cs = some x) : ∃ c : Int × Int, ((-9223372036854775808 ≤ c.1 ∧ c.1 ≤ 9223372036854775807) ∧ (-9223372036854775808 ≤ c.2 ∧ c.2 ≤ 9223372036854775807)) ∧ cs = [.int .i64 c.1, .int .i64 c.2] := by
  match cs, hl with
  | [v0, v1], _ =>
    obtain ⟨xs, n, _, _, _, hl, hf⟩ := DataW.trod_array Try.underlying42 h
    have hl2 : xs.length = 2 := hl
    match xs, hl2 with
    | [y0, y1], _ =>
      have t0 := hf 0 (by decide)
      have t1 := hf 1 (by decide)
      simp only [cellsI] at t0 t1
      have t0' : DataW.trod enc Try.prog W 0 (fun _ => true) true n 3 [v0] = some y0 := t0
      have t1' : DataW.trod enc Try.prog W 0 (fun _ => true) true n 3 [v1] = some y1 := t1
      obtain ⟨p0, e0, _, w0⟩ := DataW.trod_int Try.underlying3 t0'
      obtain ⟨p1, e1, _, w1⟩ := DataW.trod_int Try.underlying3 t1'
      simp at e0 e1
      exact ⟨(p0, p1), ⟨wf_i64 w0, wf_i64 w1⟩, by simp [e0, e1]⟩
theorem open_a2i_v {H : Type} {enc : TypeId × Value → H} {W : World} {r : Reach} {b0 : Nat} {v : Value} {d : DataW H} {p : List MemPlace} (hv : Value.okWide Try.prog W r b0 42 v)
    (h : DataW.Trod enc Try.prog W 0 (fun _ => true) true 42 v d p) : ∃ x : Int × Int, v = .agg #[.int .i64 x.1, .int .i64 x.2] ∧ ((-9223372036854775808 ≤ x.1 ∧ x.1 ≤ 9223372036854775807) ∧ (-9223372036854775808 ≤ x.2 ∧ x.2 ≤ 9223372036854775807)) := by
  obtain ⟨cs, rfl, hsz⟩ := okWide_array Try.underlying42 hv
  obtain ⟨l⟩ := cs
  match l, hsz.trans cells_a2i with
  | [c0, c1], _ =>
    obtain ⟨fuel, hf⟩ := h
    obtain ⟨y, hy, e⟩ := open_a2i rfl hf
    exact ⟨y, congrArg (fun l => Value.agg (Array.mk l)) (show [c0, c1] = [.int .i64 y.1, .int .i64 y.2] from e), hy⟩
theorem cells_a3u : Try.prog.cellsOf 43 = 3 := by kernel_rfl
theorem open_a3u {H : Type} {enc : TypeId × Value → H} {W : World} {fuel : Nat} {cs : List Value} {x : DataW H × List MemPlace} (hl : cs.length = 3)
    (h : DataW.trod enc Try.prog W 0 (fun _ => true) true fuel 43 cs = some x) : ∃ c : Int × Int × Int, ((0 ≤ c.1 ∧ c.1 ≤ 65535) ∧ (0 ≤ c.2.1 ∧ c.2.1 ≤ 65535) ∧ (0 ≤ c.2.2 ∧ c.2.2 ≤ 65535)) ∧ cs = [.int .u16 c.1, .int .u16 c.2.1, .int .u16 c.2.2] := by
  match cs, hl with
  | [v0, v1, v2], _ =>
    obtain ⟨xs, n, _, _, _, hl, hf⟩ := DataW.trod_array Try.underlying43 h
    have hl2 : xs.length = 3 := hl
    match xs, hl2 with
    | [y0, y1, y2], _ =>
      have t0 := hf 0 (by decide)
      have t1 := hf 1 (by decide)
      have t2 := hf 2 (by decide)
      simp only [cellsU16] at t0 t1 t2
      have t0' : DataW.trod enc Try.prog W 0 (fun _ => true) true n 23 [v0] = some y0 := t0
      have t1' : DataW.trod enc Try.prog W 0 (fun _ => true) true n 23 [v1] = some y1 := t1
      have t2' : DataW.trod enc Try.prog W 0 (fun _ => true) true n 23 [v2] = some y2 := t2
      obtain ⟨p0, e0, _, w0⟩ := DataW.trod_int Try.underlying23 t0'
      obtain ⟨p1, e1, _, w1⟩ := DataW.trod_int Try.underlying23 t1'
      obtain ⟨p2, e2, _, w2⟩ := DataW.trod_int Try.underlying23 t2'
      simp at e0 e1 e2
      exact ⟨(p0, p1, p2), ⟨wf_u16 w0, wf_u16 w1, wf_u16 w2⟩, by simp [e0, e1, e2]⟩
theorem open_a3u_v {H : Type} {enc : TypeId × Value → H} {W : World} {r : Reach} {b0 : Nat} {v : Value} {d : DataW H} {p : List MemPlace} (hv : Value.okWide Try.prog W r b0 43 v)
    (h : DataW.Trod enc Try.prog W 0 (fun _ => true) true 43 v d p) : ∃ x : Int × Int × Int, v = .agg #[.int .u16 x.1, .int .u16 x.2.1, .int .u16 x.2.2] ∧ ((0 ≤ x.1 ∧ x.1 ≤ 65535) ∧ (0 ≤ x.2.1 ∧ x.2.1 ≤ 65535) ∧ (0 ≤ x.2.2 ∧ x.2.2 ≤ 65535)) := by
  obtain ⟨cs, rfl, hsz⟩ := okWide_array Try.underlying43 hv
  obtain ⟨l⟩ := cs
  match l, hsz.trans cells_a3u with
  | [c0, c1, c2], _ =>
    obtain ⟨fuel, hf⟩ := h
    obtain ⟨y, hy, e⟩ := open_a3u rfl hf
    exact ⟨y, congrArg (fun l => Value.agg (Array.mk l)) (show [c0, c1, c2] = [.int .u16 y.1, .int .u16 y.2.1, .int .u16 y.2.2] from e), hy⟩

end Go.Proofs.Ytjngfhgcifhioaa
