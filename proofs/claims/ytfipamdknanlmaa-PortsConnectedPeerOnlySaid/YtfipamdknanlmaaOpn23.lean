/- The arguments of the laws of chapter 23, opened. -/
import Derived.Test.YtfipamdknanlmaaOpnG
import Derived.Test.YtfipamdknanlmaaPlw
namespace Go.Proofs.Ytfipamdknanlmaa
open Go.RowKit Go.Sort Go.Deep
open Go.ChangeShapes Go.WideShapes
set_option linter.unusedVariables false

theorem cellsU8 : Try.prog.cellsOf 5 = 1 := by kernel_rfl
theorem cellsBo : Try.prog.cellsOf 4 = 1 := by kernel_rfl
theorem cellsCl : Try.prog.cellsOf 29 = 6 := by kernel_rfl
theorem open_cl {H : Type} {enc : TypeId × Value → H} {W : World} {fuel : Nat} {cs : List Value} {x : DataW H × List MemPlace} (hl : cs.length = 6)
    (h : DataW.trod enc Try.prog W 0 (fun _ => true) true fuel 29 cs = some x) : ∃ c : Cl, ClOk c ∧ cs = (clA c).toList := by
  match cs, hl with
  | [v0, v1, v2, v3, v4, v5], _ =>
    obtain ⟨xs, n, _, _, _, hl, hf⟩ := DataW.trod_struct Try.underlying29 h
    have hl2 : xs.length = 6 := hl
    match xs, hl2 with
    | [y0, y1, y2, y3, y4, y5], _ =>
      have t0 : DataW.trod enc Try.prog W 0 (fun _ => true) true n 5 (([v0, v1, v2, v3, v4, v5].drop 0).take (Try.prog.cellsOf 5)) = [y0, y1, y2, y3, y4, y5][0]? := hf 0 _ rfl
      have t1 : DataW.trod enc Try.prog W 0 (fun _ => true) true n 4 (([v0, v1, v2, v3, v4, v5].drop 1).take (Try.prog.cellsOf 4)) = [y0, y1, y2, y3, y4, y5][1]? := hf 1 _ rfl
      have t2 : DataW.trod enc Try.prog W 0 (fun _ => true) true n 3 (([v0, v1, v2, v3, v4, v5].drop 2).take (Try.prog.cellsOf 3)) = [y0, y1, y2, y3, y4, y5][2]? := hf 2 _ rfl
      have t3 : DataW.trod enc Try.prog W 0 (fun _ => true) true n 3 (([v0, v1, v2, v3, v4, v5].drop 3).take (Try.prog.cellsOf 3)) = [y0, y1, y2, y3, y4, y5][3]? := hf 3 _ rfl
      have t4 : DataW.trod enc Try.prog W 0 (fun _ => true) true n 3 (([v0, v1, v2, v3, v4, v5].drop 4).take (Try.prog.cellsOf 3)) = [y0, y1, y2, y3, y4, y5][4]? := hf 4 _ rfl
      have t5 : DataW.trod enc Try.prog W 0 (fun _ => true) true n 3 (([v0, v1, v2, v3, v4, v5].drop 5).take (Try.prog.cellsOf 3)) = [y0, y1, y2, y3, y4, y5][5]? := hf 5 _ rfl
      simp only [cellsI, cellsU8, cellsBo] at t0 t1 t2 t3 t4 t5
      obtain ⟨p0, e0, _, w0⟩ := DataW.trod_int Try.underlying5 t0
      obtain ⟨p1, e1, _⟩ := DataW.trod_bool Try.underlying4 t1
      obtain ⟨p2, e2, _, w2⟩ := DataW.trod_int Try.underlying3 t2
      obtain ⟨p3, e3, _, w3⟩ := DataW.trod_int Try.underlying3 t3
      obtain ⟨p4, e4, _, w4⟩ := DataW.trod_int Try.underlying3 t4
      obtain ⟨p5, e5, _, w5⟩ := DataW.trod_int Try.underlying3 t5
      simp at e0 e1 e2 e3 e4 e5
      exact ⟨⟨p0, p1, p2, p3, p4, p5⟩, ⟨wf_u8 w0, wf_i64 w2, wf_i64 w3, wf_i64 w4, wf_i64 w5⟩, by simp [e0, e1, e2, e3, e4, e5]⟩

/-- A slice of calls. -/
def RdC (w : World) (v : Value) (len : Nat) (g : Nat → Cl) : Prop :=
  ∃ a cap, v = .slice a len cap ∧ len ≤ cap ∧ len ≤ 9223372036854775807 ∧ (∀ i, i < len → ClOk (g i)) ∧ (len ≠ 0 → ∃ b o, a = some ⟨b, o, none⟩ ∧ ∀ i, i < len → ∀ j, j < 6 → w.cell? ⟨b, o + i * 6 + j, none⟩ = (clA (g i))[j]?)
theorem open_calls {H : Type} {enc : TypeId × Value → H} {W : World} {a : Option Addr} {len cap fuel : Nat} {x : DataW H × List MemPlace}
    (h : DataW.trod enc Try.prog W 0 (fun _ => true) true fuel 22 [.slice a len cap] = some x) : ∃ g, RdC W (.slice a len cap) len g := by
  obtain ⟨f, ⟨a', cap', e, h1, h2, h3⟩, hq⟩ := open_rows Try.underlying22 cellsCl (by decide) (fun cs => ∃ c : Cl, ClOk c ∧ cs = (clA c).toList) (fun hl ht => open_cl hl ht) h
  cases e
  obtain ⟨g, hg⟩ := @choose_lt Cl ⟨⟨0, false, 0, 0, 0, 0⟩⟩ len _ (fun i hi => (hq i hi).2)
  refine ⟨g, a, cap, rfl, h1, h2, fun i hi => (hg i hi).1, fun hn => ?_⟩
  obtain ⟨b, o, rfl, hc⟩ := h3 hn
  exact ⟨b, o, rfl, fun i hi j hj => by rw [hc i hi j hj, (hg i hi).2]; simp⟩

end Go.Proofs.Ytfipamdknanlmaa
