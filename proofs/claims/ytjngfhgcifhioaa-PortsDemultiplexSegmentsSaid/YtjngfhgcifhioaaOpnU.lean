/- Arguments of pairs of uint16, opened. -/
import Derived.Test.YtjngfhgcifhioaaOpnG
namespace Go.Proofs.Ytjngfhgcifhioaa
open Go.RowKit Go.Sort Go.Deep
open Go.ChangeShapes Go.WideShapes
set_option linter.unusedVariables false
set_option maxRecDepth 100000

theorem cellsU16 : Try.prog.cellsOf 23 = 1 := by kernel_rfl
theorem cellsPu : Try.prog.cellsOf 24 = 2 := by kernel_rfl
def u16B (n : Int) : Prop := 0 ≤ n ∧ n ≤ 65535
theorem open_pu {H : Type} {enc : TypeId × Value → H} {W : World} {fuel : Nat} {cs : List Value} {x : DataW H × List MemPlace} (hl : cs.length = 2)
    (h : DataW.trod enc Try.prog W 0 (fun _ => true) true fuel 24 cs = some x) : ∃ c : Int × Int, (u16B c.1 ∧ u16B c.2) ∧ cs = [.int .u16 c.1, .int .u16 c.2] := by
  match cs, hl with
  | [v0, v1], _ =>
    obtain ⟨xs, n, _, _, _, hl, hf⟩ := DataW.trod_array Try.underlying24 h
    have hl2 : xs.length = 2 := hl
    match xs, hl2 with
    | [y0, y1], _ =>
      have t0 := hf 0 (by decide)
      have t1 := hf 1 (by decide)
      simp only [cellsU16] at t0 t1
      have t0' : DataW.trod enc Try.prog W 0 (fun _ => true) true n 23 [v0] = some y0 := t0
      have t1' : DataW.trod enc Try.prog W 0 (fun _ => true) true n 23 [v1] = some y1 := t1
      obtain ⟨p0, e0, _, w0⟩ := DataW.trod_int Try.underlying23 t0'
      obtain ⟨p1, e1, _, w1⟩ := DataW.trod_int Try.underlying23 t1'
      simp at e0 e1
      exact ⟨(p0, p1), ⟨wf_u16 w0, wf_u16 w1⟩, by simp [e0, e1]⟩
/-- A slice of pairs. -/
def RdP (w : World) (v : Value) (len : Nat) (g : Nat → Int × Int) : Prop :=
  ∃ a cap, v = .slice a len cap ∧ len ≤ cap ∧ len ≤ 9223372036854775807 ∧ (∀ i, i < len → u16B (g i).1 ∧ u16B (g i).2) ∧ (len ≠ 0 → ∃ b o, a = some ⟨b, o, none⟩ ∧ ∀ i, i < len → ∀ j, j < 2 → w.cell? ⟨b, o + i * 2 + j, none⟩ = [Value.int .u16 (g i).1, .int .u16 (g i).2][j]?)
theorem open_pairs {H : Type} {enc : TypeId × Value → H} {W : World} {a : Option Addr} {len cap fuel : Nat} {x : DataW H × List MemPlace}
    (h : DataW.trod enc Try.prog W 0 (fun _ => true) true fuel 22 [.slice a len cap] = some x) : ∃ g, RdP W (.slice a len cap) len g := by
  obtain ⟨f, ⟨a', cap', e, h1, h2, h3⟩, hq⟩ := open_rows Try.underlying22 cellsPu (by decide) (fun cs => ∃ c : Int × Int, (u16B c.1 ∧ u16B c.2) ∧ cs = [.int .u16 c.1, .int .u16 c.2]) (fun hl ht => open_pu hl ht) h
  cases e
  obtain ⟨g, hg⟩ := @Go.Deep.choose_lt (Int × Int) ⟨(0, 0)⟩ len _ (fun i hi => (hq i hi).2)
  refine ⟨g, a, cap, rfl, h1, h2, fun i hi => (hg i hi).1, fun hn => ?_⟩
  obtain ⟨b, o, rfl, hc⟩ := h3 hn
  exact ⟨b, o, rfl, fun i hi j hj => by rw [hc i hi j hj, (hg i hi).2]⟩
theorem okWide_array {P : Program} {w : World} {r : Reach} {base : Nat} {t : TypeId} {v : Value} {n : Nat} {e : TypeId} (ht : P.underlying t = some (.array n e)) (h : Value.okWide P w r base t v) : ∃ cs, v = .agg cs ∧ cs.size = P.cellsOf t := by
  simp only [Value.okWide, ht] at h
  obtain ⟨cs, h1, h2, _⟩ := h
  exact ⟨cs, h1, h2⟩
theorem open_pu_v {H : Type} {enc : TypeId × Value → H} {W : World} {r : Reach} {b0 : Nat} {v : Value} {d : DataW H} {p : List MemPlace} (hv : Value.okWide Try.prog W r b0 24 v)
    (h : DataW.Trod enc Try.prog W 0 (fun _ => true) true 24 v d p) : ∃ x : Int × Int, v = .agg #[.int .u16 x.1, .int .u16 x.2] ∧ (u16B x.1 ∧ u16B x.2) := by
  obtain ⟨cs, rfl, hsz⟩ := okWide_array Try.underlying24 hv
  obtain ⟨l⟩ := cs
  match l, hsz.trans cellsPu with
  | [c0, c1], _ =>
    obtain ⟨fuel, hf⟩ := h
    obtain ⟨y, hy, e⟩ := open_pu rfl hf
    exact ⟨y, congrArg (fun l => Value.agg (Array.mk l)) (show [c0, c1] = [.int .u16 y.1, .int .u16 y.2] from e), hy⟩

end Go.Proofs.Ytjngfhgcifhioaa
