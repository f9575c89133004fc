/- What the card of PortsResetReachesOwner lays: the package variables. After XOpn24. -/
import Derived.Test.YthdnonoheochhaaGreatDoorCards
import Derived.Test.YthdnonoheochhaaGreatDoorTie
import Derived.ProofKit
import Derived.LaidMore
import Derived.ChangeSame
import Derived.ChangeVars
import Derived.LaidLaws
import Derived.LaidHandle
import Derived.Stop.ErrReads
import Derived.Stop.LaidErr
import Derived.JoinedOf
import Derived.Lay
import Derived.MakeChecks
import Derived.OpenShut
namespace Go.Proofs.YthdnonoheochhaaGreatDoor
open Go.RowKit Go.ChangeShapes Go.WideShapes
set_option linter.unusedVariables false
set_option maxRecDepth 100000
set_option maxRecDepth 100000
theorem cellsI24 : Tryz.prog.cellsOf 3 = 1 := by kernel_rfl
theorem cellsA3 : Tryz.prog.cellsOf 200 = 3 := by kernel_rfl
theorem tri_elem {W : World} {fuel : Nat} {cs : List Value} {d : DataW Unit} {p : List MemPlace} (a b c : Int) (h : DataW.trod (fun _ => ()) Tryz.prog W 0 (fun _ => true) false fuel 200 cs = some (d, p))
    (hd : d = .agg [.lit (.int .i64 a), .lit (.int .i64 b), .lit (.int .i64 c)]) : cs = [.int .i64 a, .int .i64 b, .int .i64 c] := by
  obtain ⟨xs, n, _, hx, hlen, hl, hf⟩ := DataW.trod_array Tryz.underlying200 h
  rw [cellsA3] at hlen
  simp only [cellsI24] at hf
  match cs, hlen with
  | [v0, v1, v2], _ =>
    match xs, hl with
    | [y0, y1, y2], _ =>
      simp only [Prod.mk.injEq, hd, List.map_cons, List.map_nil, DataW.agg.injEq, List.cons.injEq, and_true] at hx
      obtain ⟨⟨e0, e1, e2⟩, _⟩ := hx
      have t0 : DataW.trod (fun _ => ()) Tryz.prog W 0 (fun _ => true) false n 3 [v0] = some y0 := hf 0 (by decide)
      have t1 : DataW.trod (fun _ => ()) Tryz.prog W 0 (fun _ => true) false n 3 [v1] = some y1 := hf 1 (by decide)
      have t2 : DataW.trod (fun _ => ()) Tryz.prog W 0 (fun _ => true) false n 3 [v2] = some y2 := hf 2 (by decide)
      obtain ⟨p0, g0, k0, _⟩ := DataW.trod_int Tryz.underlying3 t0
      obtain ⟨p1, g1, k1, _⟩ := DataW.trod_int Tryz.underlying3 t1
      obtain ⟨p2, g2, k2, _⟩ := DataW.trod_int Tryz.underlying3 t2
      rw [k0] at e0
      rw [k1] at e1
      rw [k2] at e2
      simp only [DataW.lit.injEq, Lit.int.injEq, true_and] at e0 e1 e2
      rw [List.cons.inj g0 |>.1, List.cons.inj g1 |>.1, List.cons.inj g2 |>.1, e0, e1, e2]
theorem slice3 {cs vs : List Value} {n : Nat} (h : ∀ i, i < n → (cs.drop (i * 3)).take 3 = (vs.drop (i * 3)).take 3) (j : Nat) (hj : j < n * 3) : cs[j]? = vs[j]? := by
  have h1 := congrArg (fun l => l[j % 3]?) (h (j / 3) (by omega))
  simp only [List.getElem?_take, List.getElem?_drop, Nat.mod_lt j (by decide : 0 < 3), if_true] at h1
  rw [show j / 3 * 3 + j % 3 = j by omega] at h1
  exact h1
def triW : List Value := [.int .i64 0, .int .i64 1, .int .i64 1, .int .i64 0, .int .i64 2, .int .i64 2, .int .i64 1, .int .i64 3, .int .i64 3, .int .i64 1, .int .i64 2, .int .i64 2, .int .i64 1, .int .i64 5, .int .i64 0, .int .i64 2, .int .i64 4, .int .i64 3, .int .i64 2, .int .i64 5, .int .i64 4, .int .i64 2, .int .i64 6, .int .i64 6, .int .i64 3, .int .i64 5, .int .i64 4, .int .i64 3, .int .i64 6, .int .i64 6, .int .i64 4, .int .i64 7, .int .i64 5, .int .i64 4, .int .i64 6, .int .i64 7, .int .i64 5, .int .i64 6, .int .i64 9, .int .i64 6, .int .i64 5, .int .i64 8, .int .i64 7, .int .i64 7, .int .i64 9, .int .i64 8, .int .i64 7, .int .i64 0]
theorem tri_cells {W : World} {fuel : Nat} {cs : List Value} {p : List MemPlace} (h : DataW.trod (fun _ => ()) Tryz.prog W 0 (fun _ => true) false fuel 201 cs = some (Rows.laid_stagepost_tcpstate_triples, p)) : ∀ j, j < 48 → cs[j]? = triW[j]? := by
  obtain ⟨xs, n, _, hx, hlen, hl, hf⟩ := DataW.trod_array Tryz.underlying201 h
  simp only [cellsA3] at hf
  match xs, hl with
  | [y0, y1, y2, y3, y4, y5, y6, y7, y8, y9, y10, y11, y12, y13, y14, y15], _ =>
    simp only [Prod.mk.injEq, Rows.laid_stagepost_tcpstate_triples, List.map_cons, List.map_nil, DataW.agg.injEq, List.cons.injEq, and_true] at hx
    obtain ⟨⟨h0, h1, h2, h3, h4, h5, h6, h7, h8, h9, h10, h11, h12, h13, h14, h15⟩, _⟩ := hx
    have s0 := tri_elem (d := y0.1) (p := y0.2) 0 1 1 (hf 0 (by decide)) h0.symm
    have s1 := tri_elem (d := y1.1) (p := y1.2) 0 2 2 (hf 1 (by decide)) h1.symm
    have s2 := tri_elem (d := y2.1) (p := y2.2) 1 3 3 (hf 2 (by decide)) h2.symm
    have s3 := tri_elem (d := y3.1) (p := y3.2) 1 2 2 (hf 3 (by decide)) h3.symm
    have s4 := tri_elem (d := y4.1) (p := y4.2) 1 5 0 (hf 4 (by decide)) h4.symm
    have s5 := tri_elem (d := y5.1) (p := y5.2) 2 4 3 (hf 5 (by decide)) h5.symm
    have s6 := tri_elem (d := y6.1) (p := y6.2) 2 5 4 (hf 6 (by decide)) h6.symm
    have s7 := tri_elem (d := y7.1) (p := y7.2) 2 6 6 (hf 7 (by decide)) h7.symm
    have s8 := tri_elem (d := y8.1) (p := y8.2) 3 5 4 (hf 8 (by decide)) h8.symm
    have s9 := tri_elem (d := y9.1) (p := y9.2) 3 6 6 (hf 9 (by decide)) h9.symm
    have s10 := tri_elem (d := y10.1) (p := y10.2) 4 7 5 (hf 10 (by decide)) h10.symm
    have s11 := tri_elem (d := y11.1) (p := y11.2) 4 6 7 (hf 11 (by decide)) h11.symm
    have s12 := tri_elem (d := y12.1) (p := y12.2) 5 6 9 (hf 12 (by decide)) h12.symm
    have s13 := tri_elem (d := y13.1) (p := y13.2) 6 5 8 (hf 13 (by decide)) h13.symm
    have s14 := tri_elem (d := y14.1) (p := y14.2) 7 7 9 (hf 14 (by decide)) h14.symm
    have s15 := tri_elem (d := y15.1) (p := y15.2) 8 7 0 (hf 15 (by decide)) h15.symm
    refine slice3 (n := 16) fun i hi => ?_
    match i, hi with
    | 0, _ => exact s0
    | 1, _ => exact s1
    | 2, _ => exact s2
    | 3, _ => exact s3
    | 4, _ => exact s4
    | 5, _ => exact s5
    | 6, _ => exact s6
    | 7, _ => exact s7
    | 8, _ => exact s8
    | 9, _ => exact s9
    | 10, _ => exact s10
    | 11, _ => exact s11
    | 12, _ => exact s12
    | 13, _ => exact s13
    | 14, _ => exact s14
    | 15, _ => exact s15
    | k + 16, hi => omega
theorem gTr : Tryz.prog.globalNamed "stagepost/tcpstate.triples" = some 1 := by kernel_rfl
theorem gTrT : (Tryz.prog.globals[1]?).map (·.type) = some 201 := by kernel_rfl
theorem gEs : Tryz.prog.globalNamed "stagepost/congestion.errSize" = some 0 := by kernel_rfl
theorem gEsT : (Tryz.prog.globals[0]?).map (·.type) = some 125 := by kernel_rfl
theorem cellsSt24 : Tryz.prog.cellsOf 9 = 1 := by kernel_rfl
theorem cellsEs24 : Tryz.prog.cellsOf 282 = 1 := by kernel_rfl
theorem starEs : "*" ++ "errors.errorString" = "*errors.errorString" := by decide
theorem rowEs (u : TypeId) (h : Tryz.prog.typeName? 3 u = some "*errors.errorString") : u = 260 :=
  typeName_ptr_named (nm := "errors.errorString") (by rw [starEs]; kernel_rfl) (by kernel_rfl) (by decide) u (by rw [starEs]; exact h)
abbrev laid25 : List (String × DataW Unit) := [("stagepost/tcpstate.triples", Rows.laid_stagepost_tcpstate_triples), ("stagepost/congestion.errSize", Rows.laid_stagepost_congestion_errSize)]
theorem of_laid25 {W : World} (h : laidMetH Tryz.prog laid25 W) :
    (∃ v, W.cell? ⟨0, 0, none⟩ = some (.iface 260 v)) ∧ ∀ j v, triW[j]? = some v → W.cell? ⟨1, j, none⟩ = some v := by
  have h' : laidMet Tryz.prog [("stagepost/tcpstate.triples", Rows.laid_stagepost_tcpstate_triples), ("stagepost/congestion.errSize", Rows.laid_stagepost_congestion_errSize)] W := h
  refine ⟨?_, ?_⟩
  · obtain ⟨a1, s1, hv1, hc1, hs1, hz1⟩ := laid_sentinel (laidMet.tail h') gEs gEsT Tryz.underlying125 rowEs Tryz.underlying260 Tryz.underlying282 rfl rfl Tryz.underlying9 cellsEs24 cellsSt24
    exact ⟨.pointer (some a1), by simpa using World.var?_cell gEs hv1 0⟩
  · obtain ⟨ps, ⟨g0, t0, cs0, f0, p0, q0, hg0, ht0, hv0, hd0, _, e0⟩, _, hrows⟩ := h'
    obtain rfl := Option.some.inj (gTr.symm.trans hg0)
    obtain rfl := Option.some.inj (gTrT.symm.trans ht0)
    intro j v hj
    have hlt : j < 48 := (List.getElem?_eq_some_iff.1 hj).1
    have h1 := tri_cells hd0 j hlt
    have h2 := World.var?_cell gTr hv0 j
    rw [h2, ← hj, ← h1]
    simp
theorem door_met25 (os : Os) (args : Array Value) : laidMetH Tryz.prog laid25 ((World.doorLaid Tryz.prog 400 os).forCall (fun _ _ => 0) ⟨#[], args, []⟩).memory :=
  laidMetH_of_parts3 (fuel := 8) (laidMet_of_run' 8 (by kernel_rfl) (by kernel_rfl)) (by kernel_rfl) (by kernel_rfl)
theorem wf_i64 {n : Int} (h : (Lit.int .i64 n).wf = true) : -9223372036854775808 ≤ n ∧ n ≤ 9223372036854775807 := by
  simpa [Lit.wf, IntKind.min, IntKind.max, IntKind.signed, IntKind.bits] using h
theorem wf_u8 {n : Int} (h : (Lit.int .u8 n).wf = true) : 0 ≤ n ∧ n ≤ 255 := by
  simpa [Lit.wf, IntKind.min, IntKind.max, IntKind.signed, IntKind.bits] using h
theorem cells_a2i : Tryz.prog.cellsOf 22 = 2 := by kernel_rfl
theorem open_a2i {H : Type} {enc : TypeId × Value → H} {W : World} {fuel : Nat} {cs : List Value} {x : DataW H × List MemPlace} (hl : cs.length = 2)
    (h : DataW.trod enc Tryz.prog W 0 (fun _ => true) true fuel 22 cs = some x) : ∃ c : Int × Int, ((-9223372036854775808 ≤ c.1 ∧ c.1 ≤ 9223372036854775807) ∧ (-9223372036854775808 ≤ c.2 ∧ c.2 ≤ 9223372036854775807)) ∧ cs = [.int .i64 c.1, .int .i64 c.2] := by
  match cs, hl with
  | [v0, v1], _ =>
    obtain ⟨xs, n, _, _, _, hl, hf⟩ := DataW.trod_array Tryz.underlying22 h
    have hl2 : xs.length = 2 := hl
    match xs, hl2 with
    | [y0, y1], _ =>
      have t0 := hf 0 (by decide)
      have t1 := hf 1 (by decide)
      simp only [cellsI24] at t0 t1
      have t0' : DataW.trod enc Tryz.prog W 0 (fun _ => true) true n 3 [v0] = some y0 := t0
      have t1' : DataW.trod enc Tryz.prog W 0 (fun _ => true) true n 3 [v1] = some y1 := t1
      obtain ⟨p0, e0, _, w0⟩ := DataW.trod_int Tryz.underlying3 t0'
      obtain ⟨p1, e1, _, w1⟩ := DataW.trod_int Tryz.underlying3 t1'
      simp at e0 e1
      exact ⟨(p0, p1), ⟨wf_i64 w0, wf_i64 w1⟩, by simp [e0, e1]⟩
theorem okWide_array {P : Program} {w : World} {r : Reach} {base : Nat} {t : TypeId} {v : Value} {n : Nat} {e : TypeId} (ht : P.underlying t = some (.array n e)) (h : Value.okWide P w r base t v) : ∃ cs, v = .agg cs ∧ cs.size = P.cellsOf t := by
  simp only [Value.okWide, ht] at h
  obtain ⟨cs, h1, h2, _⟩ := h
  exact ⟨cs, h1, h2⟩
theorem open_a2i_v {H : Type} {enc : TypeId × Value → H} {W : World} {r : Reach} {b0 : Nat} {v : Value} {d : DataW H} {p : List MemPlace} (hv : Value.okWide Tryz.prog W r b0 22 v)
    (h : DataW.Trod enc Tryz.prog W 0 (fun _ => true) true 22 v d p) : ∃ x : Int × Int, v = .agg #[.int .i64 x.1, .int .i64 x.2] ∧ ((-9223372036854775808 ≤ x.1 ∧ x.1 ≤ 9223372036854775807) ∧ (-9223372036854775808 ≤ x.2 ∧ x.2 ≤ 9223372036854775807)) := by
  obtain ⟨cs, rfl, hsz⟩ := okWide_array Tryz.underlying22 hv
  obtain ⟨l⟩ := cs
  match l, hsz.trans cells_a2i with
  | [c0, c1], _ =>
    obtain ⟨fuel, hf⟩ := h
    obtain ⟨y, hy, e⟩ := open_a2i rfl hf
    exact ⟨y, congrArg (fun l => Value.agg (Array.mk l)) (show [c0, c1] = [.int .i64 y.1, .int .i64 y.2] from e), hy⟩
end Go.Proofs.YthdnonoheochhaaGreatDoor
