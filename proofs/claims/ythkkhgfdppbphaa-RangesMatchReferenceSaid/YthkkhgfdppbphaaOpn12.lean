/- The arguments of the laws, opened: spans, pairs of integers, and slices of them. -/
import Derived.Test.YthkkhgfdppbphaaLwA
import Derived.Deep.Slices
import Derived.Deep.Strs
import Derived.Lib.SmallJoins
namespace Go.Proofs.Ythkkhgfdppbphaa
open Go.RowKit Go.Sort Go.Deep
open Go.ChangeShapes Go.WideShapes

theorem spot_none {w : World} {a : Addr} {v : Value} (h : w.cell? a = some v) : a = ⟨a.block, a.off, none⟩ := by
  obtain ⟨b, o, s⟩ := a
  cases s with
  | none => rfl
  | some s =>
    simp only [World.cell?] at h
    split at h
    · simp at h
    · cases h
def i64 (n : Int) : Prop := -9223372036854775808 ≤ n ∧ n ≤ 9223372036854775807
theorem wf_i64 {n : Int} (h : (Lit.int .i64 n).wf = true) : i64 n := by
  simpa [Lit.wf, IntKind.min, IntKind.max, IntKind.signed, IntKind.bits, i64] using h
theorem add_mk (b o j : Nat) : (⟨b, o, none⟩ : Addr).add j = ⟨b, o + j, none⟩ := by
  unfold Addr.add
  split
  · rename_i h; have : j = 0 := by simpa using h
    subst this; rfl
  · rfl
theorem cells_at {w : World} {b o n : Nat} {cs : List Value} (h : w.cells? 0 ⟨b, o, none⟩ n = some cs) : cs.length = n ∧ ∀ j, j < n → w.cell? ⟨b, o + j, none⟩ = cs[j]? := by
  obtain ⟨_, h2, h3⟩ := World.cells?_some h
  exact ⟨h2, fun j hj => by have := h3 j hj; rwa [add_mk] at this⟩

theorem cellsSp : Try.prog.cellsOf 24 = 2 := by kernel_rfl
theorem cellsPr : Try.prog.cellsOf 26 = 2 := by kernel_rfl
theorem cellsI : Try.prog.cellsOf 3 = 1 := by kernel_rfl

theorem open_sp {H : Type} {enc : TypeId × Value → H} {W : World} {fuel : Nat} {v0 v1 : Value} {x : DataW H × List MemPlace}
    (h : DataW.trod enc Try.prog W 0 (fun _ => true) true fuel 24 [v0, v1] = some x) : ∃ y : Sp, i64S y ∧ v0 = .int .i64 y.fr ∧ v1 = .int .i64 y.to := by
  obtain ⟨xs, n, _, _, _, hl, hf⟩ := DataW.trod_struct Try.underlying24 h
  have hl2 : xs.length = 2 := hl
  match xs, hl2 with
  | [y0, y1], _ =>
    have t0 : DataW.trod enc Try.prog W 0 (fun _ => true) true n 3 (([v0, v1].drop 0).take (Try.prog.cellsOf 3)) = [y0, y1][0]? := hf 0 _ rfl
    have t1 : DataW.trod enc Try.prog W 0 (fun _ => true) true n 3 (([v0, v1].drop 1).take (Try.prog.cellsOf 3)) = [y0, y1][1]? := hf 1 _ rfl
    simp only [cellsI] at t0 t1
    obtain ⟨p0, e0, _, w0⟩ := DataW.trod_int Try.underlying3 t0
    obtain ⟨p1, e1, _, w1⟩ := DataW.trod_int Try.underlying3 t1
    simp at e0 e1
    exact ⟨⟨p0, p1⟩, ⟨wf_i64 w0, wf_i64 w1⟩, e0, e1⟩

theorem open_pr {H : Type} {enc : TypeId × Value → H} {W : World} {fuel : Nat} {v0 v1 : Value} {x : DataW H × List MemPlace}
    (h : DataW.trod enc Try.prog W 0 (fun _ => true) true fuel 26 [v0, v1] = some x) : ∃ y : Sp, i64S y ∧ v0 = .int .i64 y.fr ∧ v1 = .int .i64 y.to := by
  cases fuel with
  | zero => simp [DataW.trod] at h
  | succ n =>
    unfold DataW.trod at h
    rw [Try.underlying26] at h
    have r2 : List.range 2 = [0, 1] := rfl
    simp [r2, cellsI] at h
    obtain ⟨_, h⟩ := h
    cases h0 : DataW.trod enc Try.prog W 0 (fun _ => true) true n 3 [v0] with
    | none => simp [h0] at h
    | some y0 =>
      cases h1 : DataW.trod enc Try.prog W 0 (fun _ => true) true n 3 [v1] with
      | none => simp [h0, h1] at h
      | some y1 =>
        obtain ⟨p0, e0, _, w0⟩ := DataW.trod_int Try.underlying3 h0
        obtain ⟨p1, e1, _, w1⟩ := DataW.trod_int Try.underlying3 h1
        simp at e0 e1
        exact ⟨⟨p0, p1⟩, ⟨wf_i64 w0, wf_i64 w1⟩, e0, e1⟩

theorem okWide_array {P : Program} {w : World} {r : Reach} {base : Nat} {t : TypeId} {v : Value} {n : Nat} {e : TypeId} (ht : P.underlying t = some (.array n e)) (h : Value.okWide P w r base t v) : ∃ cs, v = .agg cs ∧ cs.size = P.cellsOf t := by
  simp only [Value.okWide, ht] at h
  obtain ⟨cs, h1, h2, _⟩ := h
  exact ⟨cs, h1, h2⟩

theorem open_span {H : Type} {enc : TypeId × Value → H} {W : World} {r : Reach} {b0 : Nat} {v : Value} {d : DataW H} {p : List MemPlace} (hv : Value.okWide Try.prog W r b0 24 v)
    (h : DataW.Trod enc Try.prog W 0 (fun _ => true) true 24 v d p) : ∃ x : Sp, v = spV x ∧ i64S x := by
  obtain ⟨cs, rfl, hsz⟩ := okWide_struct Try.underlying24 hv
  obtain ⟨l⟩ := cs
  match l, hsz.trans cellsSp with
  | [c0, c1], _ =>
    obtain ⟨fuel, hf⟩ := h
    obtain ⟨y, hy, e0, e1⟩ := open_sp hf
    exact ⟨y, by rw [e0, e1], hy⟩
theorem open_pair {H : Type} {enc : TypeId × Value → H} {W : World} {r : Reach} {b0 : Nat} {v : Value} {d : DataW H} {p : List MemPlace} (hv : Value.okWide Try.prog W r b0 26 v)
    (h : DataW.Trod enc Try.prog W 0 (fun _ => true) true 26 v d p) : ∃ x : Sp, v = spV x ∧ i64S x := by
  obtain ⟨cs, rfl, hsz⟩ := okWide_array Try.underlying26 hv
  obtain ⟨l⟩ := cs
  match l, hsz.trans cellsPr with
  | [c0, c1], _ =>
    obtain ⟨fuel, hf⟩ := h
    obtain ⟨y, hy, e0, e1⟩ := open_pr hf
    exact ⟨y, by rw [e0, e1], hy⟩

theorem open_rows {H : Type} {enc : TypeId × Value → H} {W : World} {a : Option Addr} {len cap fuel : Nat} {x : DataW H × List MemPlace} {t e : TypeId} (ht : Try.prog.underlying t = some (.slice e)) (hc2 : Try.prog.cellsOf e = 2)
    (hop : ∀ {fuel : Nat} {v0 v1 : Value} {x : DataW H × List MemPlace}, DataW.trod enc Try.prog W 0 (fun _ => true) true fuel e [v0, v1] = some x → ∃ y : Sp, i64S y ∧ v0 = .int .i64 y.fr ∧ v1 = .int .i64 y.to)
    (h : DataW.trod enc Try.prog W 0 (fun _ => true) true fuel t [.slice a len cap] = some x) : ∃ f, RdX W (.slice a len cap) len f := by
  rcases open_slice ht h with ⟨hcs, _⟩ | ⟨ad, l, c, m, n, D, Pl, hcs, _, hl, hm, hmm, _, hel⟩
  · simp at hcs
    obtain ⟨rfl, rfl, rfl⟩ := hcs
    exact ⟨fun _ => ⟨0, 0⟩, none, 0, rfl, Nat.le_refl _, by simp, fun i hi => absurd hi (by omega), fun h => absurd rfl h⟩
  · simp at hcs
    obtain ⟨rfl, rfl, rfl⟩ := hcs
    simp only [if_true] at hmm
    subst hmm
    rw [hc2] at hel
    by_cases h0 : len = 0
    · subst h0
      exact ⟨fun _ => ⟨0, 0⟩, some ad, m, rfl, Nat.zero_le _, by simp, fun i hi => absurd hi (by omega), fun h => absurd rfl h⟩
    · obtain ⟨cs0, hc0, _⟩ := hel 0 (by omega)
      have hsp := spot_none (w := W) (a := ad) (v := cs0.getD 0 undef) (by
        obtain ⟨_, h2, h3⟩ := World.cells?_some hc0
        have := h3 0 (by omega)
        have e : (ad.add (0 * 2)).add 0 = ad := by simp [Addr.add]
        rw [e] at this
        rw [this]
        simp [List.getElem?_eq_getElem (show 0 < cs0.length by omega)])
      have key : ∀ i, i < len → ∃ y : Sp, i64S y ∧ SpCells W ad.block (ad.off + i * 2) y := by
        intro i hi
        obtain ⟨cs, hc, ht⟩ := hel i (by omega)
        have e : ad.add (i * 2) = ⟨ad.block, ad.off + i * 2, none⟩ := by
          have := add_mk ad.block ad.off (i * 2)
          rwa [← hsp] at this
        rw [e] at hc
        obtain ⟨hlen, hcell⟩ := cells_at hc
        match cs, hlen with
        | [v0, v1], _ =>
          obtain ⟨y, hy, e0, e1⟩ := hop ht
          subst e0 e1
          refine ⟨y, hy, ?_, ?_⟩
          · simpa using hcell 0 (by omega)
          · simpa using hcell 1 (by omega)
      obtain ⟨f, hf⟩ := @choose_lt Sp ⟨⟨0, 0⟩⟩ len _ key
      refine ⟨f, some ad, m, rfl, hl, by unfold maxLen at hm; omega, fun i hi => (hf i hi).1, fun _ => ⟨ad.block, ad.off, by rw [hsp], fun i hi => (hf i hi).2⟩⟩

theorem open_spans {H : Type} {enc : TypeId × Value → H} {W : World} {a : Option Addr} {len cap fuel : Nat} {x : DataW H × List MemPlace}
    (h : DataW.trod enc Try.prog W 0 (fun _ => true) true fuel 22 [.slice a len cap] = some x) : ∃ f, RdX W (.slice a len cap) len f := open_rows Try.underlying22 cellsSp open_sp h
theorem open_pairs {H : Type} {enc : TypeId × Value → H} {W : World} {a : Option Addr} {len cap fuel : Nat} {x : DataW H × List MemPlace}
    (h : DataW.trod enc Try.prog W 0 (fun _ => true) true fuel 25 [.slice a len cap] = some x) : ∃ f, RdX W (.slice a len cap) len f := open_rows Try.underlying25 cellsPr open_pr h

end Go.Proofs.Ythkkhgfdppbphaa
