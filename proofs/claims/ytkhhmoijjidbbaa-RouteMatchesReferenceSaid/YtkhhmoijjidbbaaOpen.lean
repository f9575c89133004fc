/- The arguments of the laws, opened: slices of raw interfaces and of raw routes. -/
import Derived.Test.YtkhhmoijjidbbaaLawB
import Derived.Deep.Slices
import Derived.Deep.Strs
import Derived.Lib.SmallJoins
namespace Go.Proofs.Ytkhhmoijjidbbaa
open Go.RowKit Go.Sort Go.Deep
open Go.ChangeShapes Go.WideShapes

theorem spot_none {w : World} {a : Addr} {v : Value} (h : w.cell? a = some v) : a = ⟨a.block, a.off, none⟩ := by
  obtain ⟨b, o, s⟩ := a
  cases s with
  | none => rfl
  | some s =>
    simp only [World.cell?] at h
    split at h
    · simp at h
    · cases h

theorem wf_i64 {n : Int} (h : (Lit.int .i64 n).wf = true) : i64 n := by
  simpa [Lit.wf, IntKind.min, IntKind.max, IntKind.signed, IntKind.bits, i64] using h

theorem add_mk (b o j : Nat) : (⟨b, o, none⟩ : Addr).add j = ⟨b, o + j, none⟩ := by
  unfold Addr.add
  split
  · rename_i h; have : j = 0 := by simpa using h
    subst this; rfl
  · rfl

theorem cells_at {w : World} {b o n : Nat} {cs : List Value} (h : w.cells? 0 ⟨b, o, none⟩ n = some cs) : cs.length = n ∧ ∀ j, j < n → w.cell? ⟨b, o + j, none⟩ = cs[j]? := by
  obtain ⟨_, h2, h3⟩ := World.cells?_some h
  exact ⟨h2, fun j hj => by have := h3 j hj; rwa [add_mk] at this⟩

theorem cells3 : Try.prog.cellsOf 55 = 3 := by kernel_rfl
theorem cellsI : Try.prog.cellsOf 3 = 1 := by kernel_rfl

theorem open_faces {H : Type} {enc : TypeId × Value → H} {W : World} {a : Option Addr} {len cap fuel : Nat} {x : DataW H × List MemPlace}
    (h : DataW.trod enc Try.prog W 0 (fun _ => true) true fuel 22 [.slice a len cap] = some x) : ∃ f, RdF W (.slice a len cap) len f := by
  rcases open_slice Try.underlying22 h with ⟨hcs, _⟩ | ⟨ad, l, c, m, n, D, Pl, hcs, _, hl, hm, hmm, _, hel⟩
  · simp at hcs
    obtain ⟨rfl, rfl, rfl⟩ := hcs
    exact ⟨fun _ => ⟨0, 0, 0⟩, none, 0, rfl, Nat.le_refl _, by simp, fun i hi => absurd hi (by omega), fun h => absurd rfl h⟩
  · simp at hcs
    obtain ⟨rfl, rfl, rfl⟩ := hcs
    simp only [if_true] at hmm
    subst hmm
    rw [cells3] at hel
    by_cases h0 : len = 0
    · subst h0
      exact ⟨fun _ => ⟨0, 0, 0⟩, some ad, m, rfl, Nat.zero_le _, by simp, fun i hi => absurd hi (by omega), fun h => absurd rfl h⟩
    · obtain ⟨cs0, hc0, _⟩ := hel 0 (by omega)
      have hsp := spot_none (w := W) (a := ad) (v := cs0.getD 0 undef) (by
        obtain ⟨_, h2, h3⟩ := World.cells?_some hc0
        have := h3 0 (by omega)
        have e : (ad.add (0 * 3)).add 0 = ad := by simp [Addr.add]
        rw [e] at this
        rw [this]
        simp [List.getElem?_eq_getElem (show 0 < cs0.length by omega)])
      have key : ∀ i, i < len → ∃ y : Fr, y.ok ∧ W.cell? ⟨ad.block, ad.off + i * 3, none⟩ = some (.int .i64 y.addr) ∧ W.cell? ⟨ad.block, ad.off + i * 3 + 1, none⟩ = some (.int .i64 y.bits) ∧ W.cell? ⟨ad.block, ad.off + i * 3 + 2, none⟩ = some (.int .i64 y.mtu) := by
        intro i hi
        obtain ⟨cs, hc, ht⟩ := hel i (by omega)
        have e : ad.add (i * 3) = ⟨ad.block, ad.off + i * 3, none⟩ := by
          have := add_mk ad.block ad.off (i * 3)
          rwa [← hsp] at this
        rw [e] at hc
        obtain ⟨hlen, hcell⟩ := cells_at hc
        obtain ⟨y0, y1, y2, n', _, _, t0, t1, t2⟩ := trod_struct3 Try.underlying55 ht
        match cs, hlen with
        | [v0, v1, v2], _ =>
          simp only [cellsI] at t0 t1 t2
          obtain ⟨p0, e0, _, w0⟩ := DataW.trod_int Try.underlying3 t0
          obtain ⟨p1, e1, _, w1⟩ := DataW.trod_int Try.underlying3 t1
          obtain ⟨p2, e2, _, w2⟩ := DataW.trod_int Try.underlying3 t2
          simp at e0 e1 e2
          subst e0 e1 e2
          refine ⟨⟨p0, p1, p2⟩, ⟨wf_i64 w0, wf_i64 w1, wf_i64 w2⟩, ?_, ?_, ?_⟩
          · simpa using hcell 0 (by omega)
          · simpa using hcell 1 (by omega)
          · simpa using hcell 2 (by omega)
      obtain ⟨f, hf⟩ := @choose_lt Fr ⟨⟨0, 0, 0⟩⟩ len _ key
      refine ⟨f, some ad, m, rfl, hl, by unfold maxLen at hm; omega, fun i hi => (hf i hi).1, fun _ => ⟨ad.block, ad.off, by rw [hsp], fun i hi => (hf i hi).2⟩⟩

end Go.Proofs.Ytkhhmoijjidbbaa
