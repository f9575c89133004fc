/- The raw routes, opened. -/
import Derived.Test.YtkhhmoijjidbbaaOpen
import Derived.Test.YtkhhmoijjidbbaaLawF
namespace Go.Proofs.Ytkhhmoijjidbbaa
open Go.RowKit Go.Sort Go.Deep
open Go.ChangeShapes Go.WideShapes

theorem cells4 : Try.prog.cellsOf 59 = 4 := by kernel_rfl

theorem open_routes {H : Type} {enc : TypeId × Value → H} {W : World} {a : Option Addr} {len cap fuel : Nat} {x : DataW H × List MemPlace}
    (h : DataW.trod enc Try.prog W 0 (fun _ => true) true fuel 23 [.slice a len cap] = some x) : ∃ f, RdW W (.slice a len cap) len f := by
  rcases open_slice Try.underlying23 h with ⟨hcs, _⟩ | ⟨ad, l, c, m, n, D, Pl, hcs, _, hl, hm, hmm, _, hel⟩
  · simp at hcs
    obtain ⟨rfl, rfl, rfl⟩ := hcs
    exact ⟨fun _ => ⟨0, 0, 0, 0⟩, none, 0, rfl, Nat.le_refl _, by simp, fun i hi => absurd hi (by omega), fun h => absurd rfl h⟩
  · simp at hcs
    obtain ⟨rfl, rfl, rfl⟩ := hcs
    simp only [if_true] at hmm
    subst hmm
    rw [cells4] at hel
    by_cases h0 : len = 0
    · subst h0
      exact ⟨fun _ => ⟨0, 0, 0, 0⟩, some ad, m, rfl, Nat.zero_le _, by simp, fun i hi => absurd hi (by omega), fun h => absurd rfl h⟩
    · obtain ⟨cs0, hc0, _⟩ := hel 0 (by omega)
      have hsp := spot_none (w := W) (a := ad) (v := cs0.getD 0 undef) (by
        obtain ⟨_, h2, h3⟩ := World.cells?_some hc0
        have := h3 0 (by omega)
        have e : (ad.add (0 * 4)).add 0 = ad := by simp [Addr.add]
        rw [e] at this
        rw [this]
        simp [List.getElem?_eq_getElem (show 0 < cs0.length by omega)])
      have key : ∀ i, i < len → ∃ y : Rr, y.ok ∧ W.cell? ⟨ad.block, ad.off + i * 4, none⟩ = some (.int .i64 y.addr) ∧ W.cell? ⟨ad.block, ad.off + i * 4 + 1, none⟩ = some (.int .i64 y.bits) ∧ W.cell? ⟨ad.block, ad.off + i * 4 + 2, none⟩ = some (.int .i64 y.via) ∧ W.cell? ⟨ad.block, ad.off + i * 4 + 3, none⟩ = some (.int .i64 y.face) := by
        intro i hi
        obtain ⟨cs, hc, ht⟩ := hel i (by omega)
        have e : ad.add (i * 4) = ⟨ad.block, ad.off + i * 4, none⟩ := by
          have := add_mk ad.block ad.off (i * 4)
          rwa [← hsp] at this
        rw [e] at hc
        obtain ⟨hlen, hcell⟩ := cells_at hc
        obtain ⟨y0, y1, y2, y3, n', _, _, t0, t1, t2, t3⟩ := Go.Joins.trod_struct4 Try.underlying59 ht
        match cs, hlen with
        | [v0, v1, v2, v3], _ =>
          simp only [cellsI] at t0 t1 t2 t3
          obtain ⟨p0, e0, _, w0⟩ := DataW.trod_int Try.underlying3 t0
          obtain ⟨p1, e1, _, w1⟩ := DataW.trod_int Try.underlying3 t1
          obtain ⟨p2, e2, _, w2⟩ := DataW.trod_int Try.underlying3 t2
          obtain ⟨p3, e3, _, w3⟩ := DataW.trod_int Try.underlying3 t3
          simp at e0 e1 e2 e3
          subst e0 e1 e2 e3
          refine ⟨⟨p0, p1, p2, p3⟩, ⟨wf_i64 w0, wf_i64 w1, wf_i64 w2, wf_i64 w3⟩, ?_, ?_, ?_, ?_⟩
          · simpa using hcell 0 (by omega)
          · simpa using hcell 1 (by omega)
          · simpa using hcell 2 (by omega)
          · simpa using hcell 3 (by omega)
      obtain ⟨f, hf⟩ := @choose_lt Rr ⟨⟨0, 0, 0, 0⟩⟩ len _ key
      refine ⟨f, some ad, m, rfl, hl, by unfold maxLen at hm; omega, fun i hi => (hf i hi).1, fun _ => ⟨ad.block, ad.off, by rw [hsp], fun i hi => (hf i hi).2⟩⟩

end Go.Proofs.Ytkhhmoijjidbbaa
