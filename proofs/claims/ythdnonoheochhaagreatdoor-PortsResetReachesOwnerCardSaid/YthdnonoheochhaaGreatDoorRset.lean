/- Rows that are owned: a cell is read, and changed. No program in sight. -/
import Derived.Test.YthdnonoheochhaaGreatDoorOwnP
namespace Go.Proofs.YthdnonoheochhaaGreatDoor
open Go.RowKit
set_option linter.unusedVariables false
set_option maxRecDepth 100000
theorem row_cells {w : World} {E sz n : Nat} {g cap : Nat} {xs : List Value} (h : w.ownsRow 0 E sz (.slice (some ⟨g, 0, none⟩) n cap) n xs) : (∀ j u, xs[j]? = some u → w.cell? ⟨g, j, none⟩ = some u) ∧ ∀ j, w.frozen? ⟨g, j, none⟩ = false := by
  obtain ⟨h1, ⟨e, _⟩ | ⟨g', cp, cur, e, _, hh, hcp, _, hs, htk⟩⟩ := h
  · cases e
  · cases e
    refine ⟨fun j u hj => ?_, fun j => by simp [World.frozen?, hh]⟩
    have hjl : j < n * sz := by
      rcases Nat.lt_or_ge j (n * sz) with h | h
      · exact h
      · rw [List.getElem?_eq_none (by omega)] at hj; cases hj
    rw [← htk, List.getElem?_take, if_pos hjl] at hj
    simp [World.cell?, hh]
    simpa using hj
theorem row_some {w : World} {E sz n : Nat} {a : Option Addr} {cap : Nat} {xs : List Value} (h : w.ownsRow 0 E sz (.slice a n cap) n xs) (h0 : 0 < n) : ∃ g, a = some ⟨g, 0, none⟩ := by
  obtain ⟨h1, ⟨e, hn⟩ | ⟨g', cp, cur, e, _⟩⟩ := h
  · omega
  · cases e; exact ⟨g', rfl⟩
theorem row_shape {w : World} {E sz n : Nat} {v : Value} {xs : List Value} (h : w.ownsRow 0 E sz v n xs) : ∃ a cap, v = .slice a n cap := by
  obtain ⟨h1, ⟨e, hn⟩ | ⟨g', cp, cur, e, _⟩⟩ := h
  · exact ⟨none, 0, by rw [e, hn]⟩
  · exact ⟨_, cp, e⟩
theorem Own.rowSet {w0 w : World} {D : Nat → Prop} {L : List Res} (h : Own w0 D w L) (i : Nat) {g n cap E sz : Nat} {xs : List Value} (hi : L[i]? = some (rowR (.slice (some ⟨g, 0, none⟩) n cap) E sz n xs)) (j : Nat) (u : Value) :
    Own w0 D (w.setCell ⟨g, j, none⟩ u) (L.set i (rowR (.slice (some ⟨g, 0, none⟩) n cap) E sz n (xs.set j u))) := by
  obtain ⟨F, h1, h2, h3⟩ := h.step hi
  have hF : F g := (h1.1 g).2 rfl
  refine h3 (R' := rowR (.slice (some ⟨g, 0, none⟩) n cap) E sz n (xs.set j u)) (F' := F) ⟨h1.1, ?_⟩ (fun b hb => .inl hb) (Upd.setCell (p := ⟨g, j, none⟩) (Upd.refl F w) (fun _ => hF) u)
  obtain ⟨r1, ⟨e, _⟩ | ⟨g', cp, cur, e, hg0, hh, hcp, hmx, hs, htk⟩⟩ := h1.2
  · cases e
  · cases e
    refine ⟨by simpa using r1, .inr ⟨g, cap, cur.setIfInBounds j u, rfl, hg0, blk_setc hh j u, hcp, hmx, by simpa using hs, ?_⟩⟩
    rw [Array.toList_setIfInBounds, List.take_set, htk]
end Go.Proofs.YthdnonoheochhaaGreatDoor
