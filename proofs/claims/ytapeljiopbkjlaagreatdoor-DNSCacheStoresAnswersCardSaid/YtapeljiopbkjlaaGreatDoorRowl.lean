/- Rows of memory that read as lists. No program in sight. -/
import Derived.Test.YtapeljiopbkjlaaGreatDoorOwn
namespace Go.Proofs.YtapeljiopbkjlaaGreatDoor
open Go.RowKit
set_option linter.unusedVariables false
set_option maxRecDepth 100000
section
variable {w : World}
theorem flat_getR {κ : Type} (kc : κ → List Value) (sz : Nat) (h : ∀ k, (kc k).length = sz) : ∀ (l : List κ) (j : Nat) (hj : j < l.length) (i : Nat), i < sz → (l.flatMap kc)[j * sz + i]? = (kc l[j])[i]?
  | [], j, hj, i, _ => by simp at hj
  | a :: l, 0, hj, i, hi => by
    simp only [List.flatMap_cons, Nat.zero_mul, Nat.zero_add, List.getElem_cons_zero]
    rw [List.getElem?_append_left (by rw [h]; exact hi)]
  | a :: l, j + 1, hj, i, hi => by
    simp only [List.flatMap_cons, List.getElem_cons_succ]
    rw [List.getElem?_append_right (by rw [h, Nat.add_mul]; omega), h, show (j + 1) * sz + i - sz = j * sz + i by rw [Nat.add_mul]; omega]
    exact flat_getR kc sz h l j (by simpa using hj) i hi
theorem row_at {E sz n : Nat} {v : Value} {α : Type} {c : α → List Value} {l : List α} (hc : ∀ x, (c x).length = sz) (h : w.ownsRow 0 E sz v n (l.flatMap c)) (hl : l.length = n) :
    ∃ a cap, v = .slice a n cap ∧ (0 < n → ∃ g, a = some ⟨g, 0, none⟩ ∧ ∀ (k : Nat) (hk : k < l.length) (j : Nat), j < sz → w.cell? ⟨g, k * sz + j, none⟩ = (c l[k])[j]?) := by
  rcases h.2 with ⟨e, hn⟩ | ⟨g, cp, cur, e, _, hh, hcp, _, hs, htk⟩
  · exact ⟨none, 0, by rw [e, hn], fun h => by omega⟩
  · refine ⟨_, cp, e, fun _ => ⟨g, rfl, fun k hk j hj => ?_⟩⟩
    rw [← flat_getR c sz hc l k hk j hj, ← htk, List.getElem?_take, if_pos ?_]
    · simp [World.cell?, hh]
    · rw [hl] at hk
      have := Nat.mul_le_mul_right sz (show k + 1 ≤ n by omega)
      rw [Nat.add_mul, Nat.one_mul] at this
      omega
theorem row_sl {E sz n : Nat} {a : Option Addr} {cap : Nat} {α : Type} {c : α → List Value} {l : List α} (hc : ∀ x, (c x).length = sz) (h : w.ownsRow 0 E sz (.slice a n cap) n (l.flatMap c)) (hl : l.length = n) (h0 : 0 < n) :
    ∃ g, a = some ⟨g, 0, none⟩ ∧ ∀ (k : Nat) (hk : k < l.length) (j : Nat), j < sz → w.cell? ⟨g, k * sz + j, none⟩ = (c l[k])[j]? := by
  obtain ⟨a', cap', e, h2⟩ := row_at hc h hl
  cases e
  exact h2 h0
theorem any_take {α : Type} {p : α → Bool} {l : List α} {k : Nat} (hk : k < l.length) (h : (l.take k).any p = false) : (l.take (k + 1)).any p = p l[k] := by
  rw [List.take_succ_eq_append_getElem hk, List.any_append, h]; simp
theorem any_hit {α : Type} {p : α → Bool} {l : List α} {k : Nat} (hk : k < l.length) (h : p l[k] = true) : l.any p = true := List.any_eq_true.2 ⟨l[k], List.getElem_mem hk, h⟩
theorem filter_step {α : Type} {p : α → Bool} {l : List α} {k : Nat} (hk : k < l.length) : (l.take (k + 1)).filter p = (l.take k).filter p ++ (if p l[k] then [l[k]] else []) := by
  rw [List.take_succ_eq_append_getElem hk, List.filter_append]
  cases h : p l[k] <;> simp [h]
theorem find_take {α : Type} {p : α → Bool} {l : List α} {k : Nat} (hk : k < l.length) (h : (l.take k).find? p = none) : (l.take (k + 1)).find? p = if p l[k] then some l[k] else none := by
  rw [List.take_succ_eq_append_getElem hk, List.find?_append, h]; simp [List.find?]; split <;> simp_all
theorem find_no {α : Type} {p : α → Bool} {l : List α} {k : Nat} (hk : k < l.length) (h : (l.take k).find? p = none) (h2 : p l[k] = false) : (l.take (k + 1)).find? p = none := by
  rw [find_take hk h, h2]; rfl
theorem find_hit {α : Type} {p : α → Bool} {l : List α} {k : Nat} (hk : k < l.length) (h : (l.take k).find? p = none) (h2 : p l[k] = true) : l.find? p = some l[k] := by
  have h3 := find_take hk h
  rw [h2, if_pos rfl] at h3
  have e : l.find? p = (l.take (k + 1) ++ l.drop (k + 1)).find? p := by rw [List.take_append_drop]
  rw [e, List.find?_append, h3]; rfl
end
end Go.Proofs.YtapeljiopbkjlaaGreatDoor
