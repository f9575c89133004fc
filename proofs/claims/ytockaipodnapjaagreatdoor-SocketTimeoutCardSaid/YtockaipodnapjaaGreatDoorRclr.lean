/- Rows that are owned: several cells are stored, elements are cleared, the row is cut short. No program in sight. -/
import Derived.Lib.SliceRun
import Derived.Test.YtockaipodnapjaaGreatDoorRset
namespace Go.Proofs.YtockaipodnapjaaGreatDoor
open Go.RowKit
set_option linter.unusedVariables false
set_option maxRecDepth 100000

def setL : List Value → Nat → List Value → List Value
  | xs, _, [] => xs
  | xs, o, u :: us => setL (xs.set o u) (o + 1) us
theorem setL_len : ∀ (us xs : List Value) (o : Nat), (setL xs o us).length = xs.length
  | [], _, _ => rfl
  | u :: us, xs, o => by rw [setL, setL_len us]; simp
theorem setL_take (k : Nat) : ∀ (us xs : List Value) (o : Nat), k ≤ o → (setL xs o us).take k = xs.take k
  | [], _, _, _ => rfl
  | u :: us, xs, o, h => by
    rw [setL, setL_take k us _ _ (by omega), List.take_set_of_le h]
theorem Own.rowSets {w0 : World} {D : Nat → Prop} (i : Nat) {g n cap E sz : Nat} : ∀ (us : List Value) {w : World} {L : List Res} {xs : List Value} (o : Nat), Own w0 D w L → L[i]? = some (rowR (.slice (some ⟨g, 0, none⟩) n cap) E sz n xs) →
    Own w0 D (w.setCells g o us) (L.set i (rowR (.slice (some ⟨g, 0, none⟩) n cap) E sz n (setL xs o us)))
  | [], w, L, xs, o, h, hi => by
    have e : L.set i (rowR (.slice (some ⟨g, 0, none⟩) n cap) E sz n xs) = L := by
      apply List.ext_getElem?
      intro j
      by_cases hj : j = i
      · subst hj; rw [List.getElem?_set_self (get_len hi), hi]
      · rw [List.getElem?_set_ne (Ne.symm hj)]
    show Own w0 D w _
    rw [setL, e]; exact h
  | u :: us, w, L, xs, o, h, hi => by
    have h1 := h.rowSet i hi o u
    have h2 := Own.rowSets i us (o + 1) h1 (by rw [List.getElem?_set_self (get_len hi)])
    rw [List.set_set] at h2
    exact h2
theorem Own.rowCut {w0 w : World} {D : Nat → Prop} {L : List Res} (h : Own w0 D w L) (i : Nat) {g n cap E sz : Nat} {xs : List Value} (hi : L[i]? = some (rowR (.slice (some ⟨g, 0, none⟩) n cap) E sz n xs)) (m : Nat) (hm : m ≤ n) :
    Own w0 D w (L.set i (rowR (.slice (some ⟨g, 0, none⟩) m cap) E sz m (xs.take (m * sz)))) := by
  obtain ⟨F, h1, h2, h3⟩ := h.step hi
  refine h3 (R' := rowR (.slice (some ⟨g, 0, none⟩) m cap) E sz m (xs.take (m * sz))) (F' := F) ⟨h1.1, ?_⟩ (fun b hb => .inl hb) (Upd.refl _ _)
  have hmul : m * sz ≤ n * sz := Nat.mul_le_mul_right sz hm
  obtain ⟨r1, ⟨e, _⟩ | ⟨g', cp, cur, e, hg0, hh, hcp, hmx, hs, htk⟩⟩ := h1.2
  · cases e
  · cases e
    refine ⟨by rw [List.length_take, r1]; omega, .inr ⟨g, cap, cur, rfl, hg0, hh, by omega, hmx, hs, ?_⟩⟩
    rw [← htk, List.take_take, Nat.min_eq_left hmul]
theorem zeroCells_len {zs : Array Value} {n : Nat} : (Builtin.zeroCells zs n).toList.length = n * zs.size := by
  simp [Builtin.zeroCells]
theorem zeroCells_one {zs : Array Value} {n : Nat} (h : ∀ (i : Nat) (hi : i < zs.size), zs[i].oneCell' = true) : ∀ u ∈ (Builtin.zeroCells zs n).toList, u.oneCell' = true := by
  intro u hu
  simp only [Builtin.zeroCells, Array.toList_map, List.mem_map] at hu
  obtain ⟨i, hi, rfl⟩ := hu
  have hi2 : i < n * zs.size := by simpa using hi
  have h0 : 0 < zs.size := by
    rcases Nat.eq_zero_or_pos zs.size with h | h
    · rw [h] at hi2; omega
    · exact h
  have hm : i % zs.size < zs.size := Nat.mod_lt _ h0
  rw [getElem!_pos zs (i % zs.size) hm]
  exact h _ hm
theorem run_clear_K {P : Program} (w : World) (t e ty : TypeId) (z : Value) (ht : P.underlying t = some (.slice e)) (hv : ∀ w, (zeroValue e).run P w = .ok z w) (h1 : ∀ n, ∀ u ∈ (Builtin.zeroCells z.cells n).toList, u.oneCell' = true) (b o n c : Nat) (hn : 0 < n)
    (hc : ∀ j, j < n * z.cells.size → (w.cell? ⟨b, o + j, none⟩).isSome = true) (hf : ∀ j, j < n * z.cells.size → w.frozen? ⟨b, o + j, none⟩ = false) :
    (Builtin.clear_ #[t] ty #[.slice (some ⟨b, o, none⟩) n c]).run P w = .ok (.tuple #[]) (w.setCells b o (Builtin.zeroCells z.cells n).toList) := by
  have hst := run_storeCells_cells (P := P) b o (Builtin.zeroCells z.cells n).toList 0 w (by rw [zeroCells_len]; simpa using hc) (by rw [zeroCells_len]; simpa using hf) (h1 n)
  simp only [Nat.add_zero] at hst
  obtain ⟨m, rfl⟩ : ∃ m, n = m + 1 := ⟨n - 1, by omega⟩
  have hu : (underlying t).run P w = .ok (.slice e) w := by simp [underlying, go_sem, ht]
  simp [Builtin.clear_, hu, hv, hst]

end Go.Proofs.YtockaipodnapjaaGreatDoor
