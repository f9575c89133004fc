/- Rows that are owned: several cells are stored, elements are cleared, the row is cut short. No program in sight. -/
import Derived.Lib.SliceRun
import Derived.Test.YthdnonoheochhaaGreatDoorRset
namespace Go.Proofs.YthdnonoheochhaaGreatDoor
open Go.RowKit
set_option linter.unusedVariables false
set_option maxRecDepth 100000
def setL : List Value → Nat → List Value → List Value
  | xs, _, [] => xs
  | xs, o, u :: us => setL (xs.set o u) (o + 1) us
theorem Own.rowSets {w0 : World} {D : Nat → Prop} (i : Nat) {g n cap E sz : Nat} : ∀ (us : List Value) {w : World} {L : List Res} {xs : List Value} (o : Nat), Own w0 D w L → L[i]? = some (rowR (.slice (some ⟨g, 0, none⟩) n cap) E sz n xs) →
    Own w0 D (w.setCells g o us) (L.set i (rowR (.slice (some ⟨g, 0, none⟩) n cap) E sz n (setL xs o us)))
  | [], w, L, xs, o, h, hi => by
    have e : L.set i (rowR (.slice (some ⟨g, 0, none⟩) n cap) E sz n xs) = L := by
      apply List.ext_getElem?
      intro j
      by_cases hj : j = i
      · subst hj; rw [List.getElem?_set_self (get_len hi), hi]
      · rw [List.getElem?_set_ne (Ne.symm hj)]
    show Own w0 D w _
    rw [setL, e]; exact h
  | u :: us, w, L, xs, o, h, hi => by
    have h1 := h.rowSet i hi o u
    have h2 := Own.rowSets i us (o + 1) h1 (by rw [List.getElem?_set_self (get_len hi)])
    rw [List.set_set] at h2
    exact h2
end Go.Proofs.YthdnonoheochhaaGreatDoor
