/- A composite thing at the head of what is owned is opened and shut. No program in sight. -/
import Derived.Test.YthdnonoheochhaaGreatDoorOwnH
namespace Go.Proofs.YthdnonoheochhaaGreatDoor
open Go.RowKit
set_option linter.unusedVariables false
set_option maxRecDepth 100000
section
variable {w0 w : World} {D : Nat → Prop} {L : List Res}
theorem Own.openC {Rs : List Res} (h : Own w0 D w (sepR Rs :: L)) : Own w0 D w (Rs ++ L) := by
  obtain ⟨h1, Fs, h2, h3⟩ := h
  obtain ⟨⟨Gs, f1, f2, f3⟩, hd⟩ := h2 0 (sepR Rs) rfl
  have hcross : ∀ i k b, i < Rs.length → k < L.length → Gs i b → ¬ Fs (k + 1) b := fun i k b hi hk hg => h3 0 (k + 1) (by simp) (by simp; omega) (by omega) b ((f3 b).2 ⟨i, hi, hg⟩)
  refine ⟨h1, fun j => if j < Rs.length then Gs j else Fs (j - Rs.length + 1), fun j R hj => ?_, fun j k hj hk hjk b => ?_⟩
  · dsimp only
    by_cases e : j < Rs.length
    · rw [if_pos e]
      rw [List.getElem?_append_left e] at hj
      exact ⟨f1 j R hj, fun b hb => hd b ((f3 b).2 ⟨j, e, hb⟩)⟩
    · rw [if_neg e]
      rw [List.getElem?_append_right (by omega)] at hj
      exact h2 (j - Rs.length + 1) R (by simpa using hj)
  · rw [List.length_append] at hj hk
    dsimp only
    by_cases e1 : j < Rs.length
    · rw [if_pos e1]
      by_cases e2 : k < Rs.length
      · rw [if_pos e2]; exact f2 j k e1 e2 hjk b
      · rw [if_neg e2]; exact hcross j (k - Rs.length) b e1 (by omega)
    · rw [if_neg e1]
      by_cases e2 : k < Rs.length
      · rw [if_pos e2]; exact fun x y => hcross k (j - Rs.length) b e2 (by omega) y x
      · rw [if_neg e2]; exact h3 (j - Rs.length + 1) (k - Rs.length + 1) (by simp; omega) (by simp; omega) (by omega) b
theorem Own.shutC {Rs : List Res} (h : Own w0 D w (Rs ++ L)) : Own w0 D w (sepR Rs :: L) := by
  obtain ⟨h1, Gs, h2, h3⟩ := h
  have hR : ∀ i R, Rs[i]? = some R → R.P w (Gs i) ∧ ∀ b, Gs i b → D b ∨ w0.heap.size ≤ b := fun i R hi => h2 i R (by rw [List.getElem?_append_left (get_len hi)]; exact hi)
  refine ⟨h1, fun j => match j with | 0 => fun b => ∃ i, i < Rs.length ∧ Gs i b | k + 1 => Gs (Rs.length + k), fun j R hj => ?_, fun j k hj hk hjk b => ?_⟩
  · cases j with
    | zero =>
      cases hj
      refine ⟨⟨Gs, fun i R hi => (hR i R hi).1, fun i j hi hj => h3 i j (by simp; omega) (by simp; omega), fun b => Iff.rfl⟩, fun b ⟨i, hi, hb⟩ => (hR i Rs[i] (List.getElem?_eq_getElem hi)).2 b hb⟩
    | succ k => exact h2 (Rs.length + k) R (by rw [List.getElem?_append_right (by omega)]; simpa using hj)
  · simp only [List.length_cons] at hj hk
    cases j with
    | zero =>
      cases k with
      | zero => exact absurd rfl hjk
      | succ k => rintro ⟨i, hi, hb⟩; exact h3 i (Rs.length + k) (by simp; omega) (by simp; omega) (by omega) b hb
    | succ j =>
      cases k with
      | zero => rintro hb ⟨i, hi, hb2⟩; exact h3 i (Rs.length + j) (by simp; omega) (by simp; omega) (by omega) b hb2 hb
      | succ k => exact h3 (Rs.length + j) (Rs.length + k) (by simp; omega) (by simp; omega) (by omega) b
theorem Own.openExC {α : Type} {f : α → Res} (h : Own w0 D w (exR f :: L)) : ∃ a, Own w0 D w (f a :: L) := by
  obtain ⟨h1, Gs, h2, h3⟩ := h
  obtain ⟨⟨a, ha⟩, hd⟩ := h2 0 (exR f) rfl
  refine ⟨a, h1, Gs, fun i R hi => ?_, h3⟩
  cases i with
  | succ i => exact h2 (i + 1) R hi
  | zero => cases hi; exact ⟨ha, hd⟩
theorem Own.shutExC {α : Type} {f : α → Res} (a : α) (h : Own w0 D w (f a :: L)) : Own w0 D w (exR f :: L) := by
  obtain ⟨h1, Gs, h2, h3⟩ := h
  obtain ⟨ha, hd⟩ := h2 0 (f a) rfl
  refine ⟨h1, Gs, fun i R hi => ?_, h3⟩
  cases i with
  | succ i => exact h2 (i + 1) R hi
  | zero => cases hi; exact ⟨⟨a, ha⟩, hd⟩
end
end Go.Proofs.YthdnonoheochhaaGreatDoor
