/- What is owned may be listed in any order. No program in sight. -/
import Derived.Test.YthdnonoheochhaaGreatDoorOwnC
namespace Go.Proofs.YthdnonoheochhaaGreatDoor
open Go.RowKit
set_option linter.unusedVariables false
set_option maxRecDepth 100000
section
variable {w0 w : World} {D : Nat → Prop} {L L' : List Res}
theorem Own.swap {pre l : List Res} {x y : Res} (h : Own w0 D w (pre ++ y :: x :: l)) : Own w0 D w (pre ++ x :: y :: l) := by
  obtain ⟨h1, Fs, h2, h3⟩ := h
  let s : Nat → Nat := fun k => if k = pre.length then k + 1 else if k = pre.length + 1 then k - 1 else k
  have hinj : ∀ j k, j ≠ k → s j ≠ s k := fun j k hjk => by
    simp only [s]
    split <;> split <;> (try split) <;> (try split) <;> omega
  have hlen : ∀ k, k < (pre ++ x :: y :: l).length → s k < (pre ++ y :: x :: l).length := fun k hk => by
    simp only [List.length_append, List.length_cons, s] at *
    split
    · omega
    · split <;> omega
  have hget : ∀ k, (pre ++ x :: y :: l)[k]? = (pre ++ y :: x :: l)[s k]? := fun k => by
    simp only [s]
    by_cases e1 : k = pre.length
    · subst e1; simp
    · by_cases e2 : k = pre.length + 1
      · subst e2
        rw [if_neg (by omega), if_pos rfl]
        simp
      · rw [if_neg e1, if_neg e2]
        by_cases e3 : k < pre.length
        · rw [List.getElem?_append_left e3, List.getElem?_append_left e3]
        · rw [List.getElem?_append_right (by omega), List.getElem?_append_right (by omega)]
          obtain ⟨n, hn⟩ : ∃ n, k - pre.length = n + 2 := ⟨k - pre.length - 2, by omega⟩
          rw [hn]; simp
  refine ⟨h1, fun k => Fs (s k), fun k R hk => h2 (s k) R (by rw [← hget]; exact hk), fun j k hj hk hjk => h3 (s j) (s k) (hlen j hj) (hlen k hk) (hinj j k hjk)⟩
theorem Own.perm_pre (hp : L.Perm L') : ∀ pre : List Res, Own w0 D w (pre ++ L) → Own w0 D w (pre ++ L') := by
  induction hp with
  | nil => exact fun _ h => h
  | cons x _ ih =>
    intro pre h
    have := ih (pre ++ [x]) (by simpa using h)
    simpa using this
  | swap x y l => exact fun pre h => h.swap
  | trans _ _ ih1 ih2 => exact fun pre h => ih2 pre (ih1 pre h)
theorem Own.perm (h : Own w0 D w L) (hp : L.Perm L') : Own w0 D w L' := Own.perm_pre hp [] h
theorem Own.rot (h : Own w0 D w (L ++ L')) : Own w0 D w (L' ++ L) := h.perm List.perm_append_comm
theorem Own.drop (h : Own w0 D w L) (n : Nat) : Own w0 D w (L.drop n) := by
  have h1 : Own w0 D w (L.drop n ++ L.take n) := Own.rot (by rw [List.take_append_drop]; exact h)
  have := h1.take (L.drop n).length
  rwa [List.take_left'] at this
  rfl
end
end Go.Proofs.YthdnonoheochhaaGreatDoor
