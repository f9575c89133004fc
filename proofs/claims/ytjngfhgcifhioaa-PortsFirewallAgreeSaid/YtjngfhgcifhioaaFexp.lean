/- The plain law of expire. -/
import Derived.Test.YtjngfhgcifhioaaFdat
namespace Go.Proofs.Ytjngfhgcifhioaa
open Go.RowKit
set_option linter.unusedVariables false
set_option maxRecDepth 100000

/-- What is left of m when the keys done have been looked at. -/
def expD (now : Int) (m : List (FK × Us)) (done : List FK) : List (FK × Us) := m.filter fun x => !(decide (x.1 ∈ done) && oldU now x.2)
theorem expD_nil (now : Int) (m : List (FK × Us)) : expD now m [] = m := by simp [expD]
theorem expD_keys {now : Int} {m : List (FK × Us)} {done : List FK} (h : (keysU m).Nodup) : (keysU (expD now m done)).Nodup := keysU_filter _ h
theorem key_uniq {m : List (FK × Us)} (h : (keysU m).Nodup) {x : FK × Us} {k : FK} {u : Us} (h1 : (k, u) ∈ m) (hx : x ∈ m) (e : x.1 = k) : x = (k, u) := nodup_map_inj (f := fun x : FK × Us => x.1) h hx h1 e
theorem exp_all {now : Int} {m : List (FK × Us)} {done : List FK} (h : ∀ x ∈ mapU (expD now m done), x.1 ∈ done) : expD now m done = expF now m := by
  apply List.filter_congr
  intro x hx
  cases ho : oldU now x.2 with
  | false => simp
  | true =>
    by_cases hd : x.1 ∈ done
    · simp [hd]
    · refine absurd (h (x.1, valU x.2) ?_) hd
      exact List.mem_map_of_mem (f := fun x : FK × Us => (x.1, valU x.2)) (List.mem_filter.2 ⟨hx, by simp [hd]⟩)
theorem exp_keep {now : Int} {m : List (FK × Us)} {done : List FK} (hn : (keysU m).Nodup) {k : FK} {u : Us} (h : (k, u) ∈ expD now m done) (ho : oldU now u = false) : expD now m done = expD now m (k :: done) := by
  apply List.filter_congr
  intro x hx
  by_cases e : x.1 = k
  · have := key_uniq hn (List.mem_filter.1 h).1 hx e
    subst this
    simp [ho]
  · simp [e]
theorem exp_del {now : Int} {m : List (FK × Us)} {done : List FK} (hn : (keysU m).Nodup) {k : FK} {u : Us} (h : (k, u) ∈ expD now m done) (ho : oldU now u = true) : delU k (expD now m done) = expD now m (k :: done) := by
  unfold delU expD
  rw [List.filter_filter]
  apply List.filter_congr
  intro x hx
  by_cases e : x.1 = k
  · have := key_uniq hn (List.mem_filter.1 h).1 hx e
    subst this
    simp [ho]
  · simp [e]
theorem meas_lt {cur cur' : List (FK × Us)} {done : List FK} {k : FK} {u : Us} (hs : cur' = cur ∨ cur' = delU k cur) (hm : (k, u) ∈ cur) (hk : k ∉ done) :
    ((mapU cur').filter fun x => decide (x.1 ∉ k :: done)).length < ((mapU cur).filter fun x => decide (x.1 ∉ done)).length := by
  have e : ∀ (l : List (FK × Us)) (d : List FK), ((mapU l).filter fun x => decide (x.1 ∉ d)).length = (l.filter fun x => decide (x.1 ∉ d)).length := fun l d => by
    unfold mapU; rw [List.filter_map, List.length_map]; rfl
  rw [e, e]
  have h1 : (cur'.filter fun x => decide (x.1 ∉ k :: done)).length ≤ ((cur.filter fun x => decide (x.1 ∉ done)).filter fun x => decide (x.1 ≠ k)).length := by
    rw [List.filter_filter]
    have h2 : (fun x : FK × Us => decide (x.1 ∉ k :: done)) = fun x => decide (x.1 ≠ k) && decide (x.1 ∉ done) := by
      funext x; rw [Bool.eq_iff_iff]; simp
    rw [h2]
    rcases hs with rfl | rfl
    · exact Nat.le_refl _
    · exact ((List.filter_sublist (l := cur)).filter _).length_le
  have h3 : ((cur.filter fun x => decide (x.1 ∉ done)).filter fun x => decide (x.1 ≠ k)).length < (cur.filter fun x => decide (x.1 ∉ done)).length := by
    rw [List.length_filter_lt_length_iff_exists]
    exact ⟨(k, u), List.mem_filter.2 ⟨hm, by simpa using hk⟩, by simp⟩
  omega

end Go.Proofs.Ytjngfhgcifhioaa
