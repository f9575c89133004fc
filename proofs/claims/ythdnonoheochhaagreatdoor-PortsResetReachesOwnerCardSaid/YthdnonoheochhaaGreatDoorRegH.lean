/- The general region theorem as a walk in the order of the text over a frame that is written out. No program in sight. -/
import Derived.Test.YthdnonoheochhaaGreatDoorRegG
import Derived.Test.YthdnonoheochhaaGreatDoorRegion2
namespace Go.Proofs.YthdnonoheochhaaGreatDoor
open Go.RowKit Go.Sort
set_option linter.unusedVariables false
set_option maxRecDepth 100000
structure GRep (Γ : Ghost) (ops : Array Oper) (a0 : Act) (G : List GPred) (a : Act) (ex : List (Tmp × GPred)) : Prop where
  eqs : ∀ j d A, j < G.length → lastW ops G.length d = some j → G[j]? = some A → d ∉ ex.map (·.1) → ∀ v g, Γ.inv g.vs g.w → A v g → v = a.eval (.tmp d)
  exs : ∀ j d A, j < G.length → lastW ops G.length d = some j → G[j]? = some A → ∀ B, (d, B) ∈ ex → ∀ v g, Γ.inv g.vs g.w → A v g → B v g
  untouched : ∀ s, lastW ops G.length s = none → a.eval (.tmp s) = a0.eval (.tmp s)
  size : a.tmps.size = a0.tmps.size
  defers : a.defers = a0.defers
section
variable {Γ : Ghost} {P : Program} {ops : Array Oper} {chain : List Nat} {a0 : Act} {F : List GPred → Prop} {i : Nat} {o : Oper} {rest : List Oper} {a : Act} {ex : List (Tmp × GPred)}
theorem GRep.look {G : List GPred} (hrep : GRep Γ ops a0 G a ex) (hi : G.length = i) {a' : Act} {g : GW} {s : Tmp} (hg : Γ.inv g.vs g.w) (hl : lexAt ops i s = true) (he : genvAt ops a0 G i a' g s) :
    (s ∉ ex.map (·.1) → a'.eval (.tmp s) = a.eval (.tmp s)) ∧ ∀ B, (s, B) ∈ ex → (lastW ops i s).isSome = true → B (a'.eval (.tmp s)) g := by
  subst hi
  unfold lexAt at hl
  unfold genvAt at he
  cases hw : lastW ops G.length s with
  | some j =>
    rw [hw] at hl
    simp only [decide_eq_true_eq] at hl
    rw [hl] at he
    simp only at he
    obtain ⟨hj, _⟩ := lastW_some hw
    have hgj : G[j]? = some (G.getD j (fun _ _ => True)) := by simp [hj]
    exact ⟨fun hex => hrep.eqs j s _ hj hw hgj hex _ _ hg he, fun B hB _ => hrep.exs j s _ hj hw hgj B hB _ _ hg he⟩
  | none =>
    rw [hw] at hl
    simp only [Bool.and_eq_true, Option.isNone_iff_eq_none] at hl
    rw [hl.1] at he
    simp only [hl.2, if_true] at he
    exact ⟨fun _ => he.trans (hrep.untouched s hw).symm, fun _ _ h => by cases h⟩
theorem lastW_next {n : Nat} {d : Tmp} (hd : dstOf ops n = some d) (huniq : ∀ k, k < n → dstOf ops k ≠ some d) (s : Tmp) : lastW ops (n + 1) s = if s = d then some n else lastW ops n s := by
  unfold lastW
  rw [List.range_succ, List.find?_append]
  by_cases hs : s = d
  · subst hs
    have : (List.range n).find? (fun j => dstOf ops j == some s) = none := by
      rw [List.find?_eq_none]
      intro k hk
      have := huniq k (List.mem_range.1 hk)
      simpa using this
    rw [this]
    simp [hd]
  · rw [if_neg hs]
    have : ([n] : List Nat).find? (fun j => dstOf ops j == some s) = none := by
      simp [hd]; exact fun h => hs h.symm
    rw [this]; simp
theorem GRep.next {G : List GPred} (hrep : GRep Γ ops a0 G a ex) (hi : G.length = i) {d : Tmp} (hd : dstOf ops i = some d) (hds : d < a0.tmps.size) (huniq : ∀ k, k < i → dstOf ops k ≠ some d) (hex : d ∉ ex.map (·.1)) {v : Value} {A : GPred} (hA : ∀ u g, Γ.inv g.vs g.w → A u g → u = v) :
    GRep Γ ops a0 (G ++ [A]) (a.put (some d) v) ex := by
  subst hi
  have hlw := lastW_next (ops := ops) hd huniq
  refine ⟨fun j s B hj hw hg hex' u g hgi hB => ?_, fun j s B hj hw hg C hC u g hgi hB => ?_, fun s hs => ?_, ?_, ?_⟩
  · rw [List.length_append, List.length_singleton, hlw] at hw
    by_cases hs : s = d
    · subst hs
      rw [if_pos rfl] at hw
      cases hw
      simp at hg
      subst hg
      rw [eval_put_same (by rw [hrep.size]; exact hds)]
      exact hA u g hgi hB
    · rw [if_neg hs] at hw
      obtain ⟨hjl, _⟩ := lastW_some hw
      rw [List.getElem?_append_left hjl] at hg
      rw [eval_put_ne (Ne.symm hs)]
      exact hrep.eqs j s B hjl hw hg hex' u g hgi hB
  · rw [List.length_append, List.length_singleton, hlw] at hw
    by_cases hs : s = d
    · subst hs; exact absurd (List.mem_map.2 ⟨(s, C), hC, rfl⟩) hex
    · rw [if_neg hs] at hw
      obtain ⟨hjl, _⟩ := lastW_some hw
      rw [List.getElem?_append_left hjl] at hg
      exact hrep.exs j s B hjl hw hg C hC u g hgi hB
  · rw [List.length_append, List.length_singleton, hlw] at hs
    by_cases hsd : s = d
    · rw [if_pos hsd] at hs; cases hs
    · rw [if_neg hsd] at hs
      rw [eval_put_ne (Ne.symm hsd)]
      exact hrep.untouched s hs
  · simpa [Act.put] using hrep.size
  · simpa [Act.put] using hrep.defers
end
end Go.Proofs.YthdnonoheochhaaGreatDoor
