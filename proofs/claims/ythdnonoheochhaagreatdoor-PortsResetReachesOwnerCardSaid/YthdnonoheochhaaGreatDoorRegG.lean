/- A region that draws its order, makes memory and changes memory: operations of the chain (calls, appends, stores in a fixed order among themselves) move the world on by a typed relation; every other operation only reads or makes memory and gets a property of its value that lasts. Whatever order is drawn, all properties hold behind the head; the tail runs in its own order. No program in sight. -/
import Derived.Test.YthdnonoheochhaaGreatDoorRegion
namespace Go.Proofs.YthdnonoheochhaaGreatDoor
open Go.RowKit
structure GW where
  vs : List Value
  w : World
abbrev GPred := Value → GW → Prop
structure Ghost where
  inv : List Value → World → Prop
  own : List Value → Nat → Prop
  quiet : ∀ vs w w', inv vs w → Below w.heap.size w w' → inv vs w'
def Ghost.mv (Γ : Ghost) (vs : List Value) (w : World) (u : Value) (w' : World) : Prop :=
  Γ.inv (vs ++ [u]) w' ∧ w.heap.size ≤ w'.heap.size ∧ (∀ b, b < w.heap.size → ¬ Γ.own vs b → w'.heap[b]? = w.heap[b]?) ∧ (∀ b, Γ.own (vs ++ [u]) b → Γ.own vs b ∨ w.heap.size ≤ b)
def Ghost.step (Γ : Ghost) (g g' : GW) : Prop := (g'.vs = g.vs ∧ Below g.w.heap.size g.w g'.w) ∨ (∃ u, g'.vs = g.vs ++ [u] ∧ Γ.mv g.vs g.w u g'.w)
def Ghost.lasts (Γ : Ghost) (A : GPred) : Prop := ∀ v g g', Γ.inv g.vs g.w → A v g → Γ.step g g' → A v g'
def genvAt (ops : Array Oper) (a0 : Act) (G : List GPred) (i : Nat) (a : Act) (g : GW) (s : Tmp) : Prop :=
  match prodOf ops i s with
  | some j => (G.getD j (fun _ _ => True)) (a.eval (.tmp s)) g
  | none => if origAt ops i s = true then a.eval (.tmp s) = a0.eval (.tmp s) else True
def genvAll (ops : Array Oper) (a0 : Act) (G : List GPred) (i : Nat) (a : Act) (g : GW) : List Tmp → Prop
  | [] => True
  | s :: ss => genvAt ops a0 G i a g s ∧ genvAll ops a0 G i a g ss
structure GInv (Γ : Ghost) (ops : Array Oper) (chain : List Nat) (n : Nat) (a0 : Act) (G : List GPred) (listed : Array Bool) (a : Act) (g : GW) : Prop where
  head : HeadInv .any ops n listed
  world : Γ.inv g.vs g.w
  stage : ∀ k i, chain[k]? = some i → (listed.getD i false = true ↔ k < g.vs.length)
  most : g.vs.length ≤ chain.length
  defers : a.defers = a0.defers
  size : a.tmps.size = a0.tmps.size
  done : ∀ j d, j < n → listed.getD j false = true → dstOf ops j = some d → (G.getD j (fun _ _ => True)) (a.eval (.tmp d)) g
  rest : ∀ s, (∀ j, listed.getD j false = true → dstOf ops j ≠ some s) → a.eval (.tmp s) = a0.eval (.tmp s)
section
variable {Γ : Ghost} {P : Program} {ops : Array Oper} {chain : List Nat} {n : Nat} {a0 : Act} {G : List GPred} {Q : Exit → Act → World → Prop}
theorem GInv.env {listed : Array Bool} {a : Act} {g : GW} {i : Nat} {o : Oper} (hf : HeadFacts ops n a0.tmps.size) (inv : GInv Γ ops chain n a0 G listed a g) (hi : i ∈ Region.ready .any ops listed) (hin : i < n) (ho : ops[i]? = some o) :
    ∀ ss, genvAll ops a0 G i a g ss := by
  obtain ⟨hun, o', ho', hall⟩ := mem_ready.1 hi
  have : o' = o := Option.some.inj (ho'.symm.trans ho)
  subst this
  intro ss
  induction ss with
  | nil => trivial
  | cons s ss ih =>
    refine ⟨?_, ih⟩
    unfold genvAt
    split
    · rename_i j hj
      have hfd := List.find?_some hj
      simp only [Bool.and_eq_true, beq_iff_eq] at hfd
      obtain ⟨e, he, hb, hon⟩ := waits_mem ho hfd.1
      have hlt := hf.back i o' hin ho e he hb
      have hl := hall e he hb
      rw [hon] at hl hlt
      exact inv.done j s (by omega) hl hfd.2
    · split
      · rename_i horig
        refine inv.rest s fun j hl hd => ?_
        have hjs : j < ops.size := by
          rcases Nat.lt_or_ge j ops.size with h | h
          · exact h
          · simp [dstOf, Array.getElem?_eq_none h] at hd
        have h1 := List.all_eq_true.1 horig j (List.mem_range.2 hjs)
        simp only [Bool.or_eq_true, bne_iff_ne, beq_iff_eq] at h1
        rcases h1 with (h1 | h1) | h1
        · exact h1 hd
        · subst h1; rw [getD_both hun] at hl; cases hl
        · obtain ⟨oj, hoj, e, he, hb, hon⟩ := Region.waitsFor_spec h1
          have := inv.head.closed j oj hoj hl e he hb
          rw [hon, getD_both hun] at this; cases this
      · trivial
theorem GInv.next {listed : Array Bool} {a : Act} {g g' : GW} {i : Nat} {o : Oper} {v : Value} (hf : HeadFacts ops n a0.tmps.size) (hG : ∀ j, Γ.lasts (G.getD j (fun _ _ => True))) (inv : GInv Γ ops chain n a0 G listed a g) (hi : i ∈ Region.ready .any ops listed) (hin : i < n) (ho : ops[i]? = some o)
    (hw : Γ.step g g') (hJ : Γ.inv g'.vs g'.w) (hst : ∀ k j, chain[k]? = some j → ((listed.setIfInBounds i true).getD j false = true ↔ k < g'.vs.length)) (hmost : g'.vs.length ≤ chain.length)
    (hA : (G.getD i (fun _ _ => True)) v g') : GInv Γ ops chain n a0 G (listed.setIfInBounds i true) (a.put o.dst v) g' := by
  obtain ⟨d, hd, hds, hdn⟩ := hf.dst i hin
  have hod : o.dst = some d := by simpa [dstOf, ho] using hd
  obtain ⟨hun, _, _, _⟩ := mem_ready.1 hi
  have hil : i < listed.size := by rw [inv.head.size]; exact (Array.getElem?_eq_some_iff.1 ho).1
  rw [hod]
  refine ⟨inv.head.set hi hin, hJ, hst, hmost, ?_, ?_, fun j d' hj hl hd' => ?_, fun s hs => ?_⟩
  · simpa [Act.put] using inv.defers
  · simpa [Act.put] using inv.size
  · by_cases hji : j = i
    · subst hji
      rw [hd] at hd'
      cases hd'
      rw [eval_put_same (by rw [inv.size]; exact hds)]
      exact hA
    · rw [getD_set_ne false (Ne.symm hji)] at hl
      have hne : d ≠ d' := fun h => by subst h; exact hdn j hj hji hd'
      rw [eval_put_ne hne]
      exact hG j _ _ _ inv.world (inv.done j d' hj hl hd') hw
  · have hne : d ≠ s := fun h => by
      subst h
      exact hs i (by simp [hil]) hd
    rw [eval_put_ne hne]
    refine inv.rest s fun j hl => hs j ?_
    by_cases hji : j = i
    · subst hji; simp [hil]
    · rw [getD_set_ne false (Ne.symm hji)]; exact hl
end
end Go.Proofs.YthdnonoheochhaaGreatDoor
