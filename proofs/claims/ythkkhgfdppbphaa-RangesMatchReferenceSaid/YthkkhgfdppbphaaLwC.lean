/- The plain laws of the ranges, and two steps of drawn regions. -/
import Derived.Test.YthkkhgfdppbphaaLwB
namespace Go.Proofs.Ythkkhgfdppbphaa
open Go.RowKit Go.Sort Go.Shelf
set_option linter.unusedVariables false

def rdP (l : List Sp) : Pred := fun v w => RdS w v l
theorem rdP_lasts (l : List Sp) : Lasts (rdP l) := fun _ _ _ h hb => RdS.stay hb h
theorem wp_list {o : Oper} {a : Act} {w : World} {f : FuncId} {args : Array Value} {r : List Sp} (h : (execOp a.eval o).run Try.prog w = .ok (.enter f args) w) (hc : Calls Try.prog f args w (ListPost w r)) :
    o.wp Try.prog a w (fun a'' w' => ∃ v, a'' = a.put o.dst v ∧ Below w.heap.size w w' ∧ rdP r v w') (fun _ _ _ => False) := by
  unfold Oper.wp
  rw [h]
  refine hc.mono fun e w' ⟨v, he, hr, hb⟩ => ?_
  subst he
  exact ⟨v, rfl, hb, hr⟩
theorem wp_val {o : Oper} {a : Act} {w : World} {f : FuncId} {args : Array Value} {v : Value} (h : (execOp a.eval o).run Try.prog w = .ok (.enter f args) w) (hc : Calls Try.prog f args w fun e w' => e = .returned v ∧ Below w.heap.size w w') :
    o.wp Try.prog a w (fun a'' w' => a'' = a.put o.dst v ∧ Below w.heap.size w w') (fun _ _ _ => False) := by
  unfold Oper.wp
  rw [h]
  refine hc.mono fun e w' ⟨he, hb⟩ => ?_
  subst he
  exact ⟨rfl, hb⟩

theorem Inv.con_iff {l : List Sp} {s : Sp} (h : Inv l) (hs : Sok s) : Proofs.Ythkkhgfdppbphaa.conF l s = true ↔ ∀ n, isIn s n → mem l n := by
  rw [h.conF hs]; exact conL_iff h.1 hs.2.1

theorem plain_comm {l : List Sp} {s t : Sp} (h : Inv l) (hs : Sok s) (ht : Sok t) :
    addF (addF l s) t = addF (addF l t) s ∧ addF (addF (addF l s) t) s = addF (addF l s) t ∧ conF (addF (addF l s) t) s = true ∧ conF (addF (addF l s) t) t = true := by
  have i1 := h.add hs
  have i2 := h.add ht
  have i3 := i1.add ht
  have i4 := i2.add hs
  have i5 := i3.add hs
  refine ⟨i3.ext i4 fun n => ?_, i5.ext i3 fun n => ?_, (i3.con_iff hs).2 fun n hn => ?_, (i3.con_iff ht).2 fun n hn => ?_⟩
  · rw [i1.add_mem ht, h.add_mem hs, i2.add_mem hs, h.add_mem ht]
    constructor
    · rintro ((h1 | h1) | h1)
      · exact .inl (.inl h1)
      · exact .inr h1
      · exact .inl (.inr h1)
    · rintro ((h1 | h1) | h1)
      · exact .inl (.inl h1)
      · exact .inr h1
      · exact .inl (.inr h1)
  · rw [i3.add_mem hs, i1.add_mem ht, h.add_mem hs]
    constructor
    · rintro (h1 | h1)
      · exact h1
      · exact .inl (.inr h1)
    · exact .inl
  · rw [i1.add_mem ht, h.add_mem hs]; exact .inl (.inr hn)
  · rw [i1.add_mem ht]; exact .inr hn

end Go.Proofs.Ythkkhgfdppbphaa
