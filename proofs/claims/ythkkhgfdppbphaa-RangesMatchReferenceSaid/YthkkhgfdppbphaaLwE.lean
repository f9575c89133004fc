/- The plain law of the translation. -/
import Derived.Test.YthkkhgfdppbphaaLwD
namespace Go.Proofs.Ythkkhgfdppbphaa
open Go.RowKit Go.Sort Go.Shelf
set_option linter.unusedVariables false

theorem wp_lenS {o : Oper} {a : Act} {w : World} {s : Tmp} {l : List Sp} (h : RdS w (a.eval (.tmp s)) l) (ho : o.op = .call { callee := .builtin .len, args := #[.tmp s], argTypes := #[22] }) :
    o.wp Try.prog a w (fun a'' w' => a'' = a.put o.dst (.int .i64 l.length) ∧ Below w.heap.size w w') (fun _ _ _ => False) := by
  obtain ⟨ad, c, e, _, _, _⟩ := h
  refine wp_of_value (v := .int .i64 l.length) (w' := w) ?_ ⟨rfl, Below.refl _ _⟩
  have hr : (Builtin.len_ #[22] o.type #[.slice ad l.length c]).run Try.prog w = .ok (.int .i64 l.length) w := by kernel_rfl
  unfold execOp
  simp only [ho, resolve, invoke, builtin, Sem.run_bind, Sem.run_pure, Result.andThen_ok, List.map_toArray, List.map_cons, List.map_nil, e, hr]
theorem Inv.shift {l : List Sp} {d : Int} (h : Inv l) (h0 : 0 ≤ d) (h1 : d < 1099511627676) : canF (-1) (l.map (sh d)) = true :=
  can_low (by omega) (can_sh h0 h.1 fun x hx => by have := (h.sok hx).2.2; omega)
theorem Inv.shtak {l : List Sp} {s : Sp} {d : Int} (h : Inv l) (hs : Sok s) (h0 : 0 ≤ d) (h1 : d < 1099511627676) : takB (l.map (sh d)) (sh d s) = true := by
  have h2 : Proofs.Ythkkhgfdppbphaa.okS (-1) (sh d s) = true := okS_iff.2 (by obtain ⟨a, b, c⟩ := hs; simp only [sh]; omega)
  simp [takB, h.shift h0 h1, h2]
theorem plain_trans {l : List Sp} {s : Sp} {d : Int} (h : Inv l) (hs : Sok s) (h0 : 0 ≤ d) (h1 : d < 1099511627676) :
    addF (l.map (sh d)) (sh d s) = (addF l s).map (sh d) ∧ conF (l.map (sh d)) (sh d s) = conF l s ∧ cntF (l.map (sh d)) = cntF l ∧ (gapF (l.map (sh d)) (sh d s)).length = (gapF l s).length := by
  refine ⟨?_, ?_, ?_, ?_⟩
  · rw [h.addF hs, addF, if_pos (h.shtak hs h0 h1), add_sh]
  · rw [h.conF hs, conF, h.shtak hs h0 h1, con_sh, Bool.true_and]
  · rw [h.cntF, cntF, if_pos (h.shift h0 h1), cnt_sh]
  · rw [h.gapF hs, gapF, if_pos (h.shtak hs h0 h1), show (sh d s).fr = s.fr + d from rfl, gap_sh, List.length_map]
theorem take_sh (d : Int) (l : List Sp) (k : Nat) (h : k < l.length) : (l.take (k + 1)).map (sh d) = (l.take k).map (sh d) ++ [⟨(spAt l k).fr + d, (spAt l k).to + d⟩] := by
  rw [List.take_succ_eq_append_getElem h, List.map_append, ← spAt_eq l k h]; rfl
theorem spAt_sh (d : Int) (l : List Sp) (k : Nat) (h : k < l.length) : spAt (l.map (sh d)) k = ⟨(spAt l k).fr + d, (spAt l k).to + d⟩ := by
  rw [spAt_eq _ k (by simpa using h), List.getElem_map, ← spAt_eq l k h]; rfl

end Go.Proofs.Ythkkhgfdppbphaa
