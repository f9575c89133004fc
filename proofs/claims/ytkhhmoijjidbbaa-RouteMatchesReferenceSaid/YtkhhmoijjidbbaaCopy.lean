/- A list of routes appended to an empty slice: the copy reads as the list. -/
import Derived.Test.YtkhhmoijjidbbaaLawG
import Derived.Test.YtkhhmoijjidbbaaOpen
namespace Go.Proofs.Ytkhhmoijjidbbaa
open Go.RowKit Go.Sort
set_option linter.unusedVariables false

theorem run_bsR0 (w : World) : (Instr.buildSlice 33 0 #[]).run Try.prog w = .ok (.slice (some ⟨w.heap.size, 0, none⟩) 0 0) (w.alloc (.cells #[] 29)) := by kernel_rfl
theorem run_apR0 (ty : TypeId) (g : Nat) (a : Option Addr) (c : Nat) (w : World) : (Builtin.append_ #[33, 33] ty #[.slice (some ⟨g, 0, none⟩) 0 0, .slice a 0 c]).run Try.prog w = .ok (.slice (some ⟨g, 0, none⟩) 0 0) w := by
  cases a <;> kernel_rfl

theorem rtcs_cells {w : World} {b o : Nat} {rs : List Rt} (hc : ∀ i, i < rs.length → RtCells w b (o + i * 4) (rtAt rs i)) : ∀ j u, (rtcs rs)[j]? = some u → w.cell? ((⟨b, o, none⟩ : Addr).add j) = some u := by
  intro j u hj
  rw [add_mk]
  have hjl : j < rs.length * 4 := by
    rcases Nat.lt_or_ge j (rs.length * 4) with h | h
    · exact h
    · rw [List.getElem?_eq_none (by rw [rtcs_len]; exact h)] at hj; cases hj
  have hi : j / 4 < rs.length := by omega
  obtain ⟨c0, c1, c2, c3⟩ := hc (j / 4) hi
  rw [show j = j / 4 * 4 + j % 4 by omega, rtcs_get rs (j / 4) hi (j % 4) (by omega), ← rtAt_eq rs _ hi] at hj
  have h4 : j % 4 = 0 ∨ j % 4 = 1 ∨ j % 4 = 2 ∨ j % 4 = 3 := by omega
  rcases h4 with h | h | h | h
  · rw [h] at hj; simp [rtc] at hj; subst hj; rw [show o + j = o + j / 4 * 4 by omega]; exact c0
  · rw [h] at hj; simp [rtc] at hj; subst hj; rw [show o + j = o + j / 4 * 4 + 1 by omega]; exact c1
  · rw [h] at hj; simp [rtc] at hj; subst hj; rw [show o + j = o + j / 4 * 4 + 2 by omega]; exact c2
  · rw [h] at hj; simp [rtc] at hj; subst hj; rw [show o + j = o + j / 4 * 4 + 3 by omega]; exact c3
theorem rtcs_one (rs : List Rt) : ∀ u ∈ rtcs rs, u.oneCell' = true := by
  intro u hu
  obtain ⟨r, _, hr⟩ := List.mem_flatMap.1 hu
  exact rtc_one r u hr

theorem wpList_copyR {ops : Array Oper} {rest : List Oper} {o : Oper} {a : Act} {w : World} {Q : Exit → Act → World → Prop} (hgd : o.guard = none) (s x : Operand)
    (ho : o.op = .call { callee := .builtin .append, args := #[s, x], argTypes := #[33, 33] }) (base g : Nat) (hs : a.eval s = .slice (some ⟨g, 0, none⟩) 0 0) (hg : base ≤ g) (hgb : w.heap[g]? = some (.cells #[] 29))
    (rs : List Rt) (xv : Value) (hx : a.eval x = xv) (hR : RdR w xv rs) (hbase : base ≤ w.heap.size)
    (h : ∀ v' w', w'.ownsRow base 29 4 v' rs.length (rtcs rs) → Below base w w' → wpList Try.prog ops Q rest (a.put o.dst v') w') : wpList Try.prog ops Q (o :: rest) a w := by
  have hown : w.ownsRow base 29 4 (.slice (some ⟨g, 0, none⟩) 0 0) 0 [] := ⟨rfl, .inr ⟨g, 0, #[], rfl, hg, hgb, Nat.le_refl _, by unfold maxLen; omega, rfl, rfl⟩⟩
  obtain ⟨ad, c, rfl, hc1, hc2, hp⟩ := hR
  by_cases h0 : rs.length = 0
  · have hnil : rs = [] := List.eq_nil_of_length_eq_zero h0
    subst hnil
    refine wpList_plain hgd fun K hK => ?_
    obtain ⟨dst, op, type, pos, after, guard⟩ := o
    simp only at ho
    subst ho
    unfold Oper.wp
    rw [show (execOp a.eval ⟨dst, .call { callee := .builtin .append, args := #[s, x], argTypes := #[33, 33] }, type, pos, after, guard⟩).run Try.prog w = .ok (.value (.slice (some ⟨g, 0, none⟩) 0 0)) w from by
      rw [BigFrame.execOp_builtin, BigFrame.builtin_append]
      refine run_v_ok ?_
      simp only [List.map_toArray, List.map_cons, List.map_nil, hs, hx]
      exact run_apR0 _ _ _ _ _]
    exact hK _ _ (h _ _ (by simpa [rtcs] using hown) (Below.refl _ _))
  · obtain ⟨b, o', rfl, hc⟩ := hp h0
    obtain ⟨i0, hi, hz0, hz1, hz2⟩ := info_parts infoR
    refine wpList_append_own w hgd s x 33 ho base 29 i0 _ 4 32 Try.underlying33 hi hz0 hz1 hz2 rfl (by decide) _ 0 [] hs hown ⟨b, o', none⟩ rs.length c (rtcs rs) hx (rtcs_len rs) (rtcs_cells hc) (rtcs_one rs) (by unfold maxLen; omega) (by omega) hbase ?_
    intro v' w' hown' hgrow _
    rw [Nat.zero_add, List.nil_append] at hown'
    refine h v' w' hown' ((Below.refl base w).grown hgrow hbase (fun k e => ?_))
    simp [Value.ownBlock] at e
    omega

end Go.Proofs.Ytkhhmoijjidbbaa
