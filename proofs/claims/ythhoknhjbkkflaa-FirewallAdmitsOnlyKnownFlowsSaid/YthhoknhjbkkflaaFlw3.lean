/- Small things for the laws' walks of chapter 22. -/
import Derived.Test.YthhoknhjbkkflaaFpl2
import Derived.Test.YthhoknhjbkkflaaOwnP
namespace Go.Proofs.Ythhoknhjbkkflaa
open Go.RowKit Go.Sort
set_option linter.unusedVariables false

theorem RdR.stay {w w' : World} {v : Value} {len : Nat} {g : Nat → Rw} (h : RdR w v len g) (hb : Below w.heap.size w w') : RdR w' v len g := by
  obtain ⟨a, cap, rfl, h1, h2, h3, h4⟩ := h
  refine ⟨a, cap, rfl, h1, h2, h3, fun hn => ?_⟩
  obtain ⟨b, o, rfl, hc⟩ := h4 hn
  refine ⟨b, o, rfl, fun i hi j hj => ?_⟩
  have := hc i hi j hj
  rw [Array.getElem?_eq_getElem (by simpa using hj)] at this ⊢
  exact keep hb this
/-- A slice of raw flows. -/
def RdF (w : World) (v : Value) (len : Nat) (g : Nat → Fw) : Prop :=
  ∃ a cap, v = .slice a len cap ∧ len ≤ cap ∧ len ≤ 9223372036854775807 ∧ (∀ i, i < len → FwOk (g i)) ∧ (len ≠ 0 → ∃ b o, a = some ⟨b, o, none⟩ ∧ ∀ i, i < len → ∀ j, j < 6 → w.cell? ⟨b, o + i * 6 + j, none⟩ = (fwA (g i))[j]?)
theorem Own.join1 {w0 w w' : World} {D : Nat → Prop} {L : List Res} {R : Res} (h : Own w0 D w L) (h2 : Own w none0 w' [R]) : Own w0 D w' (L ++ [R]) := by
  obtain ⟨F, hF, hb, _⟩ := h2.step (i := 0) rfl
  exact h.push hF (fun b h => (hb b h).elim (fun h => h.elim) id) h2.below
theorem filter_step {α : Type} {p : α → Bool} {l : List α} {k : Nat} (hk : k < l.length) : (l.take (k + 1)).filter p = (l.take k).filter p ++ (if p l[k] then [l[k]] else []) := by
  rw [List.take_succ_eq_append_getElem hk, List.filter_append]
  cases h : p l[k] <;> simp [h]
theorem five_r {a b : Fl} {d : Bool} (h : decide (keyF a = keyF b) = d) (w : World) : Calls Try.prog 12 #[flV a, flV b] w fun e w' => e = .returned (.int .i64 (i01 d)) ∧ Below w.heap.size w w' := h ▸ five_any a b w

end Go.Proofs.Ythhoknhjbkkflaa
