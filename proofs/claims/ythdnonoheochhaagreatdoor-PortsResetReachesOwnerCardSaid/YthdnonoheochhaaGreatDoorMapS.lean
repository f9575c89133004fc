/- Maps that are owned: store, delete, and the range over a map whose rounds delete. No program in sight. -/
import Derived.Maps.RangeRun
import Derived.Test.YthdnonoheochhaaGreatDoorMap
import Derived.Test.YthdnonoheochhaaGreatDoorOwnH
namespace Go.Proofs.YthdnonoheochhaaGreatDoor
open Go.RowKit Go.ChangeMaps
set_option linter.unusedVariables false
set_option maxRecDepth 100000
set_option linter.unusedSectionVars false
section
variable {α : Type} [DecidableEq α]
def Stamped (es : List MapEntry) (clk : Nat) : Prop := (es.map (·.born)).Nodup ∧ ∀ e ∈ es, e.born < clk
def MapS (enc : α → Value) (w : World) (b : Nat) (m : List (α × Value)) : Prop := ∃ es clk, w.heap[b]? = some (.map es clk) ∧ entR enc es.toList m ∧ Stamped es.toList clk
theorem MapS.toB {enc : α → Value} {w : World} {b : Nat} {m : List (α × Value)} (h : MapS enc w b m) : MapB enc w b m := by obtain ⟨es, clk, h1, h2, _⟩ := h; exact ⟨es, clk, h1, h2⟩
variable {P : Program} {t : TypeId} {enc : α → Value}
theorem KeyRun.updateS (K : KeyRun P t enc) {T e : TypeId} (hT : P.underlying T = some (.map t e)) {w : World} {b : Nat} {m : List (α × Value)} (h : MapS enc w b m) (k : α) (v : Value) :
    ∃ w', (Instr.mapUpdate T (.map (some b)) (enc k) v).run P w = .ok () w' ∧ MapS enc w' b (mset k v m) ∧ Upd (fun x => x = b) w w' := by
  obtain ⟨es, clk, h1, h2, h3, h4⟩ := h
  have hlt := (Array.getElem?_eq_some_iff.1 h1).1
  unfold Instr.mapUpdate
  rw [Sem.run_bind, show (underlying T).run P w = .ok (.map t e) w by simp [underlying, go_sem, hT]]
  simp only [Result.andThen_ok, Sem.run_bind, run_getObj h1, K.check, K.findKey k w h2]
  cases hi : ascIx k m 0 with
  | none =>
    simp only [setObj_map h1]
    refine ⟨_, rfl, ⟨_, _, get_set _ hlt, ?_, ?_⟩, upd_set _ _ _⟩
    · rw [mset_none hi]
      simp only [entR, Array.toList_push, List.map_append, List.map_cons, List.map_nil] at h2 ⊢
      rw [h2]
    · rw [Array.toList_push]
      refine ⟨?_, fun x hx => ?_⟩
      · rw [List.map_append, List.nodup_append]
        refine ⟨h3, by simp, fun a ha c hc => ?_⟩
        obtain ⟨x, hx, rfl⟩ := List.mem_map.1 ha
        simp only [List.map_cons, List.map_nil, List.mem_singleton] at hc
        have := h4 x hx
        omega
      · rcases List.mem_append.1 hx with hx | hx
        · have := h4 x hx; omega
        · simp only [List.mem_singleton] at hx; subst hx; simp
  | some r =>
    obtain ⟨j, u⟩ := r
    obtain ⟨_, n, hj, hk⟩ := ascIx_some hi
    obtain rfl : j = n := by omega
    have hkey : ((es[j]?).map (·.key)).getD (enc k) = enc k := by
      have := congrArg (fun l => l[j]?) h2
      simp only [List.getElem?_map, Array.getElem?_toList] at this
      cases hm : m[j]? with
      | none => rw [hm] at hk; simp at hk
      | some x =>
        rw [hm] at hk this
        cases he : es[j]? with
        | none => simp
        | some e0 =>
          rw [he] at this
          simp only [Option.map_some, Option.some.injEq, Prod.mk.injEq] at this hk
          simp [this.1, hk]
    simp only [hkey, Instr.keyThatStays, K.bits k, if_true, Sem.run_bind, Sem.run_pure, Result.andThen_ok, setObj_map h1]
    have hbo : ∀ (l : List MapEntry) (n : Nat) (f : MapEntry → MapEntry), (∀ e, (f e).born = e.born) → (l.modify n f).map (·.born) = l.map (·.born) := fun l n f hf => by
      induction l generalizing n with
      | nil => simp
      | cons e l ih => cases n <;> simp [hf, ih]
    refine ⟨_, rfl, ⟨_, _, get_set _ hlt, ?_, ?_⟩, upd_set _ _ _⟩
    · rw [Array.toList_modify]
      exact entR_mset (i := 0) (u := u) h2 (by rw [hi]; simp)
    · rw [Array.toList_modify]
      have hz := hbo es.toList j (fun e => { e with key := enc k, val := v }) (fun _ => rfl)
      refine ⟨by rw [hz]; exact h3, fun x hx => ?_⟩
      have : x.born ∈ (es.toList.modify j fun e => { e with key := enc k, val := v }).map (·.born) := List.mem_map_of_mem hx
      rw [hz] at this
      obtain ⟨y, hy, e⟩ := List.mem_map.1 this
      rw [← e]; exact h4 y hy
def mapR (enc : α → Value) (b : Nat) (m : List (α × Value)) : Res where
  P w F := (∀ x, F x ↔ x = b) ∧ MapS enc w b m
  bound h x hx := by obtain ⟨h1, es, clk, h2, _⟩ := h; rw [(h1 x).1 hx]; exact (Array.getElem?_eq_some_iff.1 h2).1
  move h hu hF := by obtain ⟨h1, es, clk, h2, h3⟩ := h; exact ⟨h1, es, clk, (hu.block _ (Array.getElem?_eq_some_iff.1 h2).1 (hF _ ((h1 _).2 rfl))).trans h2, h3⟩
variable {w0 w : World} {D : Nat → Prop} {L : List Res}
theorem stamped_erase {es : List MapEntry} {clk j : Nat} (h : Stamped es clk) : Stamped (es.eraseIdx j) clk :=
  ⟨((List.eraseIdx_sublist es j).map _).nodup h.1, fun e he => h.2 e ((List.eraseIdx_sublist es j).subset he)⟩
theorem del_run (K : KeyRun P t enc) {T e : TypeId} (hT : P.underlying T = some (.map t e)) {b : Nat} {es : Array MapEntry} {clk : Nat} (h1 : w.heap[b]? = some (.map es clk)) {m : List (α × Value)} (h2 : entR enc es.toList m) (k : α) (ty kt : TypeId) :
    ∃ es', (Builtin.delete_ #[T, kt] ty #[.map (some b), enc k]).run P w = .ok (.tuple #[]) { w with heap := w.heap.setIfInBounds b (.map es' clk) } ∧ entR enc es'.toList (mdel k m) ∧ (es'.toList = es.toList ∨ ∃ j, es'.toList = es.toList.eraseIdx j) := by
  unfold Builtin.delete_
  simp only [List.getElem?_toArray, List.getElem?_cons_zero, List.getElem?_cons_succ]
  rw [Sem.run_bind, show (underlying T).run P w = .ok (.map t e) w by simp [underlying, go_sem, hT]]
  simp only [Result.andThen_ok, Sem.run_bind, run_getObj h1, K.check, K.findKey k w h2]
  cases hi : ascIx k m 0 with
  | none =>
    simp only [Sem.run_bind, setObj_map h1, Result.andThen_ok, Sem.run_pure]
    exact ⟨es, rfl, by rw [mdel_none hi]; exact h2, .inl rfl⟩
  | some r =>
    obtain ⟨j, u⟩ := r
    obtain ⟨_, n, hj, hk⟩ := ascIx_some hi
    obtain rfl : j = n := by omega
    simp only [Sem.run_bind, setObj_map h1, Result.andThen_ok, Sem.run_pure]
    have hj' : j < es.size := by
      have hl : es.toList.length = m.length := by have := congrArg List.length h2; simpa using this
      have : j < m.length := by
        rcases Nat.lt_or_ge j m.length with h | h
        · exact h
        · rw [List.getElem?_eq_none h] at hk; simp at hk
      have h4 : j < es.toList.length := by omega
      simpa using h4
    refine ⟨_, rfl, ?_, .inr ⟨j, ?_⟩⟩
    · rw [Array.eraseIdxIfInBounds, dif_pos hj', Array.toList_eraseIdx]
      exact entR_mdel (i := 0) (u := u) h2 (by rw [hi]; simp)
    · rw [Array.eraseIdxIfInBounds, dif_pos hj', Array.toList_eraseIdx]
theorem setBlock_upd (w : World) (r : Nat) (o : Obj) : Upd (fun x => x = r) w (setBlock w r o) := upd_set w r o
end
end Go.Proofs.YthdnonoheochhaaGreatDoor
