/- Maps that are owned: store, delete, and the range over a map whose rounds delete. No program in sight. -/
import Derived.Maps.RangeRun
import Derived.Test.YtockaipodnapjaaGreatDoorMap
import Derived.Test.YtockaipodnapjaaGreatDoorOwnH
namespace Go.Proofs.YtockaipodnapjaaGreatDoor
open Go.RowKit Go.ChangeMaps
set_option linter.unusedVariables false
set_option maxRecDepth 100000
set_option linter.unusedSectionVars false

section
variable {α : Type} [DecidableEq α]
/-- The stamps of a map's entries. -/
def Stamped (es : List MapEntry) (clk : Nat) : Prop := (es.map (·.born)).Nodup ∧ ∀ e ∈ es, e.born < clk
def MapS (enc : α → Value) (w : World) (b : Nat) (m : List (α × Value)) : Prop := ∃ es clk, w.heap[b]? = some (.map es clk) ∧ entR enc es.toList m ∧ Stamped es.toList clk
theorem MapS.toB {enc : α → Value} {w : World} {b : Nat} {m : List (α × Value)} (h : MapS enc w b m) : MapB enc w b m := by obtain ⟨es, clk, h1, h2, _⟩ := h; exact ⟨es, clk, h1, h2⟩
variable {P : Program} {t : TypeId} {enc : α → Value}
theorem KeyRun.updateS (K : KeyRun P t enc) {T e : TypeId} (hT : P.underlying T = some (.map t e)) {w : World} {b : Nat} {m : List (α × Value)} (h : MapS enc w b m) (k : α) (v : Value) :
    ∃ w', (Instr.mapUpdate T (.map (some b)) (enc k) v).run P w = .ok () w' ∧ MapS enc w' b (mset k v m) ∧ Upd (fun x => x = b) w w' := by
  obtain ⟨es, clk, h1, h2, h3, h4⟩ := h
  have hlt := (Array.getElem?_eq_some_iff.1 h1).1
  unfold Instr.mapUpdate
  rw [Sem.run_bind, show (underlying T).run P w = .ok (.map t e) w by simp [underlying, go_sem, hT]]
  simp only [Result.andThen_ok, Sem.run_bind, run_getObj h1, K.check, K.findKey k w h2]
  cases hi : ascIx k m 0 with
  | none =>
    simp only [setObj_map h1]
    refine ⟨_, rfl, ⟨_, _, get_set _ hlt, ?_, ?_⟩, upd_set _ _ _⟩
    · rw [mset_none hi]
      simp only [entR, Array.toList_push, List.map_append, List.map_cons, List.map_nil] at h2 ⊢
      rw [h2]
    · rw [Array.toList_push]
      refine ⟨?_, fun x hx => ?_⟩
      · rw [List.map_append, List.nodup_append]
        refine ⟨h3, by simp, fun a ha c hc => ?_⟩
        obtain ⟨x, hx, rfl⟩ := List.mem_map.1 ha
        simp only [List.map_cons, List.map_nil, List.mem_singleton] at hc
        have := h4 x hx
        omega
      · rcases List.mem_append.1 hx with hx | hx
        · have := h4 x hx; omega
        · simp only [List.mem_singleton] at hx; subst hx; simp
  | some r =>
    obtain ⟨j, u⟩ := r
    obtain ⟨_, n, hj, hk⟩ := ascIx_some hi
    obtain rfl : j = n := by omega
    have hkey : ((es[j]?).map (·.key)).getD (enc k) = enc k := by
      have := congrArg (fun l => l[j]?) h2
      simp only [List.getElem?_map, Array.getElem?_toList] at this
      cases hm : m[j]? with
      | none => rw [hm] at hk; simp at hk
      | some x =>
        rw [hm] at hk this
        cases he : es[j]? with
        | none => simp
        | some e0 =>
          rw [he] at this
          simp only [Option.map_some, Option.some.injEq, Prod.mk.injEq] at this hk
          simp [this.1, hk]
    simp only [hkey, Instr.keyThatStays, K.bits k, if_true, Sem.run_bind, Sem.run_pure, Result.andThen_ok, setObj_map h1]
    have hbo : ∀ (l : List MapEntry) (n : Nat) (f : MapEntry → MapEntry), (∀ e, (f e).born = e.born) → (l.modify n f).map (·.born) = l.map (·.born) := fun l n f hf => by
      induction l generalizing n with
      | nil => simp
      | cons e l ih => cases n <;> simp [hf, ih]
    refine ⟨_, rfl, ⟨_, _, get_set _ hlt, ?_, ?_⟩, upd_set _ _ _⟩
    · rw [Array.toList_modify]
      exact entR_mset (i := 0) (u := u) h2 (by rw [hi]; simp)
    · rw [Array.toList_modify]
      have hz := hbo es.toList j (fun e => { e with key := enc k, val := v }) (fun _ => rfl)
      refine ⟨by rw [hz]; exact h3, fun x hx => ?_⟩
      have : x.born ∈ (es.toList.modify j fun e => { e with key := enc k, val := v }).map (·.born) := List.mem_map_of_mem hx
      rw [hz] at this
      obtain ⟨y, hy, e⟩ := List.mem_map.1 this
      rw [← e]; exact h4 y hy

/-- A map. -/
def mapR (enc : α → Value) (b : Nat) (m : List (α × Value)) : Res where
  P w F := (∀ x, F x ↔ x = b) ∧ MapS enc w b m
  bound h x hx := by obtain ⟨h1, es, clk, h2, _⟩ := h; rw [(h1 x).1 hx]; exact (Array.getElem?_eq_some_iff.1 h2).1
  move h hu hF := by obtain ⟨h1, es, clk, h2, h3⟩ := h; exact ⟨h1, es, clk, (hu.block _ (Array.getElem?_eq_some_iff.1 h2).1 (hF _ ((h1 _).2 rfl))).trans h2, h3⟩
/-- A map b under way through a range, whose iterator is r; the keys done have come. -/
def rngR (enc : α → Value) (b r : Nat) (m : List (α × Value)) (done : List α) : Res where
  P w F := (∀ x, F x ↔ x = b ∨ x = r) ∧ b ≠ r ∧ ∃ es clk, ∃ seen : Array Nat, w.heap[b]? = some (.map es clk) ∧ w.heap[r]? = some (.mapIter (some b) clk seen clk) ∧ entR enc es.toList m ∧ Stamped es.toList clk ∧ ∀ e ∈ es.toList, seen.contains e.born = true ↔ ∃ k ∈ done, e.key = enc k
  bound h x hx := by
    obtain ⟨h1, _, es, clk, seen, h2, h3, _⟩ := h
    rcases (h1 x).1 hx with rfl | rfl
    · exact (Array.getElem?_eq_some_iff.1 h2).1
    · exact (Array.getElem?_eq_some_iff.1 h3).1
  move h hu hF := by
    obtain ⟨h1, hne, es, clk, seen, h2, h3, h4⟩ := h
    exact ⟨h1, hne, es, clk, seen, (hu.block _ (Array.getElem?_eq_some_iff.1 h2).1 (hF _ ((h1 _).2 (.inl rfl)))).trans h2, (hu.block _ (Array.getElem?_eq_some_iff.1 h3).1 (hF _ ((h1 _).2 (.inr rfl)))).trans h3, h4⟩

variable {w0 w : World} {D : Nat → Prop} {L : List Res}
theorem Own.mapB (h : Own w0 D w L) (i : Nat) {b : Nat} {m : List (α × Value)} (hi : L[i]? = some (mapR enc b m)) : MapB enc w b m := by
  obtain ⟨F, h1, _⟩ := h.step hi; exact h1.2.toB
theorem Own.mapNew (h : Own w0 D w L) (enc : α → Value) : Own w0 D (w.alloc (.map #[] 0)) (L ++ [mapR enc w.heap.size []]) :=
  h.push (R := mapR enc w.heap.size []) (F := fun b => b = w.heap.size) ⟨fun _ => Iff.rfl, #[], 0, by show (w.heap.push _)[w.heap.size]? = _; simp, rfl, by simp [Stamped]⟩ (fun b hb => by rw [hb]; exact Nat.le_refl _) (below_one w _)
theorem Own.mapSet (h : Own w0 D w L) (i : Nat) {b : Nat} {m : List (α × Value)} (hi : L[i]? = some (mapR enc b m)) (K : KeyRun P t enc) {T e : TypeId} (hT : P.underlying T = some (.map t e)) (k : α) (v : Value) :
    ∃ w', (Instr.mapUpdate T (.map (some b)) (enc k) v).run P w = .ok () w' ∧ Own w0 D w' (L.set i (mapR enc b (mset k v m))) := by
  obtain ⟨F, h1, _, h3⟩ := h.step hi
  obtain ⟨w', hr, hm, hu⟩ := K.updateS hT h1.2 k v
  exact ⟨w', hr, h3 (R' := mapR enc b (mset k v m)) (F' := F) ⟨h1.1, hm⟩ (fun _ h => .inl h) (hu.mono fun x _ hx => (h1.1 x).2 hx)⟩

theorem stamped_erase {es : List MapEntry} {clk j : Nat} (h : Stamped es clk) : Stamped (es.eraseIdx j) clk :=
  ⟨((List.eraseIdx_sublist es j).map _).nodup h.1, fun e he => h.2 e ((List.eraseIdx_sublist es j).subset he)⟩
theorem del_run (K : KeyRun P t enc) {T e : TypeId} (hT : P.underlying T = some (.map t e)) {b : Nat} {es : Array MapEntry} {clk : Nat} (h1 : w.heap[b]? = some (.map es clk)) {m : List (α × Value)} (h2 : entR enc es.toList m) (k : α) (ty kt : TypeId) :
    ∃ es', (Builtin.delete_ #[T, kt] ty #[.map (some b), enc k]).run P w = .ok (.tuple #[]) { w with heap := w.heap.setIfInBounds b (.map es' clk) } ∧ entR enc es'.toList (mdel k m) ∧ (es'.toList = es.toList ∨ ∃ j, es'.toList = es.toList.eraseIdx j) := by
  unfold Builtin.delete_
  simp only [List.getElem?_toArray, List.getElem?_cons_zero, List.getElem?_cons_succ]
  rw [Sem.run_bind, show (underlying T).run P w = .ok (.map t e) w by simp [underlying, go_sem, hT]]
  simp only [Result.andThen_ok, Sem.run_bind, run_getObj h1, K.check, K.findKey k w h2]
  cases hi : ascIx k m 0 with
  | none =>
    simp only [Sem.run_bind, setObj_map h1, Result.andThen_ok, Sem.run_pure]
    exact ⟨es, rfl, by rw [mdel_none hi]; exact h2, .inl rfl⟩
  | some r =>
    obtain ⟨j, u⟩ := r
    obtain ⟨_, n, hj, hk⟩ := ascIx_some hi
    obtain rfl : j = n := by omega
    simp only [Sem.run_bind, setObj_map h1, Result.andThen_ok, Sem.run_pure]
    have hj' : j < es.size := by
      have hl : es.toList.length = m.length := by have := congrArg List.length h2; simpa using this
      have : j < m.length := by
        rcases Nat.lt_or_ge j m.length with h | h
        · exact h
        · rw [List.getElem?_eq_none h] at hk; simp at hk
      have h4 : j < es.toList.length := by omega
      simpa using h4
    refine ⟨_, rfl, ?_, .inr ⟨j, ?_⟩⟩
    · rw [Array.eraseIdxIfInBounds, dif_pos hj', Array.toList_eraseIdx]
      exact entR_mdel (i := 0) (u := u) h2 (by rw [hi]; simp)
    · rw [Array.eraseIdxIfInBounds, dif_pos hj', Array.toList_eraseIdx]
theorem Own.mapDel (h : Own w0 D w L) (i : Nat) {b : Nat} {m : List (α × Value)} (hi : L[i]? = some (mapR enc b m)) (K : KeyRun P t enc) {T e : TypeId} (hT : P.underlying T = some (.map t e)) (k : α) (ty kt : TypeId) :
    ∃ w', (Builtin.delete_ #[T, kt] ty #[.map (some b), enc k]).run P w = .ok (.tuple #[]) w' ∧ Own w0 D w' (L.set i (mapR enc b (mdel k m))) := by
  obtain ⟨F, ⟨hF, es, clk, h1, h2, hs⟩, _, h3⟩ := h.step hi
  obtain ⟨es', hr, he, hsub⟩ := del_run K hT h1 h2 k ty kt
  refine ⟨_, hr, h3 (R' := mapR enc b (mdel k m)) (F' := F) ⟨hF, es', clk, get_set _ (Array.getElem?_eq_some_iff.1 h1).1, he, ?_⟩ (fun _ h => .inl h) ((upd_set _ _ _).mono fun x _ hx => (hF x).2 hx)⟩
  rcases hsub with e | ⟨j, e⟩ <;> rw [e]
  · exact hs
  · exact stamped_erase hs
/-- 'delete' in the round of a range. -/
theorem Own.rngDel (h : Own w0 D w L) (i : Nat) {b r : Nat} {m : List (α × Value)} {done : List α} (hi : L[i]? = some (rngR enc b r m done)) (K : KeyRun P t enc) {T e : TypeId} (hT : P.underlying T = some (.map t e)) (k : α) (ty kt : TypeId) :
    ∃ w', (Builtin.delete_ #[T, kt] ty #[.map (some b), enc k]).run P w = .ok (.tuple #[]) w' ∧ Own w0 D w' (L.set i (rngR enc b r (mdel k m) done)) := by
  obtain ⟨F, ⟨hF, hne, es, clk, seen, h1, hit, h2, hs, hsn⟩, _, h3⟩ := h.step hi
  obtain ⟨es', hr, he, hsub⟩ := del_run K hT h1 h2 k ty kt
  have hu := upd_set w b (.map es' clk)
  refine ⟨_, hr, h3 (R' := rngR enc b r (mdel k m) done) (F' := F) ⟨hF, hne, es', clk, seen, get_set _ (Array.getElem?_eq_some_iff.1 h1).1, (hu.block r (Array.getElem?_eq_some_iff.1 hit).1 (Ne.symm hne)).trans hit, he, ?_, ?_⟩ (fun _ h => .inl h) (hu.mono fun x _ hx => (hF x).2 (.inl hx))⟩
  · rcases hsub with e | ⟨j, e⟩ <;> rw [e]
    · exact hs
    · exact stamped_erase hs
  · intro x hx
    refine hsn x ?_
    rcases hsub with e | ⟨j, e⟩
    · rw [← e]; exact hx
    · rw [e] at hx; exact (List.eraseIdx_sublist _ j).subset hx
/-- The head of a range: the iterator. -/
theorem Own.rngStart (h : Own w0 D w L) (i : Nat) {b : Nat} {m : List (α × Value)} (hi : L[i]? = some (mapR enc b m)) {T k e : TypeId} (hT : P.underlying T = some (.map k e)) :
    ∃ w', (Instr.range T (.map (some b))).run P w = .ok (.pointer (some ⟨w.heap.size, 0, none⟩)) w' ∧ Own w0 D w' (L.set i (rngR enc b w.heap.size m [])) := by
  obtain ⟨F, ⟨hF, es, clk, h1, h2, hs⟩, _, h3⟩ := h.step hi
  have hlt := (Array.getElem?_eq_some_iff.1 h1).1
  refine ⟨_, run_range_map w T k e b es clk hT h1, h3 (R' := rngR enc b w.heap.size m []) (F' := fun x => x = b ∨ x = w.heap.size) ⟨fun _ => Iff.rfl, by omega, es, clk, #[], ?_, ?_, h2, hs, fun e _ => by simp⟩ (fun x hx => hx.imp (hF x).2 (fun h => by omega)) (Upd.of_below (below_one w _))⟩
  · show (w.heap.push _)[b]? = _
    rw [Array.getElem?_push_lt hlt, Array.getElem?_eq_getElem hlt] at *
    exact h1
  · show (w.heap.push _)[w.heap.size]? = _
    simp
theorem Own.rngEnd (h : Own w0 D w L) (i : Nat) {b r : Nat} {m : List (α × Value)} {done : List α} (hi : L[i]? = some (rngR enc b r m done)) : Own w0 D w (L.set i (mapR enc b m)) := by
  obtain ⟨F, ⟨hF, hne, es, clk, seen, h1, hit, h2, hs, hsn⟩, _, h3⟩ := h.step hi
  exact h3 (R' := mapR enc b m) (F' := fun x => x = b) ⟨fun _ => Iff.rfl, es, clk, h1, h2, hs⟩ (fun x hx => .inl ((hF x).2 (.inl hx))) (Upd.refl _ _)
theorem entR_mem {es : List MapEntry} {m : List (α × Value)} (h : entR enc es m) {e : MapEntry} (he : e ∈ es) : ∃ x ∈ m, e.key = enc x.1 ∧ e.val = x.2 := by
  have : (e.key, e.val) ∈ es.map fun e => (e.key, e.val) := List.mem_map_of_mem he
  rw [h] at this
  obtain ⟨x, hx, e2⟩ := List.mem_map.1 this
  simp only [Prod.mk.injEq] at e2
  exact ⟨x, hx, e2.1.symm, e2.2.symm⟩
theorem entR_mem' {es : List MapEntry} {m : List (α × Value)} (h : entR enc es m) {x : α × Value} (hx : x ∈ m) : ∃ e ∈ es, e.key = enc x.1 ∧ e.val = x.2 := by
  have : (enc x.1, x.2) ∈ m.map fun x => (enc x.1, x.2) := List.mem_map_of_mem (f := fun x : α × Value => (enc x.1, x.2)) hx
  rw [← h] at this
  obtain ⟨e, he, e2⟩ := List.mem_map.1 this
  simp only [Prod.mk.injEq] at e2
  exact ⟨e, he, e2.1, e2.2⟩
theorem nodup_map_inj {β γ : Type} {f : β → γ} : ∀ {l : List β}, (l.map f).Nodup → ∀ {a b : β}, a ∈ l → b ∈ l → f a = f b → a = b
  | x :: l, h, a, b, ha, hb, e => by
    simp only [List.map_cons, List.nodup_cons] at h
    rcases List.mem_cons.1 ha with ha | ha
    · rcases List.mem_cons.1 hb with hb | hb
      · rw [ha, hb]
      · rw [ha] at e; exact absurd (e ▸ List.mem_map_of_mem hb) h.1
    · rcases List.mem_cons.1 hb with hb | hb
      · rw [hb] at e; exact absurd (e ▸ List.mem_map_of_mem ha) h.1
      · exact nodup_map_inj h.2 ha hb e
theorem setBlock_upd (w : World) (r : Nat) (o : Obj) : Upd (fun x => x = r) w (setBlock w r o) := upd_set w r o
/-- One step of a range: over, or one entry more, whichever. -/
theorem Own.rngNext (h : Own w0 D w L) (i : Nat) {b r : Nat} {m : List (α × Value)} {done : List α} (hi : L[i]? = some (rngR enc b r m done)) (hinj : ∀ a c, enc a = enc c → a = c) (hnd : (m.map (·.1)).Nodup) (ty : TypeId) :
    ((∀ x ∈ m, x.1 ∈ done) ∧ (Instr.next (.pointer (some ⟨r, 0, none⟩)) false ty).run P w = .ok (.tuple #[.bool false]) w) ∨
    ∃ k v w', (k, v) ∈ m ∧ k ∉ done ∧ (Instr.next (.pointer (some ⟨r, 0, none⟩)) false ty).run P w = .ok (.tuple #[.bool true, enc k, v]) w' ∧ (Instr.entry (.pointer (some ⟨r, 0, none⟩))).run P w' = .ok (.tuple #[enc k, v]) w' ∧ Own w0 D w' (L.set i (rngR enc b r m (k :: done))) := by
  obtain ⟨F, ⟨hF, hne, es, clk, seen, h1, hit, h2, hs, hsn⟩, _, h3⟩ := h.step hi
  rcases run_next_at (P := P) w ty r b clk clk seen es clk hit h1 hs.2 (Nat.le_refl _) with ⟨h0, hrun⟩ | ⟨e, he, w1, hw1, hrun⟩
  · refine .inl ⟨fun x hx => ?_, hrun⟩
    obtain ⟨e, he, hk, _⟩ := entR_mem' h2 hx
    have : seen.contains e.born = true := by
      refine Decidable.byContradiction fun hn => ?_
      have hm : e ∈ leftOf es seen := by
        unfold leftOf
        rw [Array.mem_filter]
        exact ⟨by simpa using he, by simpa using hn⟩
      have := Array.size_pos_of_mem hm
      omega
    obtain ⟨k, hk1, hk2⟩ := (hsn e he).1 this
    rw [hk] at hk2
    rw [hinj _ _ hk2]; exact hk1
  · have hm : e ∈ es.toList ∧ seen.contains e.born = false := by
      unfold leftOf at he
      simp only [Array.toList_filter, List.mem_filter] at he
      exact ⟨he.1, by simpa using he.2⟩
    obtain ⟨⟨k, v⟩, hx, hk, hv⟩ := entR_mem h2 hm.1
    simp only at hk hv
    have hkd : k ∉ done := fun hk1 => by
      have := (hsn e hm.1).2 ⟨k, hk1, hk⟩
      rw [hm.2] at this; cases this
    have hb1 : w1.heap = w.heap ∧ Upd F w w1 := by rcases hw1 with rfl | rfl <;> exact ⟨rfl, ⟨rfl, rfl, rfl, Nat.le_refl _, fun _ _ _ => rfl⟩⟩
    have hu : Upd F w (setBlock w1 r (.mapIter (some b) clk (seen.push e.born) clk)) := hb1.2.trans ((setBlock_upd _ _ _).mono fun x _ hx => (hF x).2 (.inr hx))
    have hrl := (Array.getElem?_eq_some_iff.1 hit).1
    have g1 : (setBlock w1 r (.mapIter (some b) clk (seen.push e.born) clk)).heap[b]? = some (.map es clk) := by
      rw [(setBlock_upd w1 r _).block b (by rw [hb1.1]; exact (Array.getElem?_eq_some_iff.1 h1).1) hne, hb1.1]; exact h1
    have g2 : (setBlock w1 r (.mapIter (some b) clk (seen.push e.born) clk)).heap[r]? = some (.mapIter (some b) clk (seen.push e.born) clk) := get_set _ (by rw [hb1.1]; exact hrl)
    refine .inr ⟨k, v, _, hx, hkd, ?_, ?_, h3 (R' := rngR enc b r m (k :: done)) (F' := F) ⟨hF, hne, es, clk, seen.push e.born, g1, g2, h2, hs, fun e' he' => ?_⟩ (fun _ h => .inl h) hu⟩
    · rw [hrun, hk, hv]
    · rw [run_entry_at (P := P) _ r b clk seen es clk e g2 g1 hm.1 hs.1, hk, hv]
    · simp only [Array.contains_push, Bool.or_eq_true, beq_iff_eq, List.mem_cons, exists_eq_or_imp]
      constructor
      · rintro (hc | hc)
        · exact .inr ((hsn e' he').1 hc)
        · have : e' = e := by
            have hp := hs.1
            exact nodup_map_inj hp he' hm.1 (by omega)
          exact .inl (by rw [this]; exact hk)
      · rintro (hc | hc)
        · refine .inr ?_
          have : e' = e := by
            obtain ⟨j1, g1, e1⟩ := List.getElem_of_mem he'
            obtain ⟨j2, g2, e2⟩ := List.getElem_of_mem hm.1
            have hl : es.toList.length = m.length := by have := congrArg List.length h2; simpa using this
            have f1 : enc (m[j1]'(by omega)).1 = e'.key := by
              have := congrArg (fun l => l[j1]?) h2
              simp only [List.getElem?_map, List.getElem?_eq_getElem g1, List.getElem?_eq_getElem (show j1 < m.length by omega), Option.map_some, Option.some.injEq, Prod.mk.injEq] at this
              rw [← this.1, e1]
            have f2 : enc (m[j2]'(by omega)).1 = e.key := by
              have := congrArg (fun l => l[j2]?) h2
              simp only [List.getElem?_map, List.getElem?_eq_getElem g2, List.getElem?_eq_getElem (show j2 < m.length by omega), Option.map_some, Option.some.injEq, Prod.mk.injEq] at this
              rw [← this.1, e2]
            have f3 : (m[j1]'(by omega)).1 = (m[j2]'(by omega)).1 := hinj _ _ (by rw [f1, f2, hc, hk])
            have : j1 = j2 := by
              have hp := List.pairwise_iff_getElem.1 hnd
              have q1 : j1 < (m.map (·.1)).length := by simp; omega
              have q2 : j2 < (m.map (·.1)).length := by simp; omega
              rcases Nat.lt_trichotomy j1 j2 with h | h | h
              · exact absurd (by simpa using f3) (hp j1 j2 q1 q2 h)
              · exact h
              · exact absurd (by simpa using f3.symm) (hp j2 j1 q2 q1 h)
            subst this
            rw [← e1, ← e2]
          rw [this]
        · exact .inl ((hsn e' he').2 hc)
/-- The iterator r of a range over a map b that stays as it is (es, clk); the keys done have come. -/
def itrR (enc : α → Value) (b r clk : Nat) (es : Array MapEntry) (done : List α) : Res where
  P w F := (∀ x, F x ↔ x = r) ∧ ∃ seen : Array Nat, w.heap[r]? = some (.mapIter (some b) clk seen clk) ∧ ∀ e ∈ es.toList, seen.contains e.born = true ↔ ∃ k ∈ done, e.key = enc k
  bound h x hx := by obtain ⟨h1, seen, h2, _⟩ := h; rw [(h1 x).1 hx]; exact (Array.getElem?_eq_some_iff.1 h2).1
  move h hu hF := by obtain ⟨h1, seen, h2, h3⟩ := h; exact ⟨h1, seen, (hu.block _ (Array.getElem?_eq_some_iff.1 h2).1 (hF _ ((h1 _).2 rfl))).trans h2, h3⟩
theorem Own.itStart (h : Own w0 D w L) {b clk : Nat} {es : Array MapEntry} {T k e : TypeId} (hT : P.underlying T = some (.map k e)) (h1 : w.heap[b]? = some (.map es clk)) (enc : α → Value) :
    ∃ w', (Instr.range T (.map (some b))).run P w = .ok (.pointer (some ⟨w.heap.size, 0, none⟩)) w' ∧ Own w0 D w' (L ++ [itrR enc b w.heap.size clk es []]) ∧ Below w.heap.size w w' :=
  ⟨_, run_range_map w T k e b es clk hT h1, h.push (R := itrR enc b w.heap.size clk es []) (F := fun x => x = w.heap.size) ⟨fun _ => Iff.rfl, #[], by show (w.heap.push _)[w.heap.size]? = _; simp, fun e _ => by simp⟩ (fun x hx => by rw [hx]; exact Nat.le_refl _) (below_one w _), below_one w _⟩
/-- One step of a range over a map that stays as it is. -/
theorem Own.itNext (h : Own w0 D w L) (i : Nat) {b r clk : Nat} {es : Array MapEntry} {m : List (α × Value)} {done : List α} (hi : L[i]? = some (itrR enc b r clk es done)) (h1 : w.heap[b]? = some (.map es clk)) (h2 : entR enc es.toList m) (hs : Stamped es.toList clk) (hinj : ∀ a c, enc a = enc c → a = c) (hnd : (m.map (·.1)).Nodup) (ty : TypeId) :
    ((∀ x ∈ m, x.1 ∈ done) ∧ (Instr.next (.pointer (some ⟨r, 0, none⟩)) false ty).run P w = .ok (.tuple #[.bool false]) w) ∨
    ∃ k v w', (k, v) ∈ m ∧ k ∉ done ∧ (Instr.next (.pointer (some ⟨r, 0, none⟩)) false ty).run P w = .ok (.tuple #[.bool true, enc k, v]) w' ∧ (Instr.entry (.pointer (some ⟨r, 0, none⟩))).run P w' = .ok (.tuple #[enc k, v]) w' ∧ Own w0 D w' (L.set i (itrR enc b r clk es (k :: done))) := by
  obtain ⟨F, ⟨hF, seen, hit, hsn⟩, _, h3⟩ := h.step hi
  have hne : b ≠ r := fun e => by rw [e, hit] at h1; cases h1
  rcases run_next_at (P := P) w ty r b clk clk seen es clk hit h1 hs.2 (Nat.le_refl _) with ⟨h0, hrun⟩ | ⟨e, he, w1, hw1, hrun⟩
  · refine .inl ⟨fun x hx => ?_, hrun⟩
    obtain ⟨e, he, hk, _⟩ := entR_mem' h2 hx
    have : seen.contains e.born = true := by
      refine Decidable.byContradiction fun hn => ?_
      have hm : e ∈ leftOf es seen := by
        unfold leftOf
        rw [Array.mem_filter]
        exact ⟨by simpa using he, by simpa using hn⟩
      have := Array.size_pos_of_mem hm
      omega
    obtain ⟨k, hk1, hk2⟩ := (hsn e he).1 this
    rw [hk] at hk2
    rw [hinj _ _ hk2]; exact hk1
  · have hm : e ∈ es.toList ∧ seen.contains e.born = false := by
      unfold leftOf at he
      simp only [Array.toList_filter, List.mem_filter] at he
      exact ⟨he.1, by simpa using he.2⟩
    obtain ⟨⟨k, v⟩, hx, hk, hv⟩ := entR_mem h2 hm.1
    simp only at hk hv
    have hkd : k ∉ done := fun hk1 => by
      have := (hsn e hm.1).2 ⟨k, hk1, hk⟩
      rw [hm.2] at this; cases this
    have hb1 : w1.heap = w.heap ∧ Upd F w w1 := by rcases hw1 with rfl | rfl <;> exact ⟨rfl, ⟨rfl, rfl, rfl, Nat.le_refl _, fun _ _ _ => rfl⟩⟩
    have hu : Upd F w (setBlock w1 r (.mapIter (some b) clk (seen.push e.born) clk)) := hb1.2.trans ((setBlock_upd _ _ _).mono fun x _ hx => (hF x).2 hx)
    have hrl := (Array.getElem?_eq_some_iff.1 hit).1
    have g1 : (setBlock w1 r (.mapIter (some b) clk (seen.push e.born) clk)).heap[b]? = some (.map es clk) := by
      rw [(setBlock_upd w1 r _).block b (by rw [hb1.1]; exact (Array.getElem?_eq_some_iff.1 h1).1) hne, hb1.1]; exact h1
    have g2 : (setBlock w1 r (.mapIter (some b) clk (seen.push e.born) clk)).heap[r]? = some (.mapIter (some b) clk (seen.push e.born) clk) := get_set _ (by rw [hb1.1]; exact hrl)
    refine .inr ⟨k, v, _, hx, hkd, ?_, ?_, h3 (R' := itrR enc b r clk es (k :: done)) (F' := F) ⟨hF, seen.push e.born, g2, fun e' he' => ?_⟩ (fun _ h => .inl h) hu⟩
    · rw [hrun, hk, hv]
    · rw [run_entry_at (P := P) _ r b clk seen es clk e g2 g1 hm.1 hs.1, hk, hv]
    · simp only [Array.contains_push, Bool.or_eq_true, beq_iff_eq, List.mem_cons, exists_eq_or_imp]
      constructor
      · rintro (hc | hc)
        · exact .inr ((hsn e' he').1 hc)
        · have : e' = e := by
            have hp := hs.1
            exact nodup_map_inj hp he' hm.1 (by omega)
          exact .inl (by rw [this]; exact hk)
      · rintro (hc | hc)
        · refine .inr ?_
          have : e' = e := by
            obtain ⟨j1, g1, e1⟩ := List.getElem_of_mem he'
            obtain ⟨j2, g2, e2⟩ := List.getElem_of_mem hm.1
            have hl : es.toList.length = m.length := by have := congrArg List.length h2; simpa using this
            have f1 : enc (m[j1]'(by omega)).1 = e'.key := by
              have := congrArg (fun l => l[j1]?) h2
              simp only [List.getElem?_map, List.getElem?_eq_getElem g1, List.getElem?_eq_getElem (show j1 < m.length by omega), Option.map_some, Option.some.injEq, Prod.mk.injEq] at this
              rw [← this.1, e1]
            have f2 : enc (m[j2]'(by omega)).1 = e.key := by
              have := congrArg (fun l => l[j2]?) h2
              simp only [List.getElem?_map, List.getElem?_eq_getElem g2, List.getElem?_eq_getElem (show j2 < m.length by omega), Option.map_some, Option.some.injEq, Prod.mk.injEq] at this
              rw [← this.1, e2]
            have f3 : (m[j1]'(by omega)).1 = (m[j2]'(by omega)).1 := hinj _ _ (by rw [f1, f2, hc, hk])
            have : j1 = j2 := by
              have hp := List.pairwise_iff_getElem.1 hnd
              have q1 : j1 < (m.map (·.1)).length := by simp; omega
              have q2 : j2 < (m.map (·.1)).length := by simp; omega
              rcases Nat.lt_trichotomy j1 j2 with h | h | h
              · exact absurd (by simpa using f3) (hp j1 j2 q1 q2 h)
              · exact h
              · exact absurd (by simpa using f3.symm) (hp j2 j1 q2 q1 h)
            subst this
            rw [← e1, ← e2]
          rw [this]
        · exact .inl ((hsn e' he').2 hc)
/-- How many entries the range has not handed out: a measure. -/
def leftN (w : World) (b r : Nat) : Nat := match w.heap[b]?, w.heap[r]? with
  | some (.map es _), some (.mapIter _ _ seen _) => (leftOf es seen).size
  | _, _ => 0
theorem entR_count {p : MapEntry → Bool} {q : α × Value → Bool} : ∀ {es : List MapEntry} {m : List (α × Value)}, entR enc es m → (∀ e ∈ es, ∀ x ∈ m, e.key = enc x.1 → p e = q x) → (es.filter p).length = (m.filter q).length
  | es, [], h, _ => by rw [entR_nil h]; rfl
  | es, x :: m, h, hp => by
    obtain ⟨e, es', rfl, h1, h2, h3⟩ := entR_cons h
    have ih := entR_count (p := p) (q := q) h3 (fun e' he' x' hx' => hp e' (List.mem_cons_of_mem _ he') x' (List.mem_cons_of_mem _ hx'))
    have h0 := hp e (List.mem_cons_self) x (List.mem_cons_self) h1
    simp only [List.filter_cons, h0]
    split <;> simp [ih]
theorem leftN_eq (h : Own w0 D w L) (i : Nat) {b r : Nat} {m : List (α × Value)} {done : List α} (hi : L[i]? = some (rngR enc b r m done)) (hinj : ∀ a c, enc a = enc c → a = c) : leftN w b r = (m.filter fun x => decide (x.1 ∉ done)).length := by
  obtain ⟨F, ⟨hF, hne, es, clk, seen, h1, hit, h2, hs, hsn⟩, _, _⟩ := h.step hi
  unfold leftN
  rw [h1, hit]
  simp only
  rw [leftOf, ← Array.length_toList, Array.toList_filter]
  refine entR_count h2 fun e he x hx hk => ?_
  rw [Bool.eq_iff_iff]
  simp only [Bool.not_eq_true', decide_eq_true_eq]
  rw [← Bool.not_eq_true, not_congr (hsn e he)]
  constructor
  · intro hn hd; exact hn ⟨x.1, hd, hk⟩
  · rintro hn ⟨k, hk1, hk2⟩; exact hn (by rw [hinj x.1 k (hk.symm.trans hk2)]; exact hk1)
theorem leftN_it (h : Own w0 D w L) (i : Nat) {b r clk : Nat} {es : Array MapEntry} {m : List (α × Value)} {done : List α} (hi : L[i]? = some (itrR enc b r clk es done)) (h1 : w.heap[b]? = some (.map es clk)) (h2 : entR enc es.toList m) (hinj : ∀ a c, enc a = enc c → a = c) : leftN w b r = (m.filter fun x => decide (x.1 ∉ done)).length := by
  obtain ⟨F, ⟨hF, seen, hit, hsn⟩, _, _⟩ := h.step hi
  unfold leftN
  rw [h1, hit]
  simp only
  rw [leftOf, ← Array.length_toList, Array.toList_filter]
  refine entR_count h2 fun e he x hx hk => ?_
  rw [Bool.eq_iff_iff]
  simp only [Bool.not_eq_true', decide_eq_true_eq]
  rw [← Bool.not_eq_true, not_congr (hsn e he)]
  constructor
  · intro hn hd; exact hn ⟨x.1, hd, hk⟩
  · rintro hn ⟨k, hk1, hk2⟩; exact hn (by rw [hinj x.1 k (hk.symm.trans hk2)]; exact hk1)
theorem run_next_nil (P : Program) {r : Nat} (hr : w.heap[r]? = some (.mapIter none 0 #[] 0)) (ty : TypeId) : (Instr.next (.pointer (some ⟨r, 0, none⟩)) false ty).run P w = .ok (.tuple #[.bool false]) w := by
  simp only [Instr.next, getObj, Sem.run_bind, Sem.run, hr, Result.andThen]
  rfl
end

end Go.Proofs.YtockaipodnapjaaGreatDoor
