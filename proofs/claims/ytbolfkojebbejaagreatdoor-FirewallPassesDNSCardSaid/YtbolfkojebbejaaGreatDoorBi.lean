/- Maps that are owned: store, delete, and the range over a map whose rounds delete. No program in sight. Contracts of package addr (Valid, ValidPrefix, Contains) and of its reference (Valid, size, ValidPrefix, Contains): each returns what the plain function says, and changes no memory that was there. The data of package firewall in memory: rules, flows, keys, the filter. Contracts of package firewall: valid, keyOf, invalid. Printed by wip/tools/gen22a.py. Contracts of package firewall: the match of a rule, IndexFunc, Check. Printed by wip/tools/gen22b.py. The plain law of expire. Contract of expire. Printed by wip/tools/gen22c.py. -/
import Derived.Maps.RangeRun
import Derived.Test.YtbolfkojebbejaaGreatDoorBc
import Derived.Test.YtbolfkojebbejaaGreatDoorBb
import Derived.Test.YtbolfkojebbejaaGreatDoorBa
import Derived.Test.YtbolfkojebbejaaGreatDoorProg
import Derived.Laws.StructEq
namespace Go.Proofs.YtbolfkojebbejaaGreatDoor
open Go.RowKit Go.ChangeMaps
set_option linter.unusedVariables false
set_option maxRecDepth 100000
set_option linter.unusedSectionVars false

section
variable {α : Type} [DecidableEq α]
/-- The stamps of a map's entries. -/
def Stamped (es : List MapEntry) (clk : Nat) : Prop := (es.map (·.born)).Nodup ∧ ∀ e ∈ es, e.born < clk
def MapS (enc : α → Value) (w : World) (b : Nat) (m : List (α × Value)) : Prop := ∃ es clk, w.heap[b]? = some (.map es clk) ∧ entR enc es.toList m ∧ Stamped es.toList clk
theorem MapS.toB {enc : α → Value} {w : World} {b : Nat} {m : List (α × Value)} (h : MapS enc w b m) : MapB enc w b m := by obtain ⟨es, clk, h1, h2, _⟩ := h; exact ⟨es, clk, h1, h2⟩
variable {P : Program} {t : TypeId} {enc : α → Value}
theorem KeyRun.updateS (K : KeyRun P t enc) {T e : TypeId} (hT : P.underlying T = some (.map t e)) {w : World} {b : Nat} {m : List (α × Value)} (h : MapS enc w b m) (k : α) (v : Value) :
    ∃ w', (Instr.mapUpdate T (.map (some b)) (enc k) v).run P w = .ok () w' ∧ MapS enc w' b (mset k v m) ∧ Upd (fun x => x = b) w w' := by
  obtain ⟨es, clk, h1, h2, h3, h4⟩ := h
  have hlt := (Array.getElem?_eq_some_iff.1 h1).1
  unfold Instr.mapUpdate
  rw [Sem.run_bind, show (underlying T).run P w = .ok (.map t e) w by simp [underlying, go_sem, hT]]
  simp only [Result.andThen_ok, Sem.run_bind, run_getObj h1, K.check, K.findKey k w h2]
  cases hi : ascIx k m 0 with
  | none =>
    simp only [setObj_map h1]
    refine ⟨_, rfl, ⟨_, _, get_set _ hlt, ?_, ?_⟩, upd_set _ _ _⟩
    · rw [mset_none hi]
      simp only [entR, Array.toList_push, List.map_append, List.map_cons, List.map_nil] at h2 ⊢
      rw [h2]
    · rw [Array.toList_push]
      refine ⟨?_, fun x hx => ?_⟩
      · rw [List.map_append, List.nodup_append]
        refine ⟨h3, by simp, fun a ha c hc => ?_⟩
        obtain ⟨x, hx, rfl⟩ := List.mem_map.1 ha
        simp only [List.map_cons, List.map_nil, List.mem_singleton] at hc
        have := h4 x hx
        omega
      · rcases List.mem_append.1 hx with hx | hx
        · have := h4 x hx; omega
        · simp only [List.mem_singleton] at hx; subst hx; simp
  | some r =>
    obtain ⟨j, u⟩ := r
    obtain ⟨_, n, hj, hk⟩ := ascIx_some hi
    obtain rfl : j = n := by omega
    have hkey : ((es[j]?).map (·.key)).getD (enc k) = enc k := by
      have := congrArg (fun l => l[j]?) h2
      simp only [List.getElem?_map, Array.getElem?_toList] at this
      cases hm : m[j]? with
      | none => rw [hm] at hk; simp at hk
      | some x =>
        rw [hm] at hk this
        cases he : es[j]? with
        | none => simp
        | some e0 =>
          rw [he] at this
          simp only [Option.map_some, Option.some.injEq, Prod.mk.injEq] at this hk
          simp [this.1, hk]
    simp only [hkey, Instr.keyThatStays, K.bits k, if_true, Sem.run_bind, Sem.run_pure, Result.andThen_ok, setObj_map h1]
    have hbo : ∀ (l : List MapEntry) (n : Nat) (f : MapEntry → MapEntry), (∀ e, (f e).born = e.born) → (l.modify n f).map (·.born) = l.map (·.born) := fun l n f hf => by
      induction l generalizing n with
      | nil => simp
      | cons e l ih => cases n <;> simp [hf, ih]
    refine ⟨_, rfl, ⟨_, _, get_set _ hlt, ?_, ?_⟩, upd_set _ _ _⟩
    · rw [Array.toList_modify]
      exact entR_mset (i := 0) (u := u) h2 (by rw [hi]; simp)
    · rw [Array.toList_modify]
      have hz := hbo es.toList j (fun e => { e with key := enc k, val := v }) (fun _ => rfl)
      refine ⟨by rw [hz]; exact h3, fun x hx => ?_⟩
      have : x.born ∈ (es.toList.modify j fun e => { e with key := enc k, val := v }).map (·.born) := List.mem_map_of_mem hx
      rw [hz] at this
      obtain ⟨y, hy, e⟩ := List.mem_map.1 this
      rw [← e]; exact h4 y hy

/-- A map. -/
def mapR (enc : α → Value) (b : Nat) (m : List (α × Value)) : Res where
  P w F := (∀ x, F x ↔ x = b) ∧ MapS enc w b m
  bound h x hx := by obtain ⟨h1, es, clk, h2, _⟩ := h; rw [(h1 x).1 hx]; exact (Array.getElem?_eq_some_iff.1 h2).1
  move h hu hF := by obtain ⟨h1, es, clk, h2, h3⟩ := h; exact ⟨h1, es, clk, (hu.block _ (Array.getElem?_eq_some_iff.1 h2).1 (hF _ ((h1 _).2 rfl))).trans h2, h3⟩
/-- A map b under way through a range, whose iterator is r; the keys done have come. -/
def rngR (enc : α → Value) (b r : Nat) (m : List (α × Value)) (done : List α) : Res where
  P w F := (∀ x, F x ↔ x = b ∨ x = r) ∧ b ≠ r ∧ ∃ es clk, ∃ seen : Array Nat, w.heap[b]? = some (.map es clk) ∧ w.heap[r]? = some (.mapIter (some b) clk seen clk) ∧ entR enc es.toList m ∧ Stamped es.toList clk ∧ ∀ e ∈ es.toList, seen.contains e.born = true ↔ ∃ k ∈ done, e.key = enc k
  bound h x hx := by
    obtain ⟨h1, _, es, clk, seen, h2, h3, _⟩ := h
    rcases (h1 x).1 hx with rfl | rfl
    · exact (Array.getElem?_eq_some_iff.1 h2).1
    · exact (Array.getElem?_eq_some_iff.1 h3).1
  move h hu hF := by
    obtain ⟨h1, hne, es, clk, seen, h2, h3, h4⟩ := h
    exact ⟨h1, hne, es, clk, seen, (hu.block _ (Array.getElem?_eq_some_iff.1 h2).1 (hF _ ((h1 _).2 (.inl rfl)))).trans h2, (hu.block _ (Array.getElem?_eq_some_iff.1 h3).1 (hF _ ((h1 _).2 (.inr rfl)))).trans h3, h4⟩

variable {w0 w : World} {D : Nat → Prop} {L : List Res}
theorem Own.mapB (h : Own w0 D w L) (i : Nat) {b : Nat} {m : List (α × Value)} (hi : L[i]? = some (mapR enc b m)) : MapB enc w b m := by
  obtain ⟨F, h1, _⟩ := h.step hi; exact h1.2.toB
theorem Own.mapNew (h : Own w0 D w L) (enc : α → Value) : Own w0 D (w.alloc (.map #[] 0)) (L ++ [mapR enc w.heap.size []]) :=
  h.push (R := mapR enc w.heap.size []) (F := fun b => b = w.heap.size) ⟨fun _ => Iff.rfl, #[], 0, by show (w.heap.push _)[w.heap.size]? = _; simp, rfl, by simp [Stamped]⟩ (fun b hb => by rw [hb]; exact Nat.le_refl _) (below_one w _)
theorem Own.mapSet (h : Own w0 D w L) (i : Nat) {b : Nat} {m : List (α × Value)} (hi : L[i]? = some (mapR enc b m)) (K : KeyRun P t enc) {T e : TypeId} (hT : P.underlying T = some (.map t e)) (k : α) (v : Value) :
    ∃ w', (Instr.mapUpdate T (.map (some b)) (enc k) v).run P w = .ok () w' ∧ Own w0 D w' (L.set i (mapR enc b (mset k v m))) := by
  obtain ⟨F, h1, _, h3⟩ := h.step hi
  obtain ⟨w', hr, hm, hu⟩ := K.updateS hT h1.2 k v
  exact ⟨w', hr, h3 (R' := mapR enc b (mset k v m)) (F' := F) ⟨h1.1, hm⟩ (fun _ h => .inl h) (hu.mono fun x _ hx => (h1.1 x).2 hx)⟩

theorem stamped_erase {es : List MapEntry} {clk j : Nat} (h : Stamped es clk) : Stamped (es.eraseIdx j) clk :=
  ⟨((List.eraseIdx_sublist es j).map _).nodup h.1, fun e he => h.2 e ((List.eraseIdx_sublist es j).subset he)⟩
theorem del_run (K : KeyRun P t enc) {T e : TypeId} (hT : P.underlying T = some (.map t e)) {b : Nat} {es : Array MapEntry} {clk : Nat} (h1 : w.heap[b]? = some (.map es clk)) {m : List (α × Value)} (h2 : entR enc es.toList m) (k : α) (ty kt : TypeId) :
    ∃ es', (Builtin.delete_ #[T, kt] ty #[.map (some b), enc k]).run P w = .ok (.tuple #[]) { w with heap := w.heap.setIfInBounds b (.map es' clk) } ∧ entR enc es'.toList (mdel k m) ∧ (es'.toList = es.toList ∨ ∃ j, es'.toList = es.toList.eraseIdx j) := by
  unfold Builtin.delete_
  simp only [List.getElem?_toArray, List.getElem?_cons_zero, List.getElem?_cons_succ]
  rw [Sem.run_bind, show (underlying T).run P w = .ok (.map t e) w by simp [underlying, go_sem, hT]]
  simp only [Result.andThen_ok, Sem.run_bind, run_getObj h1, K.check, K.findKey k w h2]
  cases hi : ascIx k m 0 with
  | none =>
    simp only [Sem.run_bind, setObj_map h1, Result.andThen_ok, Sem.run_pure]
    exact ⟨es, rfl, by rw [mdel_none hi]; exact h2, .inl rfl⟩
  | some r =>
    obtain ⟨j, u⟩ := r
    obtain ⟨_, n, hj, hk⟩ := ascIx_some hi
    obtain rfl : j = n := by omega
    simp only [Sem.run_bind, setObj_map h1, Result.andThen_ok, Sem.run_pure]
    have hj' : j < es.size := by
      have hl : es.toList.length = m.length := by have := congrArg List.length h2; simpa using this
      have : j < m.length := by
        rcases Nat.lt_or_ge j m.length with h | h
        · exact h
        · rw [List.getElem?_eq_none h] at hk; simp at hk
      have h4 : j < es.toList.length := by omega
      simpa using h4
    refine ⟨_, rfl, ?_, .inr ⟨j, ?_⟩⟩
    · rw [Array.eraseIdxIfInBounds, dif_pos hj', Array.toList_eraseIdx]
      exact entR_mdel (i := 0) (u := u) h2 (by rw [hi]; simp)
    · rw [Array.eraseIdxIfInBounds, dif_pos hj', Array.toList_eraseIdx]
theorem Own.mapDel (h : Own w0 D w L) (i : Nat) {b : Nat} {m : List (α × Value)} (hi : L[i]? = some (mapR enc b m)) (K : KeyRun P t enc) {T e : TypeId} (hT : P.underlying T = some (.map t e)) (k : α) (ty kt : TypeId) :
    ∃ w', (Builtin.delete_ #[T, kt] ty #[.map (some b), enc k]).run P w = .ok (.tuple #[]) w' ∧ Own w0 D w' (L.set i (mapR enc b (mdel k m))) := by
  obtain ⟨F, ⟨hF, es, clk, h1, h2, hs⟩, _, h3⟩ := h.step hi
  obtain ⟨es', hr, he, hsub⟩ := del_run K hT h1 h2 k ty kt
  refine ⟨_, hr, h3 (R' := mapR enc b (mdel k m)) (F' := F) ⟨hF, es', clk, get_set _ (Array.getElem?_eq_some_iff.1 h1).1, he, ?_⟩ (fun _ h => .inl h) ((upd_set _ _ _).mono fun x _ hx => (hF x).2 hx)⟩
  rcases hsub with e | ⟨j, e⟩ <;> rw [e]
  · exact hs
  · exact stamped_erase hs
/-- 'delete' in the round of a range. -/
theorem Own.rngDel (h : Own w0 D w L) (i : Nat) {b r : Nat} {m : List (α × Value)} {done : List α} (hi : L[i]? = some (rngR enc b r m done)) (K : KeyRun P t enc) {T e : TypeId} (hT : P.underlying T = some (.map t e)) (k : α) (ty kt : TypeId) :
    ∃ w', (Builtin.delete_ #[T, kt] ty #[.map (some b), enc k]).run P w = .ok (.tuple #[]) w' ∧ Own w0 D w' (L.set i (rngR enc b r (mdel k m) done)) := by
  obtain ⟨F, ⟨hF, hne, es, clk, seen, h1, hit, h2, hs, hsn⟩, _, h3⟩ := h.step hi
  obtain ⟨es', hr, he, hsub⟩ := del_run K hT h1 h2 k ty kt
  have hu := upd_set w b (.map es' clk)
  refine ⟨_, hr, h3 (R' := rngR enc b r (mdel k m) done) (F' := F) ⟨hF, hne, es', clk, seen, get_set _ (Array.getElem?_eq_some_iff.1 h1).1, (hu.block r (Array.getElem?_eq_some_iff.1 hit).1 (Ne.symm hne)).trans hit, he, ?_, ?_⟩ (fun _ h => .inl h) (hu.mono fun x _ hx => (hF x).2 (.inl hx))⟩
  · rcases hsub with e | ⟨j, e⟩ <;> rw [e]
    · exact hs
    · exact stamped_erase hs
  · intro x hx
    refine hsn x ?_
    rcases hsub with e | ⟨j, e⟩
    · rw [← e]; exact hx
    · rw [e] at hx; exact (List.eraseIdx_sublist _ j).subset hx
/-- The head of a range: the iterator. -/
theorem Own.rngStart (h : Own w0 D w L) (i : Nat) {b : Nat} {m : List (α × Value)} (hi : L[i]? = some (mapR enc b m)) {T k e : TypeId} (hT : P.underlying T = some (.map k e)) :
    ∃ w', (Instr.range T (.map (some b))).run P w = .ok (.pointer (some ⟨w.heap.size, 0, none⟩)) w' ∧ Own w0 D w' (L.set i (rngR enc b w.heap.size m [])) := by
  obtain ⟨F, ⟨hF, es, clk, h1, h2, hs⟩, _, h3⟩ := h.step hi
  have hlt := (Array.getElem?_eq_some_iff.1 h1).1
  refine ⟨_, run_range_map w T k e b es clk hT h1, h3 (R' := rngR enc b w.heap.size m []) (F' := fun x => x = b ∨ x = w.heap.size) ⟨fun _ => Iff.rfl, by omega, es, clk, #[], ?_, ?_, h2, hs, fun e _ => by simp⟩ (fun x hx => hx.imp (hF x).2 (fun h => by omega)) (Upd.of_below (below_one w _))⟩
  · show (w.heap.push _)[b]? = _
    rw [Array.getElem?_push_lt hlt, Array.getElem?_eq_getElem hlt] at *
    exact h1
  · show (w.heap.push _)[w.heap.size]? = _
    simp
theorem Own.rngEnd (h : Own w0 D w L) (i : Nat) {b r : Nat} {m : List (α × Value)} {done : List α} (hi : L[i]? = some (rngR enc b r m done)) : Own w0 D w (L.set i (mapR enc b m)) := by
  obtain ⟨F, ⟨hF, hne, es, clk, seen, h1, hit, h2, hs, hsn⟩, _, h3⟩ := h.step hi
  exact h3 (R' := mapR enc b m) (F' := fun x => x = b) ⟨fun _ => Iff.rfl, es, clk, h1, h2, hs⟩ (fun x hx => .inl ((hF x).2 (.inl hx))) (Upd.refl _ _)
theorem entR_mem {es : List MapEntry} {m : List (α × Value)} (h : entR enc es m) {e : MapEntry} (he : e ∈ es) : ∃ x ∈ m, e.key = enc x.1 ∧ e.val = x.2 := by
  have : (e.key, e.val) ∈ es.map fun e => (e.key, e.val) := List.mem_map_of_mem he
  rw [h] at this
  obtain ⟨x, hx, e2⟩ := List.mem_map.1 this
  simp only [Prod.mk.injEq] at e2
  exact ⟨x, hx, e2.1.symm, e2.2.symm⟩
theorem entR_mem' {es : List MapEntry} {m : List (α × Value)} (h : entR enc es m) {x : α × Value} (hx : x ∈ m) : ∃ e ∈ es, e.key = enc x.1 ∧ e.val = x.2 := by
  have : (enc x.1, x.2) ∈ m.map fun x => (enc x.1, x.2) := List.mem_map_of_mem (f := fun x : α × Value => (enc x.1, x.2)) hx
  rw [← h] at this
  obtain ⟨e, he, e2⟩ := List.mem_map.1 this
  simp only [Prod.mk.injEq] at e2
  exact ⟨e, he, e2.1, e2.2⟩
theorem nodup_map_inj {β γ : Type} {f : β → γ} : ∀ {l : List β}, (l.map f).Nodup → ∀ {a b : β}, a ∈ l → b ∈ l → f a = f b → a = b
  | x :: l, h, a, b, ha, hb, e => by
    simp only [List.map_cons, List.nodup_cons] at h
    rcases List.mem_cons.1 ha with ha | ha
    · rcases List.mem_cons.1 hb with hb | hb
      · rw [ha, hb]
      · rw [ha] at e; exact absurd (e ▸ List.mem_map_of_mem hb) h.1
    · rcases List.mem_cons.1 hb with hb | hb
      · rw [hb] at e; exact absurd (e ▸ List.mem_map_of_mem ha) h.1
      · exact nodup_map_inj h.2 ha hb e
theorem setBlock_upd (w : World) (r : Nat) (o : Obj) : Upd (fun x => x = r) w (setBlock w r o) := upd_set w r o
/-- One step of a range: over, or one entry more, whichever. -/
theorem Own.rngNext (h : Own w0 D w L) (i : Nat) {b r : Nat} {m : List (α × Value)} {done : List α} (hi : L[i]? = some (rngR enc b r m done)) (hinj : ∀ a c, enc a = enc c → a = c) (hnd : (m.map (·.1)).Nodup) (ty : TypeId) :
    ((∀ x ∈ m, x.1 ∈ done) ∧ (Instr.next (.pointer (some ⟨r, 0, none⟩)) false ty).run P w = .ok (.tuple #[.bool false]) w) ∨
    ∃ k v w', (k, v) ∈ m ∧ k ∉ done ∧ (Instr.next (.pointer (some ⟨r, 0, none⟩)) false ty).run P w = .ok (.tuple #[.bool true, enc k, v]) w' ∧ (Instr.entry (.pointer (some ⟨r, 0, none⟩))).run P w' = .ok (.tuple #[enc k, v]) w' ∧ Own w0 D w' (L.set i (rngR enc b r m (k :: done))) := by
  obtain ⟨F, ⟨hF, hne, es, clk, seen, h1, hit, h2, hs, hsn⟩, _, h3⟩ := h.step hi
  rcases run_next_at (P := P) w ty r b clk clk seen es clk hit h1 hs.2 (Nat.le_refl _) with ⟨h0, hrun⟩ | ⟨e, he, w1, hw1, hrun⟩
  · refine .inl ⟨fun x hx => ?_, hrun⟩
    obtain ⟨e, he, hk, _⟩ := entR_mem' h2 hx
    have : seen.contains e.born = true := by
      refine Decidable.byContradiction fun hn => ?_
      have hm : e ∈ leftOf es seen := by
        unfold leftOf
        rw [Array.mem_filter]
        exact ⟨by simpa using he, by simpa using hn⟩
      have := Array.size_pos_of_mem hm
      omega
    obtain ⟨k, hk1, hk2⟩ := (hsn e he).1 this
    rw [hk] at hk2
    rw [hinj _ _ hk2]; exact hk1
  · have hm : e ∈ es.toList ∧ seen.contains e.born = false := by
      unfold leftOf at he
      simp only [Array.toList_filter, List.mem_filter] at he
      exact ⟨he.1, by simpa using he.2⟩
    obtain ⟨⟨k, v⟩, hx, hk, hv⟩ := entR_mem h2 hm.1
    simp only at hk hv
    have hkd : k ∉ done := fun hk1 => by
      have := (hsn e hm.1).2 ⟨k, hk1, hk⟩
      rw [hm.2] at this; cases this
    have hb1 : w1.heap = w.heap ∧ Upd F w w1 := by rcases hw1 with rfl | rfl <;> exact ⟨rfl, ⟨rfl, rfl, rfl, Nat.le_refl _, fun _ _ _ => rfl⟩⟩
    have hu : Upd F w (setBlock w1 r (.mapIter (some b) clk (seen.push e.born) clk)) := hb1.2.trans ((setBlock_upd _ _ _).mono fun x _ hx => (hF x).2 (.inr hx))
    have hrl := (Array.getElem?_eq_some_iff.1 hit).1
    have g1 : (setBlock w1 r (.mapIter (some b) clk (seen.push e.born) clk)).heap[b]? = some (.map es clk) := by
      rw [(setBlock_upd w1 r _).block b (by rw [hb1.1]; exact (Array.getElem?_eq_some_iff.1 h1).1) hne, hb1.1]; exact h1
    have g2 : (setBlock w1 r (.mapIter (some b) clk (seen.push e.born) clk)).heap[r]? = some (.mapIter (some b) clk (seen.push e.born) clk) := get_set _ (by rw [hb1.1]; exact hrl)
    refine .inr ⟨k, v, _, hx, hkd, ?_, ?_, h3 (R' := rngR enc b r m (k :: done)) (F' := F) ⟨hF, hne, es, clk, seen.push e.born, g1, g2, h2, hs, fun e' he' => ?_⟩ (fun _ h => .inl h) hu⟩
    · rw [hrun, hk, hv]
    · rw [run_entry_at (P := P) _ r b clk seen es clk e g2 g1 hm.1 hs.1, hk, hv]
    · simp only [Array.contains_push, Bool.or_eq_true, beq_iff_eq, List.mem_cons, exists_eq_or_imp]
      constructor
      · rintro (hc | hc)
        · exact .inr ((hsn e' he').1 hc)
        · have : e' = e := by
            have hp := hs.1
            exact nodup_map_inj hp he' hm.1 (by omega)
          exact .inl (by rw [this]; exact hk)
      · rintro (hc | hc)
        · refine .inr ?_
          have : e' = e := by
            obtain ⟨j1, g1, e1⟩ := List.getElem_of_mem he'
            obtain ⟨j2, g2, e2⟩ := List.getElem_of_mem hm.1
            have hl : es.toList.length = m.length := by have := congrArg List.length h2; simpa using this
            have f1 : enc (m[j1]'(by omega)).1 = e'.key := by
              have := congrArg (fun l => l[j1]?) h2
              simp only [List.getElem?_map, List.getElem?_eq_getElem g1, List.getElem?_eq_getElem (show j1 < m.length by omega), Option.map_some, Option.some.injEq, Prod.mk.injEq] at this
              rw [← this.1, e1]
            have f2 : enc (m[j2]'(by omega)).1 = e.key := by
              have := congrArg (fun l => l[j2]?) h2
              simp only [List.getElem?_map, List.getElem?_eq_getElem g2, List.getElem?_eq_getElem (show j2 < m.length by omega), Option.map_some, Option.some.injEq, Prod.mk.injEq] at this
              rw [← this.1, e2]
            have f3 : (m[j1]'(by omega)).1 = (m[j2]'(by omega)).1 := hinj _ _ (by rw [f1, f2, hc, hk])
            have : j1 = j2 := by
              have hp := List.pairwise_iff_getElem.1 hnd
              have q1 : j1 < (m.map (·.1)).length := by simp; omega
              have q2 : j2 < (m.map (·.1)).length := by simp; omega
              rcases Nat.lt_trichotomy j1 j2 with h | h | h
              · exact absurd (by simpa using f3) (hp j1 j2 q1 q2 h)
              · exact h
              · exact absurd (by simpa using f3.symm) (hp j2 j1 q2 q1 h)
            subst this
            rw [← e1, ← e2]
          rw [this]
        · exact .inl ((hsn e' he').2 hc)
/-- The iterator r of a range over a map b that stays as it is (es, clk); the keys done have come. -/
def itrR (enc : α → Value) (b r clk : Nat) (es : Array MapEntry) (done : List α) : Res where
  P w F := (∀ x, F x ↔ x = r) ∧ ∃ seen : Array Nat, w.heap[r]? = some (.mapIter (some b) clk seen clk) ∧ ∀ e ∈ es.toList, seen.contains e.born = true ↔ ∃ k ∈ done, e.key = enc k
  bound h x hx := by obtain ⟨h1, seen, h2, _⟩ := h; rw [(h1 x).1 hx]; exact (Array.getElem?_eq_some_iff.1 h2).1
  move h hu hF := by obtain ⟨h1, seen, h2, h3⟩ := h; exact ⟨h1, seen, (hu.block _ (Array.getElem?_eq_some_iff.1 h2).1 (hF _ ((h1 _).2 rfl))).trans h2, h3⟩
theorem Own.itStart (h : Own w0 D w L) {b clk : Nat} {es : Array MapEntry} {T k e : TypeId} (hT : P.underlying T = some (.map k e)) (h1 : w.heap[b]? = some (.map es clk)) (enc : α → Value) :
    ∃ w', (Instr.range T (.map (some b))).run P w = .ok (.pointer (some ⟨w.heap.size, 0, none⟩)) w' ∧ Own w0 D w' (L ++ [itrR enc b w.heap.size clk es []]) ∧ Below w.heap.size w w' :=
  ⟨_, run_range_map w T k e b es clk hT h1, h.push (R := itrR enc b w.heap.size clk es []) (F := fun x => x = w.heap.size) ⟨fun _ => Iff.rfl, #[], by show (w.heap.push _)[w.heap.size]? = _; simp, fun e _ => by simp⟩ (fun x hx => by rw [hx]; exact Nat.le_refl _) (below_one w _), below_one w _⟩
/-- One step of a range over a map that stays as it is. -/
theorem Own.itNext (h : Own w0 D w L) (i : Nat) {b r clk : Nat} {es : Array MapEntry} {m : List (α × Value)} {done : List α} (hi : L[i]? = some (itrR enc b r clk es done)) (h1 : w.heap[b]? = some (.map es clk)) (h2 : entR enc es.toList m) (hs : Stamped es.toList clk) (hinj : ∀ a c, enc a = enc c → a = c) (hnd : (m.map (·.1)).Nodup) (ty : TypeId) :
    ((∀ x ∈ m, x.1 ∈ done) ∧ (Instr.next (.pointer (some ⟨r, 0, none⟩)) false ty).run P w = .ok (.tuple #[.bool false]) w) ∨
    ∃ k v w', (k, v) ∈ m ∧ k ∉ done ∧ (Instr.next (.pointer (some ⟨r, 0, none⟩)) false ty).run P w = .ok (.tuple #[.bool true, enc k, v]) w' ∧ (Instr.entry (.pointer (some ⟨r, 0, none⟩))).run P w' = .ok (.tuple #[enc k, v]) w' ∧ Own w0 D w' (L.set i (itrR enc b r clk es (k :: done))) := by
  obtain ⟨F, ⟨hF, seen, hit, hsn⟩, _, h3⟩ := h.step hi
  have hne : b ≠ r := fun e => by rw [e, hit] at h1; cases h1
  rcases run_next_at (P := P) w ty r b clk clk seen es clk hit h1 hs.2 (Nat.le_refl _) with ⟨h0, hrun⟩ | ⟨e, he, w1, hw1, hrun⟩
  · refine .inl ⟨fun x hx => ?_, hrun⟩
    obtain ⟨e, he, hk, _⟩ := entR_mem' h2 hx
    have : seen.contains e.born = true := by
      refine Decidable.byContradiction fun hn => ?_
      have hm : e ∈ leftOf es seen := by
        unfold leftOf
        rw [Array.mem_filter]
        exact ⟨by simpa using he, by simpa using hn⟩
      have := Array.size_pos_of_mem hm
      omega
    obtain ⟨k, hk1, hk2⟩ := (hsn e he).1 this
    rw [hk] at hk2
    rw [hinj _ _ hk2]; exact hk1
  · have hm : e ∈ es.toList ∧ seen.contains e.born = false := by
      unfold leftOf at he
      simp only [Array.toList_filter, List.mem_filter] at he
      exact ⟨he.1, by simpa using he.2⟩
    obtain ⟨⟨k, v⟩, hx, hk, hv⟩ := entR_mem h2 hm.1
    simp only at hk hv
    have hkd : k ∉ done := fun hk1 => by
      have := (hsn e hm.1).2 ⟨k, hk1, hk⟩
      rw [hm.2] at this; cases this
    have hb1 : w1.heap = w.heap ∧ Upd F w w1 := by rcases hw1 with rfl | rfl <;> exact ⟨rfl, ⟨rfl, rfl, rfl, Nat.le_refl _, fun _ _ _ => rfl⟩⟩
    have hu : Upd F w (setBlock w1 r (.mapIter (some b) clk (seen.push e.born) clk)) := hb1.2.trans ((setBlock_upd _ _ _).mono fun x _ hx => (hF x).2 hx)
    have hrl := (Array.getElem?_eq_some_iff.1 hit).1
    have g1 : (setBlock w1 r (.mapIter (some b) clk (seen.push e.born) clk)).heap[b]? = some (.map es clk) := by
      rw [(setBlock_upd w1 r _).block b (by rw [hb1.1]; exact (Array.getElem?_eq_some_iff.1 h1).1) hne, hb1.1]; exact h1
    have g2 : (setBlock w1 r (.mapIter (some b) clk (seen.push e.born) clk)).heap[r]? = some (.mapIter (some b) clk (seen.push e.born) clk) := get_set _ (by rw [hb1.1]; exact hrl)
    refine .inr ⟨k, v, _, hx, hkd, ?_, ?_, h3 (R' := itrR enc b r clk es (k :: done)) (F' := F) ⟨hF, seen.push e.born, g2, fun e' he' => ?_⟩ (fun _ h => .inl h) hu⟩
    · rw [hrun, hk, hv]
    · rw [run_entry_at (P := P) _ r b clk seen es clk e g2 g1 hm.1 hs.1, hk, hv]
    · simp only [Array.contains_push, Bool.or_eq_true, beq_iff_eq, List.mem_cons, exists_eq_or_imp]
      constructor
      · rintro (hc | hc)
        · exact .inr ((hsn e' he').1 hc)
        · have : e' = e := by
            have hp := hs.1
            exact nodup_map_inj hp he' hm.1 (by omega)
          exact .inl (by rw [this]; exact hk)
      · rintro (hc | hc)
        · refine .inr ?_
          have : e' = e := by
            obtain ⟨j1, g1, e1⟩ := List.getElem_of_mem he'
            obtain ⟨j2, g2, e2⟩ := List.getElem_of_mem hm.1
            have hl : es.toList.length = m.length := by have := congrArg List.length h2; simpa using this
            have f1 : enc (m[j1]'(by omega)).1 = e'.key := by
              have := congrArg (fun l => l[j1]?) h2
              simp only [List.getElem?_map, List.getElem?_eq_getElem g1, List.getElem?_eq_getElem (show j1 < m.length by omega), Option.map_some, Option.some.injEq, Prod.mk.injEq] at this
              rw [← this.1, e1]
            have f2 : enc (m[j2]'(by omega)).1 = e.key := by
              have := congrArg (fun l => l[j2]?) h2
              simp only [List.getElem?_map, List.getElem?_eq_getElem g2, List.getElem?_eq_getElem (show j2 < m.length by omega), Option.map_some, Option.some.injEq, Prod.mk.injEq] at this
              rw [← this.1, e2]
            have f3 : (m[j1]'(by omega)).1 = (m[j2]'(by omega)).1 := hinj _ _ (by rw [f1, f2, hc, hk])
            have : j1 = j2 := by
              have hp := List.pairwise_iff_getElem.1 hnd
              have q1 : j1 < (m.map (·.1)).length := by simp; omega
              have q2 : j2 < (m.map (·.1)).length := by simp; omega
              rcases Nat.lt_trichotomy j1 j2 with h | h | h
              · exact absurd (by simpa using f3) (hp j1 j2 q1 q2 h)
              · exact h
              · exact absurd (by simpa using f3.symm) (hp j2 j1 q2 q1 h)
            subst this
            rw [← e1, ← e2]
          rw [this]
        · exact .inl ((hsn e' he').2 hc)
/-- How many entries the range has not handed out: a measure. -/
def leftN (w : World) (b r : Nat) : Nat := match w.heap[b]?, w.heap[r]? with
  | some (.map es _), some (.mapIter _ _ seen _) => (leftOf es seen).size
  | _, _ => 0
theorem entR_count {p : MapEntry → Bool} {q : α × Value → Bool} : ∀ {es : List MapEntry} {m : List (α × Value)}, entR enc es m → (∀ e ∈ es, ∀ x ∈ m, e.key = enc x.1 → p e = q x) → (es.filter p).length = (m.filter q).length
  | es, [], h, _ => by rw [entR_nil h]; rfl
  | es, x :: m, h, hp => by
    obtain ⟨e, es', rfl, h1, h2, h3⟩ := entR_cons h
    have ih := entR_count (p := p) (q := q) h3 (fun e' he' x' hx' => hp e' (List.mem_cons_of_mem _ he') x' (List.mem_cons_of_mem _ hx'))
    have h0 := hp e (List.mem_cons_self) x (List.mem_cons_self) h1
    simp only [List.filter_cons, h0]
    split <;> simp [ih]
theorem leftN_eq (h : Own w0 D w L) (i : Nat) {b r : Nat} {m : List (α × Value)} {done : List α} (hi : L[i]? = some (rngR enc b r m done)) (hinj : ∀ a c, enc a = enc c → a = c) : leftN w b r = (m.filter fun x => decide (x.1 ∉ done)).length := by
  obtain ⟨F, ⟨hF, hne, es, clk, seen, h1, hit, h2, hs, hsn⟩, _, _⟩ := h.step hi
  unfold leftN
  rw [h1, hit]
  simp only
  rw [leftOf, ← Array.length_toList, Array.toList_filter]
  refine entR_count h2 fun e he x hx hk => ?_
  rw [Bool.eq_iff_iff]
  simp only [Bool.not_eq_true', decide_eq_true_eq]
  rw [← Bool.not_eq_true, not_congr (hsn e he)]
  constructor
  · intro hn hd; exact hn ⟨x.1, hd, hk⟩
  · rintro hn ⟨k, hk1, hk2⟩; exact hn (by rw [hinj x.1 k (hk.symm.trans hk2)]; exact hk1)
theorem leftN_it (h : Own w0 D w L) (i : Nat) {b r clk : Nat} {es : Array MapEntry} {m : List (α × Value)} {done : List α} (hi : L[i]? = some (itrR enc b r clk es done)) (h1 : w.heap[b]? = some (.map es clk)) (h2 : entR enc es.toList m) (hinj : ∀ a c, enc a = enc c → a = c) : leftN w b r = (m.filter fun x => decide (x.1 ∉ done)).length := by
  obtain ⟨F, ⟨hF, seen, hit, hsn⟩, _, _⟩ := h.step hi
  unfold leftN
  rw [h1, hit]
  simp only
  rw [leftOf, ← Array.length_toList, Array.toList_filter]
  refine entR_count h2 fun e he x hx hk => ?_
  rw [Bool.eq_iff_iff]
  simp only [Bool.not_eq_true', decide_eq_true_eq]
  rw [← Bool.not_eq_true, not_congr (hsn e he)]
  constructor
  · intro hn hd; exact hn ⟨x.1, hd, hk⟩
  · rintro hn ⟨k, hk1, hk2⟩; exact hn (by rw [hinj x.1 k (hk.symm.trans hk2)]; exact hk1)
theorem run_next_nil (P : Program) {r : Nat} (hr : w.heap[r]? = some (.mapIter none 0 #[] 0)) (ty : TypeId) : (Instr.next (.pointer (some ⟨r, 0, none⟩)) false ty).run P w = .ok (.tuple #[.bool false]) w := by
  simp only [Instr.next, getObj, Sem.run_bind, Sem.run, hr, Result.andThen]
  rfl
end

end Go.Proofs.YtbolfkojebbejaaGreatDoor

namespace Go.Proofs.YtbolfkojebbejaaGreatDoor
open Go.RowKit Go.Sort
set_option linter.unusedVariables false
set_option maxRecDepth 100000

def validB (a : Int) : Bool := decide (0 ≤ a ∧ a ≤ 4294967295)
def vpB (a b : Int) : Bool := decide (validB a = true ∧ 0 ≤ b ∧ b ≤ 32 ∧ a % (2:Int) ^ (32 - b).toNat = 0)
def conB (a b x : Int) : Bool := vpB a b && (validB x && decide (x / (2:Int) ^ (32 - b).toNat = a / (2:Int) ^ (32 - b).toNat))

set_option maxHeartbeats 400000 in
theorem valid_any (a : Int) (w : World) :
    Calls Tryz.prog 127 #[.int .i64 a] w fun e w' => e = .returned (.bool (validB a)) ∧ Below w.heap.size w w' := by
  go_enter Tryz.func127, Tryz.ntmps127
  go_wp2
  all_goals go_ret
  all_goals exact ⟨by simp [validB]; omega, Below.refl _ _⟩

theorem host1_any (q o : Nat) (b : Int) (w : World) (hb : 0 ≤ b) (hb' : b ≤ 32) (hc : w.cell? ⟨q, o + 1, none⟩ = some (.int .i64 b)) :
    Calls Tryz.prog 206 #[.pointer (some ⟨q, o, none⟩)] w fun e w' => e = .returned (.int .i64 ((2:Int) ^ (32 - b).toNat - 1)) ∧ Below w.heap.size w w' := by
  go_enter Tryz.func206, Tryz.ntmps206
  go_wp2
  go_ret
  refine ⟨?_, Below.refl _ _⟩
  have := pow_bd b hb hb'
  show Ending.returned (.int .i64 (wrap64 (wrap64 (2 ^ (32 - b).toNat) - 1))) = _
  rw [wrap_in (2 ^ (32 - b).toNat) (by omega) (by omega), wrap_in _ (by omega) (by omega)]

theorem host_any (a b : Int) (w : World) :
    Calls Tryz.prog 182 #[.agg #[.int .i64 a, .int .i64 b]] w fun e w' => e = .returned (.func (.func 206) #[] #[.pointer (some ⟨w.heap.size, 0, none⟩)]) ∧ w.alloc (.cells #[.int .i64 a, .int .i64 b] 113) = w' := by
  go_enter Tryz.func182, Tryz.ntmps182
  go_wp2
  go_ret
  exact ⟨rfl, rfl⟩

theorem vp_bits (a b : Int) (ha : validB a = true) (h0 : 0 ≤ b) (h1 : b ≤ 32) : (bits .and .i64 a ((2:Int) ^ (32 - b).toNat - 1) == 0) = vpB a b := by
  simp only [validB, decide_eq_true_eq] at ha
  rw [and_mask _ _ ha.1 ha.2 (by omega)]
  simp [vpB, validB, ha, h0, h1]
  rw [Bool.eq_iff_iff]; simp

set_option maxHeartbeats 1000000 in
theorem validPrefix_any (a b : Int) (w : World) :
    Calls Tryz.prog 146 #[.agg #[.int .i64 a, .int .i64 b]] w fun e w' => e = .returned (.bool (vpB a b)) ∧ Below w.heap.size w w' := by
  by_cases hv : validB a = true
  case neg =>
    have hv' : validB a = false := by simpa using hv
    have hr : vpB a b = false := by simp [vpB, hv']
    have HR := Lib.hid hr
    clear hr hv
    go_enter Tryz.func146, Tryz.ntmps146
    go_wp2_with (first | (go_at_call 127; refine (valid_any _ _).mono ?_; rintro e w' ⟨rfl, hb⟩))
    go_ret
    exact ⟨by rw [HR.out]; rfl, (((Below.refl _ _).alloc (Nat.le_refl _) _)).trans (hb.mono (by simp))⟩
  case pos =>
    by_cases h0 : 0 ≤ b
    · by_cases h1 : b ≤ 32
      · have HR := Lib.hid (vp_bits a b hv h0 h1)
        go_enter Tryz.func146, Tryz.ntmps146
        go_wp2_with (first | (go_at_call 127; refine (valid_any _ _).mono ?_; rintro e w1 ⟨rfl, hb⟩; have c0 := keep hb (a := ⟨w.heap.size, 0, none⟩) (v := .int .i64 a) (by simp); have c1 := keep hb (a := ⟨w.heap.size, 1, none⟩) (v := .int .i64 b) (by simp); have hB := below_mid ((Below.refl _ _).alloc (Nat.le_refl _) _) hb; clear hb) | (go_at_call 182; refine (host_any _ _ _).mono ?_; rintro e w' ⟨rfl, rfl⟩))
        have k0 := cell_regrown (keep ((Below.refl _ _).alloc (Nat.le_refl _) (.cells #[.int .i64 a, .int .i64 b] 113)) c0)
        have k1 := cell_regrown (w := w1.alloc (.cells #[.int .i64 a, .int .i64 b] 113)) (a := ⟨w1.heap.size, 0 + 1, none⟩) (v := .int .i64 b) (by simp)
        refine wp_region_B (by kernel_rfl) (by kernel_rfl) ?_
        repeat (go_big_quiet_step ((go_at_call 206; exact Calls.regrown_of (host1_any _ _ b _ (by omega) (by omega) (k1 _ _)))))
        refine wpQuiet_nil ?_
        intro w2 hb2
        have hB2 := below_mid (hB.alloc hB.size _) hb2
        clear k0 k1
        go_wp2
        go_ret
        exact ⟨by rw [← HR.out]; rfl, hB2⟩
      · have hr : vpB a b = false := by simp [vpB, h1]
        have HR := Lib.hid hr
        clear hr
        go_enter Tryz.func146, Tryz.ntmps146
        go_wp2_with (first | (go_at_call 127; refine (valid_any _ _).mono ?_; rintro e w1 ⟨rfl, hb⟩; have c0 := keep hb (a := ⟨w.heap.size, 0, none⟩) (v := .int .i64 a) (by simp); have c1 := keep hb (a := ⟨w.heap.size, 1, none⟩) (v := .int .i64 b) (by simp); have hB := below_mid ((Below.refl _ _).alloc (Nat.le_refl _) _) hb; clear hb))
        go_ret
        exact ⟨by rw [HR.out]; rfl, hB⟩
    · have hr : vpB a b = false := by simp [vpB, h0]
      have HR := Lib.hid hr
      clear hr
      go_enter Tryz.func146, Tryz.ntmps146
      go_wp2_with (first | (go_at_call 127; refine (valid_any _ _).mono ?_; rintro e w1 ⟨rfl, hb⟩; have c0 := keep hb (a := ⟨w.heap.size, 0, none⟩) (v := .int .i64 a) (by simp); have c1 := keep hb (a := ⟨w.heap.size, 1, none⟩) (v := .int .i64 b) (by simp); have hB := below_mid ((Below.refl _ _).alloc (Nat.le_refl _) _) hb; clear hb))
      go_ret
      exact ⟨by rw [HR.out]; rfl, hB⟩

theorem vpB_parts {a b : Int} (h : vpB a b = true) : 0 ≤ a ∧ a ≤ 4294967295 ∧ 0 ≤ b ∧ b ≤ 32 ∧ a % (2:Int) ^ (32 - b).toNat = 0 := by
  simp [vpB, validB] at h; omega

theorem con_bits (a b x : Int) (hv : vpB a b = true) (hx : validB x = true) : (bits .andNot .i64 x ((2:Int) ^ (32 - b).toNat - 1) == a) = conB a b x := by
  obtain ⟨h1, h2, h3, h4, h5⟩ := vpB_parts hv
  have hx' := hx
  simp only [validB, decide_eq_true_eq] at hx'
  rw [andNot_mask _ _ hx'.1 hx'.2 (by omega)]
  simp only [conB, hv, hx, Bool.true_and]
  have hp := pow_bd b h3 h4
  generalize (2:Int) ^ (32 - b).toNat = m at *
  have e1 := Int.mul_ediv_add_emod x m
  have e2 := Int.mul_ediv_add_emod a m
  rw [Bool.eq_iff_iff]
  simp only [beq_iff_eq, decide_eq_true_eq]
  constructor
  · intro h
    have : m * (x / m) = m * (a / m) := by omega
    exact Int.eq_of_mul_eq_mul_left (by omega) this
  · intro h
    rw [h] at e1; omega

set_option maxHeartbeats 1000000 in
theorem contains_any (a b x : Int) (w : World) :
    Calls Tryz.prog 180 #[.agg #[.int .i64 a, .int .i64 b], .int .i64 x] w fun e w' => e = .returned (.bool (conB a b x)) ∧ Below w.heap.size w w' := by
  cases hv : vpB a b
  case false =>
    have hr : conB a b x = false := by simp [conB, hv]
    have HR := Lib.hid hr
    clear hr
    go_enter Tryz.func180, Tryz.ntmps180
    go_wp2_with (first | (go_at_call 146; refine (validPrefix_any _ _ _).mono ?_; rintro e w1 ⟨rfl, hb⟩; have hB := below_mid ((Below.refl _ _).alloc (Nat.le_refl _) _) hb; clear hb))
    go_ret
    exact ⟨by rw [HR.out]; rfl, hB⟩
  case true =>
    cases hx : validB x
    case false =>
      have hr : conB a b x = false := by simp [conB, hx]
      have HR := Lib.hid hr
      clear hr
      go_enter Tryz.func180, Tryz.ntmps180
      go_wp2_with (first | (go_at_call 146; refine (validPrefix_any _ _ _).mono ?_; rintro e w1 ⟨rfl, hb⟩; have hB := below_mid ((Below.refl _ _).alloc (Nat.le_refl _) _) hb; clear hb) | (go_at_call 127; refine (valid_any _ _).mono ?_; rintro e w2 ⟨rfl, hb⟩; have hB2 := below_mid hB hb; clear hb))
      go_ret
      exact ⟨by rw [HR.out]; rfl, hB2⟩
    case true =>
      have HR := Lib.hid (con_bits a b x hv hx)
      have HV := Lib.hid (vpB_parts hv)
      go_enter Tryz.func180, Tryz.ntmps180
      go_wp2_with (first | (go_at_call 146; refine (validPrefix_any _ _ _).mono ?_; rintro e w1 ⟨rfl, hb⟩; have c0 := keep hb (a := ⟨w.heap.size, 0, none⟩) (v := .int .i64 a) (by simp); have c1 := keep hb (a := ⟨w.heap.size, 1, none⟩) (v := .int .i64 b) (by simp); have hB := below_mid ((Below.refl _ _).alloc (Nat.le_refl _) _) hb; clear hb) | (go_at_call 127; refine (valid_any _ _).mono ?_; rintro e w2 ⟨rfl, hb⟩; replace c0 := keep hb c0; replace c1 := keep hb c1; replace hB := below_mid hB hb; clear hb) | (go_at_call 182; refine (host_any _ _ _).mono ?_; rintro e w' ⟨rfl, rfl⟩))
      have k0 := cell_regrown (keep ((Below.refl _ _).alloc (Nat.le_refl _) (.cells #[.int .i64 a, .int .i64 b] 113)) c0)
      have k1 := cell_regrown (w := w2.alloc (.cells #[.int .i64 a, .int .i64 b] 113)) (a := ⟨w2.heap.size, 0 + 1, none⟩) (v := .int .i64 b) (by simp)
      refine wp_region_B (by kernel_rfl) (by kernel_rfl) ?_
      repeat (go_big_quiet_step ((go_at_call 206; exact Calls.regrown_of (host1_any _ _ b _ (by have := HV.out; omega) (by have := HV.out; omega) (k1 _ _)))))
      refine wpQuiet_nil ?_
      intro w3 hb3
      have hB3 := below_mid (hB.alloc hB.size _) hb3
      clear k0 k1
      go_wp2
      go_ret
      exact ⟨by rw [← HR.out]; rfl, hB3⟩

end Go.Proofs.YtbolfkojebbejaaGreatDoor

namespace Go.Proofs.YtbolfkojebbejaaGreatDoor
open Go.RowKit Go.Sort
set_option linter.unusedVariables false
set_option maxRecDepth 100000

structure FK where
  pr : Int
  he : Int
  hp : Int
  th : Int
  tp : Int
deriving DecidableEq
structure Us where
  la : Int
  nu : Int
structure Rl where
  inn : Bool
  pr : Int
  na : Int
  nb : Int
  lo : Int
  hi : Int
  ps : Bool
structure Fl where
  pr : Int
  he : Int
  hp : Int
  th : Int
  tp : Int
  sy : Bool
  fi : Bool
  rs : Bool
  sq : Int
abbrev encK (k : FK) : Value := .agg #[.int .i64 k.pr, .int .i64 k.he, .int .i64 k.hp, .int .i64 k.th, .int .i64 k.tp]
abbrev valU (u : Us) : Value := .agg #[.int .i64 u.la, .int .i64 u.nu]
abbrev rlA (r : Rl) : Array Value := #[.bool r.inn, .int .i64 r.pr, .int .i64 r.na, .int .i64 r.nb, .int .i64 r.lo, .int .i64 r.hi, .bool r.ps]
abbrev rlV (r : Rl) : Value := .agg (rlA r)
def cRl (r : Rl) : List Value := (rlA r).toList
abbrev flA (x : Fl) : Array Value := #[.int .i64 x.pr, .int .i64 x.he, .int .i64 x.hp, .int .i64 x.th, .int .i64 x.tp, .bool x.sy, .bool x.fi, .bool x.rs, .int .i64 x.sq]
abbrev flV (x : Fl) : Value := .agg (flA x)
def keyF (x : Fl) : FK := ⟨x.pr, x.he, x.hp, x.th, x.tp⟩
theorem encK_inj (a b : FK) (h : encK a = encK b) : a = b := by cases a; cases b; simp at h; simp [h]

theorem stK : Tryz.prog.stoodInHeld 192 = false := by kernel_rfl
theorem run_eqK (a b : FK) (w : World) : (Op.equalIn 10000 192 (encK a) (encK b)).run Tryz.prog w = .ok (decide (a = b)) w := by
  have hu : Tryz.prog.underlying 192 = some (.struct (Tryz.prog.fieldsOf 192)) := by kernel_rfl
  rw [run_equalIn_agg w 9999 192 _ _ hu stK]
  obtain ⟨a0, a1, a2, a3, a4⟩ := a
  obtain ⟨b0, b1, b2, b3, b4⟩ := b
  have hf : ∃ f1 f2 f3 f4 f5 : Field, (Tryz.prog.fieldsOf 192).toList = [f1, f2, f3, f4, f5] ∧ (f1.name ≠ "_" ∧ f2.name ≠ "_" ∧ f3.name ≠ "_" ∧ f4.name ≠ "_" ∧ f5.name ≠ "_") ∧ (f1.type = 3 ∧ f2.type = 3 ∧ f3.type = 3 ∧ f4.type = 3 ∧ f5.type = 3) ∧ f1.offset = 0 ∧ f2.offset = 1 ∧ f3.offset = 2 ∧ f4.offset = 3 ∧ f5.offset = 4 := ⟨_, _, _, _, _, rfl, ⟨by decide, by decide, by decide, by decide, by decide⟩, ⟨rfl, rfl, rfl, rfl, rfl⟩, rfl, rfl, rfl, rfl, rfl⟩
  obtain ⟨f1, f2, f3, f4, f5, e', ⟨n1, n2, n3, n4, n5⟩, ⟨t1, t2, t3, t4, t5⟩, o1, o2, o3, o4, o5⟩ := hf
  rw [e']
  have p1 : ∀ x y z u v : Int, (part 3 #[.int .i64 x, .int .i64 y, .int .i64 z, .int .i64 u, .int .i64 v] 0).run Tryz.prog w = .ok (.int .i64 x) w := fun x y z u v => by kernel_rfl
  have p2 : ∀ x y z u v : Int, (part 3 #[.int .i64 x, .int .i64 y, .int .i64 z, .int .i64 u, .int .i64 v] 1).run Tryz.prog w = .ok (.int .i64 y) w := fun x y z u v => by kernel_rfl
  have p3 : ∀ x y z u v : Int, (part 3 #[.int .i64 x, .int .i64 y, .int .i64 z, .int .i64 u, .int .i64 v] 2).run Tryz.prog w = .ok (.int .i64 z) w := fun x y z u v => by kernel_rfl
  have p4 : ∀ x y z u v : Int, (part 3 #[.int .i64 x, .int .i64 y, .int .i64 z, .int .i64 u, .int .i64 v] 3).run Tryz.prog w = .ok (.int .i64 u) w := fun x y z u v => by kernel_rfl
  have p5 : ∀ x y z u v : Int, (part 3 #[.int .i64 x, .int .i64 y, .int .i64 z, .int .i64 u, .int .i64 v] 4).run Tryz.prog w = .ok (.int .i64 v) w := fun x y z u v => by kernel_rfl
  have hd : decide ((⟨a0, a1, a2, a3, a4⟩ : FK) = ⟨b0, b1, b2, b3, b4⟩) = (a0 == b0 && (a1 == b1 && (a2 == b2 && (a3 == b3 && a4 == b4)))) := by
    rw [Bool.eq_iff_iff]; simp
  rw [hd]
  cases h1 : (a0 == b0) <;> cases h2 : (a1 == b1) <;> cases h3 : (a2 == b2) <;> cases h4 : (a3 == b3) <;> cases h5 : (a4 == b4) <;>
    simp [Op.eqFields, n1, n2, n3, n4, n5, t1, t2, t3, t4, t5, o1, o2, o3, o4, o5, p1, p2, p3, p4, p5, run_equalIn_int w _ 3 .i64 .i64 _ _ Tryz.underlying3, h1, h2, h3, h4, h5]
theorem keyK : KeyRun Tryz.prog 192 encK where
  check := fun e k w => by kernel_rfl
  find := ⟨.struct (Tryz.prog.fieldsOf 192), by kernel_rfl, .inr ⟨fun a b => rfl, fun a b w => by
    show (Op.equalIn 10000 192 _ _).run Tryz.prog w = _
    rw [run_eqK]⟩⟩
  bits := fun a => by
    have : ∀ x y z u v : Int, Instr.sameBits 10000 (.agg #[.int .i64 x, .int .i64 y, .int .i64 z, .int .i64 u, .int .i64 v]) (.agg #[.int .i64 x, .int .i64 y, .int .i64 z, .int .i64 u, .int .i64 v]) = ((x == x) && ((y == y) && ((z == z) && ((u == u) && (v == v))))) := fun x y z u v => by
      simp [Instr.sameBits]
    rw [this]; simp
theorem zeroU (w : World) : (zeroValue 189).run Tryz.prog w = .ok (.agg #[.int .i64 0, .int .i64 0]) w := by kernel_rfl
theorem run_eqlK (a b : FK) (w : World) : (binOp .eql 192 (encK a) (encK b)).run Tryz.prog w = .ok (.bool (decide (a = b))) w := by
  rw [run_eql_struct, run_eqK]; rfl

/-- The flows as the map's entries. -/
def mapU (m : List (FK × Us)) : List (FK × Value) := m.map fun x => (x.1, valU x.2)
structure FSt where
  rl : List Rl
  m : List (FK × Us)
  ins : Int
/-- A map, or none. -/
def mapO (o : Value) (m : List (FK × Us)) : Res where
  P w F := (o = .map none ∧ m = [] ∧ ∀ x, ¬ F x) ∨ ∃ b, o = .map (some b) ∧ (mapR encK b (mapU m)).P w F
  bound h x hx := by
    rcases h with ⟨_, _, hn⟩ | ⟨b, _, h⟩
    · exact (hn x hx).elim
    · exact (mapR encK b (mapU m)).bound h x hx
  move h hu hF := by
    rcases h with h | ⟨b, e, h⟩
    · exact .inl h
    · exact .inr ⟨b, e, (mapR encK b (mapU m)).move h hu hF⟩
abbrev blkF (f : Nat) (vr om : Value) (ins : Int) : Res := blkR f (.cells #[vr, om, .int .i64 ins] 121)
abbrev rowRl (v : Value) (l : List Rl) : Res := rowR v 115 7 l.length (l.flatMap cRl)
/-- A filter at f that holds st. -/
def resF (f : Nat) (st : FSt) : Res := exR fun vs : Value × Value => sepR [blkF f vs.1 vs.2 st.ins, rowRl vs.1 st.rl, mapO vs.2 st.m]
section
variable {w0 w : World} {D : Nat → Prop} {L : List Res} {f : Nat} {st : FSt}
theorem openF (h : Own w0 D w [resF f st]) : ∃ vr om, Own w0 D w [blkF f vr om st.ins, rowRl vr st.rl, mapO om st.m] := by
  obtain ⟨⟨vr, om⟩, h⟩ := h.openEx
  exact ⟨vr, om, h.open⟩
theorem shutF {vr om : Value} (h : Own w0 D w [blkF f vr om st.ins, rowRl vr st.rl, mapO om st.m]) : Own w0 D w [resF f st] := Own.shutEx (f := fun vs : Value × Value => sepR [blkF f vs.1 vs.2 st.ins, rowRl vs.1 st.rl, mapO vs.2 st.m]) (vr, om) h.shut
theorem mapO_open (h : Own w0 D w L) (i : Nat) {o : Value} {m : List (FK × Us)} (hi : L[i]? = some (mapO o m)) : (o = .map none ∧ m = []) ∨ ∃ b, o = .map (some b) ∧ Own w0 D w (L.set i (mapR encK b (mapU m))) := by
  obtain ⟨F, h1, _, h3⟩ := h.step hi
  rcases h1 with ⟨e, hm, _⟩ | ⟨b, e, hb⟩
  · exact .inl ⟨e, hm⟩
  · exact .inr ⟨b, e, h3 (R' := mapR encK b (mapU m)) hb (fun _ h => .inl h) (Upd.refl _ _)⟩
theorem mapO_shut (h : Own w0 D w L) (i : Nat) {b : Nat} {m : List (FK × Us)} (hi : L[i]? = some (mapR encK b (mapU m))) : Own w0 D w (L.set i (mapO (.map (some b)) m)) := by
  obtain ⟨F, h1, _, h3⟩ := h.step hi
  exact h3 (R' := mapO (.map (some b)) m) (F' := F) (.inr ⟨b, rfl, h1⟩) (fun _ h => .inl h) (Upd.refl _ _)
theorem mapO_none (h : Own w0 D w L) : Own w0 D w (L ++ [mapO (.map none) []]) :=
  h.push (R := mapO (.map none) []) (F := fun _ => False) (.inl ⟨rfl, rfl, fun _ h => h⟩) (fun _ h => h.elim) (Below.refl _ _)
end

/-- What the functions compute. -/
def portB (n : Int) : Bool := decide (0 ≤ n ∧ n ≤ 65535)
def hostB (n : Int) : Bool := !(n == 0) && validB n
def validF (x : Fl) : Bool := decide (0 ≤ x.pr ∧ x.pr ≤ 255) && hostB x.he && hostB x.th && portB x.hp && portB x.tp
def invalR (r : Rl) : Bool := !(decide (0 ≤ r.pr ∧ r.pr ≤ 255) && vpB r.na r.nb && decide (0 ≤ r.lo ∧ r.lo ≤ r.hi ∧ r.hi ≤ 65535))
def matchR (x : Fl) (inn : Bool) (r : Rl) : Bool := (r.inn == inn) && (r.pr == 0 || r.pr == x.pr) && conB r.na r.nb x.th && decide (r.lo ≤ (if inn then x.hp else x.tp)) && decide ((if inn then x.hp else x.tp) ≤ r.hi)
def admitF (rl : List Rl) (x : Fl) (inn : Bool) : Bool := match rl.find? (matchR x inn) with
  | some r => r.ps
  | none => !inn
def oldU (now : Int) (u : Us) : Bool := decide (u.la < now) && decide (400 < now - u.la)
def expF (now : Int) (m : List (FK × Us)) : List (FK × Us) := m.filter fun x => !oldU now x.2
def getU (k : FK) : List (FK × Us) → Option Us
  | [] => none
  | x :: l => if k = x.1 then some x.2 else getU k l
def setU (k : FK) (u : Us) : List (FK × Us) → List (FK × Us)
  | [] => [(k, u)]
  | x :: l => if k = x.1 then (k, u) :: l else x :: setU k u l
def delU (k : FK) (m : List (FK × Us)) : List (FK × Us) := m.filter fun x => x.1 ≠ k
theorem mapU_set (k : FK) (u : Us) : ∀ m, mset k (valU u) (mapU m) = mapU (setU k u m)
  | [] => rfl
  | x :: m => by
    simp only [mapU, List.map_cons, mset, setU]
    split
    · rfl
    · have := mapU_set k u m
      simp only [mapU] at this
      rw [this]; rfl
theorem mapU_get (k : FK) : ∀ m, asc k (mapU m) = (getU k m).map valU
  | [] => rfl
  | x :: m => by
    simp only [mapU, List.map_cons, asc, getU]
    split
    · rfl
    · exact mapU_get k m
def keysU (m : List (FK × Us)) : List FK := m.map (·.1)
theorem mapU_keys (m : List (FK × Us)) : (mapU m).map (·.1) = keysU m := by simp [mapU, keysU]
theorem mapU_del {k : FK} : ∀ {m : List (FK × Us)}, (keysU m).Nodup → mdel k (mapU m) = mapU (delU k m)
  | [], _ => rfl
  | x :: m, h => by
    simp only [keysU, List.map_cons, List.nodup_cons] at h
    simp only [mapU, List.map_cons, mdel, delU]
    by_cases hk : k = x.1
    · rw [if_pos hk, List.filter_cons_of_neg (by simp [hk])]
      congr 1
      rw [List.filter_eq_self.2]
      intro y hy
      have : y.1 ≠ k := fun e => h.1 (by rw [← hk, ← e]; exact List.mem_map_of_mem hy)
      simp [this]
    · rw [if_neg hk, List.filter_cons_of_pos (by simp [Ne.symm hk])]
      simp only [List.map_cons]
      have := mapU_del (k := k) h.2
      simp only [mapU, delU] at this
      rw [this]
theorem keysU_filter {m : List (FK × Us)} (p : FK × Us → Bool) (h : (keysU m).Nodup) : (keysU (m.filter p)).Nodup := (List.filter_sublist.map _).nodup h

end Go.Proofs.YtbolfkojebbejaaGreatDoor

namespace Go.Proofs.YtbolfkojebbejaaGreatDoor
open Go.RowKit Go.Sort
set_option linter.unusedVariables false
set_option maxRecDepth 100000

theorem valid_r {n : Int} {b : Bool} (h : validB n = b) (w : World) : Calls Tryz.prog 127 #[.int .i64 n] w fun e w' => e = .returned (.bool b) ∧ Below w.heap.size w w' := h ▸ valid_any n w
theorem port_any (n : Int) (w : World) : Calls Tryz.prog 143 #[.int .i64 n] w fun e w' => e = .returned (.bool (portB n)) ∧ w = w' := by
  by_cases h0 : 0 ≤ n
  · by_cases h1 : n ≤ 65535
    · have HP := Lib.hid (show portB n = true by simp [portB, h0, h1])
      go_enter Tryz.func143, Tryz.ntmps143
      go_wp2
      go_ret
      exact ⟨by rw [HP.out]; rfl, rfl⟩
    · have HP := Lib.hid (show portB n = false by simp [portB, h1])
      have hd : decide (n ≤ 65535) = false := by simpa using h1
      clear h1
      go_enter Tryz.func143, Tryz.ntmps143
      go_wp2
      go_ret
      exact ⟨by rw [HP.out]; rfl, rfl⟩
  · have HP := Lib.hid (show portB n = false by simp [portB, h0])
    have hd : decide (0 ≤ n) = false := by simpa using h0
    clear h0
    go_enter Tryz.func143, Tryz.ntmps143
    go_wp2
    go_ret
    exact ⟨by rw [HP.out]; rfl, rfl⟩
theorem hostp_any (n : Int) (w : World) : Calls Tryz.prog 144 #[.int .i64 n] w fun e w' => e = .returned (.bool (hostB n)) ∧ Below w.heap.size w w' := by
  cases h0 : (n == 0) with
  | true =>
    have HP := Lib.hid (show hostB n = false by simp [hostB, h0])
    obtain rfl : n = 0 := by simpa using h0
    go_enter Tryz.func144, Tryz.ntmps144
    go_wp2
    go_ret
    exact ⟨by rw [HP.out]; rfl, Below.refl _ _⟩
  | false =>
    have h1 : (n != 0) = true := by simp [bne, h0]
    cases hv : validB n with
    | true =>
      have HP := Lib.hid (show hostB n = true by simp [hostB, h0, hv])
      go_enter Tryz.func144, Tryz.ntmps144
      go_wp2_with fail
      refine (valid_r hv _).mono ?_
      rintro e w1 ⟨rfl, hb⟩
      go_wp2
      go_ret
      exact ⟨by rw [HP.out]; rfl, hb⟩
    | false =>
      have HP := Lib.hid (show hostB n = false by simp [hostB, hv])
      go_enter Tryz.func144, Tryz.ntmps144
      go_wp2_with fail
      refine (valid_r hv _).mono ?_
      rintro e w1 ⟨rfl, hb⟩
      go_wp2
      go_ret
      exact ⟨by rw [HP.out]; rfl, hb⟩
theorem port_r {n : Int} {b : Bool} (h : portB n = b) (w : World) : Calls Tryz.prog 143 #[.int .i64 n] w fun e w' => e = .returned (.bool b) ∧ w = w' := h ▸ port_any n w
theorem hostp_r {n : Int} {b : Bool} (h : hostB n = b) (w : World) : Calls Tryz.prog 144 #[.int .i64 n] w fun e w' => e = .returned (.bool b) ∧ Below w.heap.size w w' := h ▸ hostp_any n w

set_option maxHeartbeats 1000000 in
theorem keyOf_any (x : Fl) (w : World) : Calls Tryz.prog 105 #[flV x] w fun e w' => e = .returned (encK (keyF x)) ∧ Below w.heap.size w w' := by
  obtain ⟨pr, he, hp, th, tp, sy, fi, rs, sq⟩ := x
  have HO := Lib.hid (show Own w none0 w [] from Own.nil w none0)
  obtain ⟨x1, hx1⟩ : ∃ y, w.alloc (.cells #[.int .i64 pr, .int .i64 he, .int .i64 hp, .int .i64 th, .int .i64 tp, .bool sy, .bool fi, .bool rs, .int .i64 sq] 39) = y := ⟨_, rfl⟩
  obtain ⟨bx, hbx⟩ : ∃ y, w.heap.size = y := ⟨_, rfl⟩
  have hO := HO.out.alloc (.cells #[.int .i64 pr, .int .i64 he, .int .i64 hp, .int .i64 th, .int .i64 tp, .bool sy, .bool fi, .bool rs, .int .i64 sq] 39)
  rw [hx1, hbx] at hO
  replace HO := Lib.hid (show Own w none0 x1 [blkR bx (.cells #[.int .i64 pr, .int .i64 he, .int .i64 hp, .int .i64 th, .int .i64 tp, .bool sy, .bool fi, .bool rs, .int .i64 sq] 39)] from hO)
  clear hO
  obtain ⟨x2, hx2⟩ : ∃ y, x1.alloc (.cells #[.int .i64 0, .int .i64 0, .int .i64 0, .int .i64 0, .int .i64 0] 192) = y := ⟨_, rfl⟩
  obtain ⟨bk, hbk⟩ : ∃ y, x1.heap.size = y := ⟨_, rfl⟩
  have hO := HO.out.alloc (.cells #[.int .i64 0, .int .i64 0, .int .i64 0, .int .i64 0, .int .i64 0] 192)
  rw [hx2, hbk] at hO
  replace HO := Lib.hid (show Own w none0 x2 [blkR bx (.cells #[.int .i64 pr, .int .i64 he, .int .i64 hp, .int .i64 th, .int .i64 tp, .bool sy, .bool fi, .bool rs, .int .i64 sq] 39), blkR bk (.cells #[.int .i64 0, .int .i64 0, .int .i64 0, .int .i64 0, .int .i64 0] 192)] from hO)
  clear hO
  have z0_0 : x2.cell? ⟨bx, 0, none⟩ = some (.int .i64 pr) := HO.out.cell 0 rfl 0 rfl
  have z0_1 : x2.cell? ⟨bx, 1, none⟩ = some (.int .i64 he) := HO.out.cell 0 rfl 1 rfl
  have z0_2 : x2.cell? ⟨bx, 2, none⟩ = some (.int .i64 hp) := HO.out.cell 0 rfl 2 rfl
  have z0_3 : x2.cell? ⟨bx, 3, none⟩ = some (.int .i64 th) := HO.out.cell 0 rfl 3 rfl
  have z0_4 : x2.cell? ⟨bx, 4, none⟩ = some (.int .i64 tp) := HO.out.cell 0 rfl 4 rfl
  have z0_5 : x2.cell? ⟨bx, 5, none⟩ = some (.bool sy) := HO.out.cell 0 rfl 5 rfl
  have z0_6 : x2.cell? ⟨bx, 6, none⟩ = some (.bool fi) := HO.out.cell 0 rfl 6 rfl
  have z0_7 : x2.cell? ⟨bx, 7, none⟩ = some (.bool rs) := HO.out.cell 0 rfl 7 rfl
  have z0_8 : x2.cell? ⟨bx, 8, none⟩ = some (.int .i64 sq) := HO.out.cell 0 rfl 8 rfl
  have z1_0 : x2.cell? ⟨bk, 0, none⟩ = some (.int .i64 0) := HO.out.cell 1 rfl 0 rfl
  have z1_1 : x2.cell? ⟨bk, 1, none⟩ = some (.int .i64 0) := HO.out.cell 1 rfl 1 rfl
  have z1_2 : x2.cell? ⟨bk, 2, none⟩ = some (.int .i64 0) := HO.out.cell 1 rfl 2 rfl
  have z1_3 : x2.cell? ⟨bk, 3, none⟩ = some (.int .i64 0) := HO.out.cell 1 rfl 3 rfl
  have z1_4 : x2.cell? ⟨bk, 4, none⟩ = some (.int .i64 0) := HO.out.cell 1 rfl 4 rfl
  have y1_0 : x2.frozen? ⟨bk, 0, none⟩ = false := HO.out.frz 1 rfl 0
  have y1_1 : x2.frozen? ⟨bk, 1, none⟩ = false := HO.out.frz 1 rfl 1
  have y1_2 : x2.frozen? ⟨bk, 2, none⟩ = false := HO.out.frz 1 rfl 2
  have y1_3 : x2.frozen? ⟨bk, 3, none⟩ = false := HO.out.frz 1 rfl 3
  have y1_4 : x2.frozen? ⟨bk, 4, none⟩ = false := HO.out.frz 1 rfl 4
  go_enter Tryz.func105, Tryz.ntmps105
  obtain ⟨x3, hx3⟩ : ∃ y, x2.setCell ⟨bk, 0, none⟩ (.int .i64 pr) = y := ⟨_, rfl⟩
  have hO := HO.out.setCell 1 rfl 0 (.int .i64 pr)
  rw [hx3] at hO
  replace HO := Lib.hid (show Own w none0 x3 [blkR bx (.cells #[.int .i64 pr, .int .i64 he, .int .i64 hp, .int .i64 th, .int .i64 tp, .bool sy, .bool fi, .bool rs, .int .i64 sq] 39), blkR bk (.cells #[.int .i64 pr, .int .i64 0, .int .i64 0, .int .i64 0, .int .i64 0] 192)] from hO)
  clear hO
  have k0_1 : x3.cell? ⟨bk, 1, none⟩ = some (.int .i64 0) := HO.out.cell 1 rfl 1 rfl
  have l0_1 : x3.frozen? ⟨bk, 1, none⟩ = false := HO.out.frz 1 rfl 1
  have k0_2 : x3.cell? ⟨bk, 2, none⟩ = some (.int .i64 0) := HO.out.cell 1 rfl 2 rfl
  have l0_2 : x3.frozen? ⟨bk, 2, none⟩ = false := HO.out.frz 1 rfl 2
  have k0_3 : x3.cell? ⟨bk, 3, none⟩ = some (.int .i64 0) := HO.out.cell 1 rfl 3 rfl
  have l0_3 : x3.frozen? ⟨bk, 3, none⟩ = false := HO.out.frz 1 rfl 3
  have k0_4 : x3.cell? ⟨bk, 4, none⟩ = some (.int .i64 0) := HO.out.cell 1 rfl 4 rfl
  have l0_4 : x3.frozen? ⟨bk, 4, none⟩ = false := HO.out.frz 1 rfl 4
  obtain ⟨x4, hx4⟩ : ∃ y, x3.setCell ⟨bk, 1, none⟩ (.int .i64 he) = y := ⟨_, rfl⟩
  have hO := HO.out.setCell 1 rfl 1 (.int .i64 he)
  rw [hx4] at hO
  replace HO := Lib.hid (show Own w none0 x4 [blkR bx (.cells #[.int .i64 pr, .int .i64 he, .int .i64 hp, .int .i64 th, .int .i64 tp, .bool sy, .bool fi, .bool rs, .int .i64 sq] 39), blkR bk (.cells #[.int .i64 pr, .int .i64 he, .int .i64 0, .int .i64 0, .int .i64 0] 192)] from hO)
  clear hO
  have k1_2 : x4.cell? ⟨bk, 2, none⟩ = some (.int .i64 0) := HO.out.cell 1 rfl 2 rfl
  have l1_2 : x4.frozen? ⟨bk, 2, none⟩ = false := HO.out.frz 1 rfl 2
  have k1_3 : x4.cell? ⟨bk, 3, none⟩ = some (.int .i64 0) := HO.out.cell 1 rfl 3 rfl
  have l1_3 : x4.frozen? ⟨bk, 3, none⟩ = false := HO.out.frz 1 rfl 3
  have k1_4 : x4.cell? ⟨bk, 4, none⟩ = some (.int .i64 0) := HO.out.cell 1 rfl 4 rfl
  have l1_4 : x4.frozen? ⟨bk, 4, none⟩ = false := HO.out.frz 1 rfl 4
  obtain ⟨x5, hx5⟩ : ∃ y, x4.setCell ⟨bk, 2, none⟩ (.int .i64 hp) = y := ⟨_, rfl⟩
  have hO := HO.out.setCell 1 rfl 2 (.int .i64 hp)
  rw [hx5] at hO
  replace HO := Lib.hid (show Own w none0 x5 [blkR bx (.cells #[.int .i64 pr, .int .i64 he, .int .i64 hp, .int .i64 th, .int .i64 tp, .bool sy, .bool fi, .bool rs, .int .i64 sq] 39), blkR bk (.cells #[.int .i64 pr, .int .i64 he, .int .i64 hp, .int .i64 0, .int .i64 0] 192)] from hO)
  clear hO
  have k2_3 : x5.cell? ⟨bk, 3, none⟩ = some (.int .i64 0) := HO.out.cell 1 rfl 3 rfl
  have l2_3 : x5.frozen? ⟨bk, 3, none⟩ = false := HO.out.frz 1 rfl 3
  have k2_4 : x5.cell? ⟨bk, 4, none⟩ = some (.int .i64 0) := HO.out.cell 1 rfl 4 rfl
  have l2_4 : x5.frozen? ⟨bk, 4, none⟩ = false := HO.out.frz 1 rfl 4
  obtain ⟨x6, hx6⟩ : ∃ y, x5.setCell ⟨bk, 3, none⟩ (.int .i64 th) = y := ⟨_, rfl⟩
  have hO := HO.out.setCell 1 rfl 3 (.int .i64 th)
  rw [hx6] at hO
  replace HO := Lib.hid (show Own w none0 x6 [blkR bx (.cells #[.int .i64 pr, .int .i64 he, .int .i64 hp, .int .i64 th, .int .i64 tp, .bool sy, .bool fi, .bool rs, .int .i64 sq] 39), blkR bk (.cells #[.int .i64 pr, .int .i64 he, .int .i64 hp, .int .i64 th, .int .i64 0] 192)] from hO)
  clear hO
  have k3_4 : x6.cell? ⟨bk, 4, none⟩ = some (.int .i64 0) := HO.out.cell 1 rfl 4 rfl
  have l3_4 : x6.frozen? ⟨bk, 4, none⟩ = false := HO.out.frz 1 rfl 4
  obtain ⟨x7, hx7⟩ : ∃ y, x6.setCell ⟨bk, 4, none⟩ (.int .i64 tp) = y := ⟨_, rfl⟩
  have hO := HO.out.setCell 1 rfl 4 (.int .i64 tp)
  rw [hx7] at hO
  replace HO := Lib.hid (show Own w none0 x7 [blkR bx (.cells #[.int .i64 pr, .int .i64 he, .int .i64 hp, .int .i64 th, .int .i64 tp, .bool sy, .bool fi, .bool rs, .int .i64 sq] 39), blkR bk (.cells #[.int .i64 pr, .int .i64 he, .int .i64 hp, .int .i64 th, .int .i64 tp] 192)] from hO)
  clear hO
  go_wp2
  have r0 : x7.cell? ⟨bk, 0, none⟩ = some (.int .i64 pr) := HO.out.cell 1 rfl 0 rfl
  have r1 : x7.cell? ⟨bk, 1, none⟩ = some (.int .i64 he) := HO.out.cell 1 rfl 1 rfl
  have r2 : x7.cell? ⟨bk, 2, none⟩ = some (.int .i64 hp) := HO.out.cell 1 rfl 2 rfl
  have r3 : x7.cell? ⟨bk, 3, none⟩ = some (.int .i64 th) := HO.out.cell 1 rfl 3 rfl
  have r4 : x7.cell? ⟨bk, 4, none⟩ = some (.int .i64 tp) := HO.out.cell 1 rfl 4 rfl
  exact bodyPost_ret (v := encK (keyF ⟨pr, he, hp, th, tp, sy, fi, rs, sq⟩)) (by simp [results, Tryz.results105, go_sem, r0, r1, r2, r3, r4, keyF]) rfl ⟨rfl, HO.out.below⟩

set_option maxRecDepth 100000 in
set_option maxHeartbeats 4000000 in
theorem validF_any (x : Fl) (w : World) : Calls Tryz.prog 104 #[flV x] w fun e w' => e = .returned (.bool (validF x)) ∧ Below w.heap.size w w' := by
  obtain ⟨pr, he, hp, th, tp, sy, fi, rs, sq⟩ := x
  have HO := Lib.hid (show Own w none0 w [] from Own.nil w none0)
  obtain ⟨x1, hx1⟩ : ∃ y, w.alloc (.cells #[.int .i64 pr, .int .i64 he, .int .i64 hp, .int .i64 th, .int .i64 tp, .bool sy, .bool fi, .bool rs, .int .i64 sq] 39) = y := ⟨_, rfl⟩
  obtain ⟨bx, hbx⟩ : ∃ y, w.heap.size = y := ⟨_, rfl⟩
  have hO := HO.out.alloc (.cells #[.int .i64 pr, .int .i64 he, .int .i64 hp, .int .i64 th, .int .i64 tp, .bool sy, .bool fi, .bool rs, .int .i64 sq] 39)
  rw [hx1, hbx] at hO
  replace HO := Lib.hid (show Own w none0 x1 [blkR bx (.cells #[.int .i64 pr, .int .i64 he, .int .i64 hp, .int .i64 th, .int .i64 tp, .bool sy, .bool fi, .bool rs, .int .i64 sq] 39)] from hO)
  clear hO
  have z0_0 : x1.cell? ⟨bx, 0, none⟩ = some (.int .i64 pr) := HO.out.cell 0 rfl 0 rfl
  have z0_1 : x1.cell? ⟨bx, 1, none⟩ = some (.int .i64 he) := HO.out.cell 0 rfl 1 rfl
  have z0_2 : x1.cell? ⟨bx, 2, none⟩ = some (.int .i64 hp) := HO.out.cell 0 rfl 2 rfl
  have z0_3 : x1.cell? ⟨bx, 3, none⟩ = some (.int .i64 th) := HO.out.cell 0 rfl 3 rfl
  have z0_4 : x1.cell? ⟨bx, 4, none⟩ = some (.int .i64 tp) := HO.out.cell 0 rfl 4 rfl
  have z0_5 : x1.cell? ⟨bx, 5, none⟩ = some (.bool sy) := HO.out.cell 0 rfl 5 rfl
  have z0_6 : x1.cell? ⟨bx, 6, none⟩ = some (.bool fi) := HO.out.cell 0 rfl 6 rfl
  have z0_7 : x1.cell? ⟨bx, 7, none⟩ = some (.bool rs) := HO.out.cell 0 rfl 7 rfl
  have z0_8 : x1.cell? ⟨bx, 8, none⟩ = some (.int .i64 sq) := HO.out.cell 0 rfl 8 rfl
  by_cases h0 : 0 ≤ pr
  · by_cases h1 : pr ≤ 255
    · cases h2 : hostB he with
      | false =>
        have HV := Lib.hid (show validF ⟨pr, he, hp, th, tp, sy, fi, rs, sq⟩ = false by simp [validF, h2])
        go_enter Tryz.func104, Tryz.ntmps104
        go_wp2_with fail
        refine (hostp_r h2 _).mono ?_
        rintro e x2 ⟨rfl, hb⟩
        replace HO := Lib.hid (show Own w none0 x2 [blkR bx (.cells #[.int .i64 pr, .int .i64 he, .int .i64 hp, .int .i64 th, .int .i64 tp, .bool sy, .bool fi, .bool rs, .int .i64 sq] 39)] from HO.out.stay hb)
        clear hb
        clear hx1 hbx z0_0 z0_1 z0_2 z0_3 z0_4 z0_5 z0_6 z0_7 z0_8
        have z0_0 : x2.cell? ⟨bx, 0, none⟩ = some (.int .i64 pr) := HO.out.cell 0 rfl 0 rfl
        have z0_1 : x2.cell? ⟨bx, 1, none⟩ = some (.int .i64 he) := HO.out.cell 0 rfl 1 rfl
        have z0_2 : x2.cell? ⟨bx, 2, none⟩ = some (.int .i64 hp) := HO.out.cell 0 rfl 2 rfl
        have z0_3 : x2.cell? ⟨bx, 3, none⟩ = some (.int .i64 th) := HO.out.cell 0 rfl 3 rfl
        have z0_4 : x2.cell? ⟨bx, 4, none⟩ = some (.int .i64 tp) := HO.out.cell 0 rfl 4 rfl
        have z0_5 : x2.cell? ⟨bx, 5, none⟩ = some (.bool sy) := HO.out.cell 0 rfl 5 rfl
        have z0_6 : x2.cell? ⟨bx, 6, none⟩ = some (.bool fi) := HO.out.cell 0 rfl 6 rfl
        have z0_7 : x2.cell? ⟨bx, 7, none⟩ = some (.bool rs) := HO.out.cell 0 rfl 7 rfl
        have z0_8 : x2.cell? ⟨bx, 8, none⟩ = some (.int .i64 sq) := HO.out.cell 0 rfl 8 rfl
        go_wp2
        go_ret
        exact ⟨by rw [HV.out]; rfl, HO.out.below⟩
      | true =>
        cases h3 : hostB th with
        | false =>
          have HV := Lib.hid (show validF ⟨pr, he, hp, th, tp, sy, fi, rs, sq⟩ = false by simp [validF, h3])
          go_enter Tryz.func104, Tryz.ntmps104
          go_wp2_with fail
          refine (hostp_r h2 _).mono ?_
          rintro e x2 ⟨rfl, hb⟩
          replace HO := Lib.hid (show Own w none0 x2 [blkR bx (.cells #[.int .i64 pr, .int .i64 he, .int .i64 hp, .int .i64 th, .int .i64 tp, .bool sy, .bool fi, .bool rs, .int .i64 sq] 39)] from HO.out.stay hb)
          clear hb
          clear hx1 hbx z0_0 z0_1 z0_2 z0_3 z0_4 z0_5 z0_6 z0_7 z0_8
          have z0_0 : x2.cell? ⟨bx, 0, none⟩ = some (.int .i64 pr) := HO.out.cell 0 rfl 0 rfl
          have z0_1 : x2.cell? ⟨bx, 1, none⟩ = some (.int .i64 he) := HO.out.cell 0 rfl 1 rfl
          have z0_2 : x2.cell? ⟨bx, 2, none⟩ = some (.int .i64 hp) := HO.out.cell 0 rfl 2 rfl
          have z0_3 : x2.cell? ⟨bx, 3, none⟩ = some (.int .i64 th) := HO.out.cell 0 rfl 3 rfl
          have z0_4 : x2.cell? ⟨bx, 4, none⟩ = some (.int .i64 tp) := HO.out.cell 0 rfl 4 rfl
          have z0_5 : x2.cell? ⟨bx, 5, none⟩ = some (.bool sy) := HO.out.cell 0 rfl 5 rfl
          have z0_6 : x2.cell? ⟨bx, 6, none⟩ = some (.bool fi) := HO.out.cell 0 rfl 6 rfl
          have z0_7 : x2.cell? ⟨bx, 7, none⟩ = some (.bool rs) := HO.out.cell 0 rfl 7 rfl
          have z0_8 : x2.cell? ⟨bx, 8, none⟩ = some (.int .i64 sq) := HO.out.cell 0 rfl 8 rfl
          go_wp2_with fail
          refine (hostp_r h3 _).mono ?_
          rintro e x3 ⟨rfl, hb⟩
          replace HO := Lib.hid (show Own w none0 x3 [blkR bx (.cells #[.int .i64 pr, .int .i64 he, .int .i64 hp, .int .i64 th, .int .i64 tp, .bool sy, .bool fi, .bool rs, .int .i64 sq] 39)] from HO.out.stay hb)
          clear hb
          clear z0_0 z0_1 z0_2 z0_3 z0_4 z0_5 z0_6 z0_7 z0_8
          have z0_0 : x3.cell? ⟨bx, 0, none⟩ = some (.int .i64 pr) := HO.out.cell 0 rfl 0 rfl
          have z0_1 : x3.cell? ⟨bx, 1, none⟩ = some (.int .i64 he) := HO.out.cell 0 rfl 1 rfl
          have z0_2 : x3.cell? ⟨bx, 2, none⟩ = some (.int .i64 hp) := HO.out.cell 0 rfl 2 rfl
          have z0_3 : x3.cell? ⟨bx, 3, none⟩ = some (.int .i64 th) := HO.out.cell 0 rfl 3 rfl
          have z0_4 : x3.cell? ⟨bx, 4, none⟩ = some (.int .i64 tp) := HO.out.cell 0 rfl 4 rfl
          have z0_5 : x3.cell? ⟨bx, 5, none⟩ = some (.bool sy) := HO.out.cell 0 rfl 5 rfl
          have z0_6 : x3.cell? ⟨bx, 6, none⟩ = some (.bool fi) := HO.out.cell 0 rfl 6 rfl
          have z0_7 : x3.cell? ⟨bx, 7, none⟩ = some (.bool rs) := HO.out.cell 0 rfl 7 rfl
          have z0_8 : x3.cell? ⟨bx, 8, none⟩ = some (.int .i64 sq) := HO.out.cell 0 rfl 8 rfl
          go_wp2
          go_ret
          exact ⟨by rw [HV.out]; rfl, HO.out.below⟩
        | true =>
          cases h4 : portB hp with
          | false =>
            have HV := Lib.hid (show validF ⟨pr, he, hp, th, tp, sy, fi, rs, sq⟩ = false by simp [validF, h4])
            go_enter Tryz.func104, Tryz.ntmps104
            go_wp2_with fail
            refine (hostp_r h2 _).mono ?_
            rintro e x2 ⟨rfl, hb⟩
            replace HO := Lib.hid (show Own w none0 x2 [blkR bx (.cells #[.int .i64 pr, .int .i64 he, .int .i64 hp, .int .i64 th, .int .i64 tp, .bool sy, .bool fi, .bool rs, .int .i64 sq] 39)] from HO.out.stay hb)
            clear hb
            clear hx1 hbx z0_0 z0_1 z0_2 z0_3 z0_4 z0_5 z0_6 z0_7 z0_8
            have z0_0 : x2.cell? ⟨bx, 0, none⟩ = some (.int .i64 pr) := HO.out.cell 0 rfl 0 rfl
            have z0_1 : x2.cell? ⟨bx, 1, none⟩ = some (.int .i64 he) := HO.out.cell 0 rfl 1 rfl
            have z0_2 : x2.cell? ⟨bx, 2, none⟩ = some (.int .i64 hp) := HO.out.cell 0 rfl 2 rfl
            have z0_3 : x2.cell? ⟨bx, 3, none⟩ = some (.int .i64 th) := HO.out.cell 0 rfl 3 rfl
            have z0_4 : x2.cell? ⟨bx, 4, none⟩ = some (.int .i64 tp) := HO.out.cell 0 rfl 4 rfl
            have z0_5 : x2.cell? ⟨bx, 5, none⟩ = some (.bool sy) := HO.out.cell 0 rfl 5 rfl
            have z0_6 : x2.cell? ⟨bx, 6, none⟩ = some (.bool fi) := HO.out.cell 0 rfl 6 rfl
            have z0_7 : x2.cell? ⟨bx, 7, none⟩ = some (.bool rs) := HO.out.cell 0 rfl 7 rfl
            have z0_8 : x2.cell? ⟨bx, 8, none⟩ = some (.int .i64 sq) := HO.out.cell 0 rfl 8 rfl
            go_wp2_with fail
            refine (hostp_r h3 _).mono ?_
            rintro e x3 ⟨rfl, hb⟩
            replace HO := Lib.hid (show Own w none0 x3 [blkR bx (.cells #[.int .i64 pr, .int .i64 he, .int .i64 hp, .int .i64 th, .int .i64 tp, .bool sy, .bool fi, .bool rs, .int .i64 sq] 39)] from HO.out.stay hb)
            clear hb
            clear z0_0 z0_1 z0_2 z0_3 z0_4 z0_5 z0_6 z0_7 z0_8
            have z0_0 : x3.cell? ⟨bx, 0, none⟩ = some (.int .i64 pr) := HO.out.cell 0 rfl 0 rfl
            have z0_1 : x3.cell? ⟨bx, 1, none⟩ = some (.int .i64 he) := HO.out.cell 0 rfl 1 rfl
            have z0_2 : x3.cell? ⟨bx, 2, none⟩ = some (.int .i64 hp) := HO.out.cell 0 rfl 2 rfl
            have z0_3 : x3.cell? ⟨bx, 3, none⟩ = some (.int .i64 th) := HO.out.cell 0 rfl 3 rfl
            have z0_4 : x3.cell? ⟨bx, 4, none⟩ = some (.int .i64 tp) := HO.out.cell 0 rfl 4 rfl
            have z0_5 : x3.cell? ⟨bx, 5, none⟩ = some (.bool sy) := HO.out.cell 0 rfl 5 rfl
            have z0_6 : x3.cell? ⟨bx, 6, none⟩ = some (.bool fi) := HO.out.cell 0 rfl 6 rfl
            have z0_7 : x3.cell? ⟨bx, 7, none⟩ = some (.bool rs) := HO.out.cell 0 rfl 7 rfl
            have z0_8 : x3.cell? ⟨bx, 8, none⟩ = some (.int .i64 sq) := HO.out.cell 0 rfl 8 rfl
            go_wp2_with fail
            refine (port_r h4 _).mono ?_
            rintro e xp ⟨rfl, rfl⟩
            go_wp2
            go_ret
            exact ⟨by rw [HV.out]; rfl, HO.out.below⟩
          | true =>
            cases h5 : portB tp with
            | false =>
              have HV := Lib.hid (show validF ⟨pr, he, hp, th, tp, sy, fi, rs, sq⟩ = false by simp [validF, h5])
              go_enter Tryz.func104, Tryz.ntmps104
              go_wp2_with fail
              refine (hostp_r h2 _).mono ?_
              rintro e x2 ⟨rfl, hb⟩
              replace HO := Lib.hid (show Own w none0 x2 [blkR bx (.cells #[.int .i64 pr, .int .i64 he, .int .i64 hp, .int .i64 th, .int .i64 tp, .bool sy, .bool fi, .bool rs, .int .i64 sq] 39)] from HO.out.stay hb)
              clear hb
              clear hx1 hbx z0_0 z0_1 z0_2 z0_3 z0_4 z0_5 z0_6 z0_7 z0_8
              have z0_0 : x2.cell? ⟨bx, 0, none⟩ = some (.int .i64 pr) := HO.out.cell 0 rfl 0 rfl
              have z0_1 : x2.cell? ⟨bx, 1, none⟩ = some (.int .i64 he) := HO.out.cell 0 rfl 1 rfl
              have z0_2 : x2.cell? ⟨bx, 2, none⟩ = some (.int .i64 hp) := HO.out.cell 0 rfl 2 rfl
              have z0_3 : x2.cell? ⟨bx, 3, none⟩ = some (.int .i64 th) := HO.out.cell 0 rfl 3 rfl
              have z0_4 : x2.cell? ⟨bx, 4, none⟩ = some (.int .i64 tp) := HO.out.cell 0 rfl 4 rfl
              have z0_5 : x2.cell? ⟨bx, 5, none⟩ = some (.bool sy) := HO.out.cell 0 rfl 5 rfl
              have z0_6 : x2.cell? ⟨bx, 6, none⟩ = some (.bool fi) := HO.out.cell 0 rfl 6 rfl
              have z0_7 : x2.cell? ⟨bx, 7, none⟩ = some (.bool rs) := HO.out.cell 0 rfl 7 rfl
              have z0_8 : x2.cell? ⟨bx, 8, none⟩ = some (.int .i64 sq) := HO.out.cell 0 rfl 8 rfl
              go_wp2_with fail
              refine (hostp_r h3 _).mono ?_
              rintro e x3 ⟨rfl, hb⟩
              replace HO := Lib.hid (show Own w none0 x3 [blkR bx (.cells #[.int .i64 pr, .int .i64 he, .int .i64 hp, .int .i64 th, .int .i64 tp, .bool sy, .bool fi, .bool rs, .int .i64 sq] 39)] from HO.out.stay hb)
              clear hb
              clear z0_0 z0_1 z0_2 z0_3 z0_4 z0_5 z0_6 z0_7 z0_8
              have z0_0 : x3.cell? ⟨bx, 0, none⟩ = some (.int .i64 pr) := HO.out.cell 0 rfl 0 rfl
              have z0_1 : x3.cell? ⟨bx, 1, none⟩ = some (.int .i64 he) := HO.out.cell 0 rfl 1 rfl
              have z0_2 : x3.cell? ⟨bx, 2, none⟩ = some (.int .i64 hp) := HO.out.cell 0 rfl 2 rfl
              have z0_3 : x3.cell? ⟨bx, 3, none⟩ = some (.int .i64 th) := HO.out.cell 0 rfl 3 rfl
              have z0_4 : x3.cell? ⟨bx, 4, none⟩ = some (.int .i64 tp) := HO.out.cell 0 rfl 4 rfl
              have z0_5 : x3.cell? ⟨bx, 5, none⟩ = some (.bool sy) := HO.out.cell 0 rfl 5 rfl
              have z0_6 : x3.cell? ⟨bx, 6, none⟩ = some (.bool fi) := HO.out.cell 0 rfl 6 rfl
              have z0_7 : x3.cell? ⟨bx, 7, none⟩ = some (.bool rs) := HO.out.cell 0 rfl 7 rfl
              have z0_8 : x3.cell? ⟨bx, 8, none⟩ = some (.int .i64 sq) := HO.out.cell 0 rfl 8 rfl
              go_wp2_with fail
              refine (port_r h4 _).mono ?_
              rintro e xp ⟨rfl, rfl⟩
              go_wp2_with fail
              refine (port_r h5 _).mono ?_
              rintro e xp ⟨rfl, rfl⟩
              go_wp2
              go_ret
              exact ⟨by rw [HV.out]; rfl, HO.out.below⟩
            | true =>
              have HV := Lib.hid (show validF ⟨pr, he, hp, th, tp, sy, fi, rs, sq⟩ = true by simp [validF, h0, h1, h2, h3, h4, h5])
              go_enter Tryz.func104, Tryz.ntmps104
              go_wp2_with fail
              refine (hostp_r h2 _).mono ?_
              rintro e x2 ⟨rfl, hb⟩
              replace HO := Lib.hid (show Own w none0 x2 [blkR bx (.cells #[.int .i64 pr, .int .i64 he, .int .i64 hp, .int .i64 th, .int .i64 tp, .bool sy, .bool fi, .bool rs, .int .i64 sq] 39)] from HO.out.stay hb)
              clear hb
              clear hx1 hbx z0_0 z0_1 z0_2 z0_3 z0_4 z0_5 z0_6 z0_7 z0_8
              have z0_0 : x2.cell? ⟨bx, 0, none⟩ = some (.int .i64 pr) := HO.out.cell 0 rfl 0 rfl
              have z0_1 : x2.cell? ⟨bx, 1, none⟩ = some (.int .i64 he) := HO.out.cell 0 rfl 1 rfl
              have z0_2 : x2.cell? ⟨bx, 2, none⟩ = some (.int .i64 hp) := HO.out.cell 0 rfl 2 rfl
              have z0_3 : x2.cell? ⟨bx, 3, none⟩ = some (.int .i64 th) := HO.out.cell 0 rfl 3 rfl
              have z0_4 : x2.cell? ⟨bx, 4, none⟩ = some (.int .i64 tp) := HO.out.cell 0 rfl 4 rfl
              have z0_5 : x2.cell? ⟨bx, 5, none⟩ = some (.bool sy) := HO.out.cell 0 rfl 5 rfl
              have z0_6 : x2.cell? ⟨bx, 6, none⟩ = some (.bool fi) := HO.out.cell 0 rfl 6 rfl
              have z0_7 : x2.cell? ⟨bx, 7, none⟩ = some (.bool rs) := HO.out.cell 0 rfl 7 rfl
              have z0_8 : x2.cell? ⟨bx, 8, none⟩ = some (.int .i64 sq) := HO.out.cell 0 rfl 8 rfl
              go_wp2_with fail
              refine (hostp_r h3 _).mono ?_
              rintro e x3 ⟨rfl, hb⟩
              replace HO := Lib.hid (show Own w none0 x3 [blkR bx (.cells #[.int .i64 pr, .int .i64 he, .int .i64 hp, .int .i64 th, .int .i64 tp, .bool sy, .bool fi, .bool rs, .int .i64 sq] 39)] from HO.out.stay hb)
              clear hb
              clear z0_0 z0_1 z0_2 z0_3 z0_4 z0_5 z0_6 z0_7 z0_8
              have z0_0 : x3.cell? ⟨bx, 0, none⟩ = some (.int .i64 pr) := HO.out.cell 0 rfl 0 rfl
              have z0_1 : x3.cell? ⟨bx, 1, none⟩ = some (.int .i64 he) := HO.out.cell 0 rfl 1 rfl
              have z0_2 : x3.cell? ⟨bx, 2, none⟩ = some (.int .i64 hp) := HO.out.cell 0 rfl 2 rfl
              have z0_3 : x3.cell? ⟨bx, 3, none⟩ = some (.int .i64 th) := HO.out.cell 0 rfl 3 rfl
              have z0_4 : x3.cell? ⟨bx, 4, none⟩ = some (.int .i64 tp) := HO.out.cell 0 rfl 4 rfl
              have z0_5 : x3.cell? ⟨bx, 5, none⟩ = some (.bool sy) := HO.out.cell 0 rfl 5 rfl
              have z0_6 : x3.cell? ⟨bx, 6, none⟩ = some (.bool fi) := HO.out.cell 0 rfl 6 rfl
              have z0_7 : x3.cell? ⟨bx, 7, none⟩ = some (.bool rs) := HO.out.cell 0 rfl 7 rfl
              have z0_8 : x3.cell? ⟨bx, 8, none⟩ = some (.int .i64 sq) := HO.out.cell 0 rfl 8 rfl
              go_wp2_with fail
              refine (port_r h4 _).mono ?_
              rintro e xp ⟨rfl, rfl⟩
              go_wp2_with fail
              refine (port_r h5 _).mono ?_
              rintro e xp ⟨rfl, rfl⟩
              go_wp2
              go_ret
              exact ⟨by rw [HV.out]; rfl, HO.out.below⟩
    · have HV := Lib.hid (show validF ⟨pr, he, hp, th, tp, sy, fi, rs, sq⟩ = false by simp [validF, h1])
      have hd : decide (pr ≤ 255) = false := by simpa using h1
      clear h1
      go_enter Tryz.func104, Tryz.ntmps104
      go_wp2
      go_ret
      exact ⟨by rw [HV.out]; rfl, by first | exact HO.out.below | exact hbx ▸ HO.out.below⟩
  · have HV := Lib.hid (show validF ⟨pr, he, hp, th, tp, sy, fi, rs, sq⟩ = false by simp [validF, h0])
    have hd : decide (0 ≤ pr) = false := by simpa using h0
    clear h0
    go_enter Tryz.func104, Tryz.ntmps104
    go_wp2
    go_ret
    exact ⟨by rw [HV.out]; rfl, by first | exact HO.out.below | exact hbx ▸ HO.out.below⟩
theorem vprefix_r {a b : Int} {v : Bool} (h : vpB a b = v) (w : World) : Calls Tryz.prog 146 #[.agg #[.int .i64 a, .int .i64 b]] w fun e w' => e = .returned (.bool v) ∧ Below w.heap.size w w' := h ▸ validPrefix_any a b w
set_option maxRecDepth 100000 in
set_option maxHeartbeats 4000000 in
theorem invalid_any (r : Rl) (w : World) : Calls Tryz.prog 107 #[rlV r] w fun e w' => e = .returned (.bool (invalR r)) ∧ Below w.heap.size w w' := by
  obtain ⟨inn, pr, na, nb, lo, hi, ps⟩ := r
  have HO := Lib.hid (show Own w none0 w [] from Own.nil w none0)
  obtain ⟨x1, hx1⟩ : ∃ y, w.alloc (.cells #[.bool inn, .int .i64 pr, .int .i64 na, .int .i64 nb, .int .i64 lo, .int .i64 hi, .bool ps] 115) = y := ⟨_, rfl⟩
  obtain ⟨bx, hbx⟩ : ∃ y, w.heap.size = y := ⟨_, rfl⟩
  have hO := HO.out.alloc (.cells #[.bool inn, .int .i64 pr, .int .i64 na, .int .i64 nb, .int .i64 lo, .int .i64 hi, .bool ps] 115)
  rw [hx1, hbx] at hO
  replace HO := Lib.hid (show Own w none0 x1 [blkR bx (.cells #[.bool inn, .int .i64 pr, .int .i64 na, .int .i64 nb, .int .i64 lo, .int .i64 hi, .bool ps] 115)] from hO)
  clear hO
  have z0_0 : x1.cell? ⟨bx, 0, none⟩ = some (.bool inn) := HO.out.cell 0 rfl 0 rfl
  have z0_1 : x1.cell? ⟨bx, 1, none⟩ = some (.int .i64 pr) := HO.out.cell 0 rfl 1 rfl
  have z0_2 : x1.cell? ⟨bx, 2, none⟩ = some (.int .i64 na) := HO.out.cell 0 rfl 2 rfl
  have z0_3 : x1.cell? ⟨bx, 3, none⟩ = some (.int .i64 nb) := HO.out.cell 0 rfl 3 rfl
  have z0_4 : x1.cell? ⟨bx, 4, none⟩ = some (.int .i64 lo) := HO.out.cell 0 rfl 4 rfl
  have z0_5 : x1.cell? ⟨bx, 5, none⟩ = some (.int .i64 hi) := HO.out.cell 0 rfl 5 rfl
  have z0_6 : x1.cell? ⟨bx, 6, none⟩ = some (.bool ps) := HO.out.cell 0 rfl 6 rfl
  by_cases h0 : 0 ≤ pr
  · by_cases h1 : pr ≤ 255
    · cases h2 : vpB na nb with
      | false =>
        have HV := Lib.hid (show invalR ⟨inn, pr, na, nb, lo, hi, ps⟩ = true by simp [invalR, h2])
        have d0 : decide (pr < 0) = false := by simpa using h0
        have d1 : decide (255 < pr) = false := by simpa using h1
        go_enter Tryz.func107, Tryz.ntmps107
        go_wp2_with fail
        refine (vprefix_r h2 _).mono ?_
        rintro e x2 ⟨rfl, hb⟩
        replace HO := Lib.hid (show Own w none0 x2 [blkR bx (.cells #[.bool inn, .int .i64 pr, .int .i64 na, .int .i64 nb, .int .i64 lo, .int .i64 hi, .bool ps] 115)] from HO.out.stay hb)
        clear hb
        clear hx1 hbx z0_0 z0_1 z0_2 z0_3 z0_4 z0_5 z0_6
        have z0_0 : x2.cell? ⟨bx, 0, none⟩ = some (.bool inn) := HO.out.cell 0 rfl 0 rfl
        have z0_1 : x2.cell? ⟨bx, 1, none⟩ = some (.int .i64 pr) := HO.out.cell 0 rfl 1 rfl
        have z0_2 : x2.cell? ⟨bx, 2, none⟩ = some (.int .i64 na) := HO.out.cell 0 rfl 2 rfl
        have z0_3 : x2.cell? ⟨bx, 3, none⟩ = some (.int .i64 nb) := HO.out.cell 0 rfl 3 rfl
        have z0_4 : x2.cell? ⟨bx, 4, none⟩ = some (.int .i64 lo) := HO.out.cell 0 rfl 4 rfl
        have z0_5 : x2.cell? ⟨bx, 5, none⟩ = some (.int .i64 hi) := HO.out.cell 0 rfl 5 rfl
        have z0_6 : x2.cell? ⟨bx, 6, none⟩ = some (.bool ps) := HO.out.cell 0 rfl 6 rfl
        go_wp2
        go_ret
        exact ⟨by rw [HV.out]; rfl, HO.out.below⟩
      | true =>
        by_cases h3 : 0 ≤ lo
        · by_cases h4 : lo ≤ hi
          · by_cases h5 : hi ≤ 65535
            · have HV := Lib.hid (show invalR ⟨inn, pr, na, nb, lo, hi, ps⟩ = false by simp [invalR, h0, h1, h2, h3, h4, h5])
              have d0 : decide (pr < 0) = false := by simpa using h0
              have d1 : decide (255 < pr) = false := by simpa using h1
              have d3 : decide (lo < 0) = false := by simpa using h3
              have d4 : decide (hi < lo) = false := by simpa using h4
              have d5 : decide (65535 < hi) = false := by simpa using h5
              go_enter Tryz.func107, Tryz.ntmps107
              go_wp2_with fail
              refine (vprefix_r h2 _).mono ?_
              rintro e x2 ⟨rfl, hb⟩
              replace HO := Lib.hid (show Own w none0 x2 [blkR bx (.cells #[.bool inn, .int .i64 pr, .int .i64 na, .int .i64 nb, .int .i64 lo, .int .i64 hi, .bool ps] 115)] from HO.out.stay hb)
              clear hb
              clear hx1 hbx z0_0 z0_1 z0_2 z0_3 z0_4 z0_5 z0_6
              have z0_0 : x2.cell? ⟨bx, 0, none⟩ = some (.bool inn) := HO.out.cell 0 rfl 0 rfl
              have z0_1 : x2.cell? ⟨bx, 1, none⟩ = some (.int .i64 pr) := HO.out.cell 0 rfl 1 rfl
              have z0_2 : x2.cell? ⟨bx, 2, none⟩ = some (.int .i64 na) := HO.out.cell 0 rfl 2 rfl
              have z0_3 : x2.cell? ⟨bx, 3, none⟩ = some (.int .i64 nb) := HO.out.cell 0 rfl 3 rfl
              have z0_4 : x2.cell? ⟨bx, 4, none⟩ = some (.int .i64 lo) := HO.out.cell 0 rfl 4 rfl
              have z0_5 : x2.cell? ⟨bx, 5, none⟩ = some (.int .i64 hi) := HO.out.cell 0 rfl 5 rfl
              have z0_6 : x2.cell? ⟨bx, 6, none⟩ = some (.bool ps) := HO.out.cell 0 rfl 6 rfl
              go_wp2
              go_ret
              exact ⟨by rw [HV.out]; rfl, HO.out.below⟩
            · have HV := Lib.hid (show invalR ⟨inn, pr, na, nb, lo, hi, ps⟩ = true by simp [invalR, h5])
              have d0 : decide (pr < 0) = false := by simpa using h0
              have d1 : decide (255 < pr) = false := by simpa using h1
              have d3 : decide (lo < 0) = false := by simpa using h3
              have d4 : decide (hi < lo) = false := by simpa using h4
              have d5 : decide (65535 < hi) = true := by simpa using h5
              go_enter Tryz.func107, Tryz.ntmps107
              go_wp2_with fail
              refine (vprefix_r h2 _).mono ?_
              rintro e x2 ⟨rfl, hb⟩
              replace HO := Lib.hid (show Own w none0 x2 [blkR bx (.cells #[.bool inn, .int .i64 pr, .int .i64 na, .int .i64 nb, .int .i64 lo, .int .i64 hi, .bool ps] 115)] from HO.out.stay hb)
              clear hb
              clear hx1 hbx z0_0 z0_1 z0_2 z0_3 z0_4 z0_5 z0_6
              have z0_0 : x2.cell? ⟨bx, 0, none⟩ = some (.bool inn) := HO.out.cell 0 rfl 0 rfl
              have z0_1 : x2.cell? ⟨bx, 1, none⟩ = some (.int .i64 pr) := HO.out.cell 0 rfl 1 rfl
              have z0_2 : x2.cell? ⟨bx, 2, none⟩ = some (.int .i64 na) := HO.out.cell 0 rfl 2 rfl
              have z0_3 : x2.cell? ⟨bx, 3, none⟩ = some (.int .i64 nb) := HO.out.cell 0 rfl 3 rfl
              have z0_4 : x2.cell? ⟨bx, 4, none⟩ = some (.int .i64 lo) := HO.out.cell 0 rfl 4 rfl
              have z0_5 : x2.cell? ⟨bx, 5, none⟩ = some (.int .i64 hi) := HO.out.cell 0 rfl 5 rfl
              have z0_6 : x2.cell? ⟨bx, 6, none⟩ = some (.bool ps) := HO.out.cell 0 rfl 6 rfl
              go_wp2
              go_ret
              exact ⟨by rw [HV.out]; rfl, HO.out.below⟩
          · have HV := Lib.hid (show invalR ⟨inn, pr, na, nb, lo, hi, ps⟩ = true by simp [invalR, h4])
            have d0 : decide (pr < 0) = false := by simpa using h0
            have d1 : decide (255 < pr) = false := by simpa using h1
            have d3 : decide (lo < 0) = false := by simpa using h3
            have d4 : decide (hi < lo) = true := by simpa using h4
            go_enter Tryz.func107, Tryz.ntmps107
            go_wp2_with fail
            refine (vprefix_r h2 _).mono ?_
            rintro e x2 ⟨rfl, hb⟩
            replace HO := Lib.hid (show Own w none0 x2 [blkR bx (.cells #[.bool inn, .int .i64 pr, .int .i64 na, .int .i64 nb, .int .i64 lo, .int .i64 hi, .bool ps] 115)] from HO.out.stay hb)
            clear hb
            clear hx1 hbx z0_0 z0_1 z0_2 z0_3 z0_4 z0_5 z0_6
            have z0_0 : x2.cell? ⟨bx, 0, none⟩ = some (.bool inn) := HO.out.cell 0 rfl 0 rfl
            have z0_1 : x2.cell? ⟨bx, 1, none⟩ = some (.int .i64 pr) := HO.out.cell 0 rfl 1 rfl
            have z0_2 : x2.cell? ⟨bx, 2, none⟩ = some (.int .i64 na) := HO.out.cell 0 rfl 2 rfl
            have z0_3 : x2.cell? ⟨bx, 3, none⟩ = some (.int .i64 nb) := HO.out.cell 0 rfl 3 rfl
            have z0_4 : x2.cell? ⟨bx, 4, none⟩ = some (.int .i64 lo) := HO.out.cell 0 rfl 4 rfl
            have z0_5 : x2.cell? ⟨bx, 5, none⟩ = some (.int .i64 hi) := HO.out.cell 0 rfl 5 rfl
            have z0_6 : x2.cell? ⟨bx, 6, none⟩ = some (.bool ps) := HO.out.cell 0 rfl 6 rfl
            go_wp2
            go_ret
            exact ⟨by rw [HV.out]; rfl, HO.out.below⟩
        · have HV := Lib.hid (show invalR ⟨inn, pr, na, nb, lo, hi, ps⟩ = true by simp [invalR, h3])
          have d0 : decide (pr < 0) = false := by simpa using h0
          have d1 : decide (255 < pr) = false := by simpa using h1
          have d3 : decide (lo < 0) = true := by simpa using h3
          go_enter Tryz.func107, Tryz.ntmps107
          go_wp2_with fail
          refine (vprefix_r h2 _).mono ?_
          rintro e x2 ⟨rfl, hb⟩
          replace HO := Lib.hid (show Own w none0 x2 [blkR bx (.cells #[.bool inn, .int .i64 pr, .int .i64 na, .int .i64 nb, .int .i64 lo, .int .i64 hi, .bool ps] 115)] from HO.out.stay hb)
          clear hb
          clear hx1 hbx z0_0 z0_1 z0_2 z0_3 z0_4 z0_5 z0_6
          have z0_0 : x2.cell? ⟨bx, 0, none⟩ = some (.bool inn) := HO.out.cell 0 rfl 0 rfl
          have z0_1 : x2.cell? ⟨bx, 1, none⟩ = some (.int .i64 pr) := HO.out.cell 0 rfl 1 rfl
          have z0_2 : x2.cell? ⟨bx, 2, none⟩ = some (.int .i64 na) := HO.out.cell 0 rfl 2 rfl
          have z0_3 : x2.cell? ⟨bx, 3, none⟩ = some (.int .i64 nb) := HO.out.cell 0 rfl 3 rfl
          have z0_4 : x2.cell? ⟨bx, 4, none⟩ = some (.int .i64 lo) := HO.out.cell 0 rfl 4 rfl
          have z0_5 : x2.cell? ⟨bx, 5, none⟩ = some (.int .i64 hi) := HO.out.cell 0 rfl 5 rfl
          have z0_6 : x2.cell? ⟨bx, 6, none⟩ = some (.bool ps) := HO.out.cell 0 rfl 6 rfl
          go_wp2
          go_ret
          exact ⟨by rw [HV.out]; rfl, HO.out.below⟩
    · have HV := Lib.hid (show invalR ⟨inn, pr, na, nb, lo, hi, ps⟩ = true by simp [invalR, h1])
      have d0 : decide (pr < 0) = false := by simpa using h0
      have d1 : decide (255 < pr) = true := by simpa using h1
      go_enter Tryz.func107, Tryz.ntmps107
      go_wp2
      go_ret
      exact ⟨by rw [HV.out]; rfl, by first | exact HO.out.below | exact hbx ▸ HO.out.below⟩
  · have HV := Lib.hid (show invalR ⟨inn, pr, na, nb, lo, hi, ps⟩ = true by simp [invalR, h0])
    have d0 : decide (pr < 0) = true := by simpa using h0
    go_enter Tryz.func107, Tryz.ntmps107
    go_wp2
    go_ret
    exact ⟨by rw [HV.out]; rfl, by first | exact HO.out.below | exact hbx ▸ HO.out.below⟩

end Go.Proofs.YtbolfkojebbejaaGreatDoor

namespace Go.Proofs.YtbolfkojebbejaaGreatDoor
open Go.RowKit Go.Sort
set_option linter.unusedVariables false
set_option maxRecDepth 100000

/-- What a rule is held against: the direction, the flow's protocol and peer, the port. -/
structure Mt where
  inn : Bool
  pr : Int
  th : Int
  po : Int
def mtB (m : Mt) (r : Rl) : Bool := (r.inn == m.inn) && (r.pr == 0 || r.pr == m.pr) && conB r.na r.nb m.th && decide (r.lo ≤ m.po) && decide (m.po ≤ r.hi)
/-- The boxes that the match of a rule looks at. -/
def MtAt (w : World) (bi bf bp : Nat) (m : Mt) : Prop := w.cell? ⟨bi, 0, none⟩ = some (.bool m.inn) ∧ w.cell? ⟨bf, 0, none⟩ = some (.int .i64 m.pr) ∧ w.cell? ⟨bf, 3, none⟩ = some (.int .i64 m.th) ∧ w.cell? ⟨bp, 0, none⟩ = some (.int .i64 m.po)
theorem MtAt.stay {w w' : World} {bi bf bp : Nat} {m : Mt} (h : MtAt w bi bf bp m) (hb : Below w.heap.size w w') : MtAt w' bi bf bp m := ⟨keep hb h.1, keep hb h.2.1, keep hb h.2.2.1, keep hb h.2.2.2⟩
theorem contains_r {a b x : Int} {v : Bool} (h : conB a b x = v) (w : World) : Calls Tryz.prog 180 #[.agg #[.int .i64 a, .int .i64 b], .int .i64 x] w fun e w' => e = .returned (.bool v) ∧ Below w.heap.size w w' := h ▸ contains_any a b x w
set_option maxRecDepth 100000 in
set_option maxHeartbeats 4000000 in
theorem match_any (r : Rl) (m : Mt) (bi bf bp : Nat) (w : World) (hm : MtAt w bi bf bp m) : Calls Tryz.prog 179 #[rlV r, .pointer (some ⟨bi, 0, none⟩), .pointer (some ⟨bf, 0, none⟩), .pointer (some ⟨bp, 0, none⟩)] w fun e w' => e = .returned (.bool (mtB m r)) ∧ Below w.heap.size w w' := by
  obtain ⟨inn, pr, na, nb, lo, hi, ps⟩ := r
  obtain ⟨mi, mp, mh, mo⟩ := m
  have HM := Lib.hid hm
  clear hm
  have HO := Lib.hid (show Own w none0 w [] from Own.nil w none0)
  obtain ⟨x1, hx1⟩ : ∃ y, w.alloc (.cells #[.bool inn, .int .i64 pr, .int .i64 na, .int .i64 nb, .int .i64 lo, .int .i64 hi, .bool ps] 115) = y := ⟨_, rfl⟩
  obtain ⟨bx, hbx⟩ : ∃ y, w.heap.size = y := ⟨_, rfl⟩
  have hO := HO.out.alloc (.cells #[.bool inn, .int .i64 pr, .int .i64 na, .int .i64 nb, .int .i64 lo, .int .i64 hi, .bool ps] 115)
  rw [hx1, hbx] at hO
  replace HO := Lib.hid (show Own w none0 x1 [blkR bx (.cells #[.bool inn, .int .i64 pr, .int .i64 na, .int .i64 nb, .int .i64 lo, .int .i64 hi, .bool ps] 115)] from hO)
  clear hO
  cases h0 : (inn == mi) with
  | false =>
    have HV := Lib.hid (show mtB ⟨mi, mp, mh, mo⟩ ⟨inn, pr, na, nb, lo, hi, ps⟩ = false by simp [mtB, h0])
    have z0_0 : x1.cell? ⟨bx, 0, none⟩ = some (.bool inn) := HO.out.cell 0 rfl 0 rfl
    have z0_1 : x1.cell? ⟨bx, 1, none⟩ = some (.int .i64 pr) := HO.out.cell 0 rfl 1 rfl
    have z0_2 : x1.cell? ⟨bx, 2, none⟩ = some (.int .i64 na) := HO.out.cell 0 rfl 2 rfl
    have z0_3 : x1.cell? ⟨bx, 3, none⟩ = some (.int .i64 nb) := HO.out.cell 0 rfl 3 rfl
    have z0_4 : x1.cell? ⟨bx, 4, none⟩ = some (.int .i64 lo) := HO.out.cell 0 rfl 4 rfl
    have z0_5 : x1.cell? ⟨bx, 5, none⟩ = some (.int .i64 hi) := HO.out.cell 0 rfl 5 rfl
    have z0_6 : x1.cell? ⟨bx, 6, none⟩ = some (.bool ps) := HO.out.cell 0 rfl 6 rfl
    obtain ⟨q0, q1, q2, q3⟩ := HM.out.stay HO.out.below
    simp only at q0 q1 q2 q3
    go_enter Tryz.func179, Tryz.ntmps179
    go_wp2
    go_ret
    exact ⟨by rw [HV.out]; rfl, by first | exact HO.out.below | exact hbx ▸ HO.out.below⟩
  | true =>
    cases h1 : (pr == 0 || pr == mp) with
    | false =>
      have HV := Lib.hid (show mtB ⟨mi, mp, mh, mo⟩ ⟨inn, pr, na, nb, lo, hi, ps⟩ = false by simp [mtB, h1])
      obtain ⟨h1a, h1b⟩ : (pr == 0) = false ∧ (pr == mp) = false := by simpa only [Bool.or_eq_false_iff] using h1
      clear h1
      have z0_0 : x1.cell? ⟨bx, 0, none⟩ = some (.bool inn) := HO.out.cell 0 rfl 0 rfl
      have z0_1 : x1.cell? ⟨bx, 1, none⟩ = some (.int .i64 pr) := HO.out.cell 0 rfl 1 rfl
      have z0_2 : x1.cell? ⟨bx, 2, none⟩ = some (.int .i64 na) := HO.out.cell 0 rfl 2 rfl
      have z0_3 : x1.cell? ⟨bx, 3, none⟩ = some (.int .i64 nb) := HO.out.cell 0 rfl 3 rfl
      have z0_4 : x1.cell? ⟨bx, 4, none⟩ = some (.int .i64 lo) := HO.out.cell 0 rfl 4 rfl
      have z0_5 : x1.cell? ⟨bx, 5, none⟩ = some (.int .i64 hi) := HO.out.cell 0 rfl 5 rfl
      have z0_6 : x1.cell? ⟨bx, 6, none⟩ = some (.bool ps) := HO.out.cell 0 rfl 6 rfl
      obtain ⟨q0, q1, q2, q3⟩ := HM.out.stay HO.out.below
      simp only at q0 q1 q2 q3
      go_enter Tryz.func179, Tryz.ntmps179
      go_wp2
      go_ret
      exact ⟨by rw [HV.out]; rfl, by first | exact HO.out.below | exact hbx ▸ HO.out.below⟩
    | true =>
      cases h1a : (pr == 0) with
      | true =>
        cases h2 : conB na nb mh with
        | false =>
          have HV := Lib.hid (show mtB ⟨mi, mp, mh, mo⟩ ⟨inn, pr, na, nb, lo, hi, ps⟩ = false by simp [mtB, h2])
          clear h1
          have z0_0 : x1.cell? ⟨bx, 0, none⟩ = some (.bool inn) := HO.out.cell 0 rfl 0 rfl
          have z0_1 : x1.cell? ⟨bx, 1, none⟩ = some (.int .i64 pr) := HO.out.cell 0 rfl 1 rfl
          have z0_2 : x1.cell? ⟨bx, 2, none⟩ = some (.int .i64 na) := HO.out.cell 0 rfl 2 rfl
          have z0_3 : x1.cell? ⟨bx, 3, none⟩ = some (.int .i64 nb) := HO.out.cell 0 rfl 3 rfl
          have z0_4 : x1.cell? ⟨bx, 4, none⟩ = some (.int .i64 lo) := HO.out.cell 0 rfl 4 rfl
          have z0_5 : x1.cell? ⟨bx, 5, none⟩ = some (.int .i64 hi) := HO.out.cell 0 rfl 5 rfl
          have z0_6 : x1.cell? ⟨bx, 6, none⟩ = some (.bool ps) := HO.out.cell 0 rfl 6 rfl
          obtain ⟨q0, q1, q2, q3⟩ := HM.out.stay HO.out.below
          simp only at q0 q1 q2 q3
          go_enter Tryz.func179, Tryz.ntmps179
          go_wp2_with fail
          refine (contains_r h2 _).mono ?_
          rintro e x2 ⟨rfl, hb⟩
          replace HO := Lib.hid (show Own w none0 x2 [blkR bx (.cells #[.bool inn, .int .i64 pr, .int .i64 na, .int .i64 nb, .int .i64 lo, .int .i64 hi, .bool ps] 115)] from HO.out.stay hb)
          clear hb q0 q1 q2 q3
          clear hx1 hbx z0_0 z0_1 z0_2 z0_3 z0_4 z0_5 z0_6
          have z0_0 : x2.cell? ⟨bx, 0, none⟩ = some (.bool inn) := HO.out.cell 0 rfl 0 rfl
          have z0_1 : x2.cell? ⟨bx, 1, none⟩ = some (.int .i64 pr) := HO.out.cell 0 rfl 1 rfl
          have z0_2 : x2.cell? ⟨bx, 2, none⟩ = some (.int .i64 na) := HO.out.cell 0 rfl 2 rfl
          have z0_3 : x2.cell? ⟨bx, 3, none⟩ = some (.int .i64 nb) := HO.out.cell 0 rfl 3 rfl
          have z0_4 : x2.cell? ⟨bx, 4, none⟩ = some (.int .i64 lo) := HO.out.cell 0 rfl 4 rfl
          have z0_5 : x2.cell? ⟨bx, 5, none⟩ = some (.int .i64 hi) := HO.out.cell 0 rfl 5 rfl
          have z0_6 : x2.cell? ⟨bx, 6, none⟩ = some (.bool ps) := HO.out.cell 0 rfl 6 rfl
          obtain ⟨q0, q1, q2, q3⟩ := HM.out.stay HO.out.below
          simp only at q0 q1 q2 q3
          go_wp2
          go_ret
          exact ⟨by rw [HV.out]; rfl, HO.out.below⟩
        | true =>
          by_cases h3 : lo ≤ mo
          · by_cases h4 : mo ≤ hi
            · have HV := Lib.hid (show mtB ⟨mi, mp, mh, mo⟩ ⟨inn, pr, na, nb, lo, hi, ps⟩ = true by simp [mtB, h0, h1, h2, h3, h4])
              clear h1
              have z0_0 : x1.cell? ⟨bx, 0, none⟩ = some (.bool inn) := HO.out.cell 0 rfl 0 rfl
              have z0_1 : x1.cell? ⟨bx, 1, none⟩ = some (.int .i64 pr) := HO.out.cell 0 rfl 1 rfl
              have z0_2 : x1.cell? ⟨bx, 2, none⟩ = some (.int .i64 na) := HO.out.cell 0 rfl 2 rfl
              have z0_3 : x1.cell? ⟨bx, 3, none⟩ = some (.int .i64 nb) := HO.out.cell 0 rfl 3 rfl
              have z0_4 : x1.cell? ⟨bx, 4, none⟩ = some (.int .i64 lo) := HO.out.cell 0 rfl 4 rfl
              have z0_5 : x1.cell? ⟨bx, 5, none⟩ = some (.int .i64 hi) := HO.out.cell 0 rfl 5 rfl
              have z0_6 : x1.cell? ⟨bx, 6, none⟩ = some (.bool ps) := HO.out.cell 0 rfl 6 rfl
              obtain ⟨q0, q1, q2, q3⟩ := HM.out.stay HO.out.below
              simp only at q0 q1 q2 q3
              go_enter Tryz.func179, Tryz.ntmps179
              go_wp2_with fail
              refine (contains_r h2 _).mono ?_
              rintro e x2 ⟨rfl, hb⟩
              replace HO := Lib.hid (show Own w none0 x2 [blkR bx (.cells #[.bool inn, .int .i64 pr, .int .i64 na, .int .i64 nb, .int .i64 lo, .int .i64 hi, .bool ps] 115)] from HO.out.stay hb)
              clear hb q0 q1 q2 q3
              clear hx1 hbx z0_0 z0_1 z0_2 z0_3 z0_4 z0_5 z0_6
              have z0_0 : x2.cell? ⟨bx, 0, none⟩ = some (.bool inn) := HO.out.cell 0 rfl 0 rfl
              have z0_1 : x2.cell? ⟨bx, 1, none⟩ = some (.int .i64 pr) := HO.out.cell 0 rfl 1 rfl
              have z0_2 : x2.cell? ⟨bx, 2, none⟩ = some (.int .i64 na) := HO.out.cell 0 rfl 2 rfl
              have z0_3 : x2.cell? ⟨bx, 3, none⟩ = some (.int .i64 nb) := HO.out.cell 0 rfl 3 rfl
              have z0_4 : x2.cell? ⟨bx, 4, none⟩ = some (.int .i64 lo) := HO.out.cell 0 rfl 4 rfl
              have z0_5 : x2.cell? ⟨bx, 5, none⟩ = some (.int .i64 hi) := HO.out.cell 0 rfl 5 rfl
              have z0_6 : x2.cell? ⟨bx, 6, none⟩ = some (.bool ps) := HO.out.cell 0 rfl 6 rfl
              obtain ⟨q0, q1, q2, q3⟩ := HM.out.stay HO.out.below
              simp only at q0 q1 q2 q3
              go_wp2
              go_ret
              exact ⟨by rw [HV.out]; rfl, HO.out.below⟩
            · have HV := Lib.hid (show mtB ⟨mi, mp, mh, mo⟩ ⟨inn, pr, na, nb, lo, hi, ps⟩ = false by simp [mtB, h4])
              have d4 : decide (mo ≤ hi) = false := by simpa using h4
              clear h1 h4
              have z0_0 : x1.cell? ⟨bx, 0, none⟩ = some (.bool inn) := HO.out.cell 0 rfl 0 rfl
              have z0_1 : x1.cell? ⟨bx, 1, none⟩ = some (.int .i64 pr) := HO.out.cell 0 rfl 1 rfl
              have z0_2 : x1.cell? ⟨bx, 2, none⟩ = some (.int .i64 na) := HO.out.cell 0 rfl 2 rfl
              have z0_3 : x1.cell? ⟨bx, 3, none⟩ = some (.int .i64 nb) := HO.out.cell 0 rfl 3 rfl
              have z0_4 : x1.cell? ⟨bx, 4, none⟩ = some (.int .i64 lo) := HO.out.cell 0 rfl 4 rfl
              have z0_5 : x1.cell? ⟨bx, 5, none⟩ = some (.int .i64 hi) := HO.out.cell 0 rfl 5 rfl
              have z0_6 : x1.cell? ⟨bx, 6, none⟩ = some (.bool ps) := HO.out.cell 0 rfl 6 rfl
              obtain ⟨q0, q1, q2, q3⟩ := HM.out.stay HO.out.below
              simp only at q0 q1 q2 q3
              go_enter Tryz.func179, Tryz.ntmps179
              go_wp2_with fail
              refine (contains_r h2 _).mono ?_
              rintro e x2 ⟨rfl, hb⟩
              replace HO := Lib.hid (show Own w none0 x2 [blkR bx (.cells #[.bool inn, .int .i64 pr, .int .i64 na, .int .i64 nb, .int .i64 lo, .int .i64 hi, .bool ps] 115)] from HO.out.stay hb)
              clear hb q0 q1 q2 q3
              clear hx1 hbx z0_0 z0_1 z0_2 z0_3 z0_4 z0_5 z0_6
              have z0_0 : x2.cell? ⟨bx, 0, none⟩ = some (.bool inn) := HO.out.cell 0 rfl 0 rfl
              have z0_1 : x2.cell? ⟨bx, 1, none⟩ = some (.int .i64 pr) := HO.out.cell 0 rfl 1 rfl
              have z0_2 : x2.cell? ⟨bx, 2, none⟩ = some (.int .i64 na) := HO.out.cell 0 rfl 2 rfl
              have z0_3 : x2.cell? ⟨bx, 3, none⟩ = some (.int .i64 nb) := HO.out.cell 0 rfl 3 rfl
              have z0_4 : x2.cell? ⟨bx, 4, none⟩ = some (.int .i64 lo) := HO.out.cell 0 rfl 4 rfl
              have z0_5 : x2.cell? ⟨bx, 5, none⟩ = some (.int .i64 hi) := HO.out.cell 0 rfl 5 rfl
              have z0_6 : x2.cell? ⟨bx, 6, none⟩ = some (.bool ps) := HO.out.cell 0 rfl 6 rfl
              obtain ⟨q0, q1, q2, q3⟩ := HM.out.stay HO.out.below
              simp only at q0 q1 q2 q3
              go_wp2
              go_ret
              exact ⟨by rw [HV.out]; rfl, HO.out.below⟩
          · have HV := Lib.hid (show mtB ⟨mi, mp, mh, mo⟩ ⟨inn, pr, na, nb, lo, hi, ps⟩ = false by simp [mtB, h3])
            have d3 : decide (lo ≤ mo) = false := by simpa using h3
            clear h1 h3
            have z0_0 : x1.cell? ⟨bx, 0, none⟩ = some (.bool inn) := HO.out.cell 0 rfl 0 rfl
            have z0_1 : x1.cell? ⟨bx, 1, none⟩ = some (.int .i64 pr) := HO.out.cell 0 rfl 1 rfl
            have z0_2 : x1.cell? ⟨bx, 2, none⟩ = some (.int .i64 na) := HO.out.cell 0 rfl 2 rfl
            have z0_3 : x1.cell? ⟨bx, 3, none⟩ = some (.int .i64 nb) := HO.out.cell 0 rfl 3 rfl
            have z0_4 : x1.cell? ⟨bx, 4, none⟩ = some (.int .i64 lo) := HO.out.cell 0 rfl 4 rfl
            have z0_5 : x1.cell? ⟨bx, 5, none⟩ = some (.int .i64 hi) := HO.out.cell 0 rfl 5 rfl
            have z0_6 : x1.cell? ⟨bx, 6, none⟩ = some (.bool ps) := HO.out.cell 0 rfl 6 rfl
            obtain ⟨q0, q1, q2, q3⟩ := HM.out.stay HO.out.below
            simp only at q0 q1 q2 q3
            go_enter Tryz.func179, Tryz.ntmps179
            go_wp2_with fail
            refine (contains_r h2 _).mono ?_
            rintro e x2 ⟨rfl, hb⟩
            replace HO := Lib.hid (show Own w none0 x2 [blkR bx (.cells #[.bool inn, .int .i64 pr, .int .i64 na, .int .i64 nb, .int .i64 lo, .int .i64 hi, .bool ps] 115)] from HO.out.stay hb)
            clear hb q0 q1 q2 q3
            clear hx1 hbx z0_0 z0_1 z0_2 z0_3 z0_4 z0_5 z0_6
            have z0_0 : x2.cell? ⟨bx, 0, none⟩ = some (.bool inn) := HO.out.cell 0 rfl 0 rfl
            have z0_1 : x2.cell? ⟨bx, 1, none⟩ = some (.int .i64 pr) := HO.out.cell 0 rfl 1 rfl
            have z0_2 : x2.cell? ⟨bx, 2, none⟩ = some (.int .i64 na) := HO.out.cell 0 rfl 2 rfl
            have z0_3 : x2.cell? ⟨bx, 3, none⟩ = some (.int .i64 nb) := HO.out.cell 0 rfl 3 rfl
            have z0_4 : x2.cell? ⟨bx, 4, none⟩ = some (.int .i64 lo) := HO.out.cell 0 rfl 4 rfl
            have z0_5 : x2.cell? ⟨bx, 5, none⟩ = some (.int .i64 hi) := HO.out.cell 0 rfl 5 rfl
            have z0_6 : x2.cell? ⟨bx, 6, none⟩ = some (.bool ps) := HO.out.cell 0 rfl 6 rfl
            obtain ⟨q0, q1, q2, q3⟩ := HM.out.stay HO.out.below
            simp only at q0 q1 q2 q3
            go_wp2
            go_ret
            exact ⟨by rw [HV.out]; rfl, HO.out.below⟩
      | false =>
        cases h2 : conB na nb mh with
        | false =>
          have HV := Lib.hid (show mtB ⟨mi, mp, mh, mo⟩ ⟨inn, pr, na, nb, lo, hi, ps⟩ = false by simp [mtB, h2])
          have h1b : (pr == mp) = true := by simpa [h1a] using h1
          clear h1
          have z0_0 : x1.cell? ⟨bx, 0, none⟩ = some (.bool inn) := HO.out.cell 0 rfl 0 rfl
          have z0_1 : x1.cell? ⟨bx, 1, none⟩ = some (.int .i64 pr) := HO.out.cell 0 rfl 1 rfl
          have z0_2 : x1.cell? ⟨bx, 2, none⟩ = some (.int .i64 na) := HO.out.cell 0 rfl 2 rfl
          have z0_3 : x1.cell? ⟨bx, 3, none⟩ = some (.int .i64 nb) := HO.out.cell 0 rfl 3 rfl
          have z0_4 : x1.cell? ⟨bx, 4, none⟩ = some (.int .i64 lo) := HO.out.cell 0 rfl 4 rfl
          have z0_5 : x1.cell? ⟨bx, 5, none⟩ = some (.int .i64 hi) := HO.out.cell 0 rfl 5 rfl
          have z0_6 : x1.cell? ⟨bx, 6, none⟩ = some (.bool ps) := HO.out.cell 0 rfl 6 rfl
          obtain ⟨q0, q1, q2, q3⟩ := HM.out.stay HO.out.below
          simp only at q0 q1 q2 q3
          go_enter Tryz.func179, Tryz.ntmps179
          go_wp2_with fail
          refine (contains_r h2 _).mono ?_
          rintro e x2 ⟨rfl, hb⟩
          replace HO := Lib.hid (show Own w none0 x2 [blkR bx (.cells #[.bool inn, .int .i64 pr, .int .i64 na, .int .i64 nb, .int .i64 lo, .int .i64 hi, .bool ps] 115)] from HO.out.stay hb)
          clear hb q0 q1 q2 q3
          clear hx1 hbx z0_0 z0_1 z0_2 z0_3 z0_4 z0_5 z0_6
          have z0_0 : x2.cell? ⟨bx, 0, none⟩ = some (.bool inn) := HO.out.cell 0 rfl 0 rfl
          have z0_1 : x2.cell? ⟨bx, 1, none⟩ = some (.int .i64 pr) := HO.out.cell 0 rfl 1 rfl
          have z0_2 : x2.cell? ⟨bx, 2, none⟩ = some (.int .i64 na) := HO.out.cell 0 rfl 2 rfl
          have z0_3 : x2.cell? ⟨bx, 3, none⟩ = some (.int .i64 nb) := HO.out.cell 0 rfl 3 rfl
          have z0_4 : x2.cell? ⟨bx, 4, none⟩ = some (.int .i64 lo) := HO.out.cell 0 rfl 4 rfl
          have z0_5 : x2.cell? ⟨bx, 5, none⟩ = some (.int .i64 hi) := HO.out.cell 0 rfl 5 rfl
          have z0_6 : x2.cell? ⟨bx, 6, none⟩ = some (.bool ps) := HO.out.cell 0 rfl 6 rfl
          obtain ⟨q0, q1, q2, q3⟩ := HM.out.stay HO.out.below
          simp only at q0 q1 q2 q3
          go_wp2
          go_ret
          exact ⟨by rw [HV.out]; rfl, HO.out.below⟩
        | true =>
          by_cases h3 : lo ≤ mo
          · by_cases h4 : mo ≤ hi
            · have HV := Lib.hid (show mtB ⟨mi, mp, mh, mo⟩ ⟨inn, pr, na, nb, lo, hi, ps⟩ = true by simp [mtB, h0, h1, h2, h3, h4])
              have h1b : (pr == mp) = true := by simpa [h1a] using h1
              clear h1
              have z0_0 : x1.cell? ⟨bx, 0, none⟩ = some (.bool inn) := HO.out.cell 0 rfl 0 rfl
              have z0_1 : x1.cell? ⟨bx, 1, none⟩ = some (.int .i64 pr) := HO.out.cell 0 rfl 1 rfl
              have z0_2 : x1.cell? ⟨bx, 2, none⟩ = some (.int .i64 na) := HO.out.cell 0 rfl 2 rfl
              have z0_3 : x1.cell? ⟨bx, 3, none⟩ = some (.int .i64 nb) := HO.out.cell 0 rfl 3 rfl
              have z0_4 : x1.cell? ⟨bx, 4, none⟩ = some (.int .i64 lo) := HO.out.cell 0 rfl 4 rfl
              have z0_5 : x1.cell? ⟨bx, 5, none⟩ = some (.int .i64 hi) := HO.out.cell 0 rfl 5 rfl
              have z0_6 : x1.cell? ⟨bx, 6, none⟩ = some (.bool ps) := HO.out.cell 0 rfl 6 rfl
              obtain ⟨q0, q1, q2, q3⟩ := HM.out.stay HO.out.below
              simp only at q0 q1 q2 q3
              go_enter Tryz.func179, Tryz.ntmps179
              go_wp2_with fail
              refine (contains_r h2 _).mono ?_
              rintro e x2 ⟨rfl, hb⟩
              replace HO := Lib.hid (show Own w none0 x2 [blkR bx (.cells #[.bool inn, .int .i64 pr, .int .i64 na, .int .i64 nb, .int .i64 lo, .int .i64 hi, .bool ps] 115)] from HO.out.stay hb)
              clear hb q0 q1 q2 q3
              clear hx1 hbx z0_0 z0_1 z0_2 z0_3 z0_4 z0_5 z0_6
              have z0_0 : x2.cell? ⟨bx, 0, none⟩ = some (.bool inn) := HO.out.cell 0 rfl 0 rfl
              have z0_1 : x2.cell? ⟨bx, 1, none⟩ = some (.int .i64 pr) := HO.out.cell 0 rfl 1 rfl
              have z0_2 : x2.cell? ⟨bx, 2, none⟩ = some (.int .i64 na) := HO.out.cell 0 rfl 2 rfl
              have z0_3 : x2.cell? ⟨bx, 3, none⟩ = some (.int .i64 nb) := HO.out.cell 0 rfl 3 rfl
              have z0_4 : x2.cell? ⟨bx, 4, none⟩ = some (.int .i64 lo) := HO.out.cell 0 rfl 4 rfl
              have z0_5 : x2.cell? ⟨bx, 5, none⟩ = some (.int .i64 hi) := HO.out.cell 0 rfl 5 rfl
              have z0_6 : x2.cell? ⟨bx, 6, none⟩ = some (.bool ps) := HO.out.cell 0 rfl 6 rfl
              obtain ⟨q0, q1, q2, q3⟩ := HM.out.stay HO.out.below
              simp only at q0 q1 q2 q3
              go_wp2
              go_ret
              exact ⟨by rw [HV.out]; rfl, HO.out.below⟩
            · have HV := Lib.hid (show mtB ⟨mi, mp, mh, mo⟩ ⟨inn, pr, na, nb, lo, hi, ps⟩ = false by simp [mtB, h4])
              have h1b : (pr == mp) = true := by simpa [h1a] using h1
              have d4 : decide (mo ≤ hi) = false := by simpa using h4
              clear h1 h4
              have z0_0 : x1.cell? ⟨bx, 0, none⟩ = some (.bool inn) := HO.out.cell 0 rfl 0 rfl
              have z0_1 : x1.cell? ⟨bx, 1, none⟩ = some (.int .i64 pr) := HO.out.cell 0 rfl 1 rfl
              have z0_2 : x1.cell? ⟨bx, 2, none⟩ = some (.int .i64 na) := HO.out.cell 0 rfl 2 rfl
              have z0_3 : x1.cell? ⟨bx, 3, none⟩ = some (.int .i64 nb) := HO.out.cell 0 rfl 3 rfl
              have z0_4 : x1.cell? ⟨bx, 4, none⟩ = some (.int .i64 lo) := HO.out.cell 0 rfl 4 rfl
              have z0_5 : x1.cell? ⟨bx, 5, none⟩ = some (.int .i64 hi) := HO.out.cell 0 rfl 5 rfl
              have z0_6 : x1.cell? ⟨bx, 6, none⟩ = some (.bool ps) := HO.out.cell 0 rfl 6 rfl
              obtain ⟨q0, q1, q2, q3⟩ := HM.out.stay HO.out.below
              simp only at q0 q1 q2 q3
              go_enter Tryz.func179, Tryz.ntmps179
              go_wp2_with fail
              refine (contains_r h2 _).mono ?_
              rintro e x2 ⟨rfl, hb⟩
              replace HO := Lib.hid (show Own w none0 x2 [blkR bx (.cells #[.bool inn, .int .i64 pr, .int .i64 na, .int .i64 nb, .int .i64 lo, .int .i64 hi, .bool ps] 115)] from HO.out.stay hb)
              clear hb q0 q1 q2 q3
              clear hx1 hbx z0_0 z0_1 z0_2 z0_3 z0_4 z0_5 z0_6
              have z0_0 : x2.cell? ⟨bx, 0, none⟩ = some (.bool inn) := HO.out.cell 0 rfl 0 rfl
              have z0_1 : x2.cell? ⟨bx, 1, none⟩ = some (.int .i64 pr) := HO.out.cell 0 rfl 1 rfl
              have z0_2 : x2.cell? ⟨bx, 2, none⟩ = some (.int .i64 na) := HO.out.cell 0 rfl 2 rfl
              have z0_3 : x2.cell? ⟨bx, 3, none⟩ = some (.int .i64 nb) := HO.out.cell 0 rfl 3 rfl
              have z0_4 : x2.cell? ⟨bx, 4, none⟩ = some (.int .i64 lo) := HO.out.cell 0 rfl 4 rfl
              have z0_5 : x2.cell? ⟨bx, 5, none⟩ = some (.int .i64 hi) := HO.out.cell 0 rfl 5 rfl
              have z0_6 : x2.cell? ⟨bx, 6, none⟩ = some (.bool ps) := HO.out.cell 0 rfl 6 rfl
              obtain ⟨q0, q1, q2, q3⟩ := HM.out.stay HO.out.below
              simp only at q0 q1 q2 q3
              go_wp2
              go_ret
              exact ⟨by rw [HV.out]; rfl, HO.out.below⟩
          · have HV := Lib.hid (show mtB ⟨mi, mp, mh, mo⟩ ⟨inn, pr, na, nb, lo, hi, ps⟩ = false by simp [mtB, h3])
            have h1b : (pr == mp) = true := by simpa [h1a] using h1
            have d3 : decide (lo ≤ mo) = false := by simpa using h3
            clear h1 h3
            have z0_0 : x1.cell? ⟨bx, 0, none⟩ = some (.bool inn) := HO.out.cell 0 rfl 0 rfl
            have z0_1 : x1.cell? ⟨bx, 1, none⟩ = some (.int .i64 pr) := HO.out.cell 0 rfl 1 rfl
            have z0_2 : x1.cell? ⟨bx, 2, none⟩ = some (.int .i64 na) := HO.out.cell 0 rfl 2 rfl
            have z0_3 : x1.cell? ⟨bx, 3, none⟩ = some (.int .i64 nb) := HO.out.cell 0 rfl 3 rfl
            have z0_4 : x1.cell? ⟨bx, 4, none⟩ = some (.int .i64 lo) := HO.out.cell 0 rfl 4 rfl
            have z0_5 : x1.cell? ⟨bx, 5, none⟩ = some (.int .i64 hi) := HO.out.cell 0 rfl 5 rfl
            have z0_6 : x1.cell? ⟨bx, 6, none⟩ = some (.bool ps) := HO.out.cell 0 rfl 6 rfl
            obtain ⟨q0, q1, q2, q3⟩ := HM.out.stay HO.out.below
            simp only at q0 q1 q2 q3
            go_enter Tryz.func179, Tryz.ntmps179
            go_wp2_with fail
            refine (contains_r h2 _).mono ?_
            rintro e x2 ⟨rfl, hb⟩
            replace HO := Lib.hid (show Own w none0 x2 [blkR bx (.cells #[.bool inn, .int .i64 pr, .int .i64 na, .int .i64 nb, .int .i64 lo, .int .i64 hi, .bool ps] 115)] from HO.out.stay hb)
            clear hb q0 q1 q2 q3
            clear hx1 hbx z0_0 z0_1 z0_2 z0_3 z0_4 z0_5 z0_6
            have z0_0 : x2.cell? ⟨bx, 0, none⟩ = some (.bool inn) := HO.out.cell 0 rfl 0 rfl
            have z0_1 : x2.cell? ⟨bx, 1, none⟩ = some (.int .i64 pr) := HO.out.cell 0 rfl 1 rfl
            have z0_2 : x2.cell? ⟨bx, 2, none⟩ = some (.int .i64 na) := HO.out.cell 0 rfl 2 rfl
            have z0_3 : x2.cell? ⟨bx, 3, none⟩ = some (.int .i64 nb) := HO.out.cell 0 rfl 3 rfl
            have z0_4 : x2.cell? ⟨bx, 4, none⟩ = some (.int .i64 lo) := HO.out.cell 0 rfl 4 rfl
            have z0_5 : x2.cell? ⟨bx, 5, none⟩ = some (.int .i64 hi) := HO.out.cell 0 rfl 5 rfl
            have z0_6 : x2.cell? ⟨bx, 6, none⟩ = some (.bool ps) := HO.out.cell 0 rfl 6 rfl
            obtain ⟨q0, q1, q2, q3⟩ := HM.out.stay HO.out.below
            simp only at q0 q1 q2 q3
            go_wp2
            go_ret
            exact ⟨by rw [HV.out]; rfl, HO.out.below⟩

/-- The place of the first that p takes, or -1. -/
def ixF {α : Type} (p : α → Bool) (l : List α) : Int := match l.findIdx? p with
  | some i => i
  | none => -1
theorem ixF_hit {α : Type} {p : α → Bool} {l : List α} {k : Nat} (hk : k < l.length) (h : (l.take k).any p = false) (h2 : p l[k] = true) : ixF p l = k := by
  have : l.findIdx? p = some k := by
    rw [List.findIdx?_eq_some_iff_getElem]
    refine ⟨hk, h2, fun j hj => ?_⟩
    rw [List.any_eq_false] at h
    have := h l[j] (List.mem_take_iff_getElem.2 ⟨j, by omega, rfl⟩)
    simpa using this
  unfold ixF; rw [this]
theorem ixF_none {α : Type} {p : α → Bool} {l : List α} (h : l.any p = false) : ixF p l = -1 := by
  have : l.findIdx? p = none := by
    rw [List.findIdx?_eq_none_iff]
    intro y hy
    rw [List.any_eq_false] at h
    simpa using h y hy
  unfold ixF; rw [this]

set_option maxRecDepth 100000 in
set_option maxHeartbeats 2000000 in
theorem indexI {w : World} {v : Value} (l : List Rl) (hr : w.ownsRow 0 115 7 v l.length (l.flatMap cRl)) (hl : l.length ≤ 1000) :
    Calls Tryz.prog 145 #[v, .func (.func 107) #[] #[]] w fun e w' => e = .returned (.int .i64 (ixF (invalR) l)) ∧ Below w.heap.size w w' := by
  obtain ⟨a, cap, rfl, hcell⟩ := row_at (c := cRl) (fun x => rfl) hr rfl
  have HC := Lib.hid hcell
  clear hcell hr
  go_enter Tryz.func145, Tryz.ntmps145
  go_wp2
  go_loopw [5, 8] (fun _ i wr => ∃ k : Nat, k ≤ l.length ∧ i = .int .i64 k ∧ (l.take k).any (invalR) = false ∧ Below w.heap.size w wr) (fun _ i _ => l.length - (intOf i).toNat)
  case atStart => exact ⟨0, Nat.zero_le _, rfl, rfl, Below.refl _ _⟩
  case round =>
    obtain ⟨k, hk, rfl, hnone, hbw⟩ := hrel
    have HN := Lib.hid hnone
    have HB := Lib.hid hbw
    clear hnone hbw
    by_cases hlt : k < l.length
    · obtain ⟨g, rfl, hcc⟩ := HC.out (by omega)
      have hkl : k < l.length := hlt
      have hcc := hcc k hkl
      have HT := Lib.hid (any_take (p := invalR) hkl HN.out)
      have HY := Lib.hid (ixF_hit (p := invalR) hkl HN.out)
      have yc : ∀ j u, j < 7 → (cRl l[k])[j]? = some u → wr.cell? ⟨g, k * 7 + j, none⟩ = some u := fun j u hj hu => keep HB.out ((hcc j hj).trans hu)
      generalize l[k] = r at *
      obtain ⟨inn, pr, na, nb, lo, hi, ps⟩ := r
      have y0 : wr.cell? ⟨g, k * 7, none⟩ = some (.bool inn) := yc 0 _ (by decide) rfl
      have y1 : wr.cell? ⟨g, k * 7 + 1, none⟩ = some (.int .i64 pr) := yc 1 _ (by decide) rfl
      have y2 : wr.cell? ⟨g, k * 7 + 2, none⟩ = some (.int .i64 na) := yc 2 _ (by decide) rfl
      have y3 : wr.cell? ⟨g, k * 7 + 3, none⟩ = some (.int .i64 nb) := yc 3 _ (by decide) rfl
      have y4 : wr.cell? ⟨g, k * 7 + 4, none⟩ = some (.int .i64 lo) := yc 4 _ (by decide) rfl
      have y5 : wr.cell? ⟨g, k * 7 + 5, none⟩ = some (.int .i64 hi) := yc 5 _ (by decide) rfl
      have y6 : wr.cell? ⟨g, k * 7 + 6, none⟩ = some (.bool ps) := yc 6 _ (by decide) rfl
      clear hcc yc hkl
      go_wp2_with fail
      refine (invalid_any ⟨inn, pr, na, nb, lo, hi, ps⟩ _).mono ?_
      rintro e w1 ⟨rfl, hb⟩
      replace HB := Lib.hid (below_mid HB.out hb)
      clear hb y0 y1 y2 y3 y4 y5 y6
      cases he : invalR ⟨inn, pr, na, nb, lo, hi, ps⟩ with
      | true =>
        have HR := Lib.hid (HY.out he)
        clear HT HY HN he
        go_wp2
        go_ret
        exact ⟨by rw [HR.out]; rfl, HB.out⟩
      | false =>
        rw [he] at HT
        clear he
        go_wp2
        go_roundw
        case rel => exact ⟨k + 1, by omega, by go_num, HT.out, HB.out⟩
        case measure => simp [intOf]; omega
    · obtain rfl : k = l.length := by omega
      have HR := Lib.hid (ixF_none (p := invalR) (l := l) (by rw [← HN.out, List.take_length]))
      clear HN
      go_wp2
      go_ret
      exact ⟨by rw [HR.out]; rfl, HB.out⟩

set_option maxRecDepth 100000 in
set_option maxHeartbeats 2000000 in
theorem indexM {w : World} {v : Value} (l : List Rl) (m : Mt) (bi bf bp : Nat) (hm : MtAt w bi bf bp m) (hr : w.ownsRow 0 115 7 v l.length (l.flatMap cRl)) (hl : l.length ≤ 1000) :
    Calls Tryz.prog 145 #[v, .func (.func 179) #[] #[.pointer (some ⟨bi, 0, none⟩), .pointer (some ⟨bf, 0, none⟩), .pointer (some ⟨bp, 0, none⟩)]] w fun e w' => e = .returned (.int .i64 (ixF (mtB m) l)) ∧ Below w.heap.size w w' := by
  obtain ⟨a, cap, rfl, hcell⟩ := row_at (c := cRl) (fun x => rfl) hr rfl
  have HC := Lib.hid hcell
  clear hcell hr
  have HM := Lib.hid hm
  clear hm
  go_enter Tryz.func145, Tryz.ntmps145
  go_wp2
  go_loopw [5, 8] (fun _ i wr => ∃ k : Nat, k ≤ l.length ∧ i = .int .i64 k ∧ (l.take k).any (mtB m) = false ∧ Below w.heap.size w wr) (fun _ i _ => l.length - (intOf i).toNat)
  case atStart => exact ⟨0, Nat.zero_le _, rfl, rfl, Below.refl _ _⟩
  case round =>
    obtain ⟨k, hk, rfl, hnone, hbw⟩ := hrel
    have HN := Lib.hid hnone
    have HB := Lib.hid hbw
    clear hnone hbw
    by_cases hlt : k < l.length
    · obtain ⟨g, rfl, hcc⟩ := HC.out (by omega)
      have hkl : k < l.length := hlt
      have hcc := hcc k hkl
      have HT := Lib.hid (any_take (p := mtB m) hkl HN.out)
      have HY := Lib.hid (ixF_hit (p := mtB m) hkl HN.out)
      have yc : ∀ j u, j < 7 → (cRl l[k])[j]? = some u → wr.cell? ⟨g, k * 7 + j, none⟩ = some u := fun j u hj hu => keep HB.out ((hcc j hj).trans hu)
      generalize l[k] = r at *
      obtain ⟨inn, pr, na, nb, lo, hi, ps⟩ := r
      have y0 : wr.cell? ⟨g, k * 7, none⟩ = some (.bool inn) := yc 0 _ (by decide) rfl
      have y1 : wr.cell? ⟨g, k * 7 + 1, none⟩ = some (.int .i64 pr) := yc 1 _ (by decide) rfl
      have y2 : wr.cell? ⟨g, k * 7 + 2, none⟩ = some (.int .i64 na) := yc 2 _ (by decide) rfl
      have y3 : wr.cell? ⟨g, k * 7 + 3, none⟩ = some (.int .i64 nb) := yc 3 _ (by decide) rfl
      have y4 : wr.cell? ⟨g, k * 7 + 4, none⟩ = some (.int .i64 lo) := yc 4 _ (by decide) rfl
      have y5 : wr.cell? ⟨g, k * 7 + 5, none⟩ = some (.int .i64 hi) := yc 5 _ (by decide) rfl
      have y6 : wr.cell? ⟨g, k * 7 + 6, none⟩ = some (.bool ps) := yc 6 _ (by decide) rfl
      clear hcc yc hkl
      go_wp2_with fail
      refine (match_any ⟨inn, pr, na, nb, lo, hi, ps⟩ m bi bf bp _ (HM.out.stay HB.out)).mono ?_
      rintro e w1 ⟨rfl, hb⟩
      replace HB := Lib.hid (below_mid HB.out hb)
      clear hb y0 y1 y2 y3 y4 y5 y6
      cases he : mtB m ⟨inn, pr, na, nb, lo, hi, ps⟩ with
      | true =>
        have HR := Lib.hid (HY.out he)
        clear HT HY HN he
        go_wp2
        go_ret
        exact ⟨by rw [HR.out]; rfl, HB.out⟩
      | false =>
        rw [he] at HT
        clear he
        go_wp2
        go_roundw
        case rel => exact ⟨k + 1, by omega, by go_num, HT.out, HB.out⟩
        case measure => simp [intOf]; omega
    · obtain rfl : k = l.length := by omega
      have HR := Lib.hid (ixF_none (p := mtB m) (l := l) (by rw [← HN.out, List.take_length]))
      clear HN
      go_wp2
      go_ret
      exact ⟨by rw [HR.out]; rfl, HB.out⟩

theorem ixF_nonneg {α : Type} (p : α → Bool) (l : List α) : decide (0 ≤ ixF p l) = l.any p := by
  cases h : l.any p with
  | false => rw [ixF_none h]; rfl
  | true =>
    obtain ⟨i, hi⟩ : ∃ i, l.findIdx? p = some i := by
      cases hf : l.findIdx? p with
      | none =>
        rw [List.findIdx?_eq_none_iff] at hf
        obtain ⟨x, hx, hp⟩ := List.any_eq_true.1 h
        rw [hf x hx] at hp; cases hp
      | some i => exact ⟨i, rfl⟩
    unfold ixF; rw [hi]; simp
theorem containsI {w : World} {v : Value} (l : List Rl) (hr : w.ownsRow 0 115 7 v l.length (l.flatMap cRl)) (hl : l.length ≤ 1000) :
    Calls Tryz.prog 106 #[v, .func (.func 107) #[] #[]] w fun e w' => e = .returned (.bool (l.any invalR)) ∧ Below w.heap.size w w' := by
  have H := Lib.hid (indexI l hr hl)
  obtain ⟨a, cap, rfl, _⟩ := row_at (c := cRl) (fun x => rfl) hr rfl
  have HX := Lib.hid (ixF_nonneg invalR l)
  obtain ⟨k, hk⟩ : ∃ k, ixF invalR l = k := ⟨_, rfl⟩
  rw [hk] at H HX
  clear hk hr
  go_enter Tryz.func106, Tryz.ntmps106
  go_wp2_with fail
  refine H.out.mono ?_
  rintro e w1 ⟨rfl, hb⟩
  go_wp2
  go_ret
  exact ⟨by rw [← HX.out]; rfl, hb⟩
def checkE (l : List Rl) : Int := if 16 < l.length ∨ l.any invalR = true then 220 else 0
theorem check_any {w : World} {v : Value} (l : List Rl) (hr : w.ownsRow 0 115 7 v l.length (l.flatMap cRl)) (hl : l.length ≤ 1000) :
    Calls Tryz.prog 51 #[v] w fun e w' => e = .returned (.int .i64 (checkE l)) ∧ Below w.heap.size w w' := by
  have H := Lib.hid (containsI l hr hl)
  obtain ⟨a, cap, rfl, _⟩ := row_at (c := cRl) (fun x => rfl) hr rfl
  by_cases h16 : 16 < l.length
  · have HE := Lib.hid (show checkE l = 220 by unfold checkE; rw [if_pos (.inl h16)])
    obtain ⟨n, hn⟩ : ∃ n, l.length = n := ⟨_, rfl⟩
    rw [hn] at hl h16 ⊢
    have hd : decide (16 < n) = true := by simpa using h16
    clear hr hn H
    go_enter Tryz.func51, Tryz.ntmps51
    go_wp2
    go_ret
    exact ⟨by rw [HE.out]; rfl, Below.refl _ _⟩
  · cases ha : l.any invalR with
    | true =>
      have HE := Lib.hid (show checkE l = 220 by unfold checkE; rw [if_pos (.inr ha)])
      rw [ha] at H
      obtain ⟨n, hn⟩ : ∃ n, l.length = n := ⟨_, rfl⟩
      rw [hn] at hl h16 H ⊢
      clear hr hn ha
      go_enter Tryz.func51, Tryz.ntmps51
      go_wp2_with fail
      refine H.out.mono ?_
      rintro e w1 ⟨rfl, hb⟩
      go_wp2
      go_ret
      exact ⟨by rw [HE.out]; rfl, hb⟩
    | false =>
      have HE := Lib.hid (show checkE l = 0 by unfold checkE; rw [if_neg (by rintro (h | h); exact h16 h; rw [ha] at h; cases h)])
      rw [ha] at H
      obtain ⟨n, hn⟩ : ∃ n, l.length = n := ⟨_, rfl⟩
      rw [hn] at hl h16 H ⊢
      clear hr hn ha
      go_enter Tryz.func51, Tryz.ntmps51
      go_wp2_with fail
      refine H.out.mono ?_
      rintro e w1 ⟨rfl, hb⟩
      go_wp2
      go_ret
      exact ⟨by rw [HE.out]; rfl, hb⟩

end Go.Proofs.YtbolfkojebbejaaGreatDoor

namespace Go.Proofs.YtbolfkojebbejaaGreatDoor
open Go.RowKit
set_option linter.unusedVariables false
set_option maxRecDepth 100000

/-- What is left of m when the keys done have been looked at. -/
def expD (now : Int) (m : List (FK × Us)) (done : List FK) : List (FK × Us) := m.filter fun x => !(decide (x.1 ∈ done) && oldU now x.2)
theorem expD_nil (now : Int) (m : List (FK × Us)) : expD now m [] = m := by simp [expD]
theorem expD_keys {now : Int} {m : List (FK × Us)} {done : List FK} (h : (keysU m).Nodup) : (keysU (expD now m done)).Nodup := keysU_filter _ h
theorem key_uniq {m : List (FK × Us)} (h : (keysU m).Nodup) {x : FK × Us} {k : FK} {u : Us} (h1 : (k, u) ∈ m) (hx : x ∈ m) (e : x.1 = k) : x = (k, u) := nodup_map_inj (f := fun x : FK × Us => x.1) h hx h1 e
theorem exp_all {now : Int} {m : List (FK × Us)} {done : List FK} (h : ∀ x ∈ mapU (expD now m done), x.1 ∈ done) : expD now m done = expF now m := by
  apply List.filter_congr
  intro x hx
  cases ho : oldU now x.2 with
  | false => simp
  | true =>
    by_cases hd : x.1 ∈ done
    · simp [hd]
    · refine absurd (h (x.1, valU x.2) ?_) hd
      exact List.mem_map_of_mem (f := fun x : FK × Us => (x.1, valU x.2)) (List.mem_filter.2 ⟨hx, by simp [hd]⟩)
theorem exp_keep {now : Int} {m : List (FK × Us)} {done : List FK} (hn : (keysU m).Nodup) {k : FK} {u : Us} (h : (k, u) ∈ expD now m done) (ho : oldU now u = false) : expD now m done = expD now m (k :: done) := by
  apply List.filter_congr
  intro x hx
  by_cases e : x.1 = k
  · have := key_uniq hn (List.mem_filter.1 h).1 hx e
    subst this
    simp [ho]
  · simp [e]
theorem exp_del {now : Int} {m : List (FK × Us)} {done : List FK} (hn : (keysU m).Nodup) {k : FK} {u : Us} (h : (k, u) ∈ expD now m done) (ho : oldU now u = true) : delU k (expD now m done) = expD now m (k :: done) := by
  unfold delU expD
  rw [List.filter_filter]
  apply List.filter_congr
  intro x hx
  by_cases e : x.1 = k
  · have := key_uniq hn (List.mem_filter.1 h).1 hx e
    subst this
    simp [ho]
  · simp [e]
theorem meas_lt {cur cur' : List (FK × Us)} {done : List FK} {k : FK} {u : Us} (hs : cur' = cur ∨ cur' = delU k cur) (hm : (k, u) ∈ cur) (hk : k ∉ done) :
    ((mapU cur').filter fun x => decide (x.1 ∉ k :: done)).length < ((mapU cur).filter fun x => decide (x.1 ∉ done)).length := by
  have e : ∀ (l : List (FK × Us)) (d : List FK), ((mapU l).filter fun x => decide (x.1 ∉ d)).length = (l.filter fun x => decide (x.1 ∉ d)).length := fun l d => by
    unfold mapU; rw [List.filter_map, List.length_map]; rfl
  rw [e, e]
  have h1 : (cur'.filter fun x => decide (x.1 ∉ k :: done)).length ≤ ((cur.filter fun x => decide (x.1 ∉ done)).filter fun x => decide (x.1 ≠ k)).length := by
    rw [List.filter_filter]
    have h2 : (fun x : FK × Us => decide (x.1 ∉ k :: done)) = fun x => decide (x.1 ≠ k) && decide (x.1 ∉ done) := by
      funext x; rw [Bool.eq_iff_iff]; simp
    rw [h2]
    rcases hs with rfl | rfl
    · exact Nat.le_refl _
    · exact ((List.filter_sublist (l := cur)).filter _).length_le
  have h3 : ((cur.filter fun x => decide (x.1 ∉ done)).filter fun x => decide (x.1 ≠ k)).length < (cur.filter fun x => decide (x.1 ∉ done)).length := by
    rw [List.length_filter_lt_length_iff_exists]
    exact ⟨(k, u), List.mem_filter.2 ⟨hm, by simpa using hk⟩, by simp⟩
  omega

end Go.Proofs.YtbolfkojebbejaaGreatDoor

namespace Go.Proofs.YtbolfkojebbejaaGreatDoor
open Go.RowKit Go.Sort
set_option linter.unusedVariables false
set_option maxRecDepth 100000

/-- Times that the filter can bear. -/
def timeB (n : Int) : Prop := 0 ≤ n ∧ n ≤ 1000000000
structure FI (st : FSt) : Prop where
  nd : (keysU st.m).Nodup
  tm : ∀ x ∈ st.m, timeB x.2.la
  ins : timeB st.ins
  rl : st.rl.length ≤ 1000
section
variable {w0 w : World} {D : Nat → Prop} {L : List Res} {f : Nat} {st : FSt}
set_option maxRecDepth 100000 in
set_option maxHeartbeats 4000000 in
theorem expire_o {now : Int} (h : Own w0 D w L) (i : Nat) (hi : L[i]? = some (resF f st)) (hI : FI st) (hnow : timeB now) :
    Calls Tryz.prog 103 #[.pointer (some ⟨f, 0, none⟩), .int .i64 now] w (OPost w0 D (L.set i (resF f { st with m := expF now st.m })) (.tuple #[]) w) := by
  refine o_one h hi fun D HO0 => ?_
  clear h hi
  obtain ⟨vr, om, HO0⟩ := openF HO0
  obtain ⟨rl, m, ins⟩ := st
  obtain ⟨nw0, nw1⟩ := hnow
  simp only at HO0
  rcases mapO_open HO0 2 rfl with ⟨rfl, rfl⟩ | ⟨b, rfl, HO1⟩
  · have HO := Lib.hid (show Own w D w [blkF f vr (.map none) ins, rowRl vr rl, mapO (.map none) []] from HO0)
    clear HO0 hI
    have c1 : w.cell? ⟨f, 1, none⟩ = some (.map none) := HO.out.cell 0 rfl 1 rfl
    have hrg := run_range_nilMap (P := Tryz.prog) w 119 192 189 Tryz.underlying119
    obtain ⟨x1, hx1⟩ : ∃ y, w.alloc (.mapIter none 0 #[] 0) = y := ⟨_, rfl⟩
    obtain ⟨r, hr⟩ : ∃ y, w.heap.size = y := ⟨_, rfl⟩
    have hO := HO.out.alloc (.mapIter none 0 #[] 0)
    rw [hx1, hr] at hO
    have HO2 := Lib.hid hO
    clear hO
    go_enter Tryz.func103, Tryz.ntmps103
    go_wp2
    clear hx1 c1 hrg hr
    go_loopw [4, 5] (fun _ _ wr => wr = x1) (fun _ _ _ => 0)
    case atStart => rfl
    case round =>
      subst hrel
      have hnx : ∀ ty, (Instr.next (.pointer (some ⟨r, 0, none⟩)) false ty).run Tryz.prog wr = .ok (.tuple #[.bool false]) wr := fun ty => run_next_nil Tryz.prog (HO2.out.blk 3 rfl) ty
      go_wp2
      go_end0
      exact ⟨rfl, shutF (st := ⟨rl, [], ins⟩) (HO2.out.take 3), HO2.out.size⟩
  · have HO := Lib.hid (show Own w D w [blkF f vr (.map (some b)) ins, rowRl vr rl, mapR encK b (mapU m)] from HO1)
    have HND := Lib.hid hI.nd
    have HTM := Lib.hid hI.tm
    clear HO0 HO1 hI
    have c1 : w.cell? ⟨f, 1, none⟩ = some (.map (some b)) := HO.out.cell 0 rfl 1 rfl
    obtain ⟨x1, hrg, hO⟩ := HO.out.rngStart (P := Tryz.prog) 2 rfl Tryz.underlying119
    obtain ⟨r, hr⟩ : ∃ y, w.heap.size = y := ⟨_, rfl⟩
    rw [hr] at hO hrg
    replace HO := Lib.hid (show Own w D x1 [blkF f vr (.map (some b)) ins, rowRl vr rl, rngR encK b r (mapU (expD now m [])) []] by rw [expD_nil]; exact hO)
    clear hO
    go_enter Tryz.func103, Tryz.ntmps103
    go_wp2
    clear c1 hrg hr
    go_loopw [4, 5] (fun _ _ wr => ∃ done : List FK, Own w D wr [blkF f vr (.map (some b)) ins, rowRl vr rl, rngR encK b r (mapU (expD now m done)) done]) (fun _ _ wr => leftN wr b r)
    case atStart => exact ⟨[], HO.out⟩
    case round =>
      obtain ⟨done, hO⟩ := hrel
      replace HO := Lib.hid hO
      clear hO
      have HLN := Lib.hid (leftN_eq HO.out 2 rfl encK_inj)
      rcases HO.out.rngNext (P := Tryz.prog) 2 rfl encK_inj (by rw [mapU_keys]; exact expD_keys HND.out) 0 with ⟨hall, hrun⟩ | ⟨k, v, w1, hm, hkd, hrun, hent, hO⟩
      · have HE := Lib.hid (exp_all hall)
        have hnx : ∀ ty, (Instr.next (.pointer (some ⟨r, 0, none⟩)) false ty).run Tryz.prog wr = .ok (.tuple #[.bool false]) wr := fun ty => hrun
        clear hall hrun
        go_wp2
        go_end0
        exact ⟨rfl, shutF (st := ⟨rl, expF now m, ins⟩) (by rw [← HE.out]; exact mapO_shut (HO.out.rngEnd 2 rfl) 2 rfl), HO.out.size⟩
      · obtain ⟨⟨k', u⟩, hmem, e⟩ := List.mem_map.1 hm
        simp only [Prod.mk.injEq] at e
        obtain ⟨rfl, rfl⟩ := e
        have HMEM := Lib.hid hmem
        have HKD := Lib.hid hkd
        obtain ⟨t0, t1⟩ := HTM.out _ (List.mem_filter.1 hmem).1
        have HND2 := Lib.hid (show (keysU (expD now m done)).Nodup from expD_keys HND.out)
        obtain ⟨a0, a1, a2, a3, a4⟩ := k'
        obtain ⟨la, nu⟩ := u
        simp only at t0 t1
        have hnx : ∀ ty, (Instr.next (.pointer (some ⟨r, 0, none⟩)) false ty).run Tryz.prog wr = .ok (.tuple #[.bool true, encK ⟨a0, a1, a2, a3, a4⟩, valU ⟨la, nu⟩]) w1 := fun ty => hrun
        clear hm hmem hkd hrun
        replace HO := Lib.hid (show Own w D w1 [blkF f vr (.map (some b)) ins, rowRl vr rl, rngR encK b r (mapU (expD now m done)) (⟨a0, a1, a2, a3, a4⟩ :: done)] from hO)
        clear hO
        obtain ⟨x11, hx11⟩ : ∃ y, w1.alloc (.cells #[.int .i64 0, .int .i64 0, .int .i64 0, .int .i64 0, .int .i64 0] 192) = y := ⟨_, rfl⟩
        obtain ⟨bk, hbk⟩ : ∃ y, w1.heap.size = y := ⟨_, rfl⟩
        have hO := HO.out.alloc (.cells #[.int .i64 0, .int .i64 0, .int .i64 0, .int .i64 0, .int .i64 0] 192)
        rw [hx11, hbk] at hO
        replace HO := Lib.hid (show Own w D x11 [blkF f vr (.map (some b)) ins, rowRl vr rl, rngR encK b r (mapU (expD now m done)) (⟨a0, a1, a2, a3, a4⟩ :: done), blkR bk (.cells #[.int .i64 0, .int .i64 0, .int .i64 0, .int .i64 0, .int .i64 0] 192)] from hO)
        clear hO
        obtain ⟨x12, hx12⟩ : ∃ y, x11.alloc (.cells #[.int .i64 0, .int .i64 0] 189) = y := ⟨_, rfl⟩
        obtain ⟨bu, hbu⟩ : ∃ y, x11.heap.size = y := ⟨_, rfl⟩
        have hO := HO.out.alloc (.cells #[.int .i64 0, .int .i64 0] 189)
        rw [hx12, hbu] at hO
        replace HO := Lib.hid (show Own w D x12 [blkF f vr (.map (some b)) ins, rowRl vr rl, rngR encK b r (mapU (expD now m done)) (⟨a0, a1, a2, a3, a4⟩ :: done), blkR bk (.cells #[.int .i64 0, .int .i64 0, .int .i64 0, .int .i64 0, .int .i64 0] 192), blkR bu (.cells #[.int .i64 0, .int .i64 0] 189)] from hO)
        clear hO
        have k3_0_0 : x12.cell? ⟨bk, 0, none⟩ = some (.int .i64 0) := HO.out.cell 3 rfl 0 rfl
        have lk3_0_0 : x12.frozen? ⟨bk, 0, none⟩ = false := HO.out.frz 3 rfl 0
        have k3_0_1 : x12.cell? ⟨bk, 1, none⟩ = some (.int .i64 0) := HO.out.cell 3 rfl 1 rfl
        have lk3_0_1 : x12.frozen? ⟨bk, 1, none⟩ = false := HO.out.frz 3 rfl 1
        have k3_0_2 : x12.cell? ⟨bk, 2, none⟩ = some (.int .i64 0) := HO.out.cell 3 rfl 2 rfl
        have lk3_0_2 : x12.frozen? ⟨bk, 2, none⟩ = false := HO.out.frz 3 rfl 2
        have k3_0_3 : x12.cell? ⟨bk, 3, none⟩ = some (.int .i64 0) := HO.out.cell 3 rfl 3 rfl
        have lk3_0_3 : x12.frozen? ⟨bk, 3, none⟩ = false := HO.out.frz 3 rfl 3
        have k3_0_4 : x12.cell? ⟨bk, 4, none⟩ = some (.int .i64 0) := HO.out.cell 3 rfl 4 rfl
        have lk3_0_4 : x12.frozen? ⟨bk, 4, none⟩ = false := HO.out.frz 3 rfl 4
        obtain ⟨x13, hx13⟩ : ∃ y, x12.setCell ⟨bk, 0, none⟩ (.int .i64 a0) = y := ⟨_, rfl⟩
        have hO := HO.out.setCell 3 rfl 0 (.int .i64 a0)
        rw [hx13] at hO
        replace HO := Lib.hid (show Own w D x13 [blkF f vr (.map (some b)) ins, rowRl vr rl, rngR encK b r (mapU (expD now m done)) (⟨a0, a1, a2, a3, a4⟩ :: done), blkR bk (.cells #[.int .i64 a0, .int .i64 0, .int .i64 0, .int .i64 0, .int .i64 0] 192), blkR bu (.cells #[.int .i64 0, .int .i64 0] 189)] from hO)
        clear hO
        have k3_1_1 : x13.cell? ⟨bk, 1, none⟩ = some (.int .i64 0) := HO.out.cell 3 rfl 1 rfl
        have lk3_1_1 : x13.frozen? ⟨bk, 1, none⟩ = false := HO.out.frz 3 rfl 1
        have k3_1_2 : x13.cell? ⟨bk, 2, none⟩ = some (.int .i64 0) := HO.out.cell 3 rfl 2 rfl
        have lk3_1_2 : x13.frozen? ⟨bk, 2, none⟩ = false := HO.out.frz 3 rfl 2
        have k3_1_3 : x13.cell? ⟨bk, 3, none⟩ = some (.int .i64 0) := HO.out.cell 3 rfl 3 rfl
        have lk3_1_3 : x13.frozen? ⟨bk, 3, none⟩ = false := HO.out.frz 3 rfl 3
        have k3_1_4 : x13.cell? ⟨bk, 4, none⟩ = some (.int .i64 0) := HO.out.cell 3 rfl 4 rfl
        have lk3_1_4 : x13.frozen? ⟨bk, 4, none⟩ = false := HO.out.frz 3 rfl 4
        obtain ⟨x14, hx14⟩ : ∃ y, x13.setCell ⟨bk, 1, none⟩ (.int .i64 a1) = y := ⟨_, rfl⟩
        have hO := HO.out.setCell 3 rfl 1 (.int .i64 a1)
        rw [hx14] at hO
        replace HO := Lib.hid (show Own w D x14 [blkF f vr (.map (some b)) ins, rowRl vr rl, rngR encK b r (mapU (expD now m done)) (⟨a0, a1, a2, a3, a4⟩ :: done), blkR bk (.cells #[.int .i64 a0, .int .i64 a1, .int .i64 0, .int .i64 0, .int .i64 0] 192), blkR bu (.cells #[.int .i64 0, .int .i64 0] 189)] from hO)
        clear hO
        have k3_2_2 : x14.cell? ⟨bk, 2, none⟩ = some (.int .i64 0) := HO.out.cell 3 rfl 2 rfl
        have lk3_2_2 : x14.frozen? ⟨bk, 2, none⟩ = false := HO.out.frz 3 rfl 2
        have k3_2_3 : x14.cell? ⟨bk, 3, none⟩ = some (.int .i64 0) := HO.out.cell 3 rfl 3 rfl
        have lk3_2_3 : x14.frozen? ⟨bk, 3, none⟩ = false := HO.out.frz 3 rfl 3
        have k3_2_4 : x14.cell? ⟨bk, 4, none⟩ = some (.int .i64 0) := HO.out.cell 3 rfl 4 rfl
        have lk3_2_4 : x14.frozen? ⟨bk, 4, none⟩ = false := HO.out.frz 3 rfl 4
        obtain ⟨x15, hx15⟩ : ∃ y, x14.setCell ⟨bk, 2, none⟩ (.int .i64 a2) = y := ⟨_, rfl⟩
        have hO := HO.out.setCell 3 rfl 2 (.int .i64 a2)
        rw [hx15] at hO
        replace HO := Lib.hid (show Own w D x15 [blkF f vr (.map (some b)) ins, rowRl vr rl, rngR encK b r (mapU (expD now m done)) (⟨a0, a1, a2, a3, a4⟩ :: done), blkR bk (.cells #[.int .i64 a0, .int .i64 a1, .int .i64 a2, .int .i64 0, .int .i64 0] 192), blkR bu (.cells #[.int .i64 0, .int .i64 0] 189)] from hO)
        clear hO
        have k3_3_3 : x15.cell? ⟨bk, 3, none⟩ = some (.int .i64 0) := HO.out.cell 3 rfl 3 rfl
        have lk3_3_3 : x15.frozen? ⟨bk, 3, none⟩ = false := HO.out.frz 3 rfl 3
        have k3_3_4 : x15.cell? ⟨bk, 4, none⟩ = some (.int .i64 0) := HO.out.cell 3 rfl 4 rfl
        have lk3_3_4 : x15.frozen? ⟨bk, 4, none⟩ = false := HO.out.frz 3 rfl 4
        obtain ⟨x16, hx16⟩ : ∃ y, x15.setCell ⟨bk, 3, none⟩ (.int .i64 a3) = y := ⟨_, rfl⟩
        have hO := HO.out.setCell 3 rfl 3 (.int .i64 a3)
        rw [hx16] at hO
        replace HO := Lib.hid (show Own w D x16 [blkF f vr (.map (some b)) ins, rowRl vr rl, rngR encK b r (mapU (expD now m done)) (⟨a0, a1, a2, a3, a4⟩ :: done), blkR bk (.cells #[.int .i64 a0, .int .i64 a1, .int .i64 a2, .int .i64 a3, .int .i64 0] 192), blkR bu (.cells #[.int .i64 0, .int .i64 0] 189)] from hO)
        clear hO
        have k3_4_4 : x16.cell? ⟨bk, 4, none⟩ = some (.int .i64 0) := HO.out.cell 3 rfl 4 rfl
        have lk3_4_4 : x16.frozen? ⟨bk, 4, none⟩ = false := HO.out.frz 3 rfl 4
        obtain ⟨x17, hx17⟩ : ∃ y, x16.setCell ⟨bk, 4, none⟩ (.int .i64 a4) = y := ⟨_, rfl⟩
        have hO := HO.out.setCell 3 rfl 4 (.int .i64 a4)
        rw [hx17] at hO
        replace HO := Lib.hid (show Own w D x17 [blkF f vr (.map (some b)) ins, rowRl vr rl, rngR encK b r (mapU (expD now m done)) (⟨a0, a1, a2, a3, a4⟩ :: done), blkR bk (.cells #[.int .i64 a0, .int .i64 a1, .int .i64 a2, .int .i64 a3, .int .i64 a4] 192), blkR bu (.cells #[.int .i64 0, .int .i64 0] 189)] from hO)
        clear hO
        have k4_0_0 : x17.cell? ⟨bu, 0, none⟩ = some (.int .i64 0) := HO.out.cell 4 rfl 0 rfl
        have lk4_0_0 : x17.frozen? ⟨bu, 0, none⟩ = false := HO.out.frz 4 rfl 0
        have k4_0_1 : x17.cell? ⟨bu, 1, none⟩ = some (.int .i64 0) := HO.out.cell 4 rfl 1 rfl
        have lk4_0_1 : x17.frozen? ⟨bu, 1, none⟩ = false := HO.out.frz 4 rfl 1
        obtain ⟨x18, hx18⟩ : ∃ y, x17.setCell ⟨bu, 0, none⟩ (.int .i64 la) = y := ⟨_, rfl⟩
        have hO := HO.out.setCell 4 rfl 0 (.int .i64 la)
        rw [hx18] at hO
        replace HO := Lib.hid (show Own w D x18 [blkF f vr (.map (some b)) ins, rowRl vr rl, rngR encK b r (mapU (expD now m done)) (⟨a0, a1, a2, a3, a4⟩ :: done), blkR bk (.cells #[.int .i64 a0, .int .i64 a1, .int .i64 a2, .int .i64 a3, .int .i64 a4] 192), blkR bu (.cells #[.int .i64 la, .int .i64 0] 189)] from hO)
        clear hO
        have k4_1_1 : x18.cell? ⟨bu, 1, none⟩ = some (.int .i64 0) := HO.out.cell 4 rfl 1 rfl
        have lk4_1_1 : x18.frozen? ⟨bu, 1, none⟩ = false := HO.out.frz 4 rfl 1
        obtain ⟨x19, hx19⟩ : ∃ y, x18.setCell ⟨bu, 1, none⟩ (.int .i64 nu) = y := ⟨_, rfl⟩
        have hO := HO.out.setCell 4 rfl 1 (.int .i64 nu)
        rw [hx19] at hO
        replace HO := Lib.hid (show Own w D x19 [blkF f vr (.map (some b)) ins, rowRl vr rl, rngR encK b r (mapU (expD now m done)) (⟨a0, a1, a2, a3, a4⟩ :: done), blkR bk (.cells #[.int .i64 a0, .int .i64 a1, .int .i64 a2, .int .i64 a3, .int .i64 a4] 192), blkR bu (.cells #[.int .i64 la, .int .i64 nu] 189)] from hO)
        clear hO
        have z4_0 : x19.cell? ⟨bu, 0, none⟩ = some (.int .i64 la) := HO.out.cell 4 rfl 0 rfl
        by_cases hl : la < now
        · by_cases hq : 400 < now - la
          · have HOL := Lib.hid (show oldU now ⟨la, nu⟩ = true by simp [oldU, hl, hq])
            have hd : decide (la < now) = true := by simpa using hl
            have hd2 : decide (400 < now - la) = true := by simpa using hq
            go_wp2
            clear hx11 hbk hx12 hbu k3_0_0 lk3_0_0 k3_0_1 lk3_0_1 k3_0_2 lk3_0_2 k3_0_3 lk3_0_3 k3_0_4 lk3_0_4 hx13 k3_1_1 lk3_1_1 k3_1_2 lk3_1_2 k3_1_3 lk3_1_3 k3_1_4 lk3_1_4 hx14 k3_2_2 lk3_2_2 k3_2_3 lk3_2_3 k3_2_4 lk3_2_4 hx15 k3_3_3 lk3_3_3 k3_3_4 lk3_3_4 hx16 k3_4_4 lk3_4_4 hx17 k4_0_0 lk4_0_0 k4_0_1 lk4_0_1 hx18 k4_1_1 lk4_1_1 hx19 z4_0
            clear hnx hent
            have c1 := cell_regrown (show x19.cell? ⟨f, 1, none⟩ = some (.map (some b)) from HO.out.cell 0 rfl 1 rfl)
            have e0 := cell_regrown (show x19.cell? ⟨bk, 0, none⟩ = some (.int .i64 a0) from HO.out.cell 3 rfl 0 rfl)
            have e1 := cell_regrown (show x19.cell? ⟨bk, 1, none⟩ = some (.int .i64 a1) from HO.out.cell 3 rfl 1 rfl)
            have e2 := cell_regrown (show x19.cell? ⟨bk, 2, none⟩ = some (.int .i64 a2) from HO.out.cell 3 rfl 2 rfl)
            have e3 := cell_regrown (show x19.cell? ⟨bk, 3, none⟩ = some (.int .i64 a3) from HO.out.cell 3 rfl 3 rfl)
            have e4 := cell_regrown (show x19.cell? ⟨bk, 4, none⟩ = some (.int .i64 a4) from HO.out.cell 3 rfl 4 rfl)
            refine wp_region_R 5 (by kernel_rfl) (by kernel_rfl) ?_
            simp only [List.take, List.drop]
            iterate 5 (first | (refine wpR_want (by kernel_rfl) rfl rfl ?_; intro K hK; go_big_quiet_op; go_big_quiet_on) | (refine wpR_is (by kernel_rfl) rfl _ (fun w _ => rfl) ?_; simp only [Act.put, List.setIfInBounds_toArray, List.set_cons_succ, List.set_cons_zero]))
            refine wpR_nil (by kernel_rfl) (by simp) ?_
            rintro w5 hb5
            simp only [exAll, List.drop]
            clear c1 e0 e1 e2 e3 e4
            replace HO := Lib.hid (HO.out.stay hb5)
            clear hb5
            obtain ⟨w6, hdel, hO⟩ := HO.out.rngDel (P := Tryz.prog) 2 rfl keyK Tryz.underlying119 ⟨a0, a1, a2, a3, a4⟩ 0 192
            rw [mapU_del HND2.out, exp_del HND.out HMEM.out HOL.out] at hO
            replace HO := Lib.hid (show Own w D w6 [blkF f vr (.map (some b)) ins, rowRl vr rl, rngR encK b r (mapU (expD now m (⟨a0, a1, a2, a3, a4⟩ :: done))) (⟨a0, a1, a2, a3, a4⟩ :: done)] from hO.take 3)
            clear hO
            have HLT := Lib.hid (show leftN w6 b r < leftN wr b r by rw [leftN_eq HO.out 2 rfl encK_inj, HLN.out]; exact meas_lt (.inr (exp_del HND.out HMEM.out HOL.out).symm) HMEM.out HKD.out)
            go_wp2
            go_roundw
            case rel => exact ⟨_, HO.out⟩
            case measure => exact HLT.out
          · have HOL := Lib.hid (show oldU now ⟨la, nu⟩ = false by simp [oldU, hl, hq])
            have hd : decide (la < now) = true := by simpa using hl
            have hd2 : decide (400 < now - la) = false := by simpa using hq
            have HO3 := Lib.hid (show Own w D x19 [blkF f vr (.map (some b)) ins, rowRl vr rl, rngR encK b r (mapU (expD now m (⟨a0, a1, a2, a3, a4⟩ :: done))) (⟨a0, a1, a2, a3, a4⟩ :: done)] by rw [← exp_keep HND.out HMEM.out HOL.out]; exact HO.out.take 3)
            have HLT := Lib.hid (show leftN x19 b r < leftN wr b r by rw [leftN_eq HO3.out 2 rfl encK_inj, HLN.out]; exact meas_lt (.inl (exp_keep HND.out HMEM.out HOL.out).symm) HMEM.out HKD.out)
            go_wp2
            go_roundw
            case rel => exact ⟨_, HO3.out⟩
            case measure => exact HLT.out
        · have HOL := Lib.hid (show oldU now ⟨la, nu⟩ = false by simp [oldU, hl])
          have hd : decide (la < now) = false := by simpa using hl
          have HO3 := Lib.hid (show Own w D x19 [blkF f vr (.map (some b)) ins, rowRl vr rl, rngR encK b r (mapU (expD now m (⟨a0, a1, a2, a3, a4⟩ :: done))) (⟨a0, a1, a2, a3, a4⟩ :: done)] by rw [← exp_keep HND.out HMEM.out HOL.out]; exact HO.out.take 3)
          have HLT := Lib.hid (show leftN x19 b r < leftN wr b r by rw [leftN_eq HO3.out 2 rfl encK_inj, HLN.out]; exact meas_lt (.inl (exp_keep HND.out HMEM.out HOL.out).symm) HMEM.out HKD.out)
          go_wp2
          go_roundw
          case rel => exact ⟨_, HO3.out⟩
          case measure => exact HLT.out
end

end Go.Proofs.YtbolfkojebbejaaGreatDoor
