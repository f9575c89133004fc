/- Maps: a block that holds the entries of a list, and the runs of lookup, store, delete and len on it. No program in sight. -/
import Derived.Test.YthdnonoheochhaaGreatDoorUpd
namespace Go.Proofs.YthdnonoheochhaaGreatDoor
open Go.RowKit
set_option linter.unusedSectionVars false
section
variable {α : Type} [DecidableEq α]
def asc (k : α) : List (α × Value) → Option Value
  | [] => none
  | x :: l => if k = x.1 then some x.2 else asc k l
def ascIx (k : α) : List (α × Value) → Nat → Option (Nat × Value)
  | [], _ => none
  | x :: l, i => if k = x.1 then some (i, x.2) else ascIx k l (i + 1)
def mset (k : α) (v : Value) : List (α × Value) → List (α × Value)
  | [] => [(k, v)]
  | x :: l => if k = x.1 then (k, v) :: l else x :: mset k v l
def mdel (k : α) : List (α × Value) → List (α × Value)
  | [] => []
  | x :: l => if k = x.1 then l else x :: mdel k l
theorem ascIx_asc (k : α) : ∀ (l : List (α × Value)) (i : Nat), (ascIx k l i).map (·.2) = asc k l
  | [], _ => rfl
  | x :: l, i => by unfold ascIx asc; split <;> simp [ascIx_asc k l (i + 1)]
structure KeyRun (P : Program) (t : TypeId) (enc : α → Value) : Prop where
  check : ∀ e k w, (Instr.checkKey e 10000 t (enc k)).run P w = .ok () w
  find : ∃ desc, P.underlying t = some desc ∧ ((∀ a b, Instr.sameNow desc (enc a) (enc b) = some (decide (a = b))) ∨
    ((∀ a b, Instr.sameNow desc (enc a) (enc b) = none) ∧ ∀ a b w, (Op.equal t (enc a) (enc b)).run P w = .ok (decide (a = b)) w))
  bits : ∀ a, Instr.sameBits 10000 (enc a) (enc a) = true
def entR (enc : α → Value) (es : List MapEntry) (m : List (α × Value)) : Prop := es.map (fun e => (e.key, e.val)) = m.map fun x => (enc x.1, x.2)
def MapB (enc : α → Value) (w : World) (b : Nat) (m : List (α × Value)) : Prop := ∃ es clk, w.heap[b]? = some (.map es clk) ∧ entR enc es.toList m
theorem MapB.lt {enc : α → Value} {w : World} {b : Nat} {m : List (α × Value)} (h : MapB enc w b m) : b < w.heap.size := by
  obtain ⟨es, clk, h, _⟩ := h; exact (Array.getElem?_eq_some_iff.1 h).1
theorem MapB.upd {enc : α → Value} {F : Nat → Prop} {w w' : World} {b : Nat} {m : List (α × Value)} (h : MapB enc w b m) (hu : Upd F w w') (hF : ¬ F b) : MapB enc w' b m := by
  obtain ⟨es, clk, h1, h2⟩ := h
  exact ⟨es, clk, (hu.block b (Array.getElem?_eq_some_iff.1 h1).1 hF).trans h1, h2⟩
theorem MapB.stay {enc : α → Value} {w w' : World} {b : Nat} {m : List (α × Value)} (hb : Below w.heap.size w w') (h : MapB enc w b m) : MapB enc w' b m := h.upd (F := fun _ => False) (Upd.of_below hb) id
variable {P : Program} {t : TypeId} {enc : α → Value}
theorem entR_cons {enc : α → Value} {es : List MapEntry} {x : α × Value} {m : List (α × Value)} (h : entR enc es (x :: m)) : ∃ e es', es = e :: es' ∧ e.key = enc x.1 ∧ e.val = x.2 ∧ entR enc es' m := by
  cases es with
  | nil => simp [entR] at h
  | cons e es' =>
    simp only [entR, List.map_cons, List.cons.injEq, Prod.mk.injEq] at h
    exact ⟨e, es', rfl, h.1.1, h.1.2, h.2⟩
theorem entR_nil {enc : α → Value} {es : List MapEntry} (h : entR enc es []) : es = [] := by simpa [entR] using h
theorem findNow_run (desc : TypeDesc) (hn : ∀ a b, Instr.sameNow desc (enc a) (enc b) = some (decide (a = b))) (k : α) : ∀ (m : List (α × Value)) (es : List MapEntry) (i : Nat), entR enc es m → Instr.findNow desc (enc k) es i = some (ascIx k m i)
  | [], es, i, h => by rw [entR_nil h]; rfl
  | x :: m, es, i, h => by
    obtain ⟨e, es', rfl, h1, h2, h3⟩ := entR_cons h
    unfold Instr.findNow ascIx
    rw [h1, hn]
    by_cases hk : k = x.1
    · simp [hk, h2]
    · simp [hk, findNow_run desc hn k m es' (i + 1) h3]
theorem findAsk_run (he : ∀ a b w, (Op.equal t (enc a) (enc b)).run P w = .ok (decide (a = b)) w) (k : α) (w : World) : ∀ (m : List (α × Value)) (es : List MapEntry) (i : Nat), entR enc es m → (Instr.findAsking t (enc k) es i).run P w = .ok (ascIx k m i) w
  | [], es, i, h => by rw [entR_nil h]; rfl
  | x :: m, es, i, h => by
    obtain ⟨e, es', rfl, h1, h2, h3⟩ := entR_cons h
    unfold Instr.findAsking ascIx
    rw [Sem.run_bind, h1, he]
    by_cases hk : k = x.1
    · simp [hk, h2, Result.andThen]
    · simp [hk, Result.andThen, findAsk_run he k w m es' (i + 1) h3]
theorem KeyRun.findKey (K : KeyRun P t enc) (k : α) (w : World) {m : List (α × Value)} {es : List MapEntry} (h : entR enc es m) : (Instr.findKey t (enc k) es).run P w = .ok (ascIx k m 0) w := by
  obtain ⟨desc, hu, hf⟩ := K.find
  unfold Instr.findKey
  rw [Sem.run_bind, show (underlying t).run P w = .ok desc w by simp [underlying, go_sem, hu]]
  simp only [Result.andThen_ok]
  rcases hf with hn | ⟨hn, he⟩
  · rw [findNow_run desc hn k m es 0 h]; rfl
  · cases m with
    | nil => rw [entR_nil h]; rfl
    | cons x m =>
      have h' := h
      obtain ⟨e, es', rfl, h1, h2, h3⟩ := entR_cons h
      have : Instr.findNow desc (enc k) (e :: es') 0 = none := by unfold Instr.findNow; rw [h1, hn]
      rw [this]
      exact findAsk_run he k w (x :: m) (e :: es') 0 h'
theorem run_getObj {w : World} {b : Nat} {es : Array MapEntry} {clk : Nat} (h : w.heap[b]? = some (.map es clk)) : (getObj b).run P w = .ok (.map es clk) w := by simp [getObj, Sem.run, h]
def lookV (z : Value) (ok : Bool) (r : Option Value) : Value := if ok then .tuple #[r.getD z, .bool r.isSome] else r.getD z
theorem KeyRun.lookup (K : KeyRun P t enc) {T e : TypeId} (hT : P.underlying T = some (.map t e)) {w : World} {z : Value} (hz : (zeroValue e).run P w = .ok z w) {b : Nat} {m : List (α × Value)} (h : MapB enc w b m) (k : α) (ok : Bool) :
    (Instr.lookup T (.map (some b)) (enc k) ok).run P w = .ok (lookV z ok (asc k m)) w := by
  obtain ⟨es, clk, h1, h2⟩ := h
  unfold Instr.lookup
  rw [Sem.run_bind, show (underlying T).run P w = .ok (.map t e) w by simp [underlying, go_sem, hT]]
  simp only [Result.andThen_ok, Sem.run_bind, run_getObj h1, Sem.run_pure, K.check, K.findKey k w h2]
  rw [← ascIx_asc k m 0]
  cases ascIx k m 0 with
  | none => simp only [Sem.run_bind, hz, Result.andThen_ok, Sem.run_pure]; rfl
  | some r => rfl
theorem KeyRun.lookup_nil (K : KeyRun P t enc) {T e : TypeId} (hT : P.underlying T = some (.map t e)) {w : World} {z : Value} (hz : (zeroValue e).run P w = .ok z w) (k : α) (ok : Bool) :
    (Instr.lookup T (.map none) (enc k) ok).run P w = .ok (lookV z ok none) w := by
  unfold Instr.lookup
  rw [Sem.run_bind, show (underlying T).run P w = .ok (.map t e) w by simp [underlying, go_sem, hT]]
  simp only [Result.andThen_ok, Sem.run_bind, Sem.run_pure, K.check]
  rw [K.findKey k w (m := []) (es := []) rfl]
  simp only [Result.andThen_ok, ascIx, Sem.run_bind, hz, Sem.run_pure]
  rfl
theorem ascIx_some {k : α} : ∀ {m : List (α × Value)} {i j : Nat} {v : Value}, ascIx k m i = some (j, v) → i ≤ j ∧ ∃ n, j = i + n ∧ (m[n]?).map (·.1) = some k
  | [], _, _, _, h => by cases h
  | x :: m, i, j, v, h => by
    unfold ascIx at h
    split at h
    · rename_i hk; cases h; exact ⟨Nat.le_refl _, 0, rfl, by simp [hk]⟩
    · obtain ⟨h1, n, h2, h3⟩ := ascIx_some h
      exact ⟨by omega, n + 1, by omega, by simpa using h3⟩
theorem mset_none {k : α} {v : Value} : ∀ {m : List (α × Value)} {i : Nat}, ascIx k m i = none → mset k v m = m ++ [(k, v)]
  | [], _, _ => rfl
  | x :: m, i, h => by
    unfold ascIx at h
    split at h
    · cases h
    · rename_i hk; unfold mset; rw [if_neg hk, mset_none h]; rfl
theorem entR_mset {k : α} {v : Value} : ∀ {m : List (α × Value)} {es : List MapEntry} {i n : Nat} {u : Value}, entR enc es m → ascIx k m i = some (i + n, u) → entR enc (es.modify n fun e => { e with key := enc k, val := v }) (mset k v m)
  | [], _, _, _, _, _, h => by cases h
  | x :: m, es, i, n, u, h, hi => by
    obtain ⟨e, es', rfl, h1, h2, h3⟩ := entR_cons h
    unfold ascIx at hi
    unfold mset
    split at hi
    · rename_i hk
      obtain rfl : n = 0 := by simp at hi; omega
      rw [if_pos hk]
      simp only [entR, List.modify_zero_cons, List.map_cons]
      simp only [entR] at h3
      rw [h3]
    · rename_i hk
      rw [if_neg hk]
      have hle := (ascIx_some hi).1
      obtain ⟨n', rfl⟩ : ∃ n', n = n' + 1 := ⟨n - 1, by omega⟩
      have ih := entR_mset (v := v) h3 (show ascIx k m (i + 1) = some (i + 1 + n', u) by rw [hi]; congr 2; omega)
      simp only [entR, List.modify_succ_cons, List.map_cons] at ih ⊢
      rw [ih, h1, h2]
theorem entR_mdel {k : α} : ∀ {m : List (α × Value)} {es : List MapEntry} {i n : Nat} {u : Value}, entR enc es m → ascIx k m i = some (i + n, u) → entR enc (es.eraseIdx n) (mdel k m)
  | [], _, _, _, _, _, h => by cases h
  | x :: m, es, i, n, u, h, hi => by
    obtain ⟨e, es', rfl, h1, h2, h3⟩ := entR_cons h
    unfold ascIx at hi
    unfold mdel
    split at hi
    · rename_i hk
      obtain rfl : n = 0 := by simp at hi; omega
      rw [if_pos hk]
      simpa using h3
    · rename_i hk
      rw [if_neg hk]
      have hle := (ascIx_some hi).1
      obtain ⟨n', rfl⟩ : ∃ n', n = n' + 1 := ⟨n - 1, by omega⟩
      have ih := entR_mdel h3 (show ascIx k m (i + 1) = some (i + 1 + n', u) by rw [hi]; congr 2; omega)
      simp only [entR, List.eraseIdx_cons_succ, List.map_cons] at ih ⊢
      rw [ih, h1, h2]
theorem mdel_none {k : α} : ∀ {m : List (α × Value)} {i : Nat}, ascIx k m i = none → mdel k m = m
  | [], _, _ => rfl
  | x :: m, i, h => by
    unfold ascIx at h
    split at h
    · cases h
    · rename_i hk; unfold mdel; rw [if_neg hk, mdel_none h]
theorem setObj_map {w : World} {b : Nat} {es : Array MapEntry} {clk : Nat} (h : w.heap[b]? = some (.map es clk)) (o : Obj) :
    (setObj b o).run P w = .ok () { w with heap := w.heap.setIfInBounds b o } := by simp [setObj, Sem.run, h]
theorem upd_set (w : World) (b : Nat) (o : Obj) : Upd (fun x => x = b) w { w with heap := w.heap.setIfInBounds b o } :=
  ⟨rfl, rfl, rfl, by simp, fun k _ hk => by show (w.heap.setIfInBounds b o)[k]? = _; rw [Array.getElem?_setIfInBounds, if_neg (by simpa using fun h => hk h.symm)]⟩
theorem get_set {w : World} {b : Nat} (o : Obj) (h : b < w.heap.size) : (w.heap.setIfInBounds b o)[b]? = some o := by rw [Array.getElem?_setIfInBounds]; simp [h]
theorem KeyRun.delete (K : KeyRun P t enc) {T e : TypeId} (hT : P.underlying T = some (.map t e)) {w : World} {b : Nat} {m : List (α × Value)} (h : MapB enc w b m) (k : α) (ty kt : TypeId) :
    ∃ w', (Builtin.delete_ #[T, kt] ty #[.map (some b), enc k]).run P w = .ok (.tuple #[]) w' ∧ MapB enc w' b (mdel k m) ∧ Upd (fun x => x = b) w w' := by
  obtain ⟨es, clk, h1, h2⟩ := h
  have hlt := (Array.getElem?_eq_some_iff.1 h1).1
  unfold Builtin.delete_
  simp only [List.getElem?_toArray, List.getElem?_cons_zero, List.getElem?_cons_succ]
  rw [Sem.run_bind, show (underlying T).run P w = .ok (.map t e) w by simp [underlying, go_sem, hT]]
  simp only [Result.andThen_ok, Sem.run_bind, run_getObj h1, K.check, K.findKey k w h2]
  cases hi : ascIx k m 0 with
  | none =>
    simp only [Sem.run_bind, setObj_map h1, Result.andThen_ok, Sem.run_pure]
    refine ⟨_, rfl, ⟨_, _, get_set _ hlt, ?_⟩, upd_set _ _ _⟩
    rw [mdel_none hi]; exact h2
  | some r =>
    obtain ⟨j, u⟩ := r
    obtain ⟨_, n, hj, hk⟩ := ascIx_some hi
    obtain rfl : j = n := by omega
    simp only [Sem.run_bind, setObj_map h1, Result.andThen_ok, Sem.run_pure]
    refine ⟨_, rfl, ⟨_, _, get_set _ hlt, ?_⟩, upd_set _ _ _⟩
    have hj' : j < es.size := by
      have hl : es.toList.length = m.length := by have := congrArg List.length h2; simpa using this
      have : j < m.length := by
        rcases Nat.lt_or_ge j m.length with h | h
        · exact h
        · rw [List.getElem?_eq_none h] at hk; simp at hk
      have h4 : j < es.toList.length := by omega
      simpa using h4
    rw [Array.eraseIdxIfInBounds, dif_pos hj', Array.toList_eraseIdx]
    exact entR_mdel (i := 0) (u := u) h2 (by rw [hi]; simp)
theorem KeyRun.delete_nil (K : KeyRun P t enc) {T e : TypeId} (hT : P.underlying T = some (.map t e)) (w : World) (k : α) (ty kt : TypeId) :
    (Builtin.delete_ #[T, kt] ty #[.map none, enc k]).run P w = .ok (.tuple #[]) w := by
  unfold Builtin.delete_
  simp only [List.getElem?_toArray, List.getElem?_cons_zero, List.getElem?_cons_succ]
  rw [Sem.run_bind, show (underlying T).run P w = .ok (.map t e) w by simp [underlying, go_sem, hT]]
  simp only [Result.andThen_ok, Sem.run_bind, K.check, Sem.run_pure]
end
theorem run_len_map {α : Type} {enc : α → Value} {P : Program} {T k e : TypeId} (hT : P.underlying T = some (.map k e)) {w : World} {b : Nat} {m : List (α × Value)} (h : MapB enc w b m) (ty : TypeId) :
    (Builtin.len_ #[T] ty #[.map (some b)]).run P w = .ok (.int .i64 m.length) w := by
  obtain ⟨es, clk, h1, h2⟩ := h
  have hl : es.size = m.length := by have := congrArg List.length h2; simpa using this
  unfold Builtin.len_
  simp only [List.getElem?_toArray, List.getElem?_cons_zero]
  rw [Sem.run_bind, show (underlying T).run P w = .ok (.map k e) w by simp [underlying, go_sem, hT]]
  simp only [Result.andThen_ok, Sem.run_bind, run_getObj h1, Sem.run_pure, hl, goInt]
abbrev encI (n : Int) : Value := .int .i64 n
theorem keyInt (P : Program) (t : TypeId) (h : P.underlying t = some (.int .i64)) : KeyRun P t encI where
  check := fun e k w => by
    unfold Instr.checkKey
    rw [Sem.run_bind, show (underlying t).run P w = .ok (.int .i64) w by simp [underlying, go_sem, h]]
    rfl
  find := ⟨.int .i64, h, .inl fun a b => by simp [Instr.sameNow]; rfl⟩
  bits := fun a => by simp [Instr.sameBits]
end Go.Proofs.YthdnonoheochhaaGreatDoor
