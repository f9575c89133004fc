/- The same, as a walk in the order of the text over a frame that is written out: operations with one known value by the quiet step, the others by a property. No program in sight. -/
import Derived.Test.YthdnonoheochhaaGreatDoorRegion
namespace Go.Proofs.YthdnonoheochhaaGreatDoor
open Go.RowKit Go.Sort
set_option linter.unusedVariables false
set_option maxRecDepth 100000
def lastW (ops : Array Oper) (i : Nat) (s : Tmp) : Option Nat := (List.range i).find? fun j => dstOf ops j == some s
def lexAt (ops : Array Oper) (i : Nat) (s : Tmp) : Bool :=
  match lastW ops i s with
  | some j => decide (prodOf ops i s = some j)
  | none => (prodOf ops i s).isNone && origAt ops i s
def lexOp (ops : Array Oper) (i : Nat) (o : Oper) : Bool := (o.looksAt ops).all (lexAt ops i)
def noEx (ops : Array Oper) (o : Oper) (ds : List Tmp) : Bool := (o.looksAt ops).all fun s => !ds.contains s
def noSel (o : Oper) : Bool := match o.op with | .select _ _ => false | _ => true
structure Rep (ops : Array Oper) (a0 : Act) (G : List Pred) (a : Act) (ex : List (Tmp × Pred)) : Prop where
  eqs : ∀ j d A, j < G.length → lastW ops G.length d = some j → G[j]? = some A → d ∉ ex.map (·.1) → ∀ v w, A v w → v = a.eval (.tmp d)
  exs : ∀ j d A, j < G.length → lastW ops G.length d = some j → G[j]? = some A → ∀ B, (d, B) ∈ ex → ∀ v w, A v w → B v w
  untouched : ∀ s, lastW ops G.length s = none → a.eval (.tmp s) = a0.eval (.tmp s)
  size : a.tmps.size = a0.tmps.size
  defers : a.defers = a0.defers
def exAll (w : World) (k : Act → Prop) : List (Tmp × Pred) → Act → Prop
  | [], a => k a
  | (d, A) :: ex, a => ∀ u, A u w → exAll w k ex (a.put (some d) u)
def wpR (P : Program) (ops : Array Oper) (w0 : World) (a0 : Act) (F : List Pred → Prop) (i : Nat) (l : List Oper) (a : Act) (ex : List (Tmp × Pred)) : Prop :=
  ∀ G, G.length = i → (∀ j, j < l.length → l[j]? = ops[i + j]?) → (∀ j, j < i + l.length → ∃ d, dstOf ops j = some d ∧ d < a0.tmps.size ∧ ∀ k, k < i + l.length → k ≠ j → dstOf ops k ≠ some d) → Rep ops a0 G a ex → wpS P ops w0 a0 F l G
theorem lastW_some {ops : Array Oper} {i : Nat} {s : Tmp} {j : Nat} (h : lastW ops i s = some j) : j < i ∧ dstOf ops j = some s := by
  unfold lastW at h
  have h1 := List.find?_some h
  have h2 := List.mem_of_find?_eq_some h
  exact ⟨List.mem_range.1 h2, by simpa using h1⟩
section
variable {P : Program} {ops : Array Oper} {w0 : World} {a0 : Act} {F : List Pred → Prop} {i : Nat} {o : Oper} {rest : List Oper} {a : Act} {ex : List (Tmp × Pred)}
theorem Rep.look {G : List Pred} (hrep : Rep ops a0 G a ex) (hi : G.length = i) {a' : Act} {w : World} {s : Tmp} (hl : lexAt ops i s = true) (he : envAt ops a0 G i a' w s) :
    (s ∉ ex.map (·.1) → a'.eval (.tmp s) = a.eval (.tmp s)) ∧ ∀ B, (s, B) ∈ ex → (lastW ops i s).isSome = true → B (a'.eval (.tmp s)) w := by
  subst hi
  unfold lexAt at hl
  unfold envAt at he
  cases hw : lastW ops G.length s with
  | some j =>
    rw [hw] at hl
    simp only [decide_eq_true_eq] at hl
    rw [hl] at he
    simp only at he
    obtain ⟨hj, _⟩ := lastW_some hw
    have hg : G[j]? = some (G.getD j (fun _ _ => True)) := by simp [hj]
    exact ⟨fun hex => hrep.eqs j s _ hj hw hg hex _ _ he, fun B hB _ => hrep.exs j s _ hj hw hg B hB _ _ he⟩
  | none =>
    rw [hw] at hl
    simp only [Bool.and_eq_true, Option.isNone_iff_eq_none] at hl
    rw [hl.1] at he
    simp only [hl.2, if_true] at he
    exact ⟨fun _ => he.trans (hrep.untouched s hw).symm, fun _ _ h => by cases h⟩
theorem Rep.next {G : List Pred} (hrep : Rep ops a0 G a ex) (hi : G.length = i) {d : Tmp} (hd : dstOf ops i = some d) (hds : d < a0.tmps.size) (huniq : ∀ k, k < i → dstOf ops k ≠ some d) (hex : d ∉ ex.map (·.1)) {v : Value} {A : Pred} (hA : ∀ u w, A u w → u = v) :
    Rep ops a0 (G ++ [A]) (a.put (some d) v) ex := by
  subst hi
  have hlw : ∀ s, lastW ops (G.length + 1) s = if s = d then some G.length else lastW ops G.length s := by
    intro s
    unfold lastW
    rw [List.range_succ, List.find?_append]
    by_cases hs : s = d
    · subst hs
      have : (List.range G.length).find? (fun j => dstOf ops j == some s) = none := by
        rw [List.find?_eq_none]
        intro k hk
        have := huniq k (List.mem_range.1 hk)
        simpa using this
      rw [this]
      simp [hd]
    · rw [if_neg hs]
      have : ([G.length] : List Nat).find? (fun j => dstOf ops j == some s) = none := by
        simp [hd]; exact fun h => hs h.symm
      rw [this]; simp
  refine ⟨fun j s B hj hw hg hex' u w hB => ?_, fun j s B hj hw hg C hC u w hB => ?_, fun s hs => ?_, ?_, ?_⟩
  · rw [List.length_append, List.length_singleton, hlw] at hw
    by_cases hs : s = d
    · subst hs
      rw [if_pos rfl] at hw
      cases hw
      simp at hg
      subst hg
      rw [eval_put_same (by rw [hrep.size]; exact hds)]
      exact hA u w hB
    · rw [if_neg hs] at hw
      obtain ⟨hjl, _⟩ := lastW_some hw
      rw [List.getElem?_append_left hjl] at hg
      rw [eval_put_ne (Ne.symm hs)]
      exact hrep.eqs j s B hjl hw hg hex' u w hB
  · rw [List.length_append, List.length_singleton, hlw] at hw
    by_cases hs : s = d
    · subst hs; exact absurd (List.mem_map.2 ⟨(s, C), hC, rfl⟩) hex
    · rw [if_neg hs] at hw
      obtain ⟨hjl, _⟩ := lastW_some hw
      rw [List.getElem?_append_left hjl] at hg
      exact hrep.exs j s B hjl hw hg C hC u w hB
  · rw [List.length_append, List.length_singleton, hlw] at hs
    by_cases hsd : s = d
    · rw [if_pos hsd] at hs; cases hs
    · rw [if_neg hsd] at hs
      rw [eval_put_ne (Ne.symm hsd)]
      exact hrep.untouched s hs
  · simpa [Act.put] using hrep.size
  · simpa [Act.put] using hrep.defers
theorem env_mem {G : List Pred} {a' : Act} {w : World} : ∀ (ss : List Tmp), envAll ops a0 G i a' w ss → ∀ s ∈ ss, envAt ops a0 G i a' w s
  | [], _, _, h => by cases h
  | s :: ss, ⟨h1, h2⟩, t, ht => by
    rcases List.mem_cons.1 ht with h | h
    · subst h; exact h1
    · exact env_mem ss h2 t h
theorem yielded_eval {tmps tmps' : Array Value} {d : List Deferred} {g s : Nat} (hs : dstOf ops g = some s) (h : (⟨tmps, d⟩ : Act).eval (.tmp s) = (⟨tmps', d⟩ : Act).eval (.tmp s)) : yielded ops tmps g = yielded ops tmps' g := by
  unfold yielded
  have hb : (ops[g]?).bind (·.dst) = some s := hs
  rw [hb]
  simp only [Option.bind_some]
  have h' : tmps.getD s undef = tmps'.getD s undef := h
  rw [Array.getD_eq_getD_getElem?, Array.getD_eq_getD_getElem?] at h'
  cases h1 : tmps[s]? with
  | none =>
    cases h2 : tmps'[s]? with
    | none => rfl
    | some v => rw [h1, h2] at h'; simp only [Option.getD_none, Option.getD_some] at h'; subst h'; rfl
  | some u =>
    cases h2 : tmps'[s]? with
    | none => rw [h1, h2] at h'; simp only [Option.getD_none, Option.getD_some] at h'; subst h'; rfl
    | some v => rw [h1, h2] at h'; simp only [Option.getD_some] at h'; subst h'; rfl
theorem wanted_same {a' : Act} (h : ∀ s ∈ o.looksAt ops, a'.eval (.tmp s) = a.eval (.tmp s)) (hdst : ∀ g b, o.guard = some (g, b) → (dstOf ops g).isSome = true) : Region.wanted o (yielded ops a'.tmps) = Region.wanted o (yielded ops a.tmps) := by
  unfold Region.wanted
  cases hg : o.guard with
  | none => rfl
  | some gb =>
    obtain ⟨g, b⟩ := gb
    obtain ⟨s, hs⟩ := Option.isSome_iff_exists.1 (hdst g b hg)
    have hmem : s ∈ o.looksAt ops := by
      unfold Oper.looksAt
      rw [hg]
      have hb : (ops[g]?).bind (·.dst) = some s := hs
      simp [hb]
    have := yielded_eval (ops := ops) (tmps := a'.tmps) (tmps' := a.tmps) (d := []) hs (h s hmem)
    simp only [this]
def guardOK (ops : Array Oper) (o : Oper) : Bool := match o.guard with | some (g, _) => (dstOf ops g).isSome | none => true
def plainOp (ops : Array Oper) (i : Nat) (o : Oper) (ex : List (Tmp × Pred)) : Bool := lexOp ops i o && noEx ops o (ex.map (·.1)) && noSel o && guardOK ops o && (match o.dst with | some d => !(ex.map (·.1)).contains d | none => false)
theorem plain_look {G : List Pred} (hrep : Rep ops a0 G a ex) (hi : G.length = i) (hp : plainOp ops i o ex = true) {a' : Act} {w : World} (he : envAll ops a0 G i a' w (o.looksAt ops)) : ∀ s ∈ o.looksAt ops, a'.eval (.tmp s) = a.eval (.tmp s) := by
  intro s hs
  simp only [plainOp, lexOp, noEx, Bool.and_eq_true, List.all_eq_true] at hp
  refine (hrep.look hi (hp.1.1.1.1 s hs) (env_mem _ he s hs)).1 ?_
  have := hp.1.1.1.2 s hs
  simpa using this
theorem look_exec {a' : Act} (h : ∀ s ∈ o.looksAt ops, a'.eval (.tmp s) = a.eval (.tmp s)) (hs : noSel o = true) : execOp a'.eval o = execOp a.eval o := by
  refine execOp_congr o (fun cs b e => by simp [noSel, e] at hs) fun x hx => ?_
  cases x with
  | tmp t => exact h t (List.mem_append_left _ (List.mem_filterMap.2 ⟨.tmp t, by simpa using hx, rfl⟩))
  | const v => rfl
  | global g => rfl
  | func f => rfl
theorem look_guard (hp : plainOp ops i o ex = true) : ∀ g b, o.guard = some (g, b) → (dstOf ops g).isSome = true := by
  intro g b hg
  simp only [plainOp, Bool.and_eq_true] at hp
  have := hp.1.2
  simpa [guardOK, hg] using this
def valOp (o : Oper) : Bool := match o.op with
  | .move _ | .assign _ | .pick _ _ _ | .load _ _ | .binOp _ _ _ _ _ | .unOp _ _ _ | .convert _ _ _ | .fieldAddr _ _ _ | .field _ _ _ | .indexAddr _ _ _ | .index _ _ _ | .slice _ _ _ _ _ | .extract _ _ | .build _ _ | .makeFunc _ _ _ | .lookup _ _ _ _ => true
  | .call c => (match c.callee with | .builtin .len => true | .builtin .cap => true | .builtin .min => true | .builtin .max => true | _ => false)
  | _ => false
theorem run_v {P : Program} {s : Sem Value} {w w' : World} {n : Next} (h : (do pure (.value (← s)) : Sem Next).run P w = .ok n w') : ∃ v, n = .value v := by
  rw [Sem.run_bind] at h
  cases hs : s.run P w with
  | ok v w1 => rw [hs] at h; simp [Result.andThen] at h; exact ⟨v, h.1.symm⟩
  | halt x w1 => rw [hs] at h; simp [Result.andThen] at h
theorem valOp_value {P : Program} {o : Oper} (hv : valOp o = true) {ρ : Operand → Value} {w w' : World} {n : Next} (h : (execOp ρ o).run P w = .ok n w') : ∃ v, n = .value v := by
  obtain ⟨dst, op, type, pos, after, guard⟩ := o
  cases op <;> simp only [valOp] at hv
  case move x => simp [execOp] at h; exact ⟨_, h.1.symm⟩
  case assign x => simp [execOp] at h; exact ⟨_, h.1.symm⟩
  case pick c a b =>
    simp only [execOp] at h
    rw [Sem.run_bind] at h
    cases hs : (asBool (ρ c)).run P w with
    | ok v w1 => rw [hs] at h; simp [Result.andThen] at h; exact ⟨_, h.1.symm⟩
    | halt x w1 => rw [hs] at h; simp [Result.andThen] at h
  case call c =>
    obtain ⟨callee, args, ats⟩ := c
    cases callee <;> simp only at hv
    case builtin b => cases b <;> first | (simp at hv; done) | exact run_v h
    all_goals cases hv
  all_goals first | exact run_v h | cases hv
theorem wpR_want (hp : plainOp ops i o ex = true) (hv : valOp o = true) (hw : Region.wanted o (yielded ops a.tmps) = true)
    (h : ∀ K : Act → Prop, (∀ a', wpR P ops w0 a0 F (i + 1) rest a' ex → K a') → o.quiet P a (fun w' => ∃ p : Regrown, w' = grow (redrawn w0 p.d) p.os) K) : wpR P ops w0 a0 F i (o :: rest) a ex := by
  intro G hG hl hd hrep
  obtain ⟨v, hq, hK⟩ := h _ (fun _ h => h)
  have ho : ops[i]? = some o := by simpa using (hl 0 (by simp)).symm
  obtain ⟨d, hdi, hds, huniq⟩ := hd i (by simp)
  have hod : o.dst = some d := by simpa [dstOf, ho] using hdi
  have hex : d ∉ ex.map (·.1) := by
    simp only [plainOp, Bool.and_eq_true] at hp
    have := hp.2
    rw [hod] at this
    simpa using this
  refine ⟨fun u _ => u = v, fun _ _ _ h _ => h, fun a' w hw0 _ he => ?_, ?_⟩
  · rw [hG] at he
    have hlook := plain_look hrep hG hp he
    have hsel : noSel o = true := by simp only [plainOp, Bool.and_eq_true] at hp; exact hp.1.1.2
    rw [wanted_same hlook (look_guard hp), hw, if_pos rfl]
    have h3 := hq w (regrown_of_below hw0)
    unfold Oper.quietAt at h3
    unfold Oper.wp
    rw [look_exec hlook hsel]
    cases hr : (execOp a.eval o).run P w with
    | ok n w' =>
      obtain ⟨u, rfl⟩ := valOp_value hv hr
      rw [hr] at h3
      obtain ⟨e1, e2⟩ := h3
      rw [e1, e2]
      exact ⟨_, rfl, Below.refl _ _, rfl⟩
    | halt x w' => rw [hr] at h3; simp only [Oper.quietUpon] at h3
  · exact hK (G ++ [fun u _ => u = v]) (by simp [hG]) (fun j hj => by have := hl (j + 1) (by simp; omega); simpa [Nat.add_assoc, Nat.add_comm 1 j] using this)
      (fun j hj => by
        obtain ⟨d', h1, h2, h3⟩ := hd j (by simp; omega)
        exact ⟨d', h1, h2, fun k hk => h3 k (by simp; omega)⟩)
      (by rw [hod]; exact hrep.next hG hdi hds (fun k hk => huniq k (by simp; omega) (by omega)) hex (fun u w h => h))
end
section
variable {P : Program} {ops : Array Oper} {w0 : World} {a0 : Act} {F : List Pred → Prop} {i : Nat} {o : Oper} {rest : List Oper} {a : Act} {ex : List (Tmp × Pred)}
end
theorem finS_intro {K : List Value → World → Prop} {w : World} : ∀ (G : List Pred) (pre : List Value), (∀ vs, vs.length = G.length → (∀ j, j < G.length → (G.getD j (fun _ _ => True)) (vs.getD j undef) w) → K (pre ++ vs) w) → finS K w G pre
  | [], pre, h => by simpa [finS] using h [] rfl (fun j hj => by simp at hj)
  | A :: G, pre, h => by
    intro v hv
    refine finS_intro G (pre ++ [v]) fun vs hl hA => ?_
    have := h (v :: vs) (by simp [hl]) (fun j hj => by
      cases j with
      | zero => simpa using hv
      | succ j => simpa using hA j (by simpa using hj))
    simpa using this
theorem exAll_go {w : World} {k : Act → Prop} (u : Tmp → Value) : ∀ (ex : List (Tmp × Pred)) (a : Act), (∀ x ∈ ex, x.2 (u x.1) w) → exAll w k ex a → k (ex.foldl (fun a x => a.put (some x.1) (u x.1)) a)
  | [], a, _, h => h
  | (d, A) :: ex, a, hA, h => exAll_go u ex _ (fun x hx => hA x (List.mem_cons_of_mem _ hx)) (h (u d) (hA (d, A) (List.mem_cons_self ..)))
theorem foldl_put (u : Tmp → Value) : ∀ (ex : List (Tmp × Pred)) (a : Act), (ex.foldl (fun a x => a.put (some x.1) (u x.1)) a).tmps.size = a.tmps.size ∧ (ex.foldl (fun a x => a.put (some x.1) (u x.1)) a).defers = a.defers ∧
    ∀ s, s < a.tmps.size → (ex.foldl (fun a x => a.put (some x.1) (u x.1)) a).eval (.tmp s) = if s ∈ ex.map (·.1) then u s else a.eval (.tmp s)
  | [], a => ⟨rfl, rfl, fun s _ => by simp⟩
  | (d, A) :: ex, a => by
    have h := foldl_put u ex (a.put (some d) (u d))
    have hsz : (a.put (some d) (u d)).tmps.size = a.tmps.size := by simp [Act.put]
    refine ⟨h.1.trans hsz, h.2.1, fun s hs => ?_⟩
    simp only [List.foldl_cons]
    rw [h.2.2 s (by rw [hsz]; exact hs)]
    by_cases hm : s ∈ ex.map (·.1)
    · rw [if_pos hm, if_pos (by simp at hm ⊢; exact .inr hm)]
    · rw [if_neg hm]
      by_cases hsd : s = d
      · subst hsd
        rw [if_pos (by simp), eval_put_same hs]
      · rw [if_neg (by simp at hm ⊢; exact ⟨hsd, hm⟩), eval_put_ne (Ne.symm hsd)]
def exOK (ops : Array Oper) (n size : Nat) (ex : List (Tmp × Pred)) : Bool := ex.all fun x => (lastW ops n x.1).isSome && decide (x.1 < size)
theorem wpR_nil {P : Program} {l : List Oper} {n : Nat} {w0 : World} {a0 a : Act} {Q : Exit → Act → World → Prop} {ex : List (Tmp × Pred)} (hex : exOK l.toArray n a0.tmps.size ex = true) (hn : n ≤ l.length)
    (h : ∀ w', Below w0.heap.size w0 w' → exAll w' (fun a' => wpList P l.toArray Q (l.drop n) a' w') ex a) :
    wpR P l.toArray w0 a0 (fun G => ∀ w', Below w0.heap.size w0 w' → finS (fun vs w' => wpList P l.toArray Q (l.drop n) (putAll a0 (l.take n) vs) w') w' G []) n [] a ex := by
  intro G hG _ hd hrep w' hw
  refine finS_intro G [] fun vs hl hA => ?_
  rw [List.nil_append]
  have htl : (l.take n).length = n := by simp; omega
  have hps := putAll_size (l.take n) vs a0
  have hone : ∀ s j, lastW l.toArray n s = some j → (putAll a0 (l.take n) vs).eval (.tmp s) = vs.getD j undef := by
    intro s j hw'
    obtain ⟨hj, hjd⟩ := lastW_some hw'
    obtain ⟨d, hd1, hd2, hd3⟩ := hd j (by simpa using hj)
    rw [hjd] at hd1
    cases hd1
    have hjl : j < l.length := by omega
    refine putAll_one (l.take n) vs a0 s j l[j] _ (by simp [hj, hjl]) ?_ (by simpa [dstOf, hjl] using hjd) hd2 (fun k o' hk hne => ?_)
    · have : j < vs.length := by rw [hl, hG]; exact hj
      simp [this]
    · have hkn : k < n := by
        rcases Nat.lt_or_ge k n with h | h
        · exact h
        · rw [List.getElem?_eq_none (by omega)] at hk; cases hk
      have := hd3 k (by simpa using hkn) hne
      have hk' : l[k]? = some o' := by simpa [List.getElem?_take, hkn] using hk
      simpa [dstOf, hk'] using this
  have hnone : ∀ s, lastW l.toArray n s = none → (putAll a0 (l.take n) vs).eval (.tmp s) = a0.eval (.tmp s) := by
    intro s hw'
    refine putAll_none (l.take n) vs a0 s fun o ho hod => ?_
    obtain ⟨k, hk, rfl⟩ := List.mem_iff_getElem.1 ho
    rw [htl] at hk
    have hkl : k < l.length := by omega
    have := List.find?_eq_none.1 hw' k (List.mem_range.2 hk)
    have hod' : l[k].dst = some s := by simpa using hod
    simp [dstOf, hkl, hod'] at this
  have hgo := exAll_go (fun d => (putAll a0 (l.take n) vs).eval (.tmp d)) ex a (fun x hx => by
    obtain ⟨d, B⟩ := x
    have h1 := List.all_eq_true.1 hex (d, B) hx
    simp only [Bool.and_eq_true] at h1
    obtain ⟨j, hj⟩ := Option.isSome_iff_exists.1 h1.1
    obtain ⟨hjn, _⟩ := lastW_some hj
    have hg : G[j]? = some (G.getD j (fun _ _ => True)) := by simp [hG, hjn]
    show B ((putAll a0 (l.take n) vs).eval (.tmp d)) w'
    rw [hone d j hj]
    exact hrep.exs j d _ (by omega) (by rw [hG]; exact hj) hg B hx _ _ (hA j (by omega))) (h w' hw)
  have hf := foldl_put (fun d => (putAll a0 (l.take n) vs).eval (.tmp d)) ex a
  have e : ex.foldl (fun a x => a.put (some x.1) ((putAll a0 (l.take n) vs).eval (.tmp x.1))) a = putAll a0 (l.take n) vs := by
    refine act_ext (hf.1.trans (hrep.size.trans hps.1.symm)) (hf.2.1.trans (hrep.defers.trans hps.2.symm)) (fun s hs => ?_)
    rw [hf.1] at hs
    rw [hf.2.2 s hs]
    by_cases hm : s ∈ ex.map (·.1)
    · rw [if_pos hm]
    · rw [if_neg hm]
      cases hlw : lastW l.toArray n s with
      | none => rw [hnone s hlw]; exact hrep.untouched s (by rw [hG]; exact hlw)
      | some j =>
        obtain ⟨hjn, _⟩ := lastW_some hlw
        have hg : G[j]? = some (G.getD j (fun _ _ => True)) := by simp [hG, hjn]
        rw [hone s j hlw]
        exact (hrep.eqs j s _ (by omega) (by rw [hG]; exact hlw) hg hm _ _ (hA j (by omega))).symm
  rw [e] at hgo
  exact hgo
theorem wp_region_R {P : Program} {id : Nat} {Q : Exit → Act → World → Prop} {a : Act} {w : World} {l : List Oper} (n : Nat) (hm : P.follows .mixedOrders = true) (hB : headOK l.toArray n a.tmps.size = true)
    (h : wpR P l.toArray w a (fun G => ∀ w', Below w.heap.size w w' → finS (fun vs w' => wpList P l.toArray Q (l.drop n) (putAll a (l.take n) vs) w') w' G []) 0 (l.take n) a []) : (Code.region id l.toArray true).wp P Q a w := by
  have hf := headFacts hB
  have hnl : n ≤ l.length := by simpa using hf.le
  have htl : (l.take n).length = n := by simp; omega
  refine wp_region_S n hm hB (h [] rfl (fun j hj => by rw [htl] at hj; simp [hj]) (fun j hj => by
    rw [htl, Nat.zero_add] at hj
    obtain ⟨d, h1, h2, h3⟩ := hf.dst j hj
    exact ⟨d, h1, h2, fun k hk => h3 k (by rw [htl, Nat.zero_add] at hk; exact hk)⟩) ⟨fun j d A hj => by simp at hj, fun j d A hj => by simp at hj, fun _ _ => rfl, rfl, rfl⟩)
end Go.Proofs.YthdnonoheochhaaGreatDoor
