/- The general region theorem as a walk in the order of the text over a frame that is written out. No program in sight. -/
import Derived.Test.YtockaipodnapjaaGreatDoorRegG
import Derived.Test.YtockaipodnapjaaGreatDoorRegion2
namespace Go.Proofs.YtockaipodnapjaaGreatDoor
open Go.RowKit Go.Sort
set_option linter.unusedVariables false
set_option maxRecDepth 100000

/-- A world that the ghost lets by. -/
structure Ghost.Wd (Γ : Ghost) where
  vs : List Value
  w : World
  h : Γ.inv vs w

structure GRep (Γ : Ghost) (ops : Array Oper) (a0 : Act) (G : List GPred) (a : Act) (ex : List (Tmp × GPred)) : Prop where
  eqs : ∀ j d A, j < G.length → lastW ops G.length d = some j → G[j]? = some A → d ∉ ex.map (·.1) → ∀ v g, Γ.inv g.vs g.w → A v g → v = a.eval (.tmp d)
  exs : ∀ j d A, j < G.length → lastW ops G.length d = some j → G[j]? = some A → ∀ B, (d, B) ∈ ex → ∀ v g, Γ.inv g.vs g.w → A v g → B v g
  untouched : ∀ s, lastW ops G.length s = none → a.eval (.tmp s) = a0.eval (.tmp s)
  size : a.tmps.size = a0.tmps.size
  defers : a.defers = a0.defers

def gexAll (g : GW) (k : Act → Prop) : List (Tmp × GPred) → Act → Prop
  | [], a => k a
  | (d, A) :: ex, a => ∀ u, A u g → gexAll g k ex (a.put (some d) u)

def wpH (Γ : Ghost) (P : Program) (ops : Array Oper) (chain : List Nat) (a0 : Act) (F : List GPred → Prop) (i : Nat) (l : List Oper) (a : Act) (ex : List (Tmp × GPred)) : Prop :=
  ∀ G, G.length = i → (∀ j, j < l.length → l[j]? = ops[i + j]?) → (∀ j, j < i + l.length → ∃ d, dstOf ops j = some d ∧ d < a0.tmps.size ∧ ∀ k, k < i + l.length → k ≠ j → dstOf ops k ≠ some d) → GRep Γ ops a0 G a ex → gwpS Γ P ops chain a0 F l G

def gplainOp (ops : Array Oper) (i : Nat) (o : Oper) (ex : List (Tmp × GPred)) : Bool := lexOp ops i o && noEx ops o (ex.map (·.1)) && noSel o && guardOK ops o && (match o.dst with | some d => !(ex.map (·.1)).contains d | none => false)
def gexEnv (ex : List (Tmp × GPred)) (a a' : Act) (g : GW) : List Tmp → Prop
  | [] => True
  | s :: ss => (match ex.find? (fun x => x.1 == s) with | some x => x.2 (a'.eval (.tmp s)) g | none => a'.eval (.tmp s) = a.eval (.tmp s)) ∧ gexEnv ex a a' g ss
def gexOp (ops : Array Oper) (i : Nat) (o : Oper) (ex : List (Tmp × GPred)) : Bool :=
  lexOp ops i o && (o.guard.isNone) && (match o.dst with | some d => !(ex.map (·.1)).contains d | none => false) && ((o.looksAt ops).all fun s => !(ex.map (·.1)).contains s || (lastW ops i s).isSome)

section
variable {Γ : Ghost} {P : Program} {ops : Array Oper} {chain : List Nat} {a0 : Act} {F : List GPred → Prop} {i : Nat} {o : Oper} {rest : List Oper} {a : Act} {ex : List (Tmp × GPred)}

theorem GRep.look {G : List GPred} (hrep : GRep Γ ops a0 G a ex) (hi : G.length = i) {a' : Act} {g : GW} {s : Tmp} (hg : Γ.inv g.vs g.w) (hl : lexAt ops i s = true) (he : genvAt ops a0 G i a' g s) :
    (s ∉ ex.map (·.1) → a'.eval (.tmp s) = a.eval (.tmp s)) ∧ ∀ B, (s, B) ∈ ex → (lastW ops i s).isSome = true → B (a'.eval (.tmp s)) g := by
  subst hi
  unfold lexAt at hl
  unfold genvAt at he
  cases hw : lastW ops G.length s with
  | some j =>
    rw [hw] at hl
    simp only [decide_eq_true_eq] at hl
    rw [hl] at he
    simp only at he
    obtain ⟨hj, _⟩ := lastW_some hw
    have hgj : G[j]? = some (G.getD j (fun _ _ => True)) := by simp [hj]
    exact ⟨fun hex => hrep.eqs j s _ hj hw hgj hex _ _ hg he, fun B hB _ => hrep.exs j s _ hj hw hgj B hB _ _ hg he⟩
  | none =>
    rw [hw] at hl
    simp only [Bool.and_eq_true, Option.isNone_iff_eq_none] at hl
    rw [hl.1] at he
    simp only [hl.2, if_true] at he
    exact ⟨fun _ => he.trans (hrep.untouched s hw).symm, fun _ _ h => by cases h⟩

theorem lastW_next {n : Nat} {d : Tmp} (hd : dstOf ops n = some d) (huniq : ∀ k, k < n → dstOf ops k ≠ some d) (s : Tmp) : lastW ops (n + 1) s = if s = d then some n else lastW ops n s := by
  unfold lastW
  rw [List.range_succ, List.find?_append]
  by_cases hs : s = d
  · subst hs
    have : (List.range n).find? (fun j => dstOf ops j == some s) = none := by
      rw [List.find?_eq_none]
      intro k hk
      have := huniq k (List.mem_range.1 hk)
      simpa using this
    rw [this]
    simp [hd]
  · rw [if_neg hs]
    have : ([n] : List Nat).find? (fun j => dstOf ops j == some s) = none := by
      simp [hd]; exact fun h => hs h.symm
    rw [this]; simp

theorem GRep.next {G : List GPred} (hrep : GRep Γ ops a0 G a ex) (hi : G.length = i) {d : Tmp} (hd : dstOf ops i = some d) (hds : d < a0.tmps.size) (huniq : ∀ k, k < i → dstOf ops k ≠ some d) (hex : d ∉ ex.map (·.1)) {v : Value} {A : GPred} (hA : ∀ u g, Γ.inv g.vs g.w → A u g → u = v) :
    GRep Γ ops a0 (G ++ [A]) (a.put (some d) v) ex := by
  subst hi
  have hlw := lastW_next (ops := ops) hd huniq
  refine ⟨fun j s B hj hw hg hex' u g hgi hB => ?_, fun j s B hj hw hg C hC u g hgi hB => ?_, fun s hs => ?_, ?_, ?_⟩
  · rw [List.length_append, List.length_singleton, hlw] at hw
    by_cases hs : s = d
    · subst hs
      rw [if_pos rfl] at hw
      cases hw
      simp at hg
      subst hg
      rw [eval_put_same (by rw [hrep.size]; exact hds)]
      exact hA u g hgi hB
    · rw [if_neg hs] at hw
      obtain ⟨hjl, _⟩ := lastW_some hw
      rw [List.getElem?_append_left hjl] at hg
      rw [eval_put_ne (Ne.symm hs)]
      exact hrep.eqs j s B hjl hw hg hex' u g hgi hB
  · rw [List.length_append, List.length_singleton, hlw] at hw
    by_cases hs : s = d
    · subst hs; exact absurd (List.mem_map.2 ⟨(s, C), hC, rfl⟩) hex
    · rw [if_neg hs] at hw
      obtain ⟨hjl, _⟩ := lastW_some hw
      rw [List.getElem?_append_left hjl] at hg
      exact hrep.exs j s B hjl hw hg C hC u g hgi hB
  · rw [List.length_append, List.length_singleton, hlw] at hs
    by_cases hsd : s = d
    · rw [if_pos hsd] at hs; cases hs
    · rw [if_neg hsd] at hs
      rw [eval_put_ne (Ne.symm hsd)]
      exact hrep.untouched s hs
  · simpa [Act.put] using hrep.size
  · simpa [Act.put] using hrep.defers

theorem GRep.nextEx {G : List GPred} (hrep : GRep Γ ops a0 G a ex) (hi : G.length = i) {d : Tmp} (hd : dstOf ops i = some d) (huniq : ∀ k, k < i → dstOf ops k ≠ some d) (hex : d ∉ ex.map (·.1)) {A : GPred} :
    GRep Γ ops a0 (G ++ [A]) a (ex ++ [(d, A)]) := by
  subst hi
  have hlw := lastW_next (ops := ops) hd huniq
  refine ⟨fun j s B hj hw hg hex' u g hgi hB => ?_, fun j s B hj hw hg C hC u g hgi hB => ?_, fun s hs => ?_, hrep.size, hrep.defers⟩
  · rw [List.length_append, List.length_singleton, hlw] at hw
    by_cases hs : s = d
    · subst hs; exact absurd (by simp) hex'
    · rw [if_neg hs] at hw
      obtain ⟨hjl, _⟩ := lastW_some hw
      rw [List.getElem?_append_left hjl] at hg
      exact hrep.eqs j s B hjl hw hg (fun h => hex' (by simp at h ⊢; exact .inl h)) u g hgi hB
  · rw [List.length_append, List.length_singleton, hlw] at hw
    by_cases hs : s = d
    · subst hs
      rw [if_pos rfl] at hw
      cases hw
      simp at hg
      subst hg
      rcases List.mem_append.1 hC with h | h
      · exact absurd (List.mem_map.2 ⟨(s, C), h, rfl⟩) hex
      · simp at h; subst h; exact hB
    · rw [if_neg hs] at hw
      obtain ⟨hjl, _⟩ := lastW_some hw
      rw [List.getElem?_append_left hjl] at hg
      rcases List.mem_append.1 hC with h | h
      · exact hrep.exs j s B hjl hw hg C h u g hgi hB
      · simp at h; exact absurd h.1 hs
  · rw [List.length_append, List.length_singleton, hlw] at hs
    by_cases hsd : s = d
    · rw [if_pos hsd] at hs; cases hs
    · rw [if_neg hsd] at hs
      exact hrep.untouched s hs

theorem genv_mem {G : List GPred} {a' : Act} {g : GW} : ∀ (ss : List Tmp), genvAll ops a0 G i a' g ss → ∀ s ∈ ss, genvAt ops a0 G i a' g s
  | [], _, _, h => by cases h
  | s :: ss, ⟨h1, h2⟩, t, ht => by
    rcases List.mem_cons.1 ht with h | h
    · subst h; exact h1
    · exact genv_mem ss h2 t h

theorem gplain_look {G : List GPred} (hrep : GRep Γ ops a0 G a ex) (hi : G.length = i) (hp : gplainOp ops i o ex = true) {a' : Act} {g : GW} (hg : Γ.inv g.vs g.w) (he : genvAll ops a0 G i a' g (o.looksAt ops)) : ∀ s ∈ o.looksAt ops, a'.eval (.tmp s) = a.eval (.tmp s) := by
  intro s hs
  simp only [gplainOp, lexOp, noEx, Bool.and_eq_true, List.all_eq_true] at hp
  refine (hrep.look hi hg (hp.1.1.1.1 s hs) (genv_mem _ he s hs)).1 ?_
  have := hp.1.1.1.2 s hs
  simpa using this
theorem glook_guard (hp : gplainOp ops i o ex = true) : ∀ g b, o.guard = some (g, b) → (dstOf ops g).isSome = true := by
  intro g b hg
  simp only [gplainOp, Bool.and_eq_true] at hp
  have := hp.1.2
  simpa [guardOK, hg] using this

theorem gexEnv_of {G : List GPred} (hrep : GRep Γ ops a0 G a ex) (hi : G.length = i) {a' : Act} {g : GW} (hg : Γ.inv g.vs g.w) : ∀ ss, (∀ s ∈ ss, lexAt ops i s = true) → (∀ s ∈ ss, s ∈ ex.map (·.1) → (lastW ops i s).isSome = true) → genvAll ops a0 G i a' g ss → gexEnv ex a a' g ss
  | [], _, _, _ => trivial
  | s :: ss, h1, h2, ⟨he, hr⟩ => by
    refine ⟨?_, gexEnv_of hrep hi hg ss (fun t ht => h1 t (List.mem_cons_of_mem _ ht)) (fun t ht => h2 t (List.mem_cons_of_mem _ ht)) hr⟩
    have hlk := hrep.look hi hg (h1 s (List.mem_cons_self ..)) he
    split
    · rename_i x hx
      have hm := List.mem_of_find?_eq_some hx
      have hs := List.find?_some hx
      have hs' : x.1 = s := by simpa using hs
      obtain ⟨d, B⟩ := x
      simp only at hs'
      subst hs'
      exact hlk.2 B hm (h2 d (List.mem_cons_self ..) (List.mem_map.2 ⟨(d, B), hm, rfl⟩))
    · rename_i hx
      refine hlk.1 (fun hm => ?_)
      obtain ⟨x, hx1, hx2⟩ := List.mem_map.1 hm
      have := List.find?_eq_none.1 hx x hx1
      simp [hx2] at this

theorem glasts_const (Γ : Ghost) (v : Value) : Γ.lasts (fun u _ => u = v) := fun _ _ _ _ h _ => h

/-- What every step below shares: the operation, its slot, the walk behind it. -/
theorem wpH_next {G : List GPred} (hG : G.length = i) (hl : ∀ j, j < (o :: rest).length → (o :: rest)[j]? = ops[i + j]?) (hd : ∀ j, j < i + (o :: rest).length → ∃ d, dstOf ops j = some d ∧ d < a0.tmps.size ∧ ∀ k, k < i + (o :: rest).length → k ≠ j → dstOf ops k ≠ some d) :
    ∃ d, o.dst = some d ∧ dstOf ops i = some d ∧ d < a0.tmps.size ∧ (∀ k, k < i → dstOf ops k ≠ some d) ∧ ∀ (A : GPred) (a' : Act) (ex' : List (Tmp × GPred)), GRep Γ ops a0 (G ++ [A]) a' ex' → wpH Γ P ops chain a0 F (i + 1) rest a' ex' → gwpS Γ P ops chain a0 F rest (G ++ [A]) := by
  have ho : ops[i]? = some o := by simpa using (hl 0 (by simp)).symm
  obtain ⟨d, hdi, hds, huniq⟩ := hd i (by simp)
  refine ⟨d, by simpa [dstOf, ho] using hdi, hdi, hds, fun k hk => huniq k (by simp; omega) (by omega), fun A a' ex' hrep hK => ?_⟩
  exact hK (G ++ [A]) (by simp [hG]) (fun j hj => by have := hl (j + 1) (by simp; omega); simpa [Nat.add_assoc, Nat.add_comm 1 j] using this)
    (fun j hj => by
      obtain ⟨d', h1, h2, h3⟩ := hd j (by simp; omega)
      exact ⟨d', h1, h2, fun k hk => h3 k (by simp; omega)⟩) hrep

theorem gplain_ex (hp : gplainOp ops i o ex = true) {d : Tmp} (hod : o.dst = some d) : d ∉ ex.map (·.1) := by
  simp only [gplainOp, Bool.and_eq_true] at hp
  have := hp.2
  rw [hod] at this
  simpa using this

/-- An operation with one known value. -/
theorem wpH_want (hp : gplainOp ops i o ex = true) (hc : chainIx chain i = none) (hv : valOp o = true) (hw : Region.wanted o (yielded ops a.tmps) = true)
    (h : ∀ K : Act → Prop, (∀ a', wpH Γ P ops chain a0 F (i + 1) rest a' ex → K a') → o.quiet P a (fun w' => ∃ p : Γ.Wd, w' = p.w) K) : wpH Γ P ops chain a0 F i (o :: rest) a ex := by
  intro G hG hl hd hrep
  obtain ⟨v, hq, hK⟩ := h _ (fun _ h => h)
  obtain ⟨d, hod, hdi, hds, huniq, hgo⟩ := wpH_next (Γ := Γ) (P := P) (chain := chain) (F := F) hG hl hd
  have hex := gplain_ex hp hod
  refine ⟨fun u _ => u = v, glasts_const Γ v, ?_, hgo _ _ _ (hrep.next hG hdi hds huniq hex (fun u g _ h => h)) (by rw [hod] at hK; exact hK)⟩
  rw [hG]
  intro a' g hg _ he
  rw [hc]
  simp only
  have hlook := gplain_look hrep hG hp hg he
  have hsel : noSel o = true := by simp only [gplainOp, Bool.and_eq_true] at hp; exact hp.1.1.2
  rw [wanted_same hlook (glook_guard hp), hw, if_pos rfl]
  have h3 := hq g.w ⟨⟨g.vs, g.w, hg⟩, rfl⟩
  unfold Oper.quietAt at h3
  unfold Oper.wp
  rw [look_exec hlook hsel]
  cases hr : (execOp a.eval o).run P g.w with
  | ok n w' =>
    obtain ⟨u, rfl⟩ := valOp_value hv hr
    rw [hr] at h3
    obtain ⟨e1, e2⟩ := h3
    rw [e1, e2]
    exact ⟨_, rfl, Below.refl _ _, rfl⟩
  | halt x w' => rw [hr] at h3; simp only [Oper.quietUpon] at h3

/-- A call outside the chain that hands back one known value and only makes memory. -/
theorem wpH_call (hp : gplainOp ops i o ex = true) (hc : chainIx chain i = none) (hw : Region.wanted o (yielded ops a.tmps) = true) (f : FuncId) (args : Array Value) (v : Value) (hrun : ∀ w, (execOp a.eval o).run P w = .ok (.enter f args) w)
    (hcall : ∀ vs w, Γ.inv vs w → Calls P f args w fun e w' => e = .returned v ∧ Below w.heap.size w w') (hrest : wpH Γ P ops chain a0 F (i + 1) rest (a.put o.dst v) ex) : wpH Γ P ops chain a0 F i (o :: rest) a ex := by
  intro G hG hl hd hrep
  obtain ⟨d, hod, hdi, hds, huniq, hgo⟩ := wpH_next (Γ := Γ) (P := P) (chain := chain) (F := F) hG hl hd
  have hex := gplain_ex hp hod
  refine ⟨fun u _ => u = v, glasts_const Γ v, ?_, hgo _ _ _ (hrep.next hG hdi hds huniq hex (fun u g _ h => h)) (by rw [hod] at hrest; exact hrest)⟩
  rw [hG]
  intro a' g hg _ he
  rw [hc]
  simp only
  have hlook := gplain_look hrep hG hp hg he
  have hsel : noSel o = true := by simp only [gplainOp, Bool.and_eq_true] at hp; exact hp.1.1.2
  rw [wanted_same hlook (glook_guard hp), hw, if_pos rfl]
  unfold Oper.wp
  rw [look_exec hlook hsel, hrun g.w]
  refine (hcall g.vs g.w hg).mono fun e w' ⟨he', hb⟩ => ?_
  subst he'
  exact ⟨_, rfl, hb, rfl⟩

/-- A call of the chain that hands back one known value. -/
theorem wpH_chain (k : Nat) (hp : gplainOp ops i o ex = true) (hc : chainIx chain i = some k) (hw : Region.wanted o (yielded ops a.tmps) = true) (f : FuncId) (args : Array Value) (v : Value) (hrun : ∀ w, (execOp a.eval o).run P w = .ok (.enter f args) w)
    (hcall : ∀ vs w, Γ.inv vs w → vs.length = k → Calls P f args w fun e w' => e = .returned v ∧ Γ.mv vs w v w') (hrest : wpH Γ P ops chain a0 F (i + 1) rest (a.put o.dst v) ex) : wpH Γ P ops chain a0 F i (o :: rest) a ex := by
  intro G hG hl hd hrep
  obtain ⟨d, hod, hdi, hds, huniq, hgo⟩ := wpH_next (Γ := Γ) (P := P) (chain := chain) (F := F) hG hl hd
  have hex := gplain_ex hp hod
  refine ⟨fun u _ => u = v, glasts_const Γ v, ?_, hgo _ _ _ (hrep.next hG hdi hds huniq hex (fun u g _ h => h)) (by rw [hod] at hrest; exact hrest)⟩
  rw [hG]
  intro a' g hg _ he
  rw [hc]
  simp only
  intro hk
  have hlook := gplain_look hrep hG hp hg he
  have hsel : noSel o = true := by simp only [gplainOp, Bool.and_eq_true] at hp; exact hp.1.1.2
  rw [wanted_same hlook (glook_guard hp), hw, if_pos rfl]
  unfold Oper.wp
  rw [look_exec hlook hsel, hrun g.w]
  refine (hcall g.vs g.w hg hk).mono fun e w' ⟨he', hb⟩ => ?_
  subst he'
  exact ⟨_, rfl, hb, rfl⟩

/-- An operation that is passed over: outside the chain. -/
theorem wpH_skip (hp : gplainOp ops i o ex = true) (hc : chainIx chain i = none) (hw : Region.wanted o (yielded ops a.tmps) = false) (hrest : wpH Γ P ops chain a0 F (i + 1) rest (a.put o.dst undef) ex) : wpH Γ P ops chain a0 F i (o :: rest) a ex := by
  intro G hG hl hd hrep
  obtain ⟨d, hod, hdi, hds, huniq, hgo⟩ := wpH_next (Γ := Γ) (P := P) (chain := chain) (F := F) hG hl hd
  have hex := gplain_ex hp hod
  refine ⟨fun u _ => u = undef, glasts_const Γ undef, ?_, hgo _ _ _ (hrep.next hG hdi hds huniq hex (fun u g _ h => h)) (by rw [hod] at hrest; exact hrest)⟩
  rw [hG]
  intro a' g hg _ he
  rw [hc]
  simp only
  have hlook := gplain_look hrep hG hp hg he
  rw [wanted_same hlook (glook_guard hp), hw, if_neg (by simp)]
  exact trivial
/-- An operation of the chain that is passed over. -/
theorem wpH_skipC (k : Nat) (hp : gplainOp ops i o ex = true) (hc : chainIx chain i = some k) (hw : Region.wanted o (yielded ops a.tmps) = false) (hmv : ∀ vs w, Γ.inv vs w → vs.length = k → Γ.mv vs w undef w) (hrest : wpH Γ P ops chain a0 F (i + 1) rest (a.put o.dst undef) ex) : wpH Γ P ops chain a0 F i (o :: rest) a ex := by
  intro G hG hl hd hrep
  obtain ⟨d, hod, hdi, hds, huniq, hgo⟩ := wpH_next (Γ := Γ) (P := P) (chain := chain) (F := F) hG hl hd
  have hex := gplain_ex hp hod
  refine ⟨fun u _ => u = undef, glasts_const Γ undef, ?_, hgo _ _ _ (hrep.next hG hdi hds huniq hex (fun u g _ h => h)) (by rw [hod] at hrest; exact hrest)⟩
  rw [hG]
  intro a' g hg _ he
  rw [hc]
  simp only
  intro hk
  have hlook := gplain_look hrep hG hp hg he
  rw [wanted_same hlook (glook_guard hp), hw, if_neg (by simp)]
  exact ⟨hmv _ _ hg hk, trivial⟩

theorem gexOp_parts (hp : gexOp ops i o ex = true) : (∀ s ∈ o.looksAt ops, lexAt ops i s = true) ∧ o.guard = none ∧ (∀ d, o.dst = some d → d ∉ ex.map (·.1)) ∧ (∀ s ∈ o.looksAt ops, s ∈ ex.map (·.1) → (lastW ops i s).isSome = true) := by
  simp only [gexOp, lexOp, Bool.and_eq_true, List.all_eq_true, Bool.or_eq_true, Bool.not_eq_true', Option.isNone_iff_eq_none] at hp
  obtain ⟨⟨⟨hp1, hp2⟩, hp3⟩, hp4⟩ := hp
  refine ⟨hp1, hp2, fun d hod => ?_, fun s hs hm => ?_⟩
  · rw [hod] at hp3
    simpa using hp3
  · rcases hp4 s hs with h | h
    · have : (ex.map (·.1)).contains s = true := by simpa using hm
      rw [this] at h; cases h
    · exact h

/-- An operation outside the chain whose value hangs on the world: a property of it. -/
theorem wpH_ex (A : GPred) (hA : Γ.lasts A) (hp : gexOp ops i o ex = true) (hc : chainIx chain i = none)
    (hstep : ∀ a' g, Γ.inv g.vs g.w → gexEnv ex a a' g (o.looksAt ops) → o.wp P a' g.w (fun a'' w' => ∃ v, a'' = a'.put o.dst v ∧ Below g.w.heap.size g.w w' ∧ A v ⟨g.vs, w'⟩) (fun _ _ _ => False))
    (hrest : ∀ d, o.dst = some d → wpH Γ P ops chain a0 F (i + 1) rest a (ex ++ [(d, A)])) : wpH Γ P ops chain a0 F i (o :: rest) a ex := by
  intro G hG hl hd hrep
  obtain ⟨d, hod, hdi, hds, huniq, hgo⟩ := wpH_next (Γ := Γ) (P := P) (chain := chain) (F := F) hG hl hd
  obtain ⟨hp1, hp2, hp3, hp4⟩ := gexOp_parts hp
  refine ⟨A, hA, ?_, hgo _ _ _ (hrep.nextEx hG hdi huniq (hp3 d hod)) (hrest d hod)⟩
  rw [hG]
  intro a' g hg _ he
  rw [hc]
  simp only
  rw [if_pos (by simp [Region.wanted, hp2])]
  exact hstep a' g hg (gexEnv_of hrep hG hg (o.looksAt ops) hp1 hp4 he)

/-- One that looks at a slot with a property, and whose value is known all the same. -/
theorem wpH_known (v : Value) (hp : gexOp ops i o ex = true) (hc : chainIx chain i = none)
    (hstep : ∀ a' g, Γ.inv g.vs g.w → gexEnv ex a a' g (o.looksAt ops) → o.wp P a' g.w (fun a'' w' => a'' = a'.put o.dst v ∧ Below g.w.heap.size g.w w') (fun _ _ _ => False))
    (hrest : wpH Γ P ops chain a0 F (i + 1) rest (a.put o.dst v) ex) : wpH Γ P ops chain a0 F i (o :: rest) a ex := by
  intro G hG hl hd hrep
  obtain ⟨d, hod, hdi, hds, huniq, hgo⟩ := wpH_next (Γ := Γ) (P := P) (chain := chain) (F := F) hG hl hd
  obtain ⟨hp1, hp2, hp3, hp4⟩ := gexOp_parts hp
  refine ⟨fun u _ => u = v, glasts_const Γ v, ?_, hgo _ _ _ (hrep.next hG hdi hds huniq (hp3 d hod) (fun u g _ h => h)) (by rw [hod] at hrest; exact hrest)⟩
  rw [hG]
  intro a' g hg _ he
  rw [hc]
  simp only
  rw [if_pos (by simp [Region.wanted, hp2])]
  exact upon_mono (fun a'' w' h => ⟨v, h.1, h.2, rfl⟩) (fun _ _ _ h => h) (hstep a' g hg (gexEnv_of hrep hG hg (o.looksAt ops) hp1 hp4 he))

/-- An operation of the chain: a property of its value. -/
theorem wpH_chainX (k : Nat) (A : GPred) (hA : Γ.lasts A) (hp : gexOp ops i o ex = true) (hc : chainIx chain i = some k)
    (hstep : ∀ a' g, Γ.inv g.vs g.w → g.vs.length = k → gexEnv ex a a' g (o.looksAt ops) → o.wp P a' g.w (fun a'' w' => ∃ v, a'' = a'.put o.dst v ∧ Γ.mv g.vs g.w v w' ∧ A v ⟨g.vs ++ [v], w'⟩) (fun _ _ _ => False))
    (hrest : ∀ d, o.dst = some d → wpH Γ P ops chain a0 F (i + 1) rest a (ex ++ [(d, A)])) : wpH Γ P ops chain a0 F i (o :: rest) a ex := by
  intro G hG hl hd hrep
  obtain ⟨d, hod, hdi, hds, huniq, hgo⟩ := wpH_next (Γ := Γ) (P := P) (chain := chain) (F := F) hG hl hd
  obtain ⟨hp1, hp2, hp3, hp4⟩ := gexOp_parts hp
  refine ⟨A, hA, ?_, hgo _ _ _ (hrep.nextEx hG hdi huniq (hp3 d hod)) (hrest d hod)⟩
  rw [hG]
  intro a' g hg _ he
  rw [hc]
  simp only
  intro hk
  rw [if_pos (by simp [Region.wanted, hp2])]
  exact hstep a' g hg hk (gexEnv_of hrep hG hg (o.looksAt ops) hp1 hp4 he)
end

theorem gfinS_intro {K : List Value → Prop} {g : GW} : ∀ (G : List GPred) (pre : List Value), (∀ vs, vs.length = G.length → (∀ j, j < G.length → (G.getD j (fun _ _ => True)) (vs.getD j undef) g) → K (pre ++ vs)) → gfinS K g G pre
  | [], pre, h => by simpa [gfinS] using h [] rfl (fun j hj => by simp at hj)
  | A :: G, pre, h => by
    intro v hv
    refine gfinS_intro G (pre ++ [v]) fun vs hl hA => ?_
    have := h (v :: vs) (by simp [hl]) (fun j hj => by
      cases j with
      | zero => simpa using hv
      | succ j => simpa using hA j (by simpa using hj))
    simpa using this

theorem gexAll_go {g : GW} {k : Act → Prop} (u : Tmp → Value) : ∀ (ex : List (Tmp × GPred)) (a : Act), (∀ x ∈ ex, x.2 (u x.1) g) → gexAll g k ex a → k (ex.foldl (fun a x => a.put (some x.1) (u x.1)) a)
  | [], a, _, h => h
  | (d, A) :: ex, a, hA, h => gexAll_go u ex _ (fun x hx => hA x (List.mem_cons_of_mem _ hx)) (h (u d) (hA (d, A) (List.mem_cons_self ..)))

theorem gfoldl_put (u : Tmp → Value) : ∀ (ex : List (Tmp × GPred)) (a : Act), (ex.foldl (fun a x => a.put (some x.1) (u x.1)) a).tmps.size = a.tmps.size ∧ (ex.foldl (fun a x => a.put (some x.1) (u x.1)) a).defers = a.defers ∧
    ∀ s, s < a.tmps.size → (ex.foldl (fun a x => a.put (some x.1) (u x.1)) a).eval (.tmp s) = if s ∈ ex.map (·.1) then u s else a.eval (.tmp s)
  | [], a => ⟨rfl, rfl, fun s _ => by simp⟩
  | (d, A) :: ex, a => by
    have h := gfoldl_put u ex (a.put (some d) (u d))
    have hsz : (a.put (some d) (u d)).tmps.size = a.tmps.size := by simp [Act.put]
    refine ⟨h.1.trans hsz, h.2.1, fun s hs => ?_⟩
    simp only [List.foldl_cons]
    rw [h.2.2 s (by rw [hsz]; exact hs)]
    by_cases hm : s ∈ ex.map (·.1)
    · rw [if_pos hm, if_pos (by simp at hm ⊢; exact .inr hm)]
    · rw [if_neg hm]
      by_cases hsd : s = d
      · subst hsd
        rw [if_pos (by simp), eval_put_same hs]
      · rw [if_neg (by simp at hm ⊢; exact ⟨hsd, hm⟩), eval_put_ne (Ne.symm hsd)]

def gexOK (ops : Array Oper) (n size : Nat) (ex : List (Tmp × GPred)) : Bool := ex.all fun x => (lastW ops n x.1).isSome && decide (x.1 < size)

theorem wpH_nil {Γ : Ghost} {P : Program} {l : List Oper} {chain : List Nat} {n : Nat} {a0 a : Act} {Q : Exit → Act → World → Prop} {ex : List (Tmp × GPred)} (hex : gexOK l.toArray n a0.tmps.size ex = true) (hn : n ≤ l.length)
    (h : ∀ g : GW, Γ.inv g.vs g.w → g.vs.length = chain.length → gexAll g (fun a' => wpList P l.toArray Q (l.drop n) a' g.w) ex a) :
    wpH Γ P l.toArray chain a0 (fun G => ∀ g : GW, Γ.inv g.vs g.w → g.vs.length = chain.length → gfinS (fun vs => wpList P l.toArray Q (l.drop n) (putAll a0 (l.take n) vs) g.w) g G []) n [] a ex := by
  intro G hG _ hd hrep g hgi hgl
  refine gfinS_intro G [] fun vs hl hA => ?_
  rw [List.nil_append]
  have htl : (l.take n).length = n := by simp; omega
  have hps := putAll_size (l.take n) vs a0
  have hone : ∀ s j, lastW l.toArray n s = some j → (putAll a0 (l.take n) vs).eval (.tmp s) = vs.getD j undef := by
    intro s j hw'
    obtain ⟨hj, hjd⟩ := lastW_some hw'
    obtain ⟨d, hd1, hd2, hd3⟩ := hd j (by simpa using hj)
    rw [hjd] at hd1
    cases hd1
    have hjl : j < l.length := by omega
    refine putAll_one (l.take n) vs a0 s j l[j] _ (by simp [hj, hjl]) ?_ (by simpa [dstOf, hjl] using hjd) hd2 (fun k o' hk hne => ?_)
    · have : j < vs.length := by rw [hl, hG]; exact hj
      simp [this]
    · have hkn : k < n := by
        rcases Nat.lt_or_ge k n with h | h
        · exact h
        · rw [List.getElem?_eq_none (by omega)] at hk; cases hk
      have := hd3 k (by simpa using hkn) hne
      have hk' : l[k]? = some o' := by simpa [List.getElem?_take, hkn] using hk
      simpa [dstOf, hk'] using this
  have hnone : ∀ s, lastW l.toArray n s = none → (putAll a0 (l.take n) vs).eval (.tmp s) = a0.eval (.tmp s) := by
    intro s hw'
    refine putAll_none (l.take n) vs a0 s fun o ho hod => ?_
    obtain ⟨k, hk, rfl⟩ := List.mem_iff_getElem.1 ho
    rw [htl] at hk
    have hkl : k < l.length := by omega
    have := List.find?_eq_none.1 hw' k (List.mem_range.2 hk)
    have hod' : l[k].dst = some s := by simpa using hod
    simp [dstOf, hkl, hod'] at this
  have hgo := gexAll_go (fun d => (putAll a0 (l.take n) vs).eval (.tmp d)) ex a (fun x hx => by
    obtain ⟨d, B⟩ := x
    have h1 := List.all_eq_true.1 hex (d, B) hx
    simp only [Bool.and_eq_true] at h1
    obtain ⟨j, hj⟩ := Option.isSome_iff_exists.1 h1.1
    obtain ⟨hjn, _⟩ := lastW_some hj
    have hg : G[j]? = some (G.getD j (fun _ _ => True)) := by simp [hG, hjn]
    show B ((putAll a0 (l.take n) vs).eval (.tmp d)) g
    rw [hone d j hj]
    exact hrep.exs j d _ (by omega) (by rw [hG]; exact hj) hg B hx _ _ hgi (hA j (by omega))) (h g hgi hgl)
  have hf := gfoldl_put (fun d => (putAll a0 (l.take n) vs).eval (.tmp d)) ex a
  have e : ex.foldl (fun a x => a.put (some x.1) ((putAll a0 (l.take n) vs).eval (.tmp x.1))) a = putAll a0 (l.take n) vs := by
    refine act_ext (hf.1.trans (hrep.size.trans hps.1.symm)) (hf.2.1.trans (hrep.defers.trans hps.2.symm)) (fun s hs => ?_)
    rw [hf.1] at hs
    rw [hf.2.2 s hs]
    by_cases hm : s ∈ ex.map (·.1)
    · rw [if_pos hm]
    · rw [if_neg hm]
      cases hlw : lastW l.toArray n s with
      | none => rw [hnone s hlw]; exact hrep.untouched s (by rw [hG]; exact hlw)
      | some j =>
        obtain ⟨hjn, _⟩ := lastW_some hlw
        have hg : G[j]? = some (G.getD j (fun _ _ => True)) := by simp [hG, hjn]
        rw [hone s j hlw]
        exact (hrep.eqs j s _ (by omega) (by rw [hG]; exact hlw) hg hm _ _ hgi (hA j (by omega))).symm
  rw [e] at hgo
  exact hgo

/-- **THE GENERAL REGION, WALKED IN THE ORDER OF THE TEXT.** -/
theorem wp_region_H {P : Program} {id : Nat} {Q : Exit → Act → World → Prop} {a : Act} {w : World} {l : List Oper} (Γ : Ghost) (n : Nat) (chain : List Nat) (hm : P.follows .mixedOrders = true) (hB : headOK l.toArray n a.tmps.size = true) (hch : chainOK l.toArray chain = true) (hcn : (chain.all fun i => decide (i < n)) = true)
    (hstart : Γ.inv [] w)
    (h : wpH Γ P l.toArray chain a (fun G => ∀ g : GW, Γ.inv g.vs g.w → g.vs.length = chain.length → gfinS (fun vs => wpList P l.toArray Q (l.drop n) (putAll a (l.take n) vs) g.w) g G []) 0 (l.take n) a []) : (Code.region id l.toArray true).wp P Q a w := by
  have hf := headFacts hB
  have hnl : n ≤ l.length := by simpa using hf.le
  have htl : (l.take n).length = n := by simp; omega
  refine wp_region_G Γ n chain hm hB hch hcn hstart (h [] rfl (fun j hj => by rw [htl] at hj; simp [hj]) (fun j hj => by
    rw [htl, Nat.zero_add] at hj
    obtain ⟨d, h1, h2, h3⟩ := hf.dst j hj
    exact ⟨d, h1, h2, fun k hk => h3 k (by rw [htl, Nat.zero_add] at hk; exact hk)⟩) ⟨fun j d A hj => by simp at hj, fun j d A hj => by simp at hj, fun _ _ => rfl, rfl, rfl⟩)

end Go.Proofs.YtockaipodnapjaaGreatDoor
