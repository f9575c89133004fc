/- The walk in the order of the text (XRegH) over a head that may hold stores (XRegN). No program in sight. -/
import Derived.Test.YtjngfhgcifhioaaRegN
import Derived.Test.YtjngfhgcifhioaaVal
namespace Go.Proofs.Ytjngfhgcifhioaa
open Go.RowKit Go.Sort
set_option linter.unusedVariables false
set_option maxRecDepth 100000

def wpM (Γ : Ghost) (P : Program) (ops : Array Oper) (chain : List Nat) (a0 : Act) (F : List GPred → Prop) (i : Nat) (l : List Oper) (a : Act) (ex : List (Tmp × GPred)) : Prop :=
  ∀ G, G.length = i → (∀ j, j < l.length → l[j]? = ops[i + j]?) → (∀ j d, j < i + l.length → dstOf ops j = some d → d < a0.tmps.size ∧ ∀ k, k < i + l.length → k ≠ j → dstOf ops k ≠ some d) → GRep Γ ops a0 G a ex → gwpN Γ P ops chain a0 F l G

section
variable {Γ : Ghost} {P : Program} {ops : Array Oper} {chain : List Nat} {a0 : Act} {F : List GPred → Prop} {i : Nat} {o : Oper} {rest : List Oper} {a : Act} {ex : List (Tmp × GPred)}
theorem gplain_dst (hp : gplainOp ops i o ex = true) : ∃ d, o.dst = some d := by
  simp only [gplainOp, Bool.and_eq_true] at hp
  cases hd : o.dst with
  | some d => exact ⟨d, rfl⟩
  | none => rw [hd] at hp; simp at hp
theorem gex_dst (hp : gexOp ops i o ex = true) : ∃ d, o.dst = some d := by
  simp only [gexOp, Bool.and_eq_true] at hp
  cases hd : o.dst with
  | some d => exact ⟨d, rfl⟩
  | none => rw [hd] at hp; simp at hp
theorem wpM_next {G : List GPred} {d : Tmp} (hod : o.dst = some d) (hG : G.length = i) (hl : ∀ j, j < (o :: rest).length → (o :: rest)[j]? = ops[i + j]?) (hd : ∀ j d, j < i + (o :: rest).length → dstOf ops j = some d → d < a0.tmps.size ∧ ∀ k, k < i + (o :: rest).length → k ≠ j → dstOf ops k ≠ some d) :
    dstOf ops i = some d ∧ d < a0.tmps.size ∧ (∀ k, k < i → dstOf ops k ≠ some d) ∧ ∀ (A : GPred) (a' : Act) (ex' : List (Tmp × GPred)), GRep Γ ops a0 (G ++ [A]) a' ex' → wpM Γ P ops chain a0 F (i + 1) rest a' ex' → gwpN Γ P ops chain a0 F rest (G ++ [A]) := by
  have ho : ops[i]? = some o := by simpa using (hl 0 (by simp)).symm
  have hdi : dstOf ops i = some d := by simpa [dstOf, ho] using hod
  obtain ⟨hds, huniq⟩ := hd i d (by simp) hdi
  refine ⟨hdi, hds, fun k hk => huniq k (by simp; omega) (by omega), fun A a' ex' hrep hK => ?_⟩
  exact hK (G ++ [A]) (by simp [hG]) (fun j hj => by have := hl (j + 1) (by simp; omega); simpa [Nat.add_assoc, Nat.add_comm 1 j] using this)
    (fun j d' hj hd' => by
      obtain ⟨h2, h3⟩ := hd j d' (by simp; omega) hd'
      exact ⟨h2, fun k hk => h3 k (by simp; omega)⟩) hrep
theorem lastW_none {n : Nat} (hd : dstOf ops n = none) (s : Tmp) : lastW ops (n + 1) s = lastW ops n s := by
  unfold lastW
  rw [List.range_succ, List.find?_append]
  have : ([n] : List Nat).find? (fun j => dstOf ops j == some s) = none := by simp [hd]
  rw [this]; simp
theorem GRep.nextNone {G : List GPred} (hrep : GRep Γ ops a0 G a ex) (hi : G.length = i) (hd : dstOf ops i = none) {A : GPred} : GRep Γ ops a0 (G ++ [A]) a ex := by
  subst hi
  have hlw := lastW_none (ops := ops) hd
  refine ⟨fun j s B hj hw hg hex' u g hgi hB => ?_, fun j s B hj hw hg C hC u g hgi hB => ?_, fun s hs => ?_, hrep.size, hrep.defers⟩
  · rw [List.length_append, List.length_singleton, hlw] at hw
    obtain ⟨hjl, _⟩ := lastW_some hw
    rw [List.getElem?_append_left hjl] at hg
    exact hrep.eqs j s B hjl hw hg hex' u g hgi hB
  · rw [List.length_append, List.length_singleton, hlw] at hw
    obtain ⟨hjl, _⟩ := lastW_some hw
    rw [List.getElem?_append_left hjl] at hg
    exact hrep.exs j s B hjl hw hg C hC u g hgi hB
  · rw [List.length_append, List.length_singleton, hlw] at hs
    exact hrep.untouched s hs
/-- A store of the chain: what it yields to the ghost is ours to choose. -/
theorem wpM_store (k : Nat) (hlx : lexOp ops i o = true) (hgd : o.guard = none) (hod : o.dst = none) (hlk : ((o.looksAt ops).all fun s => !(ex.map (·.1)).contains s || (lastW ops i s).isSome) = true) (hc : chainIx chain i = some k)
    (hstep : ∀ a' g, Γ.inv g.vs g.w → g.vs.length = k → gexEnv ex a a' g (o.looksAt ops) → o.wp P a' g.w (fun a'' w' => ∃ v, a'' = a' ∧ Γ.mv g.vs g.w v w') (fun _ _ _ => False))
    (hrest : wpM Γ P ops chain a0 F (i + 1) rest a ex) : wpM Γ P ops chain a0 F i (o :: rest) a ex := by
  intro G hG hl hd hrep
  have ho : ops[i]? = some o := by simpa using (hl 0 (by simp)).symm
  have hdi : dstOf ops i = none := by simpa [dstOf, ho] using hod
  refine ⟨fun _ _ => True, fun _ _ _ _ _ _ => trivial, fun _ _ _ => trivial, ?_, hrest (G ++ [fun _ _ => True]) (by simp [hG]) (fun j hj => by have := hl (j + 1) (by simp; omega); simpa [Nat.add_assoc, Nat.add_comm 1 j] using this)
    (fun j d' hj hd' => by
      obtain ⟨h2, h3⟩ := hd j d' (by simp; omega) hd'
      exact ⟨h2, fun k hk => h3 k (by simp; omega)⟩) (hrep.nextNone hG hdi)⟩
  rw [hG]
  intro a' g hg _ he
  rw [hc]
  simp only
  intro hk
  rw [if_pos (by simp [Region.wanted, hgd])]
  refine upon_mono (fun a'' w' ⟨v, h1, h2⟩ => ⟨v, by rw [h1, hod]; rfl, h2, trivial⟩) (fun _ _ _ h => h) (hstep a' g hg hk (gexEnv_of hrep hG hg (o.looksAt ops) ?_ ?_ he))
  · simpa only [lexOp, List.all_eq_true] using hlx
  · intro s hs hm
    simp only [List.all_eq_true, Bool.or_eq_true, Bool.not_eq_true'] at hlk
    rcases hlk s hs with h | h
    · have : (ex.map (·.1)).contains s = true := by simpa using hm
      rw [this] at h; cases h
    · exact h
/-- An operation with one known value. -/
theorem wpM_want (hp : gplainOp ops i o ex = true) (hc : chainIx chain i = none) (hv : valOp o = true) (hw : Region.wanted o (yielded ops a.tmps) = true)
    (h : ∀ K : Act → Prop, (∀ a', wpM Γ P ops chain a0 F (i + 1) rest a' ex → K a') → o.quiet P a (fun w' => ∃ p : Γ.Wd, w' = p.w) K) : wpM Γ P ops chain a0 F i (o :: rest) a ex := by
  intro G hG hl hd hrep
  obtain ⟨v, hq, hK⟩ := h _ (fun _ h => h)
  obtain ⟨d, hod⟩ := gplain_dst hp
  obtain ⟨hdi, hds, huniq, hgo⟩ := wpM_next (Γ := Γ) (P := P) (chain := chain) (F := F) hod hG hl hd
  have hex := gplain_ex hp hod
  refine ⟨fun u _ => u = v, glasts_const Γ v, (fun h => by rw [hod] at h; cases h), ?_, hgo _ _ _ (hrep.next hG hdi hds huniq hex (fun u g _ h => h)) (by rw [hod] at hK; exact hK)⟩
  rw [hG]
  intro a' g hg _ he
  rw [hc]
  simp only
  have hlook := gplain_look hrep hG hp hg he
  have hsel : noSel o = true := by simp only [gplainOp, Bool.and_eq_true] at hp; exact hp.1.1.2
  rw [wanted_same hlook (glook_guard hp), hw, if_pos rfl]
  have h3 := hq g.w ⟨⟨g.vs, g.w, hg⟩, rfl⟩
  unfold Oper.quietAt at h3
  unfold Oper.wp
  rw [look_exec hlook hsel]
  cases hr : (execOp a.eval o).run P g.w with
  | ok n w' =>
    obtain ⟨u, rfl⟩ := valOp_value hv hr
    rw [hr] at h3
    obtain ⟨e1, e2⟩ := h3
    rw [e1, e2]
    exact ⟨_, rfl, Below.refl _ _, rfl⟩
  | halt x w' => rw [hr] at h3; simp only [Oper.quietUpon] at h3

/-- A call outside the chain that hands back one known value and only makes memory. -/
theorem wpM_call (hp : gplainOp ops i o ex = true) (hc : chainIx chain i = none) (hw : Region.wanted o (yielded ops a.tmps) = true) (f : FuncId) (args : Array Value) (v : Value) (hrun : ∀ w, (execOp a.eval o).run P w = .ok (.enter f args) w)
    (hcall : ∀ vs w, Γ.inv vs w → Calls P f args w fun e w' => e = .returned v ∧ Below w.heap.size w w') (hrest : wpM Γ P ops chain a0 F (i + 1) rest (a.put o.dst v) ex) : wpM Γ P ops chain a0 F i (o :: rest) a ex := by
  intro G hG hl hd hrep
  obtain ⟨d, hod⟩ := gplain_dst hp
  obtain ⟨hdi, hds, huniq, hgo⟩ := wpM_next (Γ := Γ) (P := P) (chain := chain) (F := F) hod hG hl hd
  have hex := gplain_ex hp hod
  refine ⟨fun u _ => u = v, glasts_const Γ v, (fun h => by rw [hod] at h; cases h), ?_, hgo _ _ _ (hrep.next hG hdi hds huniq hex (fun u g _ h => h)) (by rw [hod] at hrest; exact hrest)⟩
  rw [hG]
  intro a' g hg _ he
  rw [hc]
  simp only
  have hlook := gplain_look hrep hG hp hg he
  have hsel : noSel o = true := by simp only [gplainOp, Bool.and_eq_true] at hp; exact hp.1.1.2
  rw [wanted_same hlook (glook_guard hp), hw, if_pos rfl]
  unfold Oper.wp
  rw [look_exec hlook hsel, hrun g.w]
  refine (hcall g.vs g.w hg).mono fun e w' ⟨he', hb⟩ => ?_
  subst he'
  exact ⟨_, rfl, hb, rfl⟩

/-- A call of the chain that hands back one known value. -/
theorem wpM_chain (k : Nat) (hp : gplainOp ops i o ex = true) (hc : chainIx chain i = some k) (hw : Region.wanted o (yielded ops a.tmps) = true) (f : FuncId) (args : Array Value) (v : Value) (hrun : ∀ w, (execOp a.eval o).run P w = .ok (.enter f args) w)
    (hcall : ∀ vs w, Γ.inv vs w → vs.length = k → Calls P f args w fun e w' => e = .returned v ∧ Γ.mv vs w v w') (hrest : wpM Γ P ops chain a0 F (i + 1) rest (a.put o.dst v) ex) : wpM Γ P ops chain a0 F i (o :: rest) a ex := by
  intro G hG hl hd hrep
  obtain ⟨d, hod⟩ := gplain_dst hp
  obtain ⟨hdi, hds, huniq, hgo⟩ := wpM_next (Γ := Γ) (P := P) (chain := chain) (F := F) hod hG hl hd
  have hex := gplain_ex hp hod
  refine ⟨fun u _ => u = v, glasts_const Γ v, (fun h => by rw [hod] at h; cases h), ?_, hgo _ _ _ (hrep.next hG hdi hds huniq hex (fun u g _ h => h)) (by rw [hod] at hrest; exact hrest)⟩
  rw [hG]
  intro a' g hg _ he
  rw [hc]
  simp only
  intro hk
  have hlook := gplain_look hrep hG hp hg he
  have hsel : noSel o = true := by simp only [gplainOp, Bool.and_eq_true] at hp; exact hp.1.1.2
  rw [wanted_same hlook (glook_guard hp), hw, if_pos rfl]
  unfold Oper.wp
  rw [look_exec hlook hsel, hrun g.w]
  refine (hcall g.vs g.w hg hk).mono fun e w' ⟨he', hb⟩ => ?_
  subst he'
  exact ⟨_, rfl, hb, rfl⟩

/-- An operation that is passed over: outside the chain. -/
theorem wpM_skip (hp : gplainOp ops i o ex = true) (hc : chainIx chain i = none) (hw : Region.wanted o (yielded ops a.tmps) = false) (hrest : wpM Γ P ops chain a0 F (i + 1) rest (a.put o.dst undef) ex) : wpM Γ P ops chain a0 F i (o :: rest) a ex := by
  intro G hG hl hd hrep
  obtain ⟨d, hod⟩ := gplain_dst hp
  obtain ⟨hdi, hds, huniq, hgo⟩ := wpM_next (Γ := Γ) (P := P) (chain := chain) (F := F) hod hG hl hd
  have hex := gplain_ex hp hod
  refine ⟨fun u _ => u = undef, glasts_const Γ undef, (fun h => by rw [hod] at h; cases h), ?_, hgo _ _ _ (hrep.next hG hdi hds huniq hex (fun u g _ h => h)) (by rw [hod] at hrest; exact hrest)⟩
  rw [hG]
  intro a' g hg _ he
  rw [hc]
  simp only
  have hlook := gplain_look hrep hG hp hg he
  rw [wanted_same hlook (glook_guard hp), hw, if_neg (by simp)]
  exact trivial
/-- An operation of the chain that is passed over. -/
theorem wpM_skipC (k : Nat) (hp : gplainOp ops i o ex = true) (hc : chainIx chain i = some k) (hw : Region.wanted o (yielded ops a.tmps) = false) (hmv : ∀ vs w, Γ.inv vs w → vs.length = k → Γ.mv vs w undef w) (hrest : wpM Γ P ops chain a0 F (i + 1) rest (a.put o.dst undef) ex) : wpM Γ P ops chain a0 F i (o :: rest) a ex := by
  intro G hG hl hd hrep
  obtain ⟨d, hod⟩ := gplain_dst hp
  obtain ⟨hdi, hds, huniq, hgo⟩ := wpM_next (Γ := Γ) (P := P) (chain := chain) (F := F) hod hG hl hd
  have hex := gplain_ex hp hod
  refine ⟨fun u _ => u = undef, glasts_const Γ undef, (fun h => by rw [hod] at h; cases h), ?_, hgo _ _ _ (hrep.next hG hdi hds huniq hex (fun u g _ h => h)) (by rw [hod] at hrest; exact hrest)⟩
  rw [hG]
  intro a' g hg _ he
  rw [hc]
  simp only
  intro hk
  have hlook := gplain_look hrep hG hp hg he
  rw [wanted_same hlook (glook_guard hp), hw, if_neg (by simp)]
  exact ⟨hmv _ _ hg hk, trivial⟩

/-- An operation outside the chain whose value hangs on the world: a property of it. -/
theorem wpM_ex (A : GPred) (hA : Γ.lasts A) (hp : gexOp ops i o ex = true) (hc : chainIx chain i = none)
    (hstep : ∀ a' g, Γ.inv g.vs g.w → gexEnv ex a a' g (o.looksAt ops) → o.wp P a' g.w (fun a'' w' => ∃ v, a'' = a'.put o.dst v ∧ Below g.w.heap.size g.w w' ∧ A v ⟨g.vs, w'⟩) (fun _ _ _ => False))
    (hrest : ∀ d, o.dst = some d → wpM Γ P ops chain a0 F (i + 1) rest a (ex ++ [(d, A)])) : wpM Γ P ops chain a0 F i (o :: rest) a ex := by
  intro G hG hl hd hrep
  obtain ⟨d, hod⟩ := gex_dst hp
  obtain ⟨hdi, hds, huniq, hgo⟩ := wpM_next (Γ := Γ) (P := P) (chain := chain) (F := F) hod hG hl hd
  obtain ⟨hp1, hp2, hp3, hp4⟩ := gexOp_parts hp
  refine ⟨A, hA, (fun h => by rw [hod] at h; cases h), ?_, hgo _ _ _ (hrep.nextEx hG hdi huniq (hp3 d hod)) (hrest d hod)⟩
  rw [hG]
  intro a' g hg _ he
  rw [hc]
  simp only
  rw [if_pos (by simp [Region.wanted, hp2])]
  exact hstep a' g hg (gexEnv_of hrep hG hg (o.looksAt ops) hp1 hp4 he)

/-- One that looks at a slot with a property, and whose value is known all the same. -/
theorem wpM_known (v : Value) (hp : gexOp ops i o ex = true) (hc : chainIx chain i = none)
    (hstep : ∀ a' g, Γ.inv g.vs g.w → gexEnv ex a a' g (o.looksAt ops) → o.wp P a' g.w (fun a'' w' => a'' = a'.put o.dst v ∧ Below g.w.heap.size g.w w') (fun _ _ _ => False))
    (hrest : wpM Γ P ops chain a0 F (i + 1) rest (a.put o.dst v) ex) : wpM Γ P ops chain a0 F i (o :: rest) a ex := by
  intro G hG hl hd hrep
  obtain ⟨d, hod⟩ := gex_dst hp
  obtain ⟨hdi, hds, huniq, hgo⟩ := wpM_next (Γ := Γ) (P := P) (chain := chain) (F := F) hod hG hl hd
  obtain ⟨hp1, hp2, hp3, hp4⟩ := gexOp_parts hp
  refine ⟨fun u _ => u = v, glasts_const Γ v, (fun h => by rw [hod] at h; cases h), ?_, hgo _ _ _ (hrep.next hG hdi hds huniq (hp3 d hod) (fun u g _ h => h)) (by rw [hod] at hrest; exact hrest)⟩
  rw [hG]
  intro a' g hg _ he
  rw [hc]
  simp only
  rw [if_pos (by simp [Region.wanted, hp2])]
  exact upon_mono (fun a'' w' h => ⟨v, h.1, h.2, rfl⟩) (fun _ _ _ h => h) (hstep a' g hg (gexEnv_of hrep hG hg (o.looksAt ops) hp1 hp4 he))

/-- An operation of the chain: a property of its value. -/
theorem wpM_chainX (k : Nat) (A : GPred) (hA : Γ.lasts A) (hp : gexOp ops i o ex = true) (hc : chainIx chain i = some k)
    (hstep : ∀ a' g, Γ.inv g.vs g.w → g.vs.length = k → gexEnv ex a a' g (o.looksAt ops) → o.wp P a' g.w (fun a'' w' => ∃ v, a'' = a'.put o.dst v ∧ Γ.mv g.vs g.w v w' ∧ A v ⟨g.vs ++ [v], w'⟩) (fun _ _ _ => False))
    (hrest : ∀ d, o.dst = some d → wpM Γ P ops chain a0 F (i + 1) rest a (ex ++ [(d, A)])) : wpM Γ P ops chain a0 F i (o :: rest) a ex := by
  intro G hG hl hd hrep
  obtain ⟨d, hod⟩ := gex_dst hp
  obtain ⟨hdi, hds, huniq, hgo⟩ := wpM_next (Γ := Γ) (P := P) (chain := chain) (F := F) hod hG hl hd
  obtain ⟨hp1, hp2, hp3, hp4⟩ := gexOp_parts hp
  refine ⟨A, hA, (fun h => by rw [hod] at h; cases h), ?_, hgo _ _ _ (hrep.nextEx hG hdi huniq (hp3 d hod)) (hrest d hod)⟩
  rw [hG]
  intro a' g hg _ he
  rw [hc]
  simp only
  intro hk
  rw [if_pos (by simp [Region.wanted, hp2])]
  exact hstep a' g hg hk (gexEnv_of hrep hG hg (o.looksAt ops) hp1 hp4 he)
theorem wpM_val (hp : gplainOp ops i o ex = true) (hc : chainIx chain i = none) (hw : Region.wanted o (yielded ops a.tmps) = true) (v : Value) (hrun : ∀ vs w, Γ.inv vs w → ∃ w', (execOp a.eval o).run P w = .ok (.value v) w' ∧ Below w.heap.size w w')
    (hrest : wpM Γ P ops chain a0 F (i + 1) rest (a.put o.dst v) ex) : wpM Γ P ops chain a0 F i (o :: rest) a ex := by
  intro G hG hl hd hrep
  obtain ⟨d, hod⟩ := gplain_dst hp
  obtain ⟨hdi, hds, huniq, hgo⟩ := wpM_next (Γ := Γ) (P := P) (chain := chain) (F := F) hod hG hl hd
  have hex := gplain_ex hp hod
  refine ⟨fun u _ => u = v, glasts_const Γ v, (fun h => by rw [hod] at h; cases h), ?_, hgo _ _ _ (hrep.next hG hdi hds huniq hex (fun u g _ h => h)) (by rw [hod] at hrest; exact hrest)⟩
  rw [hG]
  intro a' g hg _ he
  rw [hc]
  simp only
  have hlook := gplain_look hrep hG hp hg he
  have hsel : noSel o = true := by simp only [gplainOp, Bool.and_eq_true] at hp; exact hp.1.1.2
  rw [wanted_same hlook (glook_guard hp), hw, if_pos rfl]
  unfold Oper.wp
  obtain ⟨w', hr, hb⟩ := hrun g.vs g.w hg
  rw [look_exec hlook hsel, hr]
  exact ⟨_, rfl, hb, rfl⟩
theorem wpM_is (hp : gplainOp ops i o ex = true) (hc : chainIx chain i = none) (hw : Region.wanted o (yielded ops a.tmps) = true) (v : Value) (hrun : ∀ vs w, Γ.inv vs w → (execOp a.eval o).run P w = .ok (.value v) w)
    (hrest : wpM Γ P ops chain a0 F (i + 1) rest (a.put o.dst v) ex) : wpM Γ P ops chain a0 F i (o :: rest) a ex :=
  wpM_val hp hc hw v (fun vs w h => ⟨w, hrun vs w h, Below.refl _ _⟩) hrest
end

theorem wpM_nil {Γ : Ghost} {P : Program} {l : List Oper} {chain : List Nat} {n : Nat} {a0 a : Act} {Q : Exit → Act → World → Prop} {ex : List (Tmp × GPred)} (hex : gexOK l.toArray n a0.tmps.size ex = true) (hn : n ≤ l.length)
    (h : ∀ g : GW, Γ.inv g.vs g.w → g.vs.length = chain.length → gexAll g (fun a' => wpList P l.toArray Q (l.drop n) a' g.w) ex a) :
    wpM Γ P l.toArray chain a0 (fun G => ∀ g : GW, Γ.inv g.vs g.w → g.vs.length = chain.length → gfinS (fun vs => wpList P l.toArray Q (l.drop n) (putAll a0 (l.take n) vs) g.w) g G []) n [] a ex := by
  intro G hG _ hd hrep g hgi hgl
  refine gfinS_intro G [] fun vs hl hA => ?_
  rw [List.nil_append]
  have htl : (l.take n).length = n := by simp; omega
  have hps := putAll_size (l.take n) vs a0
  have hone : ∀ s j, lastW l.toArray n s = some j → (putAll a0 (l.take n) vs).eval (.tmp s) = vs.getD j undef := by
    intro s j hw'
    obtain ⟨hj, hjd⟩ := lastW_some hw'
    obtain ⟨hd2, hd3⟩ := hd j s (by simpa using hj) hjd
    have hjl : j < l.length := by omega
    refine putAll_one (l.take n) vs a0 s j l[j] _ (by simp [hj, hjl]) ?_ (by simpa [dstOf, hjl] using hjd) hd2 (fun k o' hk hne => ?_)
    · have : j < vs.length := by rw [hl, hG]; exact hj
      simp [this]
    · have hkn : k < n := by
        rcases Nat.lt_or_ge k n with h | h
        · exact h
        · rw [List.getElem?_eq_none (by omega)] at hk; cases hk
      have := hd3 k (by simpa using hkn) hne
      have hk' : l[k]? = some o' := by simpa [List.getElem?_take, hkn] using hk
      simpa [dstOf, hk'] using this
  have hnone : ∀ s, lastW l.toArray n s = none → (putAll a0 (l.take n) vs).eval (.tmp s) = a0.eval (.tmp s) := by
    intro s hw'
    refine putAll_none (l.take n) vs a0 s fun o ho hod => ?_
    obtain ⟨k, hk, rfl⟩ := List.mem_iff_getElem.1 ho
    rw [htl] at hk
    have hkl : k < l.length := by omega
    have := List.find?_eq_none.1 hw' k (List.mem_range.2 hk)
    have hod' : l[k].dst = some s := by simpa using hod
    simp [dstOf, hkl, hod'] at this
  have hgo := gexAll_go (fun d => (putAll a0 (l.take n) vs).eval (.tmp d)) ex a (fun x hx => by
    obtain ⟨d, B⟩ := x
    have h1 := List.all_eq_true.1 hex (d, B) hx
    simp only [Bool.and_eq_true] at h1
    obtain ⟨j, hj⟩ := Option.isSome_iff_exists.1 h1.1
    obtain ⟨hjn, _⟩ := lastW_some hj
    have hg : G[j]? = some (G.getD j (fun _ _ => True)) := by simp [hG, hjn]
    show B ((putAll a0 (l.take n) vs).eval (.tmp d)) g
    rw [hone d j hj]
    exact hrep.exs j d _ (by omega) (by rw [hG]; exact hj) hg B hx _ _ hgi (hA j (by omega))) (h g hgi hgl)
  have hf := gfoldl_put (fun d => (putAll a0 (l.take n) vs).eval (.tmp d)) ex a
  have e : ex.foldl (fun a x => a.put (some x.1) ((putAll a0 (l.take n) vs).eval (.tmp x.1))) a = putAll a0 (l.take n) vs := by
    refine act_ext (hf.1.trans (hrep.size.trans hps.1.symm)) (hf.2.1.trans (hrep.defers.trans hps.2.symm)) (fun s hs => ?_)
    rw [hf.1] at hs
    rw [hf.2.2 s hs]
    by_cases hm : s ∈ ex.map (·.1)
    · rw [if_pos hm]
    · rw [if_neg hm]
      cases hlw : lastW l.toArray n s with
      | none => rw [hnone s hlw]; exact hrep.untouched s (by rw [hG]; exact hlw)
      | some j =>
        obtain ⟨hjn, _⟩ := lastW_some hlw
        have hg : G[j]? = some (G.getD j (fun _ _ => True)) := by simp [hG, hjn]
        rw [hone s j hlw]
        exact (hrep.eqs j s _ (by omega) (by rw [hG]; exact hlw) hg hm _ _ hgi (hA j (by omega))).symm
  rw [e] at hgo
  exact hgo

/-- **THE GENERAL REGION, WALKED IN THE ORDER OF THE TEXT.** -/
theorem wp_region_M {P : Program} {id : Nat} {Q : Exit → Act → World → Prop} {a : Act} {w : World} {l : List Oper} (Γ : Ghost) (n : Nat) (chain : List Nat) (hm : P.follows .mixedOrders = true) (hB : headOKn l.toArray n a.tmps.size = true) (hch : chainOK l.toArray chain = true) (hcn : (chain.all fun i => decide (i < n)) = true)
    (hstart : Γ.inv [] w)
    (h : wpM Γ P l.toArray chain a (fun G => ∀ g : GW, Γ.inv g.vs g.w → g.vs.length = chain.length → gfinS (fun vs => wpList P l.toArray Q (l.drop n) (putAll a (l.take n) vs) g.w) g G []) 0 (l.take n) a []) : (Code.region id l.toArray true).wp P Q a w := by
  have hf := headN hB
  have hnl : n ≤ l.length := by simpa using hf.le
  have htl : (l.take n).length = n := by simp; omega
  refine wp_region_N Γ n chain hm hB hch hcn hstart (h [] rfl (fun j hj => by rw [htl] at hj; simp [hj]) (fun j d hj hd => by
    rw [htl, Nat.zero_add] at hj
    obtain ⟨h2, h3⟩ := hf.dst j d hj hd
    exact ⟨h2, fun k hk => h3 k (by rw [htl, Nat.zero_add] at hk; exact hk)⟩) ⟨fun j d A hj => by simp at hj, fun j d A hj => by simp at hj, fun _ _ => rfl, rfl, rfl⟩)

/-- A region that makes one block (z) and then stores into it (behind it: o). -/
def ghN (w0 : World) (z o : Obj) : Ghost where
  inv := fun vs w => Below w0.heap.size w0 w ∧ match vs with
    | [] => True
    | [v] => ∃ b, v = .pointer (some ⟨b, 0, none⟩) ∧ w0.heap.size ≤ b ∧ w.heap[b]? = some z
    | v :: _ => ∃ b, v = .pointer (some ⟨b, 0, none⟩) ∧ w0.heap.size ≤ b ∧ w.heap[b]? = some o
  own := fun vs b => match vs with
    | [v] => v = .pointer (some ⟨b, 0, none⟩)
    | _ => False
  quiet := by
    intro vs w w' h hb
    refine ⟨below_mid h.1 hb, ?_⟩
    match vs, h.2 with
    | [], _ => trivial
    | [v], ⟨b, e, h1, h2⟩ => exact ⟨b, e, h1, (hb.block b (Array.getElem?_eq_some_iff.1 h2).1).trans h2⟩
    | v :: u :: l, ⟨b, e, h1, h2⟩ => exact ⟨b, e, h1, (hb.block b (Array.getElem?_eq_some_iff.1 h2).1).trans h2⟩
theorem ghN_cell {w0 : World} {z o : Obj} {a : Addr} {v : Value} (h : w0.cell? a = some v) (q : (ghN w0 z o).Wd) : q.w.cell? a = some v := keep q.h.1 h
theorem ghN_alloc {w0 w : World} {z o : Obj} {vs : List Value} (h : (ghN w0 z o).inv vs w) (hl : vs.length = 0) : (ghN w0 z o).mv vs w (.pointer (some ⟨w.heap.size, 0, none⟩)) (w.alloc z) := by
  obtain rfl := List.eq_nil_of_length_eq_zero hl
  have hb : Below w.heap.size w (w.alloc z) := (Below.refl _ _).alloc (Nat.le_refl _) z
  refine ⟨⟨below_mid h.1 hb, w.heap.size, rfl, h.1.size, by show (w.heap.push z)[w.heap.size]? = _; simp⟩, hb.size, fun b hlt _ => hb.block b hlt, fun b hb' => ?_⟩
  right
  have : (Value.pointer (some ⟨w.heap.size, 0, none⟩)) = .pointer (some ⟨b, 0, none⟩) := hb'
  simp at this; omega
theorem ghN_store {w0 w w' : World} {z o : Obj} {v : Value} {b : Nat} (h : (ghN w0 z o).inv [v] w) (hv : v = .pointer (some ⟨b, 0, none⟩)) (hs : w'.heap.size = w.heap.size) (hos : w'.os = w.os ∧ w'.tape = w.tape ∧ w'.output = w.output) (ho : w'.heap[b]? = some o) (hne : ∀ k, k ≠ b → w'.heap[k]? = w.heap[k]?) : (ghN w0 z o).mv [v] w v w' := by
  subst hv
  obtain ⟨h1, b', e, h2, h3⟩ := h
  have eb : b = b' := by simpa using e
  subst eb
  refine ⟨⟨⟨hos.1.trans h1.os, hos.2.1.trans h1.tape, hos.2.2.trans h1.output, by rw [hs]; exact h1.size, fun k hk => (hne k (by omega)).trans (h1.block k hk)⟩, b, rfl, h2, ho⟩, by omega, fun k hk hno => ?_, fun k hk => hk.elim⟩
  refine hne k fun e => hno ?_
  show (Value.pointer (some ⟨b, 0, none⟩)) = .pointer (some ⟨k, 0, none⟩)
  rw [e]

theorem ghN_set2 {w0 w : World} {x y : Value} {T : TypeId} {o : Obj} {v0 : Value} (h : (ghN w0 (.cells #[x, y] T) o).inv [v0] w) :
    ∃ b, v0 = .pointer (some ⟨b, 0, none⟩) ∧ ∀ p q : Value, o = .cells #[p, q] T → w.cell? ⟨b, 0, none⟩ = some x ∧ (w.setCell ⟨b, 0, none⟩ p).cell? ⟨b, 1, none⟩ = some y ∧ w.frozen? ⟨b, 0, none⟩ = false ∧ (w.setCell ⟨b, 0, none⟩ p).frozen? ⟨b, 1, none⟩ = false ∧
      (ghN w0 (.cells #[x, y] T) o).mv [v0] w v0 ((w.setCell ⟨b, 0, none⟩ p).setCell ⟨b, 1, none⟩ q) := by
  obtain ⟨h1, b, e, h2, h3⟩ := id h
  have s1 : ∀ (u : World) (c : Array Value) (i : Nat) (z : Value), u.heap[b]? = some (.cells c T) → (u.setCell ⟨b, i, none⟩ z).heap[b]? = some (.cells (c.setIfInBounds i z) T) := fun u c i z hu => by
    have hlt := (Array.getElem?_eq_some_iff.1 hu).1
    have h' : u.heap[b] = .cells c T := by simpa [Array.getElem?_eq_getElem hlt] using hu
    show (u.heap.modify b _)[b]? = _
    rw [Array.getElem?_eq_getElem (by simpa using hlt), Array.getElem_modify_self, h']
    rfl
  refine ⟨b, e, fun p q ho => ?_⟩
  have g1 := s1 w #[x, y] 0 p h3
  have g2 := s1 _ _ 1 q g1
  refine ⟨by simp [World.cell?, h3], by simp [World.cell?, g1], by simp [World.frozen?, h3], by simp [World.frozen?, g1], ghN_store h e (by simp [World.setCell]) ⟨rfl, rfl, rfl⟩ (by rw [ho]; exact g2) fun k hk => ?_⟩
  rw [Below.heap_setCell _ _ _ _ hk, Below.heap_setCell _ _ _ _ hk]

end Go.Proofs.Ytjngfhgcifhioaa
