/- The region that draws, makes memory and changes it (XRegG, XRegH), with operations of the head that have no destination: stores. No program in sight. -/
import Derived.Test.YtjngfhgcifhioaaRegH
namespace Go.Proofs.Ytjngfhgcifhioaa
open Go.RowKit Go.Sort
set_option linter.unusedVariables false
set_option maxRecDepth 100000

/-- The head may hold operations without a destination. -/
def headOKn (ops : Array Oper) (n size : Nat) : Bool :=
  decide (n ≤ ops.size) &&
  ((List.range n).all fun i => match ops[i]? with
    | some o => (o.after.all fun e => !Region.binds .any e || decide (e.on < i)) && (match o.dst with | some d => decide (d < size) && ((List.range n).all fun j => (j == i) || (dstOf ops j != some d)) | none => true)
    | none => false) &&
  (decide (n = ops.size) || (Region.sinkB .any ops n && Region.chainB .any ops n)) &&
  Region.seqB .any ops (ops.size - n) n (Array.replicate n true ++ Array.replicate (ops.size - n) false)
structure HeadN (ops : Array Oper) (n size : Nat) : Prop where
  le : n ≤ ops.size
  back : ∀ i o, i < n → ops[i]? = some o → ∀ e ∈ o.after, Region.binds .any e = true → e.on < i
  dst : ∀ i d, i < n → dstOf ops i = some d → d < size ∧ ∀ j, j < n → j ≠ i → dstOf ops j ≠ some d
  tail : n = ops.size ∨ (Region.sinkB .any ops n = true ∧ Region.chainB .any ops n = true)
  seq : Region.seqB .any ops (ops.size - n) n (Array.replicate n true ++ Array.replicate (ops.size - n) false) = true

theorem headN {ops : Array Oper} {n size : Nat} (h : headOKn ops n size = true) : HeadN ops n size := by
  simp only [headOKn, Bool.and_eq_true, decide_eq_true_eq, Bool.or_eq_true, List.all_eq_true] at h
  obtain ⟨⟨⟨h1, h2⟩, h3⟩, h4⟩ := h
  refine ⟨h1, fun i o hi ho e he hb => ?_, fun i d hi hd => ?_, h3, h4⟩
  · have := h2 i (List.mem_range.2 hi)
    rw [ho] at this
    simp only [Bool.and_eq_true, Array.all_eq_true_iff_forall_mem, Bool.or_eq_true, Bool.not_eq_true', decide_eq_true_eq] at this
    rcases this.1 e he with h | h
    · rw [hb] at h; cases h
    · exact h
  · have := h2 i (List.mem_range.2 hi)
    cases ho : ops[i]? with
    | none => rw [ho] at this; cases this
    | some o =>
      rw [ho] at this
      simp only [Bool.and_eq_true] at this
      have h5 := this.2
      have hod : o.dst = some d := by simpa [dstOf, ho] using hd
      rw [hod] at h5
      simp only [Bool.and_eq_true, decide_eq_true_eq, List.all_eq_true, Bool.or_eq_true, beq_iff_eq, bne_iff_ne] at h5
      refine ⟨h5.1, fun j hj hji => ?_⟩
      rcases h5.2 j (List.mem_range.2 hj) with h | h
      · exact absurd h hji
      · exact h

/-- As gwpS; of an operation without a destination nothing is said. -/
def gwpN (Γ : Ghost) (P : Program) (ops : Array Oper) (chain : List Nat) (a0 : Act) (F : List GPred → Prop) : List Oper → List GPred → Prop
  | [], G => F G
  | o :: rest, G => ∃ A, Γ.lasts A ∧ (o.dst = none → ∀ v g, A v g) ∧ gstepOK Γ P ops a0 G G.length o (chainIx chain G.length) A ∧ gwpN Γ P ops chain a0 F rest (G ++ [A])

section
variable {Γ : Ghost} {P : Program} {ops : Array Oper} {chain : List Nat} {n : Nat} {a0 : Act} {G : List GPred} {Q : Exit → Act → World → Prop}

theorem GInv.envN {listed : Array Bool} {a : Act} {g : GW} {i : Nat} {o : Oper} (hf : HeadN ops n a0.tmps.size) (inv : GInv Γ ops chain n a0 G listed a g) (hi : i ∈ Region.ready .any ops listed) (hin : i < n) (ho : ops[i]? = some o) :
    ∀ ss, genvAll ops a0 G i a g ss := by
  obtain ⟨hun, o', ho', hall⟩ := mem_ready.1 hi
  have : o' = o := Option.some.inj (ho'.symm.trans ho)
  subst this
  intro ss
  induction ss with
  | nil => trivial
  | cons s ss ih =>
    refine ⟨?_, ih⟩
    unfold genvAt
    split
    · rename_i j hj
      have hfd := List.find?_some hj
      simp only [Bool.and_eq_true, beq_iff_eq] at hfd
      obtain ⟨e, he, hb, hon⟩ := waits_mem ho hfd.1
      have hlt := hf.back i o' hin ho e he hb
      have hl := hall e he hb
      rw [hon] at hl hlt
      exact inv.done j s (by omega) hl hfd.2
    · split
      · rename_i horig
        refine inv.rest s fun j hl hd => ?_
        have hjs : j < ops.size := by
          rcases Nat.lt_or_ge j ops.size with h | h
          · exact h
          · simp [dstOf, Array.getElem?_eq_none h] at hd
        have h1 := List.all_eq_true.1 horig j (List.mem_range.2 hjs)
        simp only [Bool.or_eq_true, bne_iff_ne, beq_iff_eq] at h1
        rcases h1 with (h1 | h1) | h1
        · exact h1 hd
        · subst h1; rw [getD_both hun] at hl; cases hl
        · obtain ⟨oj, hoj, e, he, hb, hon⟩ := Region.waitsFor_spec h1
          have := inv.head.closed j oj hoj hl e he hb
          rw [hon, getD_both hun] at this; cases this
      · trivial

/-- One operation more: the world has gone one step on. -/
theorem GInv.nextN {listed : Array Bool} {a : Act} {g g' : GW} {i : Nat} {o : Oper} {v : Value} (hf : HeadN ops n a0.tmps.size) (hG : ∀ j, Γ.lasts (G.getD j (fun _ _ => True))) (inv : GInv Γ ops chain n a0 G listed a g) (hi : i ∈ Region.ready .any ops listed) (hin : i < n) (ho : ops[i]? = some o)
    (hw : Γ.step g g') (hJ : Γ.inv g'.vs g'.w) (hst : ∀ k j, chain[k]? = some j → ((listed.setIfInBounds i true).getD j false = true ↔ k < g'.vs.length)) (hmost : g'.vs.length ≤ chain.length)
    (hA : (G.getD i (fun _ _ => True)) v g') : GInv Γ ops chain n a0 G (listed.setIfInBounds i true) (a.put o.dst v) g' := by
  obtain ⟨hun, _, _, _⟩ := mem_ready.1 hi
  have hil : i < listed.size := by rw [inv.head.size]; exact (Array.getElem?_eq_some_iff.1 ho).1
  cases hod : o.dst with
  | none =>
    have hdi : dstOf ops i = none := by simpa [dstOf, ho] using hod
    refine ⟨inv.head.set hi hin, hJ, hst, hmost, inv.defers, inv.size, fun j d' hj hl hd' => ?_, fun s hs => ?_⟩
    · have hji : j ≠ i := fun h => by subst h; rw [hdi] at hd'; cases hd'
      rw [getD_set_ne false (Ne.symm hji)] at hl
      exact hG j _ _ _ inv.world (inv.done j d' hj hl hd') hw
    · refine inv.rest s fun j hl => ?_
      by_cases hji : j = i
      · subst hji; rw [hdi]; exact fun h => by cases h
      · exact hs j (by rw [getD_set_ne false (Ne.symm hji)]; exact hl)
  | some d =>
  have hd : dstOf ops i = some d := by simpa [dstOf, ho] using hod
  obtain ⟨hds, hdn⟩ := hf.dst i d hin hd
  refine ⟨inv.head.set hi hin, hJ, hst, hmost, ?_, ?_, fun j d' hj hl hd' => ?_, fun s hs => ?_⟩
  · simpa [Act.put] using inv.defers
  · simpa [Act.put] using inv.size
  · by_cases hji : j = i
    · subst hji
      rw [hd] at hd'
      cases hd'
      rw [eval_put_same (by rw [inv.size]; exact hds)]
      exact hA
    · rw [getD_set_ne false (Ne.symm hji)] at hl
      have hne : d ≠ d' := fun h => by subst h; exact hdn j hj hji hd'
      rw [eval_put_ne hne]
      exact hG j _ _ _ inv.world (inv.done j d' hj hl hd') hw
  · have hne : d ≠ s := fun h => by
      subst h
      exact hs i (by simp [hil]) hd
    rw [eval_put_ne hne]
    refine inv.rest s fun j hl => hs j ?_
    by_cases hji : j = i
    · subst hji; simp [hil]
    · rw [getD_set_ne false (Ne.symm hji)]; exact hl

theorem gwpAny_specN (hf : HeadN ops n a0.tmps.size) (hch : chainOK ops chain = true) (hcn : ∀ i ∈ chain, i < n) (hG : ∀ j, Γ.lasts (G.getD j (fun _ _ => True))) (hstep : ∀ i o, i < n → ops[i]? = some o → gstepOK Γ P ops a0 G i o (chainIx chain i) (G.getD i (fun _ _ => True)))
    (hfin : ∀ a g, Γ.inv g.vs g.w → g.vs.length = chain.length → a.defers = a0.defers → a.tmps.size = a0.tmps.size → (∀ j d, j < n → dstOf ops j = some d → (G.getD j (fun _ _ => True)) (a.eval (.tmp d)) g) →
      (∀ s, (∀ j, j < n → dstOf ops j ≠ some s) → a.eval (.tmp s) = a0.eval (.tmp s)) → wpList P ops Q (ops.toList.drop n) a g.w) :
    ∀ (f : Nat) (listed : Array Bool) (a : Act) (g : GW), unl listed n = f → GInv Γ ops chain n a0 G listed a g → wpAny P .any ops Q (f + (ops.size - n)) listed a g.w := by
  intro f
  induction f with
  | zero =>
    intro listed a g hu inv
    have hall := unl_zero hu
    have hl := listed_all inv.head.size hf.le hall inv.head.tail
    have hlen : g.vs.length = chain.length := by
      rcases Nat.lt_or_ge g.vs.length chain.length with h | h
      · have hi : chain[g.vs.length]? = some chain[g.vs.length] := by simp [h]
        have := (inv.stage _ _ hi).1 (hall _ (hcn _ (List.getElem_mem h)))
        omega
      · have := inv.most; omega
    have hw := hfin a g inv.world hlen inv.defers inv.size (fun j d hj hd => inv.done j d hj (hall j hj) hd) (fun s hs => inv.rest s fun j hl' hd => by
      by_cases hj : j < n
      · exact hs j hj hd
      · have hjs : j < ops.size := by
          rcases Nat.lt_or_ge j ops.size with h | h
          · exact h
          · simp [dstOf, Array.getElem?_eq_none h] at hd
        have := inv.head.tail j (by omega) hjs
        rw [getD_both this] at hl'; cases hl')
    have hlen : (ops.toList.drop n).length = ops.size - n := by simp
    rw [Nat.zero_add, ← hlen]
    refine wpAny_of_seq (ops.toList.drop n) n listed a g.w (fun j => by simp [List.getElem?_drop]) ?_ hw
    rw [hlen, hl]
    exact hf.seq
  | succ f ih =>
    intro listed a g hu inv
    obtain ⟨j, hj, hjf, hjb⟩ := unl_pos (listed := listed) (n := n) (by omega)
    have hjs : j < ops.size := by have := hf.le; omega
    have hready : j ∈ Region.ready .any ops listed := by
      refine mem_ready.2 ⟨getD_in (by rw [inv.head.size]; exact hjs) hjf, ops[j], by simp [hjs], fun e he hb => ?_⟩
      exact hjb _ (hf.back j ops[j] hj (by simp [hjs]) e he hb)
    rw [show f + 1 + (ops.size - n) = (f + (ops.size - n)) + 1 by omega]
    refine ⟨fun h0 => (by rw [h0] at hready; cases hready), fun i hi => ?_⟩
    have hin : i < n := by
      rcases Nat.lt_or_ge i n with h | h
      · exact h
      · exfalso
        obtain ⟨_, oi, hoi, _⟩ := mem_ready.1 hi
        have his : i < ops.size := (Array.getElem?_eq_some_iff.1 hoi).1
        rcases hf.tail with ht | ⟨hs, hc⟩
        · omega
        · exact tail_waits hs hc (by omega) inv.head (n - j) j rfl hj (getD_in (by rw [inv.head.size]; exact hjs) hjf) i h hi
    obtain ⟨hun, o, ho, _⟩ := mem_ready.1 hi
    have henv := inv.envN hf hi hin ho (o.looksAt ops)
    have hs := hstep i o hin ho a g inv.world inv.size henv
    have hu' : unl (listed.setIfInBounds i true) n = f := by
      have := unl_set hin (by rw [inv.head.size]; exact (Array.getElem?_eq_some_iff.1 ho).1) (getD_both hun)
      omega
    unfold wpOp
    simp only [ho]
    cases hck : chainIx chain i with
    | none =>
      rw [hck] at hs
      simp only at hs
      have hstq := inv.stageQ hck
      by_cases hwt : Region.wanted o (yielded ops a.tmps) = true
      · rw [if_pos hwt] at hs ⊢
        refine .inl (upon_mono ?_ (fun _ _ _ h => h.elim) hs)
        rintro a' w' ⟨v, rfl, hb, hA⟩
        exact ih _ _ ⟨g.vs, w'⟩ hu' (inv.nextN hf hG hi hin ho (.inl ⟨rfl, hb⟩) (Γ.quiet _ _ _ inv.world hb) hstq inv.most hA)
      · rw [if_neg hwt] at hs ⊢
        exact ih _ _ g hu' (inv.nextN hf hG hi hin ho (.inl ⟨rfl, Below.refl _ _⟩) inv.world hstq inv.most hs)
    | some k =>
      rw [hck] at hs
      simp only at hs
      obtain ⟨hk, hstc⟩ := inv.stageC hch hi hck
      have hs' := hs hk
      by_cases hwt : Region.wanted o (yielded ops a.tmps) = true
      · rw [if_pos hwt] at hs' ⊢
        refine .inl (upon_mono ?_ (fun _ _ _ h => h.elim) hs')
        rintro a' w' ⟨v, rfl, hb, hA⟩
        exact ih _ _ ⟨g.vs ++ [v], w'⟩ hu' (inv.nextN hf hG hi hin ho (.inr ⟨v, rfl, hb⟩) hb.1 (hstc v).1 (hstc v).2 hA)
      · rw [if_neg hwt] at hs' ⊢
        exact ih _ _ ⟨g.vs ++ [undef], g.w⟩ hu' (inv.nextN hf hG hi hin ho (.inr ⟨undef, rfl, hs'.1⟩) hs'.1.1 (hstc undef).1 (hstc undef).2 hs'.2)
end

theorem gwpN_parts {Γ : Ghost} {P : Program} {ops : Array Oper} {chain : List Nat} {a0 : Act} {F : List GPred → Prop} : ∀ (l : List Oper) (G : List GPred), (∀ A ∈ G, Γ.lasts A) → (∀ j, j < l.length → l[j]? = ops[G.length + j]?) →
    gwpN Γ P ops chain a0 F l G → ∃ G', F (G ++ G') ∧ G'.length = l.length ∧ (∀ A ∈ G', Γ.lasts A) ∧ (∀ j o, j < l.length → ops[G.length + j]? = some o → o.dst = none → ∀ v g, ((G ++ G').getD (G.length + j) (fun _ _ => True)) v g) ∧ ∀ j o, j < l.length → ops[G.length + j]? = some o → gstepOK Γ P ops a0 ((G ++ G').take (G.length + j)) (G.length + j) o (chainIx chain (G.length + j)) ((G ++ G').getD (G.length + j) (fun _ _ => True))
  | [], G, _, _, h => ⟨[], by simpa [gwpN] using h, rfl, by simp, fun j o hj => by simp at hj, fun j o hj => by simp at hj⟩
  | o :: l, G, hG, hl, h => by
    obtain ⟨A, hA, hno, hs, hr⟩ := h
    obtain ⟨G', hF, hlen, hG', hnn, hst⟩ := gwpN_parts l (G ++ [A]) (fun B hB => by
      rcases List.mem_append.1 hB with h | h
      · exact hG B h
      · simp at h; subst h; exact hA) (fun j hj => by
        have := hl (j + 1) (by simp; omega)
        simpa [Nat.add_assoc, Nat.add_comm 1 j] using this) hr
    refine ⟨A :: G', by simpa using hF, by simp [hlen], fun B hB => ?_, fun j oj hj hoj hd => ?_, fun j oj hj hoj => ?_⟩
    · rcases List.mem_cons.1 hB with h | h
      · subst h; exact hA
      · exact hG' B h
    · cases j with
      | zero =>
        have h0 : some o = ops[G.length]? := by simpa using hl 0 (by simp)
        rw [Nat.add_zero] at hoj ⊢
        rw [← h0] at hoj
        cases hoj
        have := hno hd
        simpa using this
      | succ j =>
        have := hnn j oj (by simpa using hj) (by simpa [Nat.add_assoc, Nat.add_comm 1 j] using hoj) hd
        simpa [Nat.add_assoc, Nat.add_comm 1 j] using this
    · cases j with
      | zero =>
        have h0 : some o = ops[G.length]? := by simpa using hl 0 (by simp)
        rw [Nat.add_zero] at hoj ⊢
        rw [← h0] at hoj
        cases hoj
        simpa using hs
      | succ j =>
        have := hst j oj (by simpa using hj) (by simpa [Nat.add_assoc, Nat.add_comm 1 j] using hoj)
        simpa [Nat.add_assoc, Nat.add_comm 1 j] using this

theorem genvAll_takeN {ops : Array Oper} {n size : Nat} (hf : HeadN ops n size) {a0 : Act} {G : List GPred} {i : Nat} {o : Oper} (ho : ops[i]? = some o) (hin : i < n) {a : Act} {g : GW} :
    ∀ ss, genvAll ops a0 G i a g ss → genvAll ops a0 (G.take i) i a g ss
  | [], _ => trivial
  | s :: ss, ⟨h1, h2⟩ => by
    refine ⟨?_, genvAll_takeN hf ho hin ss h2⟩
    unfold genvAt at h1 ⊢
    split at h1
    · rename_i j hj
      have hfd := List.find?_some hj
      simp only [Bool.and_eq_true, beq_iff_eq] at hfd
      obtain ⟨e, he, hb, hon⟩ := waits_mem ho hfd.1
      have hlt := hf.back i o hin ho e he hb
      rw [hon] at hlt
      have hg : (G.take i).getD j (fun _ _ => True) = G.getD j (fun _ _ => True) := by simp [hlt]
      rw [hg]; exact h1
    · exact h1

/-- **A REGION THAT DRAWS, MAKES MEMORY AND CHANGES IT.** -/
theorem wp_region_N {P : Program} {id : Nat} {Q : Exit → Act → World → Prop} {a : Act} {w : World} {l : List Oper} (Γ : Ghost) (n : Nat) (chain : List Nat) (hm : P.follows .mixedOrders = true) (hB : headOKn l.toArray n a.tmps.size = true) (hch : chainOK l.toArray chain = true) (hcn : (chain.all fun i => decide (i < n)) = true)
    (hstart : Γ.inv [] w)
    (h : gwpN Γ P l.toArray chain a (fun G => ∀ g, Γ.inv g.vs g.w → g.vs.length = chain.length → gfinS (fun vs => wpList P l.toArray Q (l.drop n) (putAll a (l.take n) vs) g.w) g G []) (l.take n) []) : (Code.region id l.toArray true).wp P Q a w := by
  have hf := headN hB
  have hnl : n ≤ l.length := by simpa using hf.le
  have htl : (l.take n).length = n := by simp; omega
  obtain ⟨G, hF, hlen, hG, hnn, hst⟩ := gwpN_parts (l.take n) [] (by simp) (fun j hj => by rw [htl] at hj; simp [hj]) h
  simp only [List.nil_append, List.length_nil, Nat.zero_add] at hF hst hnn
  rw [htl] at hlen hst hnn
  refine wp_region_any hm ?_
  have hstep : ∀ i o, i < n → l.toArray[i]? = some o → gstepOK Γ P l.toArray a G i o (chainIx chain i) (G.getD i (fun _ _ => True)) := by
    intro i o hi ho a' g hw hs henv
    exact hst i o hi ho a' g hw hs (genvAll_takeN hf ho hi _ henv)
  have key := gwpAny_specN (P := P) (Q := Q) (G := G) (Γ := Γ) (a0 := a) hf hch (fun i hi => by simpa using List.all_eq_true.1 hcn i hi) (glasts_getD hG) hstep (fun a' g hw hvl hd hs hA hR => by
    have hfin := gfinS_go G [] ((List.range n).map fun j => match dstOf l.toArray j with | some d => a'.eval (.tmp d) | none => undef) (by simp [hlen]) (fun j hj => by
      rw [hlen] at hj
      cases hdj : dstOf l.toArray j with
      | some d =>
        have := hA j d hj hdj
        simpa [hj, hdj] using this
      | none =>
        have hjl : j < l.length := by omega
        have := hnn j l[j] hj (by simp [hjl]) (by simpa [dstOf, hjl] using hdj) undef g
        simpa [hj, hdj] using this) (hF g hw hvl)
    have e : putAll a (l.take n) ((List.range n).map fun j => match dstOf l.toArray j with | some d => a'.eval (.tmp d) | none => undef) = a' := by
      have hps := putAll_size (l.take n) ((List.range n).map fun j => match dstOf l.toArray j with | some d => a'.eval (.tmp d) | none => undef) a
      refine act_ext (hps.1.trans hs.symm) (hps.2.trans hd.symm) (fun s hs' => ?_)
      by_cases hex : ∃ j, j < n ∧ dstOf l.toArray j = some s
      · obtain ⟨j, hj, hjd⟩ := hex
        have hjl : j < l.length := by omega
        obtain ⟨hlt, huniq⟩ := hf.dst j s hj hjd
        exact putAll_one (l.take n) _ a s j l[j] _ (by simp [hj, hjl]) (by simp [hj, hjd]) (by simpa [dstOf, hjl] using hjd) hlt (fun k o' hk hne => by
          have hkn : k < n := by
            rcases Nat.lt_or_ge k n with h | h
            · exact h
            · rw [List.getElem?_eq_none (by omega)] at hk; cases hk
          have := huniq k hkn hne
          have hk' : l[k]? = some o' := by simpa [List.getElem?_take, hkn] using hk
          simpa [dstOf, hk'] using this)
      · rw [putAll_none (l.take n) _ a s (fun o ho hd' => hex (by
          obtain ⟨k, hk, rfl⟩ := List.mem_iff_getElem.1 ho
          rw [htl] at hk
          refine ⟨k, hk, ?_⟩
          have hkl : k < l.length := by omega
          simpa [dstOf, hkl] using hd'))]
        exact (hR s (fun j hj hjd => hex ⟨j, hj, hjd⟩)).symm
    rw [List.nil_append, e] at hfin
    simpa using hfin) n (Array.replicate l.toArray.size false) a ⟨[], { w with drawn := w.drawn + 1 }⟩ ?_ ⟨?_, ?_, ?_, ?_, rfl, rfl, ?_, fun s _ => rfl⟩
  · rw [show n + (l.toArray.size - n) = l.toArray.size by have := hf.le; omega] at key
    exact key
  · unfold unl
    rw [List.countP_eq_length.2]
    · simp
    · intro j _; simp only [getD_replicate_false]; rfl
  · exact ⟨by simp, fun j oj _ hl => (by rw [getD_replicate_false] at hl; cases hl), fun t _ ht => getD_in (by simpa using ht) (getD_replicate_false _ _)⟩
  · exact Γ.quiet _ _ _ hstart ((Below.refl _ w).drew)
  · intro k i _
    rw [getD_replicate_false]
    simp
  · simp
  · intro j d _ hl _
    rw [getD_replicate_false] at hl; cases hl

end Go.Proofs.Ytjngfhgcifhioaa
