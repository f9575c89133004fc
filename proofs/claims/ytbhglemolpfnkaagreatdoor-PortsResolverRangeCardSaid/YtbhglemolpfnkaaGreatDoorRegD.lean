/- The regions of XRegion and XRegion2, over worlds that have only grown and drawn more. Printed by wip/tools/genRegD.py. -/
import Derived.Test.YtbhglemolpfnkaaGreatDoorBb
set_option linter.unusedVariables false
set_option maxRecDepth 100000
set_option maxHeartbeats 32000000
namespace Go.Proofs.YtbhglemolpfnkaaGreatDoor.D
open Go.RowKit Go.Sort

variable {w : World} {listed : Array Bool}
structure Bel (B : Nat) (a w : World) : Prop where
 below : Below B a w
 drawn : a.drawn ≤ w.drawn
theorem Bel.refl (B : Nat) (w : World) : Bel B w w := ⟨Below.refl _ _, Nat.le_refl _⟩
theorem Bel.size {B : Nat} {a w : World} (h : Bel B a w) : a.heap.size ≤ w.heap.size := h.below.size
theorem Bel.drew {B : Nat} {a w : World} (h : Bel B a w) : Bel B a w.drew := ⟨h.below.drew, Nat.le_succ_of_le h.drawn⟩
theorem Bel.mono {B B' : Nat} {a w : World} (h : Bel B a w) (hB : B' ≤ B) : Bel B' a w := ⟨h.below.mono hB, h.drawn⟩
theorem Bel.block {B : Nat} {a w : World} (h : Bel B a w) : ∀ k, k < B → w.heap[k]? = a.heap[k]? := h.below.block
theorem bel_mid {w W w' : World} (h : Bel w.heap.size w W) (h' : Bel W.heap.size W w') : Bel w.heap.size w w' := ⟨below_mid h.below h'.below, Nat.le_trans h.drawn h'.drawn⟩
theorem bel_alloc (w : World) (o : Obj) : Bel w.heap.size w (w.alloc o) := ⟨(Below.refl _ _).alloc (Nat.le_refl _) _, Nat.le_refl _⟩
theorem Bel.grown {w w' : World} (h : Bel w.heap.size w w') : ∃ q os, w' = grow (w.drewN q) os := by
 obtain ⟨⟨d, os⟩, e⟩ := regrown_of_below h.below
 have hd : w'.drawn = d := by rw [e]; unfold grow redrawn; rfl
 refine ⟨d - w.drawn, os, ?_⟩
 have : redrawn w d = w.drewN (d - w.drawn) := by
  unfold redrawn World.drewN
  have := h.drawn
  rw [show w.drawn + (d - w.drawn) = d by omega]
 rw [e, this]


abbrev Pred := Value → World → Prop
def Lasts (A : Pred) : Prop := ∀ v w w', A v w → Bel w.heap.size w w' → A v w'

def stepOK (P : Program) (ops : Array Oper) (w0 : World) (a0 : Act) (G : List Pred) (i : Nat) (o : Oper) (A : Pred) : Prop :=
 ∀ a w, Bel w0.heap.size w0 w → a.tmps.size = a0.tmps.size → envAll ops a0 G i a w (o.looksAt ops) →
  if Region.wanted o (yielded ops a.tmps) then o.wp P a w (fun a' w' => ∃ v, a' = a.put o.dst v ∧ Bel w.heap.size w w' ∧ A v w') (fun _ _ _ => False) else A undef w

def wpS (P : Program) (ops : Array Oper) (w0 : World) (a0 : Act) (F : List Pred → Prop) : List Oper → List Pred → Prop
 | [], G => F G
 | o :: rest, G => ∃ A, Lasts A ∧ stepOK P ops w0 a0 G G.length o A ∧ wpS P ops w0 a0 F rest (G ++ [A])

structure SInv (ops : Array Oper) (n : Nat) (w0 : World) (a0 : Act) (G : List Pred) (listed : Array Bool) (a : Act) (w : World) : Prop where
 head : HeadInv .any ops n listed
 world : Bel w0.heap.size w0 w
 defers : a.defers = a0.defers
 size : a.tmps.size = a0.tmps.size
 done : ∀ j d, j < n → listed.getD j false = true → dstOf ops j = some d → (G.getD j (fun _ _ => True)) (a.eval (.tmp d)) w
 rest : ∀ s, (∀ j, listed.getD j false = true → dstOf ops j ≠ some s) → a.eval (.tmp s) = a0.eval (.tmp s)

section
variable {P : Program} {ops : Array Oper} {n : Nat} {w0 : World} {a0 : Act} {G : List Pred} {Q : Exit → Act → World → Prop}

theorem SInv.env {a : Act} {i : Nat} {o : Oper} (hf : HeadFacts ops n a0.tmps.size) (inv : SInv ops n w0 a0 G listed a w) (hi : i ∈ Region.ready .any ops listed) (hin : i < n) (ho : ops[i]? = some o) :
  ∀ ss, envAll ops a0 G i a w ss := by
 obtain ⟨hun, o', ho', hall⟩ := mem_ready.1 hi
 have : o' = o := Option.some.inj (ho'.symm.trans ho)
 subst this
 intro ss
 induction ss with
 | nil => trivial
 | cons s ss ih =>
  refine ⟨?_, ih⟩
  unfold envAt
  split
  ·
   rename_i j hj
   have hfd := List.find?_some hj
   simp only [Bool.and_eq_true, beq_iff_eq] at hfd
   obtain ⟨e, he, hb, hon⟩ := waits_mem ho hfd.1
   have hlt := hf.back i o' hin ho e he hb
   have hl := hall e he hb
   rw [hon] at hl hlt
   exact inv.done j s (by omega) hl hfd.2
  ·
   split
   ·
    rename_i horig
    refine inv.rest s fun j hl hd => ?_
    have hjs : j < ops.size := by
     rcases Nat.lt_or_ge j ops.size with h | h
     ·
      exact h
     ·
      simp [dstOf, Array.getElem?_eq_none h] at hd
    have h1 := List.all_eq_true.1 horig j (List.mem_range.2 hjs)
    simp only [Bool.or_eq_true, bne_iff_ne, beq_iff_eq] at h1
    rcases h1 with (h1 | h1) | h1
    ·
     exact h1 hd
    ·
     subst h1; rw [getD_both hun] at hl; cases hl
    ·
     obtain ⟨oj, hoj, e, he, hb, hon⟩ := Region.waitsFor_spec h1
     have := inv.head.closed j oj hoj hl e he hb
     rw [hon, getD_both hun] at this; cases this
   ·
    trivial

theorem SInv.next {a : Act} {w w' : World} {i : Nat} {o : Oper} {v : Value} (hf : HeadFacts ops n a0.tmps.size) (hG : ∀ j, Lasts (G.getD j (fun _ _ => True))) (inv : SInv ops n w0 a0 G listed a w) (hi : i ∈ Region.ready .any ops listed) (hin : i < n) (ho : ops[i]? = some o)
  (hw : Bel w.heap.size w w') (hA : (G.getD i (fun _ _ => True)) v w') : SInv ops n w0 a0 G (listed.setIfInBounds i true) (a.put o.dst v) w' := by
 obtain ⟨d, hd, hds, hdn⟩ := hf.dst i hin
 have hod : o.dst = some d := by simpa [dstOf, ho] using hd
 obtain ⟨hun, _, _, _⟩ := mem_ready.1 hi
 have hil : i < listed.size := by rw [inv.head.size]; exact (Array.getElem?_eq_some_iff.1 ho).1
 rw [hod]
 refine ⟨inv.head.set hi hin, bel_mid inv.world hw, ?_, ?_, fun j d' hj hl hd' => ?_, fun s hs => ?_⟩
 ·
  simpa [Act.put] using inv.defers
 ·
  simpa [Act.put] using inv.size
 ·
  by_cases hji : j = i
  ·
   subst hji
   rw [hd] at hd'
   cases hd'
   rw [eval_put_same (by rw [inv.size]; exact hds)]
   exact hA
  ·
   rw [getD_set_ne false (Ne.symm hji)] at hl
   have hne : d ≠ d' := fun h => by subst h; exact hdn j hj hji hd'
   rw [eval_put_ne hne]
   exact hG j _ _ _ (inv.done j d' hj hl hd') hw
 ·
  have hne : d ≠ s := fun h => by
   subst h
   exact hs i (by simp [hil]) hd
  rw [eval_put_ne hne]
  refine inv.rest s fun j hl => hs j ?_
  by_cases hji : j = i
  ·
   subst hji; simp [hil]
  ·
   rw [getD_set_ne false (Ne.symm hji)]; exact hl

theorem wpAny_spec (hf : HeadFacts ops n a0.tmps.size) (hG : ∀ j, Lasts (G.getD j (fun _ _ => True))) (hstep : ∀ i o, i < n → ops[i]? = some o → stepOK P ops w0 a0 G i o (G.getD i (fun _ _ => True)))
  (hfin : ∀ a w, Bel w0.heap.size w0 w → a.defers = a0.defers → a.tmps.size = a0.tmps.size → (∀ j d, j < n → dstOf ops j = some d → (G.getD j (fun _ _ => True)) (a.eval (.tmp d)) w) →
   (∀ s, (∀ j, j < n → dstOf ops j ≠ some s) → a.eval (.tmp s) = a0.eval (.tmp s)) → wpList P ops Q (ops.toList.drop n) a w) :
  ∀ (f : Nat) (listed : Array Bool) (a : Act) (w : World), unl listed n = f → SInv ops n w0 a0 G listed a w → wpAny P .any ops Q (f + (ops.size - n)) listed a w := by
 intro f
 induction f with
 | zero =>
  intro listed a w hu inv
  have hall := unl_zero hu
  have hl := listed_all inv.head.size hf.le hall inv.head.tail
  have hw := hfin a w inv.world inv.defers inv.size (fun j d hj hd => inv.done j d hj (hall j hj) hd) (fun s hs => inv.rest s fun j hl' hd => by
   by_cases hj : j < n
   ·
    exact hs j hj hd
   ·
    have hjs : j < ops.size := by
     rcases Nat.lt_or_ge j ops.size with h | h
     ·
      exact h
     ·
      simp [dstOf, Array.getElem?_eq_none h] at hd
    have := inv.head.tail j (by omega) hjs
    rw [getD_both this] at hl'; cases hl')
  have hlen : (ops.toList.drop n).length = ops.size - n := by simp
  rw [Nat.zero_add, ← hlen]
  refine wpAny_of_seq (ops.toList.drop n) n listed a w (fun j => by simp [List.getElem?_drop]) ?_ hw
  rw [hlen, hl]
  exact hf.seq
 | succ f ih =>
  intro listed a w hu inv
  obtain ⟨j, hj, hjf, hjb⟩ := unl_pos (listed := listed) (n := n) (by omega)
  have hjs : j < ops.size := by have := hf.le; omega
  have hready : j ∈ Region.ready .any ops listed := by
   refine mem_ready.2 ⟨getD_in (by rw [inv.head.size]; exact hjs) hjf, ops[j], by simp [hjs], fun e he hb => ?_⟩
   exact hjb _ (hf.back j ops[j] hj (by simp [hjs]) e he hb)
  rw [show f + 1 + (ops.size - n) = (f + (ops.size - n)) + 1 by omega]
  refine ⟨fun h0 => (by rw [h0] at hready; cases hready), fun i hi => ?_⟩
  have hin : i < n := by
   rcases Nat.lt_or_ge i n with h | h
   ·
    exact h
   ·
    exfalso
    obtain ⟨_, oi, hoi, _⟩ := mem_ready.1 hi
    have his : i < ops.size := (Array.getElem?_eq_some_iff.1 hoi).1
    rcases hf.tail with ht | ⟨hs, hc⟩
    ·
     omega
    ·
     exact tail_waits hs hc (by omega) inv.head (n - j) j rfl hj (getD_in (by rw [inv.head.size]; exact hjs) hjf) i h hi
  obtain ⟨hun, o, ho, _⟩ := mem_ready.1 hi
  have henv := inv.env hf hi hin ho (o.looksAt ops)
  have hs := hstep i o hin ho a w inv.world inv.size henv
  have hu' : unl (listed.setIfInBounds i true) n = f := by
   have := unl_set hin (by rw [inv.head.size]; exact (Array.getElem?_eq_some_iff.1 ho).1) (getD_both hun)
   omega
  unfold wpOp
  simp only [ho]
  by_cases hwt : Region.wanted o (yielded ops a.tmps) = true
  ·
   rw [if_pos hwt] at hs ⊢
   refine .inl (upon_mono ?_ (fun _ _ _ h => h.elim) hs)
   rintro a' w' ⟨v, rfl, hb, hA⟩
   exact ih _ _ _ hu' (inv.next hf hG hi hin ho hb hA)
  ·
   rw [if_neg hwt] at hs ⊢
   exact ih _ _ _ hu' (inv.next hf hG hi hin ho (Bel.refl _ _) hs)
end

theorem wpS_parts {P : Program} {ops : Array Oper} {w0 : World} {a0 : Act} {F : List Pred → Prop} : ∀ (l : List Oper) (G : List Pred), (∀ A ∈ G, Lasts A) → (∀ j, j < l.length → l[j]? = ops[G.length + j]?) →
  wpS P ops w0 a0 F l G → ∃ G', F (G ++ G') ∧ G'.length = l.length ∧ (∀ A ∈ G', Lasts A) ∧ ∀ j o, j < l.length → ops[G.length + j]? = some o → stepOK P ops w0 a0 ((G ++ G').take (G.length + j)) (G.length + j) o ((G ++ G').getD (G.length + j) (fun _ _ => True))
 | [], G, _, _, h => ⟨[], by simpa [wpS] using h, rfl, by simp, fun j o hj => by simp at hj⟩
 | o :: l, G, hG, hl, h => by
  obtain ⟨A, hA, hs, hr⟩ := h
  obtain ⟨G', hF, hlen, hG', hst⟩ := wpS_parts l (G ++ [A]) (fun B hB => by
   rcases List.mem_append.1 hB with h | h
   ·
    exact hG B h
   ·
    simp at h; subst h; exact hA) (fun j hj => by
    have := hl (j + 1) (by simp; omega)
    simpa [Nat.add_assoc, Nat.add_comm 1 j] using this) hr
  refine ⟨A :: G', by simpa using hF, by simp [hlen], fun B hB => ?_, fun j oj hj hoj => ?_⟩
  ·
   rcases List.mem_cons.1 hB with h | h
   ·
    subst h; exact hA
   ·
    exact hG' B h
  ·
   cases j with
   | zero =>
    have h0 : some o = ops[G.length]? := by simpa using hl 0 (by simp)
    rw [Nat.add_zero] at hoj ⊢
    rw [← h0] at hoj
    cases hoj
    simpa using hs
   | succ j =>
    have := hst j oj (by simpa using hj) (by simpa [Nat.add_assoc, Nat.add_comm 1 j] using hoj)
    simpa [Nat.add_assoc, Nat.add_comm 1 j] using this

theorem lasts_getD {G : List Pred} (h : ∀ A ∈ G, Lasts A) (j : Nat) : Lasts (G.getD j (fun _ _ => True)) := by
 rcases Nat.lt_or_ge j G.length with hj | hj
 ·
  rw [List.getD_eq_getElem?_getD, List.getElem?_eq_getElem hj]; exact h _ (List.getElem_mem hj)
 ·
  rw [List.getD_eq_getElem?_getD, List.getElem?_eq_none hj]; intro _ _ _ _ _; trivial

theorem wp_region_S {P : Program} {id : Nat} {Q : Exit → Act → World → Prop} {a : Act} {l : List Oper} (n : Nat) (hm : P.follows .mixedOrders = true) (hB : headOK l.toArray n a.tmps.size = true)
  (h : wpS P l.toArray w a (fun G => ∀ w', Bel w.heap.size w w' → finS (fun vs w' => wpList P l.toArray Q (l.drop n) (putAll a (l.take n) vs) w') w' G []) (l.take n) []) : (Code.region id l.toArray true).wp P Q a w := by
 have hf := headFacts hB
 have hnl : n ≤ l.length := by simpa using hf.le
 have htl : (l.take n).length = n := by simp; omega
 obtain ⟨G, hF, hlen, hG, hst⟩ := wpS_parts (l.take n) [] (by simp) (fun j hj => by rw [htl] at hj; simp [hj]) h
 simp only [List.nil_append, List.length_nil, Nat.zero_add] at hF hst
 rw [htl] at hlen hst
 refine wp_region_any hm ?_
 have hstep : ∀ i o, i < n → l.toArray[i]? = some o → stepOK P l.toArray w a G i o (G.getD i (fun _ _ => True)) := by
  intro i o hi ho a' w' hw hs henv
  exact hst i o hi ho a' w' hw hs (envAll_take hf ho hi _ henv)
 have key := wpAny_spec (P := P) (Q := Q) (G := G) (w0 := w) (a0 := a) hf (lasts_getD hG) hstep (fun a' w' hw hd hs hA hR => by
  have hfin := finS_go G [] ((List.range n).map fun j => match dstOf l.toArray j with | some d => a'.eval (.tmp d) | none => undef) (by simp [hlen]) (fun j hj => by
   rw [hlen] at hj
   obtain ⟨d, hd', _, _⟩ := hf.dst j hj
   have := hA j d hj hd'
   simpa [hj, hd'] using this) (hF w' hw)
  have e : putAll a (l.take n) ((List.range n).map fun j => match dstOf l.toArray j with | some d => a'.eval (.tmp d) | none => undef) = a' := by
   have hps := putAll_size (l.take n) ((List.range n).map fun j => match dstOf l.toArray j with | some d => a'.eval (.tmp d) | none => undef) a
   refine act_ext (hps.1.trans hs.symm) (hps.2.trans hd.symm) (fun s hs' => ?_)
   by_cases hex : ∃ j, j < n ∧ dstOf l.toArray j = some s
   ·
    obtain ⟨j, hj, hjd⟩ := hex
    have hjl : j < l.length := by omega
    obtain ⟨d, hd', hlt, huniq⟩ := hf.dst j hj
    rw [hjd] at hd'
    cases hd'
    exact putAll_one (l.take n) _ a s j l[j] _ (by simp [hj, hjl]) (by simp [hj, hjd]) (by simpa [dstOf, hjl] using hjd) hlt (fun k o' hk hne => by
     have hkn : k < n := by
      rcases Nat.lt_or_ge k n with h | h
      ·
       exact h
      ·
       rw [List.getElem?_eq_none (by omega)] at hk; cases hk
     have := huniq k hkn hne
     have hk' : l[k]? = some o' := by simpa [List.getElem?_take, hkn] using hk
     simpa [dstOf, hk'] using this)
   ·
    rw [putAll_none (l.take n) _ a s (fun o ho hd' => hex (by
     obtain ⟨k, hk, rfl⟩ := List.mem_iff_getElem.1 ho
     rw [htl] at hk
     refine ⟨k, hk, ?_⟩
     have hkl : k < l.length := by omega
     simpa [dstOf, hkl] using hd'))]
    exact (hR s (fun j hj hjd => hex ⟨j, hj, hjd⟩)).symm
  rw [List.nil_append, e] at hfin
  simpa using hfin) n (Array.replicate l.toArray.size false) a { w with drawn := w.drawn + 1 } ?_ ⟨?_, ?_, rfl, rfl, ?_, fun s _ => rfl⟩
 ·
  rw [show n + (l.toArray.size - n) = l.toArray.size by have := hf.le; omega] at key
  exact key
 ·
  unfold unl
  rw [List.countP_eq_length.2]
  ·
   simp
  ·
   intro j _; simp only [getD_replicate_false]; rfl
 ·
  exact ⟨by simp, fun j oj _ hl => (by rw [getD_replicate_false] at hl; cases hl), fun t _ ht => getD_in (by simpa using ht) (getD_replicate_false _ _)⟩
 ·
  exact (Bel.refl _ w).drew
 ·
  intro j d _ hl _
  rw [getD_replicate_false] at hl; cases hl


def wpR (P : Program) (ops : Array Oper) (w0 : World) (a0 : Act) (F : List Pred → Prop) (i : Nat) (l : List Oper) (a : Act) (ex : List (Tmp × Pred)) : Prop :=
 ∀ G, G.length = i → (∀ j, j < l.length → l[j]? = ops[i + j]?) → (∀ j, j < i + l.length → ∃ d, dstOf ops j = some d ∧ d < a0.tmps.size ∧ ∀ k, k < i + l.length → k ≠ j → dstOf ops k ≠ some d) → Rep ops a0 G a ex → wpS P ops w0 a0 F l G

section
variable {P : Program} {ops : Array Oper} {w0 : World} {a0 : Act} {F : List Pred → Prop} {i : Nat} {o : Oper} {rest : List Oper} {a : Act} {ex : List (Tmp × Pred)}

theorem wpR_want (hp : plainOp ops i o ex = true) (hv : valOp o = true) (hw : Region.wanted o (yielded ops a.tmps) = true)
  (h : ∀ K : Act → Prop, (∀ a', wpR P ops w0 a0 F (i + 1) rest a' ex → K a') → o.quiet P a (fun w' => ∃ p : Regrown, w' = grow (redrawn w0 p.d) p.os) K) : wpR P ops w0 a0 F i (o :: rest) a ex := by
 intro G hG hl hd hrep
 obtain ⟨v, hq, hK⟩ := h _ (fun _ h => h)
 have ho : ops[i]? = some o := by simpa using (hl 0 (by simp)).symm
 obtain ⟨d, hdi, hds, huniq⟩ := hd i (by simp)
 have hod : o.dst = some d := by simpa [dstOf, ho] using hdi
 have hex : d ∉ ex.map (·.1) := by
  simp only [plainOp, Bool.and_eq_true] at hp
  have := hp.2
  rw [hod] at this
  simpa using this
 refine ⟨fun u _ => u = v, fun _ _ _ h _ => h, fun a' w hw0 _ he => ?_, ?_⟩
 ·
  rw [hG] at he
  have hlook := plain_look hrep hG hp he
  have hsel : noSel o = true := by simp only [plainOp, Bool.and_eq_true] at hp; exact hp.1.1.2
  rw [wanted_same hlook (look_guard hp), hw, if_pos rfl]
  have h3 := hq w (regrown_of_below hw0.below)
  unfold Oper.quietAt at h3
  unfold Oper.wp
  rw [look_exec hlook hsel]
  cases hr : (execOp a.eval o).run P w with
  | ok n w' =>
   obtain ⟨u, rfl⟩ := valOp_value hv hr
   rw [hr] at h3
   obtain ⟨e1, e2⟩ := h3
   rw [e1, e2]
   exact ⟨_, rfl, Bel.refl _ _, rfl⟩
  | halt x w' => rw [hr] at h3; simp only [Oper.quietUpon] at h3
 ·
  exact hK (G ++ [fun u _ => u = v]) (by simp [hG]) (fun j hj => by have := hl (j + 1) (by simp; omega); simpa [Nat.add_assoc, Nat.add_comm 1 j] using this)
   (fun j hj => by
    obtain ⟨d', h1, h2, h3⟩ := hd j (by simp; omega)
    exact ⟨d', h1, h2, fun k hk => h3 k (by simp; omega)⟩)
   (by rw [hod]; exact hrep.next hG hdi hds (fun k hk => huniq k (by simp; omega) (by omega)) hex (fun u w h => h))

theorem wpR_call (hp : plainOp ops i o ex = true) (hw : Region.wanted o (yielded ops a.tmps) = true) (f : FuncId) (args : Array Value) (v : Value) (hrun : ∀ w, (execOp a.eval o).run P w = .ok (.enter f args) w)
  (hcall : ∀ w, Bel w0.heap.size w0 w → Calls P f args w fun e w' => e = .returned v ∧ Bel w.heap.size w w') (hrest : wpR P ops w0 a0 F (i + 1) rest (a.put o.dst v) ex) : wpR P ops w0 a0 F i (o :: rest) a ex := by
 intro G hG hl hd hrep
 have ho : ops[i]? = some o := by simpa using (hl 0 (by simp)).symm
 obtain ⟨d, hdi, hds, huniq⟩ := hd i (by simp)
 have hod : o.dst = some d := by simpa [dstOf, ho] using hdi
 have hex : d ∉ ex.map (·.1) := by
  simp only [plainOp, Bool.and_eq_true] at hp
  have := hp.2
  rw [hod] at this
  simpa using this
 refine ⟨fun u _ => u = v, fun _ _ _ h _ => h, fun a' w hw0 _ he => ?_, ?_⟩
 ·
  rw [hG] at he
  have hlook := plain_look hrep hG hp he
  have hsel : noSel o = true := by simp only [plainOp, Bool.and_eq_true] at hp; exact hp.1.1.2
  rw [wanted_same hlook (look_guard hp), hw, if_pos rfl]
  unfold Oper.wp
  rw [look_exec hlook hsel, hrun w]
  refine (hcall w hw0).mono fun e w' ⟨he', hb⟩ => ?_
  subst he'
  exact ⟨_, rfl, hb, rfl⟩
 ·
  exact hrest (G ++ [fun u _ => u = v]) (by simp [hG]) (fun j hj => by have := hl (j + 1) (by simp; omega); simpa [Nat.add_assoc, Nat.add_comm 1 j] using this)
   (fun j hj => by
    obtain ⟨d', h1, h2, h3⟩ := hd j (by simp; omega)
    exact ⟨d', h1, h2, fun k hk => h3 k (by simp; omega)⟩)
   (by rw [hod]; exact hrep.next hG hdi hds (fun k hk => huniq k (by simp; omega) (by omega)) hex (fun u w h => h))

theorem wpR_ex (A : Pred) (hA : Lasts A) (hp : exOp ops i o ex = true)
  (hstep : ∀ a' w, Bel w0.heap.size w0 w → exEnv ex a a' w (o.looksAt ops) → o.wp P a' w (fun a'' w' => ∃ v, a'' = a'.put o.dst v ∧ Bel w.heap.size w w' ∧ A v w') (fun _ _ _ => False))
  (hrest : ∀ d, o.dst = some d → wpR P ops w0 a0 F (i + 1) rest a (ex ++ [(d, A)])) : wpR P ops w0 a0 F i (o :: rest) a ex := by
 intro G hG hl hd hrep
 have ho : ops[i]? = some o := by simpa using (hl 0 (by simp)).symm
 obtain ⟨d, hdi, hds, huniq⟩ := hd i (by simp)
 have hod : o.dst = some d := by simpa [dstOf, ho] using hdi
 simp only [exOp, lexOp, Bool.and_eq_true, List.all_eq_true, Bool.or_eq_true, Bool.not_eq_true', Option.isNone_iff_eq_none] at hp
 obtain ⟨⟨⟨hp1, hp2⟩, hp3⟩, hp4⟩ := hp
 have hex : d ∉ ex.map (·.1) := by
  rw [hod] at hp3
  simpa using hp3
 refine ⟨A, hA, fun a' w hw0 _ he => ?_, ?_⟩
 ·
  rw [hG] at he
  have henv := exEnv_of hrep hG (o.looksAt ops) hp1 (fun s hs hm => by
   rcases hp4 s hs with h | h
   ·
    have : (ex.map (·.1)).contains s = true := by simpa using hm
    rw [this] at h; cases h
   ·
    exact h) he
  rw [if_pos (by simp [Region.wanted, hp2])]
  exact hstep a' w hw0 henv
 ·
  exact hrest d hod (G ++ [A]) (by simp [hG]) (fun j hj => by have := hl (j + 1) (by simp; omega); simpa [Nat.add_assoc, Nat.add_comm 1 j] using this)
   (fun j hj => by
    obtain ⟨d', h1, h2, h3⟩ := hd j (by simp; omega)
    exact ⟨d', h1, h2, fun k hk => h3 k (by simp; omega)⟩)
   (hrep.nextEx hG hdi (fun k hk => huniq k (by simp; omega) (by omega)) hex)
end

section
variable {P : Program} {ops : Array Oper} {w0 : World} {a0 : Act} {F : List Pred → Prop} {i : Nat} {o : Oper} {rest : List Oper} {a : Act} {ex : List (Tmp × Pred)}
end

theorem wpR_nil {P : Program} {l : List Oper} {n : Nat} {w0 : World} {a0 a : Act} {Q : Exit → Act → World → Prop} {ex : List (Tmp × Pred)} (hex : exOK l.toArray n a0.tmps.size ex = true) (hn : n ≤ l.length)
  (h : ∀ w', Bel w0.heap.size w0 w' → exAll w' (fun a' => wpList P l.toArray Q (l.drop n) a' w') ex a) :
  wpR P l.toArray w0 a0 (fun G => ∀ w', Bel w0.heap.size w0 w' → finS (fun vs w' => wpList P l.toArray Q (l.drop n) (putAll a0 (l.take n) vs) w') w' G []) n [] a ex := by
 intro G hG _ hd hrep w' hw
 refine finS_intro G [] fun vs hl hA => ?_
 rw [List.nil_append]
 have htl : (l.take n).length = n := by simp; omega
 have hps := putAll_size (l.take n) vs a0
 have hone : ∀ s j, lastW l.toArray n s = some j → (putAll a0 (l.take n) vs).eval (.tmp s) = vs.getD j undef := by
  intro s j hw'
  obtain ⟨hj, hjd⟩ := lastW_some hw'
  obtain ⟨d, hd1, hd2, hd3⟩ := hd j (by simpa using hj)
  rw [hjd] at hd1
  cases hd1
  have hjl : j < l.length := by omega
  refine putAll_one (l.take n) vs a0 s j l[j] _ (by simp [hj, hjl]) ?_ (by simpa [dstOf, hjl] using hjd) hd2 (fun k o' hk hne => ?_)
  ·
   have : j < vs.length := by rw [hl, hG]; exact hj
   simp [this]
  ·
   have hkn : k < n := by
    rcases Nat.lt_or_ge k n with h | h
    ·
     exact h
    ·
     rw [List.getElem?_eq_none (by omega)] at hk; cases hk
   have := hd3 k (by simpa using hkn) hne
   have hk' : l[k]? = some o' := by simpa [List.getElem?_take, hkn] using hk
   simpa [dstOf, hk'] using this
 have hnone : ∀ s, lastW l.toArray n s = none → (putAll a0 (l.take n) vs).eval (.tmp s) = a0.eval (.tmp s) := by
  intro s hw'
  refine putAll_none (l.take n) vs a0 s fun o ho hod => ?_
  obtain ⟨k, hk, rfl⟩ := List.mem_iff_getElem.1 ho
  rw [htl] at hk
  have hkl : k < l.length := by omega
  have := List.find?_eq_none.1 hw' k (List.mem_range.2 hk)
  have hod' : l[k].dst = some s := by simpa using hod
  simp [dstOf, hkl, hod'] at this
 have hgo := exAll_go (fun d => (putAll a0 (l.take n) vs).eval (.tmp d)) ex a (fun x hx => by
  obtain ⟨d, B⟩ := x
  have h1 := List.all_eq_true.1 hex (d, B) hx
  simp only [Bool.and_eq_true] at h1
  obtain ⟨j, hj⟩ := Option.isSome_iff_exists.1 h1.1
  obtain ⟨hjn, _⟩ := lastW_some hj
  have hg : G[j]? = some (G.getD j (fun _ _ => True)) := by simp [hG, hjn]
  show B ((putAll a0 (l.take n) vs).eval (.tmp d)) w'
  rw [hone d j hj]
  exact hrep.exs j d _ (by omega) (by rw [hG]; exact hj) hg B hx _ _ (hA j (by omega))) (h w' hw)
 have hf := foldl_put (fun d => (putAll a0 (l.take n) vs).eval (.tmp d)) ex a
 have e : ex.foldl (fun a x => a.put (some x.1) ((putAll a0 (l.take n) vs).eval (.tmp x.1))) a = putAll a0 (l.take n) vs := by
  refine act_ext (hf.1.trans (hrep.size.trans hps.1.symm)) (hf.2.1.trans (hrep.defers.trans hps.2.symm)) (fun s hs => ?_)
  rw [hf.1] at hs
  rw [hf.2.2 s hs]
  by_cases hm : s ∈ ex.map (·.1)
  ·
   rw [if_pos hm]
  ·
   rw [if_neg hm]
   cases hlw : lastW l.toArray n s with
   | none => rw [hnone s hlw]; exact hrep.untouched s (by rw [hG]; exact hlw)
   | some j =>
    obtain ⟨hjn, _⟩ := lastW_some hlw
    have hg : G[j]? = some (G.getD j (fun _ _ => True)) := by simp [hG, hjn]
    rw [hone s j hlw]
    exact (hrep.eqs j s _ (by omega) (by rw [hG]; exact hlw) hg hm _ _ (hA j (by omega))).symm
 rw [e] at hgo
 exact hgo

theorem wp_region_R {P : Program} {id : Nat} {Q : Exit → Act → World → Prop} {a : Act} {l : List Oper} (n : Nat) (hm : P.follows .mixedOrders = true) (hB : headOK l.toArray n a.tmps.size = true)
  (h : wpR P l.toArray w a (fun G => ∀ w', Bel w.heap.size w w' → finS (fun vs w' => wpList P l.toArray Q (l.drop n) (putAll a (l.take n) vs) w') w' G []) 0 (l.take n) a []) : (Code.region id l.toArray true).wp P Q a w := by
 have hf := headFacts hB
 have hnl : n ≤ l.length := by simpa using hf.le
 have htl : (l.take n).length = n := by simp; omega
 refine wp_region_S n hm hB (h [] rfl (fun j hj => by rw [htl] at hj; simp [hj]) (fun j hj => by
  rw [htl, Nat.zero_add] at hj
  obtain ⟨d, h1, h2, h3⟩ := hf.dst j hj
  exact ⟨d, h1, h2, fun k hk => h3 k (by rw [htl, Nat.zero_add] at hk; exact hk)⟩) ⟨fun j d A hj => by simp at hj, fun j d A hj => by simp at hj, fun _ _ => rfl, rfl, rfl⟩)


end Go.Proofs.YtbhglemolpfnkaaGreatDoor.D
