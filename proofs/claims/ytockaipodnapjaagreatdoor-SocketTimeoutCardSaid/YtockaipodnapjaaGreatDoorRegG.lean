/- A region that draws its order, makes memory and changes memory: operations of the chain (calls, appends, stores in a fixed order among themselves) move the world on by a typed relation; every other operation only reads or makes memory and gets a property of its value that lasts. Whatever order is drawn, all properties hold behind the head; the tail runs in its own order. No program in sight. -/
import Derived.Test.YtockaipodnapjaaGreatDoorRegion
namespace Go.Proofs.YtockaipodnapjaaGreatDoor
open Go.RowKit

/-- A world, with what the chain's operations have yielded so far. -/
structure GW where
  vs : List Value
  w : World
abbrev GPred := Value → GW → Prop
/-- What is known of the world when the chain has yielded vs (inv), and which old blocks the chain may still write to (own). -/
structure Ghost where
  inv : List Value → World → Prop
  own : List Value → Nat → Prop
  quiet : ∀ vs w w', inv vs w → Below w.heap.size w w' → inv vs w'

def Ghost.mv (Γ : Ghost) (vs : List Value) (w : World) (u : Value) (w' : World) : Prop :=
  Γ.inv (vs ++ [u]) w' ∧ w.heap.size ≤ w'.heap.size ∧ (∀ b, b < w.heap.size → ¬ Γ.own vs b → w'.heap[b]? = w.heap[b]?) ∧ (∀ b, Γ.own (vs ++ [u]) b → Γ.own vs b ∨ w.heap.size ≤ b)
def Ghost.step (Γ : Ghost) (g g' : GW) : Prop := (g'.vs = g.vs ∧ Below g.w.heap.size g.w g'.w) ∨ (∃ u, g'.vs = g.vs ++ [u] ∧ Γ.mv g.vs g.w u g'.w)
def Ghost.lasts (Γ : Ghost) (A : GPred) : Prop := ∀ v g g', Γ.inv g.vs g.w → A v g → Γ.step g g' → A v g'

def genvAt (ops : Array Oper) (a0 : Act) (G : List GPred) (i : Nat) (a : Act) (g : GW) (s : Tmp) : Prop :=
  match prodOf ops i s with
  | some j => (G.getD j (fun _ _ => True)) (a.eval (.tmp s)) g
  | none => if origAt ops i s = true then a.eval (.tmp s) = a0.eval (.tmp s) else True
def genvAll (ops : Array Oper) (a0 : Act) (G : List GPred) (i : Nat) (a : Act) (g : GW) : List Tmp → Prop
  | [] => True
  | s :: ss => genvAt ops a0 G i a g s ∧ genvAll ops a0 G i a g ss

/-- What an operation owes: one of the chain (its number in it: some k) or another (none). -/
def gstepOK (Γ : Ghost) (P : Program) (ops : Array Oper) (a0 : Act) (G : List GPred) (i : Nat) (o : Oper) (ck : Option Nat) (A : GPred) : Prop :=
  ∀ a g, Γ.inv g.vs g.w → a.tmps.size = a0.tmps.size → genvAll ops a0 G i a g (o.looksAt ops) →
    match ck with
    | none => if Region.wanted o (yielded ops a.tmps) then o.wp P a g.w (fun a' w' => ∃ v, a' = a.put o.dst v ∧ Below g.w.heap.size g.w w' ∧ A v ⟨g.vs, w'⟩) (fun _ _ _ => False) else A undef g
    | some k => g.vs.length = k → if Region.wanted o (yielded ops a.tmps) then o.wp P a g.w (fun a' w' => ∃ v, a' = a.put o.dst v ∧ Γ.mv g.vs g.w v w' ∧ A v ⟨g.vs ++ [v], w'⟩) (fun _ _ _ => False) else Γ.mv g.vs g.w undef g.w ∧ A undef ⟨g.vs ++ [undef], g.w⟩

def chainIx (chain : List Nat) (i : Nat) : Option Nat := chain.findIdx? (· == i)
def chainOK (ops : Array Oper) (chain : List Nat) : Bool :=
  (List.range chain.length).all fun k => (chainIx chain (chain.getD k 0) == some k) && (k == 0 || Region.waitsFor .any ops (chain.getD k 0) (chain.getD (k - 1) 0))

def gwpS (Γ : Ghost) (P : Program) (ops : Array Oper) (chain : List Nat) (a0 : Act) (F : List GPred → Prop) : List Oper → List GPred → Prop
  | [], G => F G
  | o :: rest, G => ∃ A, Γ.lasts A ∧ gstepOK Γ P ops a0 G G.length o (chainIx chain G.length) A ∧ gwpS Γ P ops chain a0 F rest (G ++ [A])

def gfinS (K : List Value → Prop) (g : GW) : List GPred → List Value → Prop
  | [], vs => K vs
  | A :: As, vs => ∀ v, A v g → gfinS K g As (vs ++ [v])

structure GInv (Γ : Ghost) (ops : Array Oper) (chain : List Nat) (n : Nat) (a0 : Act) (G : List GPred) (listed : Array Bool) (a : Act) (g : GW) : Prop where
  head : HeadInv .any ops n listed
  world : Γ.inv g.vs g.w
  stage : ∀ k i, chain[k]? = some i → (listed.getD i false = true ↔ k < g.vs.length)
  most : g.vs.length ≤ chain.length
  defers : a.defers = a0.defers
  size : a.tmps.size = a0.tmps.size
  done : ∀ j d, j < n → listed.getD j false = true → dstOf ops j = some d → (G.getD j (fun _ _ => True)) (a.eval (.tmp d)) g
  rest : ∀ s, (∀ j, listed.getD j false = true → dstOf ops j ≠ some s) → a.eval (.tmp s) = a0.eval (.tmp s)

theorem chainIx_some {chain : List Nat} {i k : Nat} (h : chainIx chain i = some k) : chain[k]? = some i := by
  unfold chainIx at h
  rw [List.findIdx?_eq_some_iff_getElem] at h
  obtain ⟨h1, h2, _⟩ := h
  rw [List.getElem?_eq_getElem h1]
  simpa using h2
theorem chainIx_none {chain : List Nat} {i : Nat} (h : chainIx chain i = none) : ∀ k : Nat, chain[k]? ≠ some i := by
  unfold chainIx at h
  rw [List.findIdx?_eq_none_iff] at h
  intro k hk
  have := h i (List.mem_of_getElem? hk)
  simp at this
theorem chain_uniq {ops : Array Oper} {chain : List Nat} (h : chainOK ops chain = true) {k i : Nat} (hk : chain[k]? = some i) : chainIx chain i = some k := by
  have hkl : k < chain.length := (List.getElem?_eq_some_iff.1 hk).1
  have := List.all_eq_true.1 h k (List.mem_range.2 hkl)
  simp only [Bool.and_eq_true, beq_iff_eq] at this
  have e : chain.getD k 0 = i := by simp [List.getD_eq_getElem?_getD, hk]
  rw [e] at this
  exact this.1
theorem chain_waits {ops : Array Oper} {chain : List Nat} (h : chainOK ops chain = true) {k i j : Nat} (hk : chain[k + 1]? = some i) (hj : chain[k]? = some j) : Region.waitsFor .any ops i j = true := by
  have hkl : k + 1 < chain.length := (List.getElem?_eq_some_iff.1 hk).1
  have := List.all_eq_true.1 h (k + 1) (List.mem_range.2 hkl)
  simp only [Bool.and_eq_true, Bool.or_eq_true] at this
  have e : chain.getD (k + 1) 0 = i := by simp [List.getD_eq_getElem?_getD, hk]
  have e' : chain.getD k 0 = j := by simp [List.getD_eq_getElem?_getD, hj]
  rw [e, Nat.add_sub_cancel, e'] at this
  rcases this.2 with h | h
  · simp at h
  · exact h

section
variable {Γ : Ghost} {P : Program} {ops : Array Oper} {chain : List Nat} {n : Nat} {a0 : Act} {G : List GPred} {Q : Exit → Act → World → Prop}

theorem GInv.env {listed : Array Bool} {a : Act} {g : GW} {i : Nat} {o : Oper} (hf : HeadFacts ops n a0.tmps.size) (inv : GInv Γ ops chain n a0 G listed a g) (hi : i ∈ Region.ready .any ops listed) (hin : i < n) (ho : ops[i]? = some o) :
    ∀ ss, genvAll ops a0 G i a g ss := by
  obtain ⟨hun, o', ho', hall⟩ := mem_ready.1 hi
  have : o' = o := Option.some.inj (ho'.symm.trans ho)
  subst this
  intro ss
  induction ss with
  | nil => trivial
  | cons s ss ih =>
    refine ⟨?_, ih⟩
    unfold genvAt
    split
    · rename_i j hj
      have hfd := List.find?_some hj
      simp only [Bool.and_eq_true, beq_iff_eq] at hfd
      obtain ⟨e, he, hb, hon⟩ := waits_mem ho hfd.1
      have hlt := hf.back i o' hin ho e he hb
      have hl := hall e he hb
      rw [hon] at hl hlt
      exact inv.done j s (by omega) hl hfd.2
    · split
      · rename_i horig
        refine inv.rest s fun j hl hd => ?_
        have hjs : j < ops.size := by
          rcases Nat.lt_or_ge j ops.size with h | h
          · exact h
          · simp [dstOf, Array.getElem?_eq_none h] at hd
        have h1 := List.all_eq_true.1 horig j (List.mem_range.2 hjs)
        simp only [Bool.or_eq_true, bne_iff_ne, beq_iff_eq] at h1
        rcases h1 with (h1 | h1) | h1
        · exact h1 hd
        · subst h1; rw [getD_both hun] at hl; cases hl
        · obtain ⟨oj, hoj, e, he, hb, hon⟩ := Region.waitsFor_spec h1
          have := inv.head.closed j oj hoj hl e he hb
          rw [hon, getD_both hun] at this; cases this
      · trivial

/-- One operation more: the world has gone one step on. -/
theorem GInv.next {listed : Array Bool} {a : Act} {g g' : GW} {i : Nat} {o : Oper} {v : Value} (hf : HeadFacts ops n a0.tmps.size) (hG : ∀ j, Γ.lasts (G.getD j (fun _ _ => True))) (inv : GInv Γ ops chain n a0 G listed a g) (hi : i ∈ Region.ready .any ops listed) (hin : i < n) (ho : ops[i]? = some o)
    (hw : Γ.step g g') (hJ : Γ.inv g'.vs g'.w) (hst : ∀ k j, chain[k]? = some j → ((listed.setIfInBounds i true).getD j false = true ↔ k < g'.vs.length)) (hmost : g'.vs.length ≤ chain.length)
    (hA : (G.getD i (fun _ _ => True)) v g') : GInv Γ ops chain n a0 G (listed.setIfInBounds i true) (a.put o.dst v) g' := by
  obtain ⟨d, hd, hds, hdn⟩ := hf.dst i hin
  have hod : o.dst = some d := by simpa [dstOf, ho] using hd
  obtain ⟨hun, _, _, _⟩ := mem_ready.1 hi
  have hil : i < listed.size := by rw [inv.head.size]; exact (Array.getElem?_eq_some_iff.1 ho).1
  rw [hod]
  refine ⟨inv.head.set hi hin, hJ, hst, hmost, ?_, ?_, fun j d' hj hl hd' => ?_, fun s hs => ?_⟩
  · simpa [Act.put] using inv.defers
  · simpa [Act.put] using inv.size
  · by_cases hji : j = i
    · subst hji
      rw [hd] at hd'
      cases hd'
      rw [eval_put_same (by rw [inv.size]; exact hds)]
      exact hA
    · rw [getD_set_ne false (Ne.symm hji)] at hl
      have hne : d ≠ d' := fun h => by subst h; exact hdn j hj hji hd'
      rw [eval_put_ne hne]
      exact hG j _ _ _ inv.world (inv.done j d' hj hl hd') hw
  · have hne : d ≠ s := fun h => by
      subst h
      exact hs i (by simp [hil]) hd
    rw [eval_put_ne hne]
    refine inv.rest s fun j hl => hs j ?_
    by_cases hji : j = i
    · subst hji; simp [hil]
    · rw [getD_set_ne false (Ne.symm hji)]; exact hl

/-- An operation outside the chain does not change the stage. -/
theorem GInv.stageQ {listed : Array Bool} {a : Act} {g : GW} {i : Nat} (inv : GInv Γ ops chain n a0 G listed a g) (hc : chainIx chain i = none) : ∀ k j, chain[k]? = some j → ((listed.setIfInBounds i true).getD j false = true ↔ k < g.vs.length) := by
  intro k j hk
  have hji : j ≠ i := fun h => by subst h; exact chainIx_none hc k hk
  rw [getD_set_ne false (Ne.symm hji)]
  exact inv.stage k j hk

theorem GInv.stageC {listed : Array Bool} {a : Act} {g : GW} {i k : Nat} (hch : chainOK ops chain = true) (inv : GInv Γ ops chain n a0 G listed a g) (hi : i ∈ Region.ready .any ops listed) (hc : chainIx chain i = some k) :
    g.vs.length = k ∧ ∀ u : Value, (∀ m j, chain[m]? = some j → ((listed.setIfInBounds i true).getD j false = true ↔ m < (g.vs ++ [u]).length)) ∧ (g.vs ++ [u]).length ≤ chain.length := by
  have hk := chainIx_some hc
  obtain ⟨hun, o, ho, hall⟩ := mem_ready.1 hi
  have hkl : k < chain.length := (List.getElem?_eq_some_iff.1 hk).1
  have h1 : ¬ k < g.vs.length := fun h => by
    have := (inv.stage k i hk).2 h
    rw [getD_both hun] at this; cases this
  have h2 : k ≤ g.vs.length := by
    cases k with
    | zero => omega
    | succ k =>
      obtain ⟨j, hj⟩ : ∃ j, chain[k]? = some j := ⟨chain[k], by simp⟩
      have hw := chain_waits hch hk hj
      obtain ⟨e, he, hb, hon⟩ := waits_mem ho hw
      have := hall e he hb
      rw [hon] at this
      have := (inv.stage k j hj).1 this
      omega
  have hlen : g.vs.length = k := by omega
  refine ⟨hlen, fun u => ⟨fun m j hm => ?_, by simp; omega⟩⟩
  rw [List.length_append, List.length_singleton, hlen]
  have hil : i < listed.size := by rw [inv.head.size]; exact (Array.getElem?_eq_some_iff.1 ho).1
  by_cases hji : j = i
  · subst hji
    have := chain_uniq hch hm
    rw [hc] at this
    cases this
    simp [hil]
  · rw [getD_set_ne false (Ne.symm hji), inv.stage m j hm, hlen]
    have : m ≠ k := fun h => by subst h; rw [hk] at hm; cases hm; exact hji rfl
    omega

theorem gwpAny_spec (hf : HeadFacts ops n a0.tmps.size) (hch : chainOK ops chain = true) (hcn : ∀ i ∈ chain, i < n) (hG : ∀ j, Γ.lasts (G.getD j (fun _ _ => True))) (hstep : ∀ i o, i < n → ops[i]? = some o → gstepOK Γ P ops a0 G i o (chainIx chain i) (G.getD i (fun _ _ => True)))
    (hfin : ∀ a g, Γ.inv g.vs g.w → g.vs.length = chain.length → a.defers = a0.defers → a.tmps.size = a0.tmps.size → (∀ j d, j < n → dstOf ops j = some d → (G.getD j (fun _ _ => True)) (a.eval (.tmp d)) g) →
      (∀ s, (∀ j, j < n → dstOf ops j ≠ some s) → a.eval (.tmp s) = a0.eval (.tmp s)) → wpList P ops Q (ops.toList.drop n) a g.w) :
    ∀ (f : Nat) (listed : Array Bool) (a : Act) (g : GW), unl listed n = f → GInv Γ ops chain n a0 G listed a g → wpAny P .any ops Q (f + (ops.size - n)) listed a g.w := by
  intro f
  induction f with
  | zero =>
    intro listed a g hu inv
    have hall := unl_zero hu
    have hl := listed_all inv.head.size hf.le hall inv.head.tail
    have hlen : g.vs.length = chain.length := by
      rcases Nat.lt_or_ge g.vs.length chain.length with h | h
      · have hi : chain[g.vs.length]? = some chain[g.vs.length] := by simp [h]
        have := (inv.stage _ _ hi).1 (hall _ (hcn _ (List.getElem_mem h)))
        omega
      · have := inv.most; omega
    have hw := hfin a g inv.world hlen inv.defers inv.size (fun j d hj hd => inv.done j d hj (hall j hj) hd) (fun s hs => inv.rest s fun j hl' hd => by
      by_cases hj : j < n
      · exact hs j hj hd
      · have hjs : j < ops.size := by
          rcases Nat.lt_or_ge j ops.size with h | h
          · exact h
          · simp [dstOf, Array.getElem?_eq_none h] at hd
        have := inv.head.tail j (by omega) hjs
        rw [getD_both this] at hl'; cases hl')
    have hlen : (ops.toList.drop n).length = ops.size - n := by simp
    rw [Nat.zero_add, ← hlen]
    refine wpAny_of_seq (ops.toList.drop n) n listed a g.w (fun j => by simp [List.getElem?_drop]) ?_ hw
    rw [hlen, hl]
    exact hf.seq
  | succ f ih =>
    intro listed a g hu inv
    obtain ⟨j, hj, hjf, hjb⟩ := unl_pos (listed := listed) (n := n) (by omega)
    have hjs : j < ops.size := by have := hf.le; omega
    have hready : j ∈ Region.ready .any ops listed := by
      refine mem_ready.2 ⟨getD_in (by rw [inv.head.size]; exact hjs) hjf, ops[j], by simp [hjs], fun e he hb => ?_⟩
      exact hjb _ (hf.back j ops[j] hj (by simp [hjs]) e he hb)
    rw [show f + 1 + (ops.size - n) = (f + (ops.size - n)) + 1 by omega]
    refine ⟨fun h0 => (by rw [h0] at hready; cases hready), fun i hi => ?_⟩
    have hin : i < n := by
      rcases Nat.lt_or_ge i n with h | h
      · exact h
      · exfalso
        obtain ⟨_, oi, hoi, _⟩ := mem_ready.1 hi
        have his : i < ops.size := (Array.getElem?_eq_some_iff.1 hoi).1
        rcases hf.tail with ht | ⟨hs, hc⟩
        · omega
        · exact tail_waits hs hc (by omega) inv.head (n - j) j rfl hj (getD_in (by rw [inv.head.size]; exact hjs) hjf) i h hi
    obtain ⟨hun, o, ho, _⟩ := mem_ready.1 hi
    have henv := inv.env hf hi hin ho (o.looksAt ops)
    have hs := hstep i o hin ho a g inv.world inv.size henv
    have hu' : unl (listed.setIfInBounds i true) n = f := by
      have := unl_set hin (by rw [inv.head.size]; exact (Array.getElem?_eq_some_iff.1 ho).1) (getD_both hun)
      omega
    unfold wpOp
    simp only [ho]
    cases hck : chainIx chain i with
    | none =>
      rw [hck] at hs
      simp only at hs
      have hstq := inv.stageQ hck
      by_cases hwt : Region.wanted o (yielded ops a.tmps) = true
      · rw [if_pos hwt] at hs ⊢
        refine .inl (upon_mono ?_ (fun _ _ _ h => h.elim) hs)
        rintro a' w' ⟨v, rfl, hb, hA⟩
        exact ih _ _ ⟨g.vs, w'⟩ hu' (inv.next hf hG hi hin ho (.inl ⟨rfl, hb⟩) (Γ.quiet _ _ _ inv.world hb) hstq inv.most hA)
      · rw [if_neg hwt] at hs ⊢
        exact ih _ _ g hu' (inv.next hf hG hi hin ho (.inl ⟨rfl, Below.refl _ _⟩) inv.world hstq inv.most hs)
    | some k =>
      rw [hck] at hs
      simp only at hs
      obtain ⟨hk, hstc⟩ := inv.stageC hch hi hck
      have hs' := hs hk
      by_cases hwt : Region.wanted o (yielded ops a.tmps) = true
      · rw [if_pos hwt] at hs' ⊢
        refine .inl (upon_mono ?_ (fun _ _ _ h => h.elim) hs')
        rintro a' w' ⟨v, rfl, hb, hA⟩
        exact ih _ _ ⟨g.vs ++ [v], w'⟩ hu' (inv.next hf hG hi hin ho (.inr ⟨v, rfl, hb⟩) hb.1 (hstc v).1 (hstc v).2 hA)
      · rw [if_neg hwt] at hs' ⊢
        exact ih _ _ ⟨g.vs ++ [undef], g.w⟩ hu' (inv.next hf hG hi hin ho (.inr ⟨undef, rfl, hs'.1⟩) hs'.1.1 (hstc undef).1 (hstc undef).2 hs'.2)
end

theorem gwpS_parts {Γ : Ghost} {P : Program} {ops : Array Oper} {chain : List Nat} {a0 : Act} {F : List GPred → Prop} : ∀ (l : List Oper) (G : List GPred), (∀ A ∈ G, Γ.lasts A) → (∀ j, j < l.length → l[j]? = ops[G.length + j]?) →
    gwpS Γ P ops chain a0 F l G → ∃ G', F (G ++ G') ∧ G'.length = l.length ∧ (∀ A ∈ G', Γ.lasts A) ∧ ∀ j o, j < l.length → ops[G.length + j]? = some o → gstepOK Γ P ops a0 ((G ++ G').take (G.length + j)) (G.length + j) o (chainIx chain (G.length + j)) ((G ++ G').getD (G.length + j) (fun _ _ => True))
  | [], G, _, _, h => ⟨[], by simpa [gwpS] using h, rfl, by simp, fun j o hj => by simp at hj⟩
  | o :: l, G, hG, hl, h => by
    obtain ⟨A, hA, hs, hr⟩ := h
    obtain ⟨G', hF, hlen, hG', hst⟩ := gwpS_parts l (G ++ [A]) (fun B hB => by
      rcases List.mem_append.1 hB with h | h
      · exact hG B h
      · simp at h; subst h; exact hA) (fun j hj => by
        have := hl (j + 1) (by simp; omega)
        simpa [Nat.add_assoc, Nat.add_comm 1 j] using this) hr
    refine ⟨A :: G', by simpa using hF, by simp [hlen], fun B hB => ?_, fun j oj hj hoj => ?_⟩
    · rcases List.mem_cons.1 hB with h | h
      · subst h; exact hA
      · exact hG' B h
    · cases j with
      | zero =>
        have h0 : some o = ops[G.length]? := by simpa using hl 0 (by simp)
        rw [Nat.add_zero] at hoj ⊢
        rw [← h0] at hoj
        cases hoj
        simpa using hs
      | succ j =>
        have := hst j oj (by simpa using hj) (by simpa [Nat.add_assoc, Nat.add_comm 1 j] using hoj)
        simpa [Nat.add_assoc, Nat.add_comm 1 j] using this

theorem genvAll_take {ops : Array Oper} {n size : Nat} (hf : HeadFacts ops n size) {a0 : Act} {G : List GPred} {i : Nat} {o : Oper} (ho : ops[i]? = some o) (hin : i < n) {a : Act} {g : GW} :
    ∀ ss, genvAll ops a0 G i a g ss → genvAll ops a0 (G.take i) i a g ss
  | [], _ => trivial
  | s :: ss, ⟨h1, h2⟩ => by
    refine ⟨?_, genvAll_take hf ho hin ss h2⟩
    unfold genvAt at h1 ⊢
    split at h1
    · rename_i j hj
      have hfd := List.find?_some hj
      simp only [Bool.and_eq_true, beq_iff_eq] at hfd
      obtain ⟨e, he, hb, hon⟩ := waits_mem ho hfd.1
      have hlt := hf.back i o hin ho e he hb
      rw [hon] at hlt
      have hg : (G.take i).getD j (fun _ _ => True) = G.getD j (fun _ _ => True) := by simp [hlt]
      rw [hg]; exact h1
    · exact h1

theorem glasts_getD {Γ : Ghost} {G : List GPred} (h : ∀ A ∈ G, Γ.lasts A) (j : Nat) : Γ.lasts (G.getD j (fun _ _ => True)) := by
  rcases Nat.lt_or_ge j G.length with hj | hj
  · rw [List.getD_eq_getElem?_getD, List.getElem?_eq_getElem hj]; exact h _ (List.getElem_mem hj)
  · rw [List.getD_eq_getElem?_getD, List.getElem?_eq_none hj]; intro _ _ _ _ _ _; trivial

theorem gfinS_go {K : List Value → Prop} {g : GW} : ∀ (G : List GPred) (pre vs : List Value), vs.length = G.length → (∀ j, j < G.length → (G.getD j (fun _ _ => True)) (vs.getD j undef) g) → gfinS K g G pre → K (pre ++ vs)
  | [], pre, vs, hl, _, h => by
    have : vs = [] := by simpa using hl
    subst this
    simpa [gfinS] using h
  | A :: G, pre, [], hl, _, _ => by simp at hl
  | A :: G, pre, v :: vs, hl, hA, h => by
    have h0 := hA 0 (by simp)
    have := gfinS_go G (pre ++ [v]) vs (by simpa using hl) (fun j hj => by simpa using hA (j + 1) (by simpa using hj)) (h v (by simpa using h0))
    simpa using this

/-- **A REGION THAT DRAWS, MAKES MEMORY AND CHANGES IT.** -/
theorem wp_region_G {P : Program} {id : Nat} {Q : Exit → Act → World → Prop} {a : Act} {w : World} {l : List Oper} (Γ : Ghost) (n : Nat) (chain : List Nat) (hm : P.follows .mixedOrders = true) (hB : headOK l.toArray n a.tmps.size = true) (hch : chainOK l.toArray chain = true) (hcn : (chain.all fun i => decide (i < n)) = true)
    (hstart : Γ.inv [] w)
    (h : gwpS Γ P l.toArray chain a (fun G => ∀ g, Γ.inv g.vs g.w → g.vs.length = chain.length → gfinS (fun vs => wpList P l.toArray Q (l.drop n) (putAll a (l.take n) vs) g.w) g G []) (l.take n) []) : (Code.region id l.toArray true).wp P Q a w := by
  have hf := headFacts hB
  have hnl : n ≤ l.length := by simpa using hf.le
  have htl : (l.take n).length = n := by simp; omega
  obtain ⟨G, hF, hlen, hG, hst⟩ := gwpS_parts (l.take n) [] (by simp) (fun j hj => by rw [htl] at hj; simp [hj]) h
  simp only [List.nil_append, List.length_nil, Nat.zero_add] at hF hst
  rw [htl] at hlen hst
  refine wp_region_any hm ?_
  have hstep : ∀ i o, i < n → l.toArray[i]? = some o → gstepOK Γ P l.toArray a G i o (chainIx chain i) (G.getD i (fun _ _ => True)) := by
    intro i o hi ho a' g hw hs henv
    exact hst i o hi ho a' g hw hs (genvAll_take hf ho hi _ henv)
  have key := gwpAny_spec (P := P) (Q := Q) (G := G) (Γ := Γ) (a0 := a) hf hch (fun i hi => by simpa using List.all_eq_true.1 hcn i hi) (glasts_getD hG) hstep (fun a' g hw hvl hd hs hA hR => by
    have hfin := gfinS_go G [] ((List.range n).map fun j => match dstOf l.toArray j with | some d => a'.eval (.tmp d) | none => undef) (by simp [hlen]) (fun j hj => by
      rw [hlen] at hj
      obtain ⟨d, hd', _, _⟩ := hf.dst j hj
      have := hA j d hj hd'
      simpa [hj, hd'] using this) (hF g hw hvl)
    have e : putAll a (l.take n) ((List.range n).map fun j => match dstOf l.toArray j with | some d => a'.eval (.tmp d) | none => undef) = a' := by
      have hps := putAll_size (l.take n) ((List.range n).map fun j => match dstOf l.toArray j with | some d => a'.eval (.tmp d) | none => undef) a
      refine act_ext (hps.1.trans hs.symm) (hps.2.trans hd.symm) (fun s hs' => ?_)
      by_cases hex : ∃ j, j < n ∧ dstOf l.toArray j = some s
      · obtain ⟨j, hj, hjd⟩ := hex
        have hjl : j < l.length := by omega
        obtain ⟨d, hd', hlt, huniq⟩ := hf.dst j hj
        rw [hjd] at hd'
        cases hd'
        exact putAll_one (l.take n) _ a s j l[j] _ (by simp [hj, hjl]) (by simp [hj, hjd]) (by simpa [dstOf, hjl] using hjd) hlt (fun k o' hk hne => by
          have hkn : k < n := by
            rcases Nat.lt_or_ge k n with h | h
            · exact h
            · rw [List.getElem?_eq_none (by omega)] at hk; cases hk
          have := huniq k hkn hne
          have hk' : l[k]? = some o' := by simpa [List.getElem?_take, hkn] using hk
          simpa [dstOf, hk'] using this)
      · rw [putAll_none (l.take n) _ a s (fun o ho hd' => hex (by
          obtain ⟨k, hk, rfl⟩ := List.mem_iff_getElem.1 ho
          rw [htl] at hk
          refine ⟨k, hk, ?_⟩
          have hkl : k < l.length := by omega
          simpa [dstOf, hkl] using hd'))]
        exact (hR s (fun j hj hjd => hex ⟨j, hj, hjd⟩)).symm
    rw [List.nil_append, e] at hfin
    simpa using hfin) n (Array.replicate l.toArray.size false) a ⟨[], { w with drawn := w.drawn + 1 }⟩ ?_ ⟨?_, ?_, ?_, ?_, rfl, rfl, ?_, fun s _ => rfl⟩
  · rw [show n + (l.toArray.size - n) = l.toArray.size by have := hf.le; omega] at key
    exact key
  · unfold unl
    rw [List.countP_eq_length.2]
    · simp
    · intro j _; simp only [getD_replicate_false]; rfl
  · exact ⟨by simp, fun j oj _ hl => (by rw [getD_replicate_false] at hl; cases hl), fun t _ ht => getD_in (by simpa using ht) (getD_replicate_false _ _)⟩
  · exact Γ.quiet _ _ _ hstart ((Below.refl _ w).drew)
  · intro k i _
    rw [getD_replicate_false]
    simp
  · simp
  · intro j d _ hl _
    rw [getD_replicate_false] at hl; cases hl

end Go.Proofs.YtockaipodnapjaaGreatDoor
