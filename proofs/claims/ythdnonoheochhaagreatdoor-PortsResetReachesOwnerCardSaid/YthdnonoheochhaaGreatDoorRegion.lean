/- A region that draws its order and makes memory: each operation gets a property of its value that lasts while the world grows; whatever order is drawn, all properties hold behind the head, and the tail runs in its own order. No program in sight. -/
import Derived.Test.YthdnonoheochhaaGreatDoorBase
import Derived.StillTail
namespace Go.Proofs.YthdnonoheochhaaGreatDoor
open Go.RowKit
abbrev Pred := Value → World → Prop
def Lasts (A : Pred) : Prop := ∀ v w w', A v w → Below w.heap.size w w' → A v w'
def dstOf (ops : Array Oper) (j : Nat) : Option Tmp := (ops[j]?).bind (·.dst)
def prodOf (ops : Array Oper) (i : Nat) (s : Tmp) : Option Nat := (List.range ops.size).find? fun j => Region.waitsFor .any ops i j && (dstOf ops j == some s)
def origAt (ops : Array Oper) (i : Nat) (s : Tmp) : Bool := (List.range ops.size).all fun j => (dstOf ops j != some s) || (j == i) || Region.waitsFor .any ops j i
def envAt (ops : Array Oper) (a0 : Act) (G : List Pred) (i : Nat) (a : Act) (w : World) (s : Tmp) : Prop :=
  match prodOf ops i s with
  | some j => (G.getD j (fun _ _ => True)) (a.eval (.tmp s)) w
  | none => if origAt ops i s = true then a.eval (.tmp s) = a0.eval (.tmp s) else True
def envAll (ops : Array Oper) (a0 : Act) (G : List Pred) (i : Nat) (a : Act) (w : World) : List Tmp → Prop
  | [] => True
  | s :: ss => envAt ops a0 G i a w s ∧ envAll ops a0 G i a w ss
def stepOK (P : Program) (ops : Array Oper) (w0 : World) (a0 : Act) (G : List Pred) (i : Nat) (o : Oper) (A : Pred) : Prop :=
  ∀ a w, Below w0.heap.size w0 w → a.tmps.size = a0.tmps.size → envAll ops a0 G i a w (o.looksAt ops) →
    if Region.wanted o (yielded ops a.tmps) then o.wp P a w (fun a' w' => ∃ v, a' = a.put o.dst v ∧ Below w.heap.size w w' ∧ A v w') (fun _ _ _ => False) else A undef w
def wpS (P : Program) (ops : Array Oper) (w0 : World) (a0 : Act) (F : List Pred → Prop) : List Oper → List Pred → Prop
  | [], G => F G
  | o :: rest, G => ∃ A, Lasts A ∧ stepOK P ops w0 a0 G G.length o A ∧ wpS P ops w0 a0 F rest (G ++ [A])
def putAll (a : Act) : List Oper → List Value → Act
  | o :: os, v :: vs => putAll (a.put o.dst v) os vs
  | _, _ => a
def finS (K : List Value → World → Prop) (w : World) : List Pred → List Value → Prop
  | [], vs => K vs w
  | A :: As, vs => ∀ v, A v w → finS K w As (vs ++ [v])
def headOK (ops : Array Oper) (n size : Nat) : Bool :=
  decide (n ≤ ops.size) &&
  ((List.range n).all fun i => match ops[i]? with
    | some o => (o.after.all fun e => !Region.binds .any e || decide (e.on < i)) && (match o.dst with | some d => decide (d < size) && ((List.range n).all fun j => (j == i) || (dstOf ops j != some d)) | none => false)
    | none => false) &&
  (decide (n = ops.size) || (Region.sinkB .any ops n && Region.chainB .any ops n)) &&
  Region.seqB .any ops (ops.size - n) n (Array.replicate n true ++ Array.replicate (ops.size - n) false)
theorem upon_mono {P : Program} {o : Oper} {a : Act} {n1 n2 : Act → World → Prop} {Q1 Q2 : Exit → Act → World → Prop} {r : Result Next} (hn : ∀ a w, n1 a w → n2 a w) (hq : ∀ e a w, Q1 e a w → Q2 e a w)
    (h : o.upon P a n1 Q1 r) : o.upon P a n2 Q2 r := by
  cases r with
  | ok x w =>
    cases x with
    | value v => exact hn _ _ h
    | skip => exact hn _ _ h
    | defer d => exact hn _ _ h
    | enter f args =>
      refine Calls.mono h ?_
      intro e w' he
      cases e with
      | returned v => exact hn _ _ he
      | panicked c => exact hq _ _ _ he
      | outgrown => obtain ⟨a', w'', h'⟩ := he; exact ⟨a', w'', hq _ _ _ h'⟩
    | row r args => exact Rows.mono h fun v w' h' => hn _ _ h'
    | _ => exact h.elim
  | halt x w =>
    cases x with
    | panic v => exact hq _ _ _ h
    | _ => exact h.elim
structure SInv (ops : Array Oper) (n : Nat) (w0 : World) (a0 : Act) (G : List Pred) (listed : Array Bool) (a : Act) (w : World) : Prop where
  head : HeadInv .any ops n listed
  world : Below w0.heap.size w0 w
  defers : a.defers = a0.defers
  size : a.tmps.size = a0.tmps.size
  done : ∀ j d, j < n → listed.getD j false = true → dstOf ops j = some d → (G.getD j (fun _ _ => True)) (a.eval (.tmp d)) w
  rest : ∀ s, (∀ j, listed.getD j false = true → dstOf ops j ≠ some s) → a.eval (.tmp s) = a0.eval (.tmp s)
theorem eval_put_same {a : Act} {d : Tmp} {v : Value} (h : d < a.tmps.size) : (a.put (some d) v).eval (.tmp d) = v := by
  simp [Act.put, Act.eval, h]
theorem eval_put_ne {a : Act} {d s : Tmp} {v : Value} (h : d ≠ s) : (a.put (some d) v).eval (.tmp s) = a.eval (.tmp s) := by
  simp [Act.put, Act.eval, Array.getElem?_setIfInBounds_ne h]
def unl (listed : Array Bool) (n : Nat) : Nat := (List.range n).countP fun j => !listed.getD j false
theorem unl_set {listed : Array Bool} {i n : Nat} (hi : i < n) (hs : i < listed.size) (hf : listed.getD i false = false) : unl listed n = unl (listed.setIfInBounds i true) n + 1 := by
  unfold unl
  have key : ∀ m, (List.range m).countP (fun j => !listed.getD j false) = (List.range m).countP (fun j => !(listed.setIfInBounds i true).getD j false) + if i < m then 1 else 0 := by
    intro m
    induction m with
    | zero => simp
    | succ m ih =>
      rw [List.range_succ, List.countP_append, List.countP_append, ih]
      by_cases hm : i = m
      · subst hm
        have h1 : (listed.setIfInBounds i true).getD i false = true := by simp [hs]
        simp only [List.countP_singleton, hf, h1]
        simp
      · have h1 : (listed.setIfInBounds i true).getD m false = listed.getD m false := getD_set_ne false hm
        simp only [List.countP_singleton, h1]
        by_cases hlt : i < m
        · simp [hlt, show i < m + 1 by omega]; omega
        · simp [hlt, show ¬ i < m + 1 by omega]
  rw [key n]; simp [hi]
theorem unl_zero {listed : Array Bool} {n : Nat} (h : unl listed n = 0) : ∀ j, j < n → listed.getD j false = true := by
  intro j hj
  unfold unl at h
  rw [List.countP_eq_zero] at h
  have := h j (List.mem_range.2 hj)
  simpa using this
theorem unl_pos {listed : Array Bool} {n : Nat} (h : unl listed n ≠ 0) : ∃ j, j < n ∧ listed.getD j false = false ∧ ∀ k, k < j → listed.getD k false = true := by
  have h1 : ∃ j, j < n ∧ listed.getD j false = false := by
    refine Classical.byContradiction fun hno => h ?_
    unfold unl
    rw [List.countP_eq_zero]
    intro j hj
    have hj' := List.mem_range.1 hj
    cases hb : listed.getD j false with
    | true => simp
    | false => exact absurd ⟨j, hj', hb⟩ hno
  obtain ⟨j, hj⟩ := h1
  induction j using Nat.strongRecOn with
  | _ j ih =>
    by_cases hk : ∃ k, k < j ∧ listed.getD k false = false
    · obtain ⟨k, hk1, hk2⟩ := hk
      exact ih k hk1 ⟨by omega, hk2⟩
    · refine ⟨j, hj.1, hj.2, fun k hkj => ?_⟩
      cases hb : listed.getD k false with
      | true => rfl
      | false => exact absurd ⟨k, hkj, hb⟩ hk
structure HeadFacts (ops : Array Oper) (n size : Nat) : Prop where
  le : n ≤ ops.size
  back : ∀ i o, i < n → ops[i]? = some o → ∀ e ∈ o.after, Region.binds .any e = true → e.on < i
  dst : ∀ i, i < n → ∃ d, dstOf ops i = some d ∧ d < size ∧ ∀ j, j < n → j ≠ i → dstOf ops j ≠ some d
  tail : n = ops.size ∨ (Region.sinkB .any ops n = true ∧ Region.chainB .any ops n = true)
  seq : Region.seqB .any ops (ops.size - n) n (Array.replicate n true ++ Array.replicate (ops.size - n) false) = true
theorem headFacts {ops : Array Oper} {n size : Nat} (h : headOK ops n size = true) : HeadFacts ops n size := by
  simp only [headOK, Bool.and_eq_true, decide_eq_true_eq, Bool.or_eq_true, List.all_eq_true] at h
  obtain ⟨⟨⟨h1, h2⟩, h3⟩, h4⟩ := h
  refine ⟨h1, fun i o hi ho e he hb => ?_, fun i hi => ?_, h3, h4⟩
  · have := h2 i (List.mem_range.2 hi)
    rw [ho] at this
    simp only [Bool.and_eq_true, Array.all_eq_true_iff_forall_mem, Bool.or_eq_true, Bool.not_eq_true', decide_eq_true_eq] at this
    rcases this.1 e he with h | h
    · rw [hb] at h; cases h
    · exact h
  · have := h2 i (List.mem_range.2 hi)
    cases ho : ops[i]? with
    | none => rw [ho] at this; cases this
    | some o =>
      rw [ho] at this
      simp only [Bool.and_eq_true] at this
      have h5 := this.2
      cases hd : o.dst with
      | none => rw [hd] at h5; cases h5
      | some d =>
        rw [hd] at h5
        simp only [Bool.and_eq_true, decide_eq_true_eq, List.all_eq_true, Bool.or_eq_true, beq_iff_eq, bne_iff_ne] at h5
        refine ⟨d, by simp [dstOf, ho, hd], h5.1, fun j hj hji => ?_⟩
        rcases h5.2 j (List.mem_range.2 hj) with h | h
        · exact absurd h hji
        · exact h
theorem waits_mem {ops : Array Oper} {i j : Nat} {o : Oper} (ho : ops[i]? = some o) (h : Region.waitsFor .any ops i j = true) : ∃ e ∈ o.after, Region.binds .any e = true ∧ e.on = j := by
  obtain ⟨o', ho', h'⟩ := Region.waitsFor_spec h
  have : o' = o := Option.some.inj (ho'.symm.trans ho)
  subst this
  exact h'
theorem listed_all {listed : Array Bool} {n m : Nat} (hs : listed.size = m) (hn : n ≤ m) (h1 : ∀ j, j < n → listed.getD j false = true) (h2 : ∀ t, n ≤ t → t < m → listed.getD t true = false) :
    listed = Array.replicate n true ++ Array.replicate (m - n) false := by
  apply Array.ext
  · simp [hs]; omega
  · intro i hi1 hi2
    by_cases h : i < n
    · have := h1 i h
      rw [Array.getElem_append_left (by simpa using h)]
      simp [hi1] at this
      simpa using this
    · have := h2 i (by omega) (by omega)
      rw [Array.getElem_append_right (by simp; omega)]
      simp [hi1] at this
      simpa using this
section
variable {P : Program} {ops : Array Oper} {n : Nat} {w0 : World} {a0 : Act} {G : List Pred} {Q : Exit → Act → World → Prop}
theorem SInv.env {listed : Array Bool} {a : Act} {w : World} {i : Nat} {o : Oper} (hf : HeadFacts ops n a0.tmps.size) (inv : SInv ops n w0 a0 G listed a w) (hi : i ∈ Region.ready .any ops listed) (hin : i < n) (ho : ops[i]? = some o) :
    ∀ ss, envAll ops a0 G i a w ss := by
  obtain ⟨hun, o', ho', hall⟩ := mem_ready.1 hi
  have : o' = o := Option.some.inj (ho'.symm.trans ho)
  subst this
  intro ss
  induction ss with
  | nil => trivial
  | cons s ss ih =>
    refine ⟨?_, ih⟩
    unfold envAt
    split
    · rename_i j hj
      have hfd := List.find?_some hj
      simp only [Bool.and_eq_true, beq_iff_eq] at hfd
      obtain ⟨e, he, hb, hon⟩ := waits_mem ho hfd.1
      have hlt := hf.back i o' hin ho e he hb
      have hl := hall e he hb
      rw [hon] at hl hlt
      exact inv.done j s (by omega) hl hfd.2
    · split
      · rename_i horig
        refine inv.rest s fun j hl hd => ?_
        have hjs : j < ops.size := by
          rcases Nat.lt_or_ge j ops.size with h | h
          · exact h
          · simp [dstOf, Array.getElem?_eq_none h] at hd
        have h1 := List.all_eq_true.1 horig j (List.mem_range.2 hjs)
        simp only [Bool.or_eq_true, bne_iff_ne, beq_iff_eq] at h1
        rcases h1 with (h1 | h1) | h1
        · exact h1 hd
        · subst h1; rw [getD_both hun] at hl; cases hl
        · obtain ⟨oj, hoj, e, he, hb, hon⟩ := Region.waitsFor_spec h1
          have := inv.head.closed j oj hoj hl e he hb
          rw [hon, getD_both hun] at this; cases this
      · trivial
theorem SInv.next {listed : Array Bool} {a : Act} {w w' : World} {i : Nat} {o : Oper} {v : Value} (hf : HeadFacts ops n a0.tmps.size) (hG : ∀ j, Lasts (G.getD j (fun _ _ => True))) (inv : SInv ops n w0 a0 G listed a w) (hi : i ∈ Region.ready .any ops listed) (hin : i < n) (ho : ops[i]? = some o)
    (hw : Below w.heap.size w w') (hA : (G.getD i (fun _ _ => True)) v w') : SInv ops n w0 a0 G (listed.setIfInBounds i true) (a.put o.dst v) w' := by
  obtain ⟨d, hd, hds, hdn⟩ := hf.dst i hin
  have hod : o.dst = some d := by simpa [dstOf, ho] using hd
  obtain ⟨hun, _, _, _⟩ := mem_ready.1 hi
  have hil : i < listed.size := by rw [inv.head.size]; exact (Array.getElem?_eq_some_iff.1 ho).1
  rw [hod]
  refine ⟨inv.head.set hi hin, below_mid inv.world hw, ?_, ?_, fun j d' hj hl hd' => ?_, fun s hs => ?_⟩
  · simpa [Act.put] using inv.defers
  · simpa [Act.put] using inv.size
  · by_cases hji : j = i
    · subst hji
      rw [hd] at hd'
      cases hd'
      rw [eval_put_same (by rw [inv.size]; exact hds)]
      exact hA
    · rw [getD_set_ne false (Ne.symm hji)] at hl
      have hne : d ≠ d' := fun h => by subst h; exact hdn j hj hji hd'
      rw [eval_put_ne hne]
      exact hG j _ _ _ (inv.done j d' hj hl hd') hw
  · have hne : d ≠ s := fun h => by
      subst h
      exact hs i (by simp [hil]) hd
    rw [eval_put_ne hne]
    refine inv.rest s fun j hl => hs j ?_
    by_cases hji : j = i
    · subst hji; simp [hil]
    · rw [getD_set_ne false (Ne.symm hji)]; exact hl
theorem wpAny_spec (hf : HeadFacts ops n a0.tmps.size) (hG : ∀ j, Lasts (G.getD j (fun _ _ => True))) (hstep : ∀ i o, i < n → ops[i]? = some o → stepOK P ops w0 a0 G i o (G.getD i (fun _ _ => True)))
    (hfin : ∀ a w, Below w0.heap.size w0 w → a.defers = a0.defers → a.tmps.size = a0.tmps.size → (∀ j d, j < n → dstOf ops j = some d → (G.getD j (fun _ _ => True)) (a.eval (.tmp d)) w) →
      (∀ s, (∀ j, j < n → dstOf ops j ≠ some s) → a.eval (.tmp s) = a0.eval (.tmp s)) → wpList P ops Q (ops.toList.drop n) a w) :
    ∀ (f : Nat) (listed : Array Bool) (a : Act) (w : World), unl listed n = f → SInv ops n w0 a0 G listed a w → wpAny P .any ops Q (f + (ops.size - n)) listed a w := by
  intro f
  induction f with
  | zero =>
    intro listed a w hu inv
    have hall := unl_zero hu
    have hl := listed_all inv.head.size hf.le hall inv.head.tail
    have hw := hfin a w inv.world inv.defers inv.size (fun j d hj hd => inv.done j d hj (hall j hj) hd) (fun s hs => inv.rest s fun j hl' hd => by
      by_cases hj : j < n
      · exact hs j hj hd
      · have hjs : j < ops.size := by
          rcases Nat.lt_or_ge j ops.size with h | h
          · exact h
          · simp [dstOf, Array.getElem?_eq_none h] at hd
        have := inv.head.tail j (by omega) hjs
        rw [getD_both this] at hl'; cases hl')
    have hlen : (ops.toList.drop n).length = ops.size - n := by simp
    rw [Nat.zero_add, ← hlen]
    refine wpAny_of_seq (ops.toList.drop n) n listed a w (fun j => by simp [List.getElem?_drop]) ?_ hw
    rw [hlen, hl]
    exact hf.seq
  | succ f ih =>
    intro listed a w hu inv
    obtain ⟨j, hj, hjf, hjb⟩ := unl_pos (listed := listed) (n := n) (by omega)
    have hjs : j < ops.size := by have := hf.le; omega
    have hready : j ∈ Region.ready .any ops listed := by
      refine mem_ready.2 ⟨getD_in (by rw [inv.head.size]; exact hjs) hjf, ops[j], by simp [hjs], fun e he hb => ?_⟩
      exact hjb _ (hf.back j ops[j] hj (by simp [hjs]) e he hb)
    rw [show f + 1 + (ops.size - n) = (f + (ops.size - n)) + 1 by omega]
    refine ⟨fun h0 => (by rw [h0] at hready; cases hready), fun i hi => ?_⟩
    have hin : i < n := by
      rcases Nat.lt_or_ge i n with h | h
      · exact h
      · exfalso
        obtain ⟨_, oi, hoi, _⟩ := mem_ready.1 hi
        have his : i < ops.size := (Array.getElem?_eq_some_iff.1 hoi).1
        rcases hf.tail with ht | ⟨hs, hc⟩
        · omega
        · exact tail_waits hs hc (by omega) inv.head (n - j) j rfl hj (getD_in (by rw [inv.head.size]; exact hjs) hjf) i h hi
    obtain ⟨hun, o, ho, _⟩ := mem_ready.1 hi
    have henv := inv.env hf hi hin ho (o.looksAt ops)
    have hs := hstep i o hin ho a w inv.world inv.size henv
    have hu' : unl (listed.setIfInBounds i true) n = f := by
      have := unl_set hin (by rw [inv.head.size]; exact (Array.getElem?_eq_some_iff.1 ho).1) (getD_both hun)
      omega
    unfold wpOp
    simp only [ho]
    by_cases hwt : Region.wanted o (yielded ops a.tmps) = true
    · rw [if_pos hwt] at hs ⊢
      refine .inl (upon_mono ?_ (fun _ _ _ h => h.elim) hs)
      rintro a' w' ⟨v, rfl, hb, hA⟩
      exact ih _ _ _ hu' (inv.next hf hG hi hin ho hb hA)
    · rw [if_neg hwt] at hs ⊢
      exact ih _ _ _ hu' (inv.next hf hG hi hin ho (Below.refl _ _) hs)
end
theorem wpS_parts {P : Program} {ops : Array Oper} {w0 : World} {a0 : Act} {F : List Pred → Prop} : ∀ (l : List Oper) (G : List Pred), (∀ A ∈ G, Lasts A) → (∀ j, j < l.length → l[j]? = ops[G.length + j]?) →
    wpS P ops w0 a0 F l G → ∃ G', F (G ++ G') ∧ G'.length = l.length ∧ (∀ A ∈ G', Lasts A) ∧ ∀ j o, j < l.length → ops[G.length + j]? = some o → stepOK P ops w0 a0 ((G ++ G').take (G.length + j)) (G.length + j) o ((G ++ G').getD (G.length + j) (fun _ _ => True))
  | [], G, _, _, h => ⟨[], by simpa [wpS] using h, rfl, by simp, fun j o hj => by simp at hj⟩
  | o :: l, G, hG, hl, h => by
    obtain ⟨A, hA, hs, hr⟩ := h
    obtain ⟨G', hF, hlen, hG', hst⟩ := wpS_parts l (G ++ [A]) (fun B hB => by
      rcases List.mem_append.1 hB with h | h
      · exact hG B h
      · simp at h; subst h; exact hA) (fun j hj => by
        have := hl (j + 1) (by simp; omega)
        simpa [Nat.add_assoc, Nat.add_comm 1 j] using this) hr
    refine ⟨A :: G', by simpa using hF, by simp [hlen], fun B hB => ?_, fun j oj hj hoj => ?_⟩
    · rcases List.mem_cons.1 hB with h | h
      · subst h; exact hA
      · exact hG' B h
    · cases j with
      | zero =>
        have h0 : some o = ops[G.length]? := by simpa using hl 0 (by simp)
        rw [Nat.add_zero] at hoj ⊢
        rw [← h0] at hoj
        cases hoj
        simpa using hs
      | succ j =>
        have := hst j oj (by simpa using hj) (by simpa [Nat.add_assoc, Nat.add_comm 1 j] using hoj)
        simpa [Nat.add_assoc, Nat.add_comm 1 j] using this
theorem envAll_take {ops : Array Oper} {n size : Nat} (hf : HeadFacts ops n size) {a0 : Act} {G : List Pred} {i : Nat} {o : Oper} (ho : ops[i]? = some o) (hin : i < n) {a : Act} {w : World} :
    ∀ ss, envAll ops a0 G i a w ss → envAll ops a0 (G.take i) i a w ss
  | [], _ => trivial
  | s :: ss, ⟨h1, h2⟩ => by
    refine ⟨?_, envAll_take hf ho hin ss h2⟩
    unfold envAt at h1 ⊢
    split at h1
    · rename_i j hj
      have hfd := List.find?_some hj
      simp only [Bool.and_eq_true, beq_iff_eq] at hfd
      obtain ⟨e, he, hb, hon⟩ := waits_mem ho hfd.1
      have hlt := hf.back i o hin ho e he hb
      rw [hon] at hlt
      have hg : (G.take i).getD j (fun _ _ => True) = G.getD j (fun _ _ => True) := by simp [hlt]
      rw [hg]; exact h1
    · exact h1
theorem lasts_getD {G : List Pred} (h : ∀ A ∈ G, Lasts A) (j : Nat) : Lasts (G.getD j (fun _ _ => True)) := by
  rcases Nat.lt_or_ge j G.length with hj | hj
  · rw [List.getD_eq_getElem?_getD, List.getElem?_eq_getElem hj]; exact h _ (List.getElem_mem hj)
  · rw [List.getD_eq_getElem?_getD, List.getElem?_eq_none hj]; intro _ _ _ _ _; trivial
theorem putAll_size : ∀ (l : List Oper) (vs : List Value) (a : Act), (putAll a l vs).tmps.size = a.tmps.size ∧ (putAll a l vs).defers = a.defers
  | [], _, _ => ⟨rfl, rfl⟩
  | _ :: _, [], _ => ⟨rfl, rfl⟩
  | o :: l, v :: vs, a => by
    have := putAll_size l vs (a.put o.dst v)
    simp only [putAll]
    rw [this.1, this.2]
    cases o.dst <;> simp [Act.put]
theorem act_ext {a b : Act} (h1 : a.tmps.size = b.tmps.size) (h2 : a.defers = b.defers) (h3 : ∀ s, s < a.tmps.size → a.eval (.tmp s) = b.eval (.tmp s)) : a = b := by
  obtain ⟨t1, d1⟩ := a
  obtain ⟨t2, d2⟩ := b
  simp only at h1 h2 h3
  subst h2
  congr
  apply Array.ext h1
  intro i hi1 hi2
  have := h3 i hi1
  simpa [Act.eval, hi1, hi2] using this
theorem putAll_none : ∀ (l : List Oper) (vs : List Value) (a : Act) (s : Tmp), (∀ o ∈ l, o.dst ≠ some s) → (putAll a l vs).eval (.tmp s) = a.eval (.tmp s)
  | [], _, _, _, _ => rfl
  | _ :: _, [], _, _, _ => rfl
  | o :: l, v :: vs, a, s, h => by
    simp only [putAll]
    rw [putAll_none l vs _ s (fun o' ho' => h o' (List.mem_cons_of_mem _ ho'))]
    have := h o (List.mem_cons_self ..)
    cases hd : o.dst with
    | none => rfl
    | some d => exact eval_put_ne (fun e => by rw [hd, e] at this; exact this rfl)
theorem putAll_one : ∀ (l : List Oper) (vs : List Value) (a : Act) (s : Tmp) (j : Nat) (o : Oper) (v : Value), l[j]? = some o → vs[j]? = some v → o.dst = some s → s < a.tmps.size → (∀ k o', l[k]? = some o' → k ≠ j → o'.dst ≠ some s) → (putAll a l vs).eval (.tmp s) = v
  | [], _, _, _, _, _, _, hj, _, _, _, _ => by simp at hj
  | _ :: _, [], _, _, _, _, _, _, hv, _, _, _ => by simp at hv
  | o :: l, v :: vs, a, s, 0, o', v', hj, hv, hd, hs, hno => by
    simp at hj hv
    subst hj hv
    simp only [putAll]
    rw [putAll_none l vs _ s (fun o'' ho'' => by
      obtain ⟨k, hk, rfl⟩ := List.mem_iff_getElem.1 ho''
      exact hno (k + 1) _ (by simp [hk]) (by omega)), hd]
    exact eval_put_same hs
  | o :: l, v :: vs, a, s, j + 1, o', v', hj, hv, hd, hs, hno => by
    simp only [putAll]
    refine putAll_one l vs _ s j o' v' (by simpa using hj) (by simpa using hv) hd ?_ (fun k o'' hk hne => hno (k + 1) o'' (by simpa using hk) (by omega))
    cases o.dst <;> simpa [Act.put] using hs
theorem finS_go {K : List Value → World → Prop} {w : World} : ∀ (G : List Pred) (pre vs : List Value), vs.length = G.length → (∀ j, j < G.length → (G.getD j (fun _ _ => True)) (vs.getD j undef) w) → finS K w G pre → K (pre ++ vs) w
  | [], pre, vs, hl, _, h => by
    have : vs = [] := by simpa using hl
    subst this
    simpa [finS] using h
  | A :: G, pre, [], hl, _, _ => by simp at hl
  | A :: G, pre, v :: vs, hl, hA, h => by
    have h0 := hA 0 (by simp)
    have := finS_go G (pre ++ [v]) vs (by simpa using hl) (fun j hj => by simpa using hA (j + 1) (by simpa using hj)) (h v (by simpa using h0))
    simpa using this
theorem wp_region_S {P : Program} {id : Nat} {Q : Exit → Act → World → Prop} {a : Act} {w : World} {l : List Oper} (n : Nat) (hm : P.follows .mixedOrders = true) (hB : headOK l.toArray n a.tmps.size = true)
    (h : wpS P l.toArray w a (fun G => ∀ w', Below w.heap.size w w' → finS (fun vs w' => wpList P l.toArray Q (l.drop n) (putAll a (l.take n) vs) w') w' G []) (l.take n) []) : (Code.region id l.toArray true).wp P Q a w := by
  have hf := headFacts hB
  have hnl : n ≤ l.length := by simpa using hf.le
  have htl : (l.take n).length = n := by simp; omega
  obtain ⟨G, hF, hlen, hG, hst⟩ := wpS_parts (l.take n) [] (by simp) (fun j hj => by rw [htl] at hj; simp [hj]) h
  simp only [List.nil_append, List.length_nil, Nat.zero_add] at hF hst
  rw [htl] at hlen hst
  refine wp_region_any hm ?_
  have hstep : ∀ i o, i < n → l.toArray[i]? = some o → stepOK P l.toArray w a G i o (G.getD i (fun _ _ => True)) := by
    intro i o hi ho a' w' hw hs henv
    exact hst i o hi ho a' w' hw hs (envAll_take hf ho hi _ henv)
  have key := wpAny_spec (P := P) (Q := Q) (G := G) (w0 := w) (a0 := a) hf (lasts_getD hG) hstep (fun a' w' hw hd hs hA hR => by
    have hfin := finS_go G [] ((List.range n).map fun j => match dstOf l.toArray j with | some d => a'.eval (.tmp d) | none => undef) (by simp [hlen]) (fun j hj => by
      rw [hlen] at hj
      obtain ⟨d, hd', _, _⟩ := hf.dst j hj
      have := hA j d hj hd'
      simpa [hj, hd'] using this) (hF w' hw)
    have e : putAll a (l.take n) ((List.range n).map fun j => match dstOf l.toArray j with | some d => a'.eval (.tmp d) | none => undef) = a' := by
      have hps := putAll_size (l.take n) ((List.range n).map fun j => match dstOf l.toArray j with | some d => a'.eval (.tmp d) | none => undef) a
      refine act_ext (hps.1.trans hs.symm) (hps.2.trans hd.symm) (fun s hs' => ?_)
      by_cases hex : ∃ j, j < n ∧ dstOf l.toArray j = some s
      · obtain ⟨j, hj, hjd⟩ := hex
        have hjl : j < l.length := by omega
        obtain ⟨d, hd', hlt, huniq⟩ := hf.dst j hj
        rw [hjd] at hd'
        cases hd'
        exact putAll_one (l.take n) _ a s j l[j] _ (by simp [hj, hjl]) (by simp [hj, hjd]) (by simpa [dstOf, hjl] using hjd) hlt (fun k o' hk hne => by
          have hkn : k < n := by
            rcases Nat.lt_or_ge k n with h | h
            · exact h
            · rw [List.getElem?_eq_none (by omega)] at hk; cases hk
          have := huniq k hkn hne
          have hk' : l[k]? = some o' := by simpa [List.getElem?_take, hkn] using hk
          simpa [dstOf, hk'] using this)
      · rw [putAll_none (l.take n) _ a s (fun o ho hd' => hex (by
          obtain ⟨k, hk, rfl⟩ := List.mem_iff_getElem.1 ho
          rw [htl] at hk
          refine ⟨k, hk, ?_⟩
          have hkl : k < l.length := by omega
          simpa [dstOf, hkl] using hd'))]
        exact (hR s (fun j hj hjd => hex ⟨j, hj, hjd⟩)).symm
    rw [List.nil_append, e] at hfin
    simpa using hfin) n (Array.replicate l.toArray.size false) a { w with drawn := w.drawn + 1 } ?_ ⟨?_, ?_, rfl, rfl, ?_, fun s _ => rfl⟩
  · rw [show n + (l.toArray.size - n) = l.toArray.size by have := hf.le; omega] at key
    exact key
  · unfold unl
    rw [List.countP_eq_length.2]
    · simp
    · intro j _; simp only [getD_replicate_false]; rfl
  · exact ⟨by simp, fun j oj _ hl => (by rw [getD_replicate_false] at hl; cases hl), fun t _ ht => getD_in (by simpa using ht) (getD_replicate_false _ _)⟩
  · exact (Below.refl _ w).drew
  · intro j d _ hl _
    rw [getD_replicate_false] at hl; cases hl
end Go.Proofs.YthdnonoheochhaaGreatDoor
