/- Plain helpers for the walks: worlds that only grow, cells that stay, masks of low bits. -/
import Derived.WalkKit
import Derived.Lib.Hide
import Derived.Deep.QuietTactic
import Derived.BigQuiet
import Derived.Lib.QuietBelow
import Derived.StillTail
set_option linter.unusedVariables false
set_option maxRecDepth 100000
set_option maxHeartbeats 32000000
namespace Go.Proofs.YtbhglemolpfnkaaGreatDoor
open Go.RowKit Go.Sort

variable {w : World} {v : Value} {listed : Array Bool}
theorem Hi {p : Prop} (h : p) : Hid p := h
theorem l_S {α : Type} {a b : α} {l : List α} {n : Nat} : (a :: l).set (n + 1) b = a :: l.set n b := rfl
theorem l_Z {α : Type} {a b : α} {l : List α} : (a :: l).set 0 b = b :: l := rfl
theorem l_T {α : Type} {l : List α} {i : Nat} {a : α} : l.toArray.setIfInBounds i a = (l.set i a).toArray := List.setIfInBounds_toArray ..
theorem keep {w w' : World} {a : Addr} (hb : Below w.heap.size w w') (h : w.cell? a = some v) : w'.cell? a = some v := by
 rw [hb.cell (block_lt_of_cell h)]; exact h

theorem wp_region_B {P : Program} {id : Nat} {Q : Exit → Act → World → Prop} {a : Act} {l : List Oper} (hm : P.follows .mixedOrders = true) (hB : Region.lexB .any l.toArray = true)
  (h : wpQuiet P l.toArray (fun w' => ∃ p : Regrown, w' = grow (redrawn w p.d) p.os) (fun a' => ∀ w', Below w.heap.size w w' → Q .normal a' w') l a) : (Code.region id l.toArray true).wp P Q a w := by
 refine wp_region_quiet (C := fun w' => ∃ p : Regrown, w' = grow (redrawn w p.d) p.os) hm hB ⟨⟨w.drawn + 1, #[]⟩, by rw [grow_empty]; rfl⟩ ?_
 have e : (fun a' => ∀ w', Below w.heap.size w w' → Q .normal a' w') = (fun a' => ∀ w', (∃ p : Regrown, w' = grow (redrawn w p.d) p.os) → Q .normal a' w') := by
  funext a'
  apply propext
  constructor
  ·
   rintro H w' ⟨p, rfl⟩; exact H _ (below_regrown _ _ _)
  ·
   intro H w' hb; exact H _ (regrown_of_below hb)
 rw [e] at h
 simpa using h

theorem ret_bool {a b : Bool} (h : a = b) : Ending.returned (.bool a) = .returned (.bool b) := by rw [h]
theorem ret_i64 {a b : Int} (h : a = b) : Ending.returned (.int .i64 a) = .returned (.int .i64 b) := by rw [h]

theorem below_mid {w W w' : World} (h : Below w.heap.size w W) (h' : Below W.heap.size W w') : Below w.heap.size w w' := h.trans (h'.mono h.size)
abbrev Pred := Value → World → Prop
def Lasts (A : Pred) : Prop := ∀ v w w', A v w → Below w.heap.size w w' → A v w'

def dstOf (ops : Array Oper) (j : Nat) : Option Tmp := (ops[j]?).bind (·.dst)
def prodOf (ops : Array Oper) (i : Nat) (s : Tmp) : Option Nat := (List.range ops.size).find? fun j => Region.waitsFor .any ops i j && (dstOf ops j == some s)
def origAt (ops : Array Oper) (i : Nat) (s : Tmp) : Bool := (List.range ops.size).all fun j => (dstOf ops j != some s) || (j == i) || Region.waitsFor .any ops j i

def envAt (ops : Array Oper) (a0 : Act) (G : List Pred) (i : Nat) (a : Act) (w : World) (s : Tmp) : Prop :=
 match prodOf ops i s with
 | some j => (G.getD j (fun _ _ => True)) (a.eval (.tmp s)) w
 | none => if origAt ops i s = true then a.eval (.tmp s) = a0.eval (.tmp s) else True
def envAll (ops : Array Oper) (a0 : Act) (G : List Pred) (i : Nat) (a : Act) (w : World) : List Tmp → Prop
 | [] => True
 | s :: ss => envAt ops a0 G i a w s ∧ envAll ops a0 G i a w ss

def stepOK (P : Program) (ops : Array Oper) (w0 : World) (a0 : Act) (G : List Pred) (i : Nat) (o : Oper) (A : Pred) : Prop :=
 ∀ a w, Below w0.heap.size w0 w → a.tmps.size = a0.tmps.size → envAll ops a0 G i a w (o.looksAt ops) →
  if Region.wanted o (yielded ops a.tmps) then o.wp P a w (fun a' w' => ∃ v, a' = a.put o.dst v ∧ Below w.heap.size w w' ∧ A v w') (fun _ _ _ => False) else A undef w

def wpS (P : Program) (ops : Array Oper) (w0 : World) (a0 : Act) (F : List Pred → Prop) : List Oper → List Pred → Prop
 | [], G => F G
 | o :: rest, G => ∃ A, Lasts A ∧ stepOK P ops w0 a0 G G.length o A ∧ wpS P ops w0 a0 F rest (G ++ [A])

def putAll (a : Act) : List Oper → List Value → Act
 | o :: os, v :: vs => putAll (a.put o.dst v) os vs
 | _, _ => a
def finS (K : List Value → World → Prop) (w : World) : List Pred → List Value → Prop
 | [], vs => K vs w
 | A :: As, vs => ∀ v, A v w → finS K w As (vs ++ [v])

def headOK (ops : Array Oper) (n size : Nat) : Bool :=
 decide (n ≤ ops.size) &&
 ((List.range n).all fun i => match ops[i]? with
  | some o => (o.after.all fun e => !Region.binds .any e || decide (e.on < i)) && (match o.dst with | some d => decide (d < size) && ((List.range n).all fun j => (j == i) || (dstOf ops j != some d)) | none => false)
  | none => false) &&
 (decide (n = ops.size) || (Region.sinkB .any ops n && Region.chainB .any ops n)) &&
 Region.seqB .any ops (ops.size - n) n (Array.replicate n true ++ Array.replicate (ops.size - n) false)

theorem upon_mono {P : Program} {o : Oper} {a : Act} {n1 n2 : Act → World → Prop} {Q1 Q2 : Exit → Act → World → Prop} {r : Result Next} (hn : ∀ a w, n1 a w → n2 a w) (hq : ∀ e a w, Q1 e a w → Q2 e a w)
  (h : o.upon P a n1 Q1 r) : o.upon P a n2 Q2 r := by
 cases r with
 | ok x w =>
  cases x with
  | value v => exact hn _ _ h
  | skip => exact hn _ _ h
  | defer d => exact hn _ _ h
  | enter f args =>
   refine Calls.mono h ?_
   intro e w' he
   cases e with
   | returned v => exact hn _ _ he
   | panicked c => exact hq _ _ _ he
   | outgrown => obtain ⟨a', w'', h'⟩ := he; exact ⟨a', w'', hq _ _ _ h'⟩
  | row r args => exact Rows.mono h fun v w' h' => hn _ _ h'
  | _ => exact h.elim
 | halt x w =>
  cases x with
  | panic v => exact hq _ _ _ h
  | _ => exact h.elim

structure SInv (ops : Array Oper) (n : Nat) (w0 : World) (a0 : Act) (G : List Pred) (listed : Array Bool) (a : Act) (w : World) : Prop where
 head : HeadInv .any ops n listed
 world : Below w0.heap.size w0 w
 defers : a.defers = a0.defers
 size : a.tmps.size = a0.tmps.size
 done : ∀ j d, j < n → listed.getD j false = true → dstOf ops j = some d → (G.getD j (fun _ _ => True)) (a.eval (.tmp d)) w
 rest : ∀ s, (∀ j, listed.getD j false = true → dstOf ops j ≠ some s) → a.eval (.tmp s) = a0.eval (.tmp s)

theorem eval_put_same {a : Act} {d : Tmp} (h : d < a.tmps.size) : (a.put (some d) v).eval (.tmp d) = v := by
 simp [Act.put, Act.eval, h]
theorem eval_put_ne {a : Act} {d s : Tmp} (h : d ≠ s) : (a.put (some d) v).eval (.tmp s) = a.eval (.tmp s) := by
 simp [Act.put, Act.eval, Array.getElem?_setIfInBounds_ne h]

def unl (listed : Array Bool) (n : Nat) : Nat := (List.range n).countP fun j => !listed.getD j false

theorem unl_set {i n : Nat} (hi : i < n) (hs : i < listed.size) (hf : listed.getD i false = false) : unl listed n = unl (listed.setIfInBounds i true) n + 1 := by
 unfold unl
 have key : ∀ m, (List.range m).countP (fun j => !listed.getD j false) = (List.range m).countP (fun j => !(listed.setIfInBounds i true).getD j false) + if i < m then 1 else 0 := by
  intro m
  induction m with
  | zero => simp
  | succ m ih =>
   rw [List.range_succ, List.countP_append, List.countP_append, ih]
   by_cases hm : i = m
   ·
    subst hm
    have h1 : (listed.setIfInBounds i true).getD i false = true := by simp [hs]
    simp only [List.countP_singleton, hf, h1]
    simp
   ·
    have h1 : (listed.setIfInBounds i true).getD m false = listed.getD m false := getD_set_ne false hm
    simp only [List.countP_singleton, h1]
    by_cases hlt : i < m
    ·
     simp [hlt, show i < m + 1 by omega]; omega
    ·
     simp [hlt, show ¬ i < m + 1 by omega]
 rw [key n]; simp [hi]

theorem unl_zero {n : Nat} (h : unl listed n = 0) : ∀ j, j < n → listed.getD j false = true := by
 intro j hj
 unfold unl at h
 rw [List.countP_eq_zero] at h
 have := h j (List.mem_range.2 hj)
 simpa using this
theorem unl_pos {n : Nat} (h : unl listed n ≠ 0) : ∃ j, j < n ∧ listed.getD j false = false ∧ ∀ k, k < j → listed.getD k false = true := by
 have h1 : ∃ j, j < n ∧ listed.getD j false = false := by
  refine Classical.byContradiction fun hno => h ?_
  unfold unl
  rw [List.countP_eq_zero]
  intro j hj
  have hj' := List.mem_range.1 hj
  cases hb : listed.getD j false with
  | true => simp
  | false => exact absurd ⟨j, hj', hb⟩ hno
 obtain ⟨j, hj⟩ := h1
 induction j using Nat.strongRecOn with
 | _ j ih =>
  by_cases hk : ∃ k, k < j ∧ listed.getD k false = false
  ·
   obtain ⟨k, hk1, hk2⟩ := hk
   exact ih k hk1 ⟨by omega, hk2⟩
  ·
   refine ⟨j, hj.1, hj.2, fun k hkj => ?_⟩
   cases hb : listed.getD k false with
   | true => rfl
   | false => exact absurd ⟨k, hkj, hb⟩ hk

structure HeadFacts (ops : Array Oper) (n size : Nat) : Prop where
 le : n ≤ ops.size
 back : ∀ i o, i < n → ops[i]? = some o → ∀ e ∈ o.after, Region.binds .any e = true → e.on < i
 dst : ∀ i, i < n → ∃ d, dstOf ops i = some d ∧ d < size ∧ ∀ j, j < n → j ≠ i → dstOf ops j ≠ some d
 tail : n = ops.size ∨ (Region.sinkB .any ops n = true ∧ Region.chainB .any ops n = true)
 seq : Region.seqB .any ops (ops.size - n) n (Array.replicate n true ++ Array.replicate (ops.size - n) false) = true

theorem headFacts {ops : Array Oper} {n size : Nat} (h : headOK ops n size = true) : HeadFacts ops n size := by
 simp only [headOK, Bool.and_eq_true, decide_eq_true_eq, Bool.or_eq_true, List.all_eq_true] at h
 obtain ⟨⟨⟨h1, h2⟩, h3⟩, h4⟩ := h
 refine ⟨h1, fun i o hi ho e he hb => ?_, fun i hi => ?_, h3, h4⟩
 ·
  have := h2 i (List.mem_range.2 hi)
  rw [ho] at this
  simp only [Bool.and_eq_true, Array.all_eq_true_iff_forall_mem, Bool.or_eq_true, Bool.not_eq_true', decide_eq_true_eq] at this
  rcases this.1 e he with h | h
  ·
   rw [hb] at h; cases h
  ·
   exact h
 ·
  have := h2 i (List.mem_range.2 hi)
  cases ho : ops[i]? with
  | none => rw [ho] at this; cases this
  | some o =>
   rw [ho] at this
   simp only [Bool.and_eq_true] at this
   have h5 := this.2
   cases hd : o.dst with
   | none => rw [hd] at h5; cases h5
   | some d =>
    rw [hd] at h5
    simp only [Bool.and_eq_true, decide_eq_true_eq, List.all_eq_true, Bool.or_eq_true, beq_iff_eq, bne_iff_ne] at h5
    refine ⟨d, by simp [dstOf, ho, hd], h5.1, fun j hj hji => ?_⟩
    rcases h5.2 j (List.mem_range.2 hj) with h | h
    ·
     exact absurd h hji
    ·
     exact h

theorem waits_mem {ops : Array Oper} {i j : Nat} {o : Oper} (ho : ops[i]? = some o) (h : Region.waitsFor .any ops i j = true) : ∃ e ∈ o.after, Region.binds .any e = true ∧ e.on = j := by
 obtain ⟨o', ho', h'⟩ := Region.waitsFor_spec h
 have : o' = o := Option.some.inj (ho'.symm.trans ho)
 subst this
 exact h'

theorem listed_all {n m : Nat} (hs : listed.size = m) (hn : n ≤ m) (h1 : ∀ j, j < n → listed.getD j false = true) (h2 : ∀ t, n ≤ t → t < m → listed.getD t true = false) :
  listed = Array.replicate n true ++ Array.replicate (m - n) false := by
 apply Array.ext
 ·
  simp [hs]; omega
 ·
  intro i hi1 hi2
  by_cases h : i < n
  ·
   have := h1 i h
   rw [Array.getElem_append_left (by simpa using h)]
   simp [hi1] at this
   simpa using this
  ·
   have := h2 i (by omega) (by omega)
   rw [Array.getElem_append_right (by simp; omega)]
   simp [hi1] at this
   simpa using this

section
variable {P : Program} {ops : Array Oper} {n : Nat} {w0 : World} {a0 : Act} {G : List Pred} {Q : Exit → Act → World → Prop}

theorem SInv.env {a : Act} {i : Nat} {o : Oper} (hf : HeadFacts ops n a0.tmps.size) (inv : SInv ops n w0 a0 G listed a w) (hi : i ∈ Region.ready .any ops listed) (hin : i < n) (ho : ops[i]? = some o) :
  ∀ ss, envAll ops a0 G i a w ss := by
 obtain ⟨hun, o', ho', hall⟩ := mem_ready.1 hi
 have : o' = o := Option.some.inj (ho'.symm.trans ho)
 subst this
 intro ss
 induction ss with
 | nil => trivial
 | cons s ss ih =>
  refine ⟨?_, ih⟩
  unfold envAt
  split
  ·
   rename_i j hj
   have hfd := List.find?_some hj
   simp only [Bool.and_eq_true, beq_iff_eq] at hfd
   obtain ⟨e, he, hb, hon⟩ := waits_mem ho hfd.1
   have hlt := hf.back i o' hin ho e he hb
   have hl := hall e he hb
   rw [hon] at hl hlt
   exact inv.done j s (by omega) hl hfd.2
  ·
   split
   ·
    rename_i horig
    refine inv.rest s fun j hl hd => ?_
    have hjs : j < ops.size := by
     rcases Nat.lt_or_ge j ops.size with h | h
     ·
      exact h
     ·
      simp [dstOf, Array.getElem?_eq_none h] at hd
    have h1 := List.all_eq_true.1 horig j (List.mem_range.2 hjs)
    simp only [Bool.or_eq_true, bne_iff_ne, beq_iff_eq] at h1
    rcases h1 with (h1 | h1) | h1
    ·
     exact h1 hd
    ·
     subst h1; rw [getD_both hun] at hl; cases hl
    ·
     obtain ⟨oj, hoj, e, he, hb, hon⟩ := Region.waitsFor_spec h1
     have := inv.head.closed j oj hoj hl e he hb
     rw [hon, getD_both hun] at this; cases this
   ·
    trivial

theorem SInv.next {a : Act} {w w' : World} {i : Nat} {o : Oper} (hf : HeadFacts ops n a0.tmps.size) (hG : ∀ j, Lasts (G.getD j (fun _ _ => True))) (inv : SInv ops n w0 a0 G listed a w) (hi : i ∈ Region.ready .any ops listed) (hin : i < n) (ho : ops[i]? = some o)
  (hw : Below w.heap.size w w') (hA : (G.getD i (fun _ _ => True)) v w') : SInv ops n w0 a0 G (listed.setIfInBounds i true) (a.put o.dst v) w' := by
 obtain ⟨d, hd, hds, hdn⟩ := hf.dst i hin
 have hod : o.dst = some d := by simpa [dstOf, ho] using hd
 obtain ⟨hun, _, _, _⟩ := mem_ready.1 hi
 have hil : i < listed.size := by rw [inv.head.size]; exact (Array.getElem?_eq_some_iff.1 ho).1
 rw [hod]
 refine ⟨inv.head.set hi hin, below_mid inv.world hw, ?_, ?_, fun j d' hj hl hd' => ?_, fun s hs => ?_⟩
 ·
  simpa [Act.put] using inv.defers
 ·
  simpa [Act.put] using inv.size
 ·
  by_cases hji : j = i
  ·
   subst hji
   rw [hd] at hd'
   cases hd'
   rw [eval_put_same (by rw [inv.size]; exact hds)]
   exact hA
  ·
   rw [getD_set_ne false (Ne.symm hji)] at hl
   have hne : d ≠ d' := fun h => by subst h; exact hdn j hj hji hd'
   rw [eval_put_ne hne]
   exact hG j _ _ _ (inv.done j d' hj hl hd') hw
 ·
  have hne : d ≠ s := fun h => by
   subst h
   exact hs i (by simp [hil]) hd
  rw [eval_put_ne hne]
  refine inv.rest s fun j hl => hs j ?_
  by_cases hji : j = i
  ·
   subst hji; simp [hil]
  ·
   rw [getD_set_ne false (Ne.symm hji)]; exact hl

theorem wpAny_spec (hf : HeadFacts ops n a0.tmps.size) (hG : ∀ j, Lasts (G.getD j (fun _ _ => True))) (hstep : ∀ i o, i < n → ops[i]? = some o → stepOK P ops w0 a0 G i o (G.getD i (fun _ _ => True)))
  (hfin : ∀ a w, Below w0.heap.size w0 w → a.defers = a0.defers → a.tmps.size = a0.tmps.size → (∀ j d, j < n → dstOf ops j = some d → (G.getD j (fun _ _ => True)) (a.eval (.tmp d)) w) →
   (∀ s, (∀ j, j < n → dstOf ops j ≠ some s) → a.eval (.tmp s) = a0.eval (.tmp s)) → wpList P ops Q (ops.toList.drop n) a w) :
  ∀ (f : Nat) (listed : Array Bool) (a : Act) (w : World), unl listed n = f → SInv ops n w0 a0 G listed a w → wpAny P .any ops Q (f + (ops.size - n)) listed a w := by
 intro f
 induction f with
 | zero =>
  intro listed a w hu inv
  have hall := unl_zero hu
  have hl := listed_all inv.head.size hf.le hall inv.head.tail
  have hw := hfin a w inv.world inv.defers inv.size (fun j d hj hd => inv.done j d hj (hall j hj) hd) (fun s hs => inv.rest s fun j hl' hd => by
   by_cases hj : j < n
   ·
    exact hs j hj hd
   ·
    have hjs : j < ops.size := by
     rcases Nat.lt_or_ge j ops.size with h | h
     ·
      exact h
     ·
      simp [dstOf, Array.getElem?_eq_none h] at hd
    have := inv.head.tail j (by omega) hjs
    rw [getD_both this] at hl'; cases hl')
  have hlen : (ops.toList.drop n).length = ops.size - n := by simp
  rw [Nat.zero_add, ← hlen]
  refine wpAny_of_seq (ops.toList.drop n) n listed a w (fun j => by simp [List.getElem?_drop]) ?_ hw
  rw [hlen, hl]
  exact hf.seq
 | succ f ih =>
  intro listed a w hu inv
  obtain ⟨j, hj, hjf, hjb⟩ := unl_pos (listed := listed) (n := n) (by omega)
  have hjs : j < ops.size := by have := hf.le; omega
  have hready : j ∈ Region.ready .any ops listed := by
   refine mem_ready.2 ⟨getD_in (by rw [inv.head.size]; exact hjs) hjf, ops[j], by simp [hjs], fun e he hb => ?_⟩
   exact hjb _ (hf.back j ops[j] hj (by simp [hjs]) e he hb)
  rw [show f + 1 + (ops.size - n) = (f + (ops.size - n)) + 1 by omega]
  refine ⟨fun h0 => (by rw [h0] at hready; cases hready), fun i hi => ?_⟩
  have hin : i < n := by
   rcases Nat.lt_or_ge i n with h | h
   ·
    exact h
   ·
    exfalso
    obtain ⟨_, oi, hoi, _⟩ := mem_ready.1 hi
    have his : i < ops.size := (Array.getElem?_eq_some_iff.1 hoi).1
    rcases hf.tail with ht | ⟨hs, hc⟩
    ·
     omega
    ·
     exact tail_waits hs hc (by omega) inv.head (n - j) j rfl hj (getD_in (by rw [inv.head.size]; exact hjs) hjf) i h hi
  obtain ⟨hun, o, ho, _⟩ := mem_ready.1 hi
  have henv := inv.env hf hi hin ho (o.looksAt ops)
  have hs := hstep i o hin ho a w inv.world inv.size henv
  have hu' : unl (listed.setIfInBounds i true) n = f := by
   have := unl_set hin (by rw [inv.head.size]; exact (Array.getElem?_eq_some_iff.1 ho).1) (getD_both hun)
   omega
  unfold wpOp
  simp only [ho]
  by_cases hwt : Region.wanted o (yielded ops a.tmps) = true
  ·
   rw [if_pos hwt] at hs ⊢
   refine .inl (upon_mono ?_ (fun _ _ _ h => h.elim) hs)
   rintro a' w' ⟨v, rfl, hb, hA⟩
   exact ih _ _ _ hu' (inv.next hf hG hi hin ho hb hA)
  ·
   rw [if_neg hwt] at hs ⊢
   exact ih _ _ _ hu' (inv.next hf hG hi hin ho (Below.refl _ _) hs)
end

theorem wpS_parts {P : Program} {ops : Array Oper} {w0 : World} {a0 : Act} {F : List Pred → Prop} : ∀ (l : List Oper) (G : List Pred), (∀ A ∈ G, Lasts A) → (∀ j, j < l.length → l[j]? = ops[G.length + j]?) →
  wpS P ops w0 a0 F l G → ∃ G', F (G ++ G') ∧ G'.length = l.length ∧ (∀ A ∈ G', Lasts A) ∧ ∀ j o, j < l.length → ops[G.length + j]? = some o → stepOK P ops w0 a0 ((G ++ G').take (G.length + j)) (G.length + j) o ((G ++ G').getD (G.length + j) (fun _ _ => True))
 | [], G, _, _, h => ⟨[], by simpa [wpS] using h, rfl, by simp, fun j o hj => by simp at hj⟩
 | o :: l, G, hG, hl, h => by
  obtain ⟨A, hA, hs, hr⟩ := h
  obtain ⟨G', hF, hlen, hG', hst⟩ := wpS_parts l (G ++ [A]) (fun B hB => by
   rcases List.mem_append.1 hB with h | h
   ·
    exact hG B h
   ·
    simp at h; subst h; exact hA) (fun j hj => by
    have := hl (j + 1) (by simp; omega)
    simpa [Nat.add_assoc, Nat.add_comm 1 j] using this) hr
  refine ⟨A :: G', by simpa using hF, by simp [hlen], fun B hB => ?_, fun j oj hj hoj => ?_⟩
  ·
   rcases List.mem_cons.1 hB with h | h
   ·
    subst h; exact hA
   ·
    exact hG' B h
  ·
   cases j with
   | zero =>
    have h0 : some o = ops[G.length]? := by simpa using hl 0 (by simp)
    rw [Nat.add_zero] at hoj ⊢
    rw [← h0] at hoj
    cases hoj
    simpa using hs
   | succ j =>
    have := hst j oj (by simpa using hj) (by simpa [Nat.add_assoc, Nat.add_comm 1 j] using hoj)
    simpa [Nat.add_assoc, Nat.add_comm 1 j] using this

theorem envAll_take {ops : Array Oper} {n size : Nat} (hf : HeadFacts ops n size) {a0 : Act} {G : List Pred} {i : Nat} {o : Oper} (ho : ops[i]? = some o) (hin : i < n) {a : Act} {w : World} :
  ∀ ss, envAll ops a0 G i a w ss → envAll ops a0 (G.take i) i a w ss
 | [], _ => trivial
 | s :: ss, ⟨h1, h2⟩ => by
  refine ⟨?_, envAll_take hf ho hin ss h2⟩
  unfold envAt at h1 ⊢
  split at h1
  ·
   rename_i j hj
   have hfd := List.find?_some hj
   simp only [Bool.and_eq_true, beq_iff_eq] at hfd
   obtain ⟨e, he, hb, hon⟩ := waits_mem ho hfd.1
   have hlt := hf.back i o hin ho e he hb
   rw [hon] at hlt
   have hg : (G.take i).getD j (fun _ _ => True) = G.getD j (fun _ _ => True) := by simp [hlt]
   rw [hg]; exact h1
  ·
   exact h1

theorem lasts_getD {G : List Pred} (h : ∀ A ∈ G, Lasts A) (j : Nat) : Lasts (G.getD j (fun _ _ => True)) := by
 rcases Nat.lt_or_ge j G.length with hj | hj
 ·
  rw [List.getD_eq_getElem?_getD, List.getElem?_eq_getElem hj]; exact h _ (List.getElem_mem hj)
 ·
  rw [List.getD_eq_getElem?_getD, List.getElem?_eq_none hj]; intro _ _ _ _ _; trivial

theorem putAll_size : ∀ (l : List Oper) (vs : List Value) (a : Act), (putAll a l vs).tmps.size = a.tmps.size ∧ (putAll a l vs).defers = a.defers
 | [], _, _ => ⟨rfl, rfl⟩
 | _ :: _, [], _ => ⟨rfl, rfl⟩
 | o :: l, v :: vs, a => by
  have := putAll_size l vs (a.put o.dst v)
  simp only [putAll]
  rw [this.1, this.2]
  cases o.dst <;> simp [Act.put]

theorem act_ext {a b : Act} (h1 : a.tmps.size = b.tmps.size) (h2 : a.defers = b.defers) (h3 : ∀ s, s < a.tmps.size → a.eval (.tmp s) = b.eval (.tmp s)) : a = b := by
 obtain ⟨t1, d1⟩ := a
 obtain ⟨t2, d2⟩ := b
 simp only at h1 h2 h3
 subst h2
 congr
 apply Array.ext h1
 intro i hi1 hi2
 have := h3 i hi1
 simpa [Act.eval, hi1, hi2] using this

theorem putAll_none : ∀ (l : List Oper) (vs : List Value) (a : Act) (s : Tmp), (∀ o ∈ l, o.dst ≠ some s) → (putAll a l vs).eval (.tmp s) = a.eval (.tmp s)
 | [], _, _, _, _ => rfl
 | _ :: _, [], _, _, _ => rfl
 | o :: l, v :: vs, a, s, h => by
  simp only [putAll]
  rw [putAll_none l vs _ s (fun o' ho' => h o' (List.mem_cons_of_mem _ ho'))]
  have := h o (List.mem_cons_self ..)
  cases hd : o.dst with
  | none => rfl
  | some d => exact eval_put_ne (fun e => by rw [hd, e] at this; exact this rfl)
theorem putAll_one : ∀ (l : List Oper) (vs : List Value) (a : Act) (s : Tmp) (j : Nat) (o : Oper) (v : Value), l[j]? = some o → vs[j]? = some v → o.dst = some s → s < a.tmps.size → (∀ k o', l[k]? = some o' → k ≠ j → o'.dst ≠ some s) → (putAll a l vs).eval (.tmp s) = v
 | [], _, _, _, _, _, _, hj, _, _, _, _ => by simp at hj
 | _ :: _, [], _, _, _, _, _, _, hv, _, _, _ => by simp at hv
 | o :: l, v :: vs, a, s, 0, o', v', hj, hv, hd, hs, hno => by
  simp at hj hv
  subst hj hv
  simp only [putAll]
  rw [putAll_none l vs _ s (fun o'' ho'' => by
   obtain ⟨k, hk, rfl⟩ := List.mem_iff_getElem.1 ho''
   exact hno (k + 1) _ (by simp [hk]) (by omega)), hd]
  exact eval_put_same hs
 | o :: l, v :: vs, a, s, j + 1, o', v', hj, hv, hd, hs, hno => by
  simp only [putAll]
  refine putAll_one l vs _ s j o' v' (by simpa using hj) (by simpa using hv) hd ?_ (fun k o'' hk hne => hno (k + 1) o'' (by simpa using hk) (by omega))
  cases o.dst <;> simpa [Act.put] using hs

theorem finS_go {K : List Value → World → Prop} {w : World} : ∀ (G : List Pred) (pre vs : List Value), vs.length = G.length → (∀ j, j < G.length → (G.getD j (fun _ _ => True)) (vs.getD j undef) w) → finS K w G pre → K (pre ++ vs) w
 | [], pre, vs, hl, _, h => by
  have : vs = [] := by simpa using hl
  subst this
  simpa [finS] using h
 | A :: G, pre, [], hl, _, _ => by simp at hl
 | A :: G, pre, v :: vs, hl, hA, h => by
  have h0 := hA 0 (by simp)
  have := finS_go G (pre ++ [v]) vs (by simpa using hl) (fun j hj => by simpa using hA (j + 1) (by simpa using hj)) (h v (by simpa using h0))
  simpa using this

theorem wp_region_S {P : Program} {id : Nat} {Q : Exit → Act → World → Prop} {a : Act} {l : List Oper} (n : Nat) (hm : P.follows .mixedOrders = true) (hB : headOK l.toArray n a.tmps.size = true)
  (h : wpS P l.toArray w a (fun G => ∀ w', Below w.heap.size w w' → finS (fun vs w' => wpList P l.toArray Q (l.drop n) (putAll a (l.take n) vs) w') w' G []) (l.take n) []) : (Code.region id l.toArray true).wp P Q a w := by
 have hf := headFacts hB
 have hnl : n ≤ l.length := by simpa using hf.le
 have htl : (l.take n).length = n := by simp; omega
 obtain ⟨G, hF, hlen, hG, hst⟩ := wpS_parts (l.take n) [] (by simp) (fun j hj => by rw [htl] at hj; simp [hj]) h
 simp only [List.nil_append, List.length_nil, Nat.zero_add] at hF hst
 rw [htl] at hlen hst
 refine wp_region_any hm ?_
 have hstep : ∀ i o, i < n → l.toArray[i]? = some o → stepOK P l.toArray w a G i o (G.getD i (fun _ _ => True)) := by
  intro i o hi ho a' w' hw hs henv
  exact hst i o hi ho a' w' hw hs (envAll_take hf ho hi _ henv)
 have key := wpAny_spec (P := P) (Q := Q) (G := G) (w0 := w) (a0 := a) hf (lasts_getD hG) hstep (fun a' w' hw hd hs hA hR => by
  have hfin := finS_go G [] ((List.range n).map fun j => match dstOf l.toArray j with | some d => a'.eval (.tmp d) | none => undef) (by simp [hlen]) (fun j hj => by
   rw [hlen] at hj
   obtain ⟨d, hd', _, _⟩ := hf.dst j hj
   have := hA j d hj hd'
   simpa [hj, hd'] using this) (hF w' hw)
  have e : putAll a (l.take n) ((List.range n).map fun j => match dstOf l.toArray j with | some d => a'.eval (.tmp d) | none => undef) = a' := by
   have hps := putAll_size (l.take n) ((List.range n).map fun j => match dstOf l.toArray j with | some d => a'.eval (.tmp d) | none => undef) a
   refine act_ext (hps.1.trans hs.symm) (hps.2.trans hd.symm) (fun s hs' => ?_)
   by_cases hex : ∃ j, j < n ∧ dstOf l.toArray j = some s
   ·
    obtain ⟨j, hj, hjd⟩ := hex
    have hjl : j < l.length := by omega
    obtain ⟨d, hd', hlt, huniq⟩ := hf.dst j hj
    rw [hjd] at hd'
    cases hd'
    exact putAll_one (l.take n) _ a s j l[j] _ (by simp [hj, hjl]) (by simp [hj, hjd]) (by simpa [dstOf, hjl] using hjd) hlt (fun k o' hk hne => by
     have hkn : k < n := by
      rcases Nat.lt_or_ge k n with h | h
      ·
       exact h
      ·
       rw [List.getElem?_eq_none (by omega)] at hk; cases hk
     have := huniq k hkn hne
     have hk' : l[k]? = some o' := by simpa [List.getElem?_take, hkn] using hk
     simpa [dstOf, hk'] using this)
   ·
    rw [putAll_none (l.take n) _ a s (fun o ho hd' => hex (by
     obtain ⟨k, hk, rfl⟩ := List.mem_iff_getElem.1 ho
     rw [htl] at hk
     refine ⟨k, hk, ?_⟩
     have hkl : k < l.length := by omega
     simpa [dstOf, hkl] using hd'))]
    exact (hR s (fun j hj hjd => hex ⟨j, hj, hjd⟩)).symm
  rw [List.nil_append, e] at hfin
  simpa using hfin) n (Array.replicate l.toArray.size false) a { w with drawn := w.drawn + 1 } ?_ ⟨?_, ?_, rfl, rfl, ?_, fun s _ => rfl⟩
 ·
  rw [show n + (l.toArray.size - n) = l.toArray.size by have := hf.le; omega] at key
  exact key
 ·
  unfold unl
  rw [List.countP_eq_length.2]
  ·
   simp
  ·
   intro j _; simp only [getD_replicate_false]; rfl
 ·
  exact ⟨by simp, fun j oj _ hl => (by rw [getD_replicate_false] at hl; cases hl), fun t _ ht => getD_in (by simpa using ht) (getD_replicate_false _ _)⟩
 ·
  exact (Below.refl _ w).drew
 ·
  intro j d _ hl _
  rw [getD_replicate_false] at hl; cases hl
def lastW (ops : Array Oper) (i : Nat) (s : Tmp) : Option Nat := (List.range i).find? fun j => dstOf ops j == some s
def lexAt (ops : Array Oper) (i : Nat) (s : Tmp) : Bool :=
 match lastW ops i s with
 | some j => decide (prodOf ops i s = some j)
 | none => (prodOf ops i s).isNone && origAt ops i s
def lexOp (ops : Array Oper) (i : Nat) (o : Oper) : Bool := (o.looksAt ops).all (lexAt ops i)
def noEx (ops : Array Oper) (o : Oper) (ds : List Tmp) : Bool := (o.looksAt ops).all fun s => !ds.contains s
def noSel (o : Oper) : Bool := match o.op with | .select _ _ => false | _ => true

structure Rep (ops : Array Oper) (a0 : Act) (G : List Pred) (a : Act) (ex : List (Tmp × Pred)) : Prop where
 eqs : ∀ j d A, j < G.length → lastW ops G.length d = some j → G[j]? = some A → d ∉ ex.map (·.1) → ∀ v w, A v w → v = a.eval (.tmp d)
 exs : ∀ j d A, j < G.length → lastW ops G.length d = some j → G[j]? = some A → ∀ B, (d, B) ∈ ex → ∀ v w, A v w → B v w
 untouched : ∀ s, lastW ops G.length s = none → a.eval (.tmp s) = a0.eval (.tmp s)
 size : a.tmps.size = a0.tmps.size
 defers : a.defers = a0.defers

def exAll (w : World) (k : Act → Prop) : List (Tmp × Pred) → Act → Prop
 | [], a => k a
 | (d, A) :: ex, a => ∀ u, A u w → exAll w k ex (a.put (some d) u)

def wpR (P : Program) (ops : Array Oper) (w0 : World) (a0 : Act) (F : List Pred → Prop) (i : Nat) (l : List Oper) (a : Act) (ex : List (Tmp × Pred)) : Prop :=
 ∀ G, G.length = i → (∀ j, j < l.length → l[j]? = ops[i + j]?) → (∀ j, j < i + l.length → ∃ d, dstOf ops j = some d ∧ d < a0.tmps.size ∧ ∀ k, k < i + l.length → k ≠ j → dstOf ops k ≠ some d) → Rep ops a0 G a ex → wpS P ops w0 a0 F l G

theorem lastW_some {ops : Array Oper} {i : Nat} {s : Tmp} {j : Nat} (h : lastW ops i s = some j) : j < i ∧ dstOf ops j = some s := by
 unfold lastW at h
 have h1 := List.find?_some h
 have h2 := List.mem_of_find?_eq_some h
 exact ⟨List.mem_range.1 h2, by simpa using h1⟩

section
variable {P : Program} {ops : Array Oper} {w0 : World} {a0 : Act} {F : List Pred → Prop} {i : Nat} {o : Oper} {rest : List Oper} {a : Act} {ex : List (Tmp × Pred)}

theorem Rep.look {G : List Pred} (hrep : Rep ops a0 G a ex) (hi : G.length = i) {a' : Act} {s : Tmp} (hl : lexAt ops i s = true) (he : envAt ops a0 G i a' w s) :
  (s ∉ ex.map (·.1) → a'.eval (.tmp s) = a.eval (.tmp s)) ∧ ∀ B, (s, B) ∈ ex → (lastW ops i s).isSome = true → B (a'.eval (.tmp s)) w := by
 subst hi
 unfold lexAt at hl
 unfold envAt at he
 cases hw : lastW ops G.length s with
 | some j =>
  rw [hw] at hl
  simp only [decide_eq_true_eq] at hl
  rw [hl] at he
  simp only at he
  obtain ⟨hj, _⟩ := lastW_some hw
  have hg : G[j]? = some (G.getD j (fun _ _ => True)) := by simp [hj]
  exact ⟨fun hex => hrep.eqs j s _ hj hw hg hex _ _ he, fun B hB _ => hrep.exs j s _ hj hw hg B hB _ _ he⟩
 | none =>
  rw [hw] at hl
  simp only [Bool.and_eq_true, Option.isNone_iff_eq_none] at hl
  rw [hl.1] at he
  simp only [hl.2, if_true] at he
  exact ⟨fun _ => he.trans (hrep.untouched s hw).symm, fun _ _ h => by cases h⟩

theorem Rep.next {G : List Pred} (hrep : Rep ops a0 G a ex) (hi : G.length = i) {d : Tmp} (hd : dstOf ops i = some d) (hds : d < a0.tmps.size) (huniq : ∀ k, k < i → dstOf ops k ≠ some d) (hex : d ∉ ex.map (·.1)) {A : Pred} (hA : ∀ u w, A u w → u = v) :
  Rep ops a0 (G ++ [A]) (a.put (some d) v) ex := by
 subst hi
 have hlw : ∀ s, lastW ops (G.length + 1) s = if s = d then some G.length else lastW ops G.length s := by
  intro s
  unfold lastW
  rw [List.range_succ, List.find?_append]
  by_cases hs : s = d
  ·
   subst hs
   have : (List.range G.length).find? (fun j => dstOf ops j == some s) = none := by
    rw [List.find?_eq_none]
    intro k hk
    have := huniq k (List.mem_range.1 hk)
    simpa using this
   rw [this]
   simp [hd]
  ·
   rw [if_neg hs]
   have : ([G.length] : List Nat).find? (fun j => dstOf ops j == some s) = none := by
    simp [hd]; exact fun h => hs h.symm
   rw [this]; simp
 refine ⟨fun j s B hj hw hg hex' u w hB => ?_, fun j s B hj hw hg C hC u w hB => ?_, fun s hs => ?_, ?_, ?_⟩
 ·
  rw [List.length_append, List.length_singleton, hlw] at hw
  by_cases hs : s = d
  ·
   subst hs
   rw [if_pos rfl] at hw
   cases hw
   simp at hg
   subst hg
   rw [eval_put_same (by rw [hrep.size]; exact hds)]
   exact hA u w hB
  ·
   rw [if_neg hs] at hw
   obtain ⟨hjl, _⟩ := lastW_some hw
   rw [List.getElem?_append_left hjl] at hg
   rw [eval_put_ne (Ne.symm hs)]
   exact hrep.eqs j s B hjl hw hg hex' u w hB
 ·
  rw [List.length_append, List.length_singleton, hlw] at hw
  by_cases hs : s = d
  ·
   subst hs; exact absurd (List.mem_map.2 ⟨(s, C), hC, rfl⟩) hex
  ·
   rw [if_neg hs] at hw
   obtain ⟨hjl, _⟩ := lastW_some hw
   rw [List.getElem?_append_left hjl] at hg
   exact hrep.exs j s B hjl hw hg C hC u w hB
 ·
  rw [List.length_append, List.length_singleton, hlw] at hs
  by_cases hsd : s = d
  ·
   rw [if_pos hsd] at hs; cases hs
  ·
   rw [if_neg hsd] at hs
   rw [eval_put_ne (Ne.symm hsd)]
   exact hrep.untouched s hs
 ·
  simpa [Act.put] using hrep.size
 ·
  simpa [Act.put] using hrep.defers

theorem Rep.nextEx {G : List Pred} (hrep : Rep ops a0 G a ex) (hi : G.length = i) {d : Tmp} (hd : dstOf ops i = some d) (huniq : ∀ k, k < i → dstOf ops k ≠ some d) (hex : d ∉ ex.map (·.1)) {A : Pred} :
  Rep ops a0 (G ++ [A]) a (ex ++ [(d, A)]) := by
 subst hi
 have hlw : ∀ s, lastW ops (G.length + 1) s = if s = d then some G.length else lastW ops G.length s := by
  intro s
  unfold lastW
  rw [List.range_succ, List.find?_append]
  by_cases hs : s = d
  ·
   subst hs
   have : (List.range G.length).find? (fun j => dstOf ops j == some s) = none := by
    rw [List.find?_eq_none]
    intro k hk
    have := huniq k (List.mem_range.1 hk)
    simpa using this
   rw [this]
   simp [hd]
  ·
   rw [if_neg hs]
   have : ([G.length] : List Nat).find? (fun j => dstOf ops j == some s) = none := by
    simp [hd]; exact fun h => hs h.symm
   rw [this]; simp
 refine ⟨fun j s B hj hw hg hex' u w hB => ?_, fun j s B hj hw hg C hC u w hB => ?_, fun s hs => ?_, hrep.size, hrep.defers⟩
 ·
  rw [List.length_append, List.length_singleton, hlw] at hw
  by_cases hs : s = d
  ·
   subst hs; exact absurd (by simp) hex'
  ·
   rw [if_neg hs] at hw
   obtain ⟨hjl, _⟩ := lastW_some hw
   rw [List.getElem?_append_left hjl] at hg
   exact hrep.eqs j s B hjl hw hg (fun h => hex' (by simp at h ⊢; exact .inl h)) u w hB
 ·
  rw [List.length_append, List.length_singleton, hlw] at hw
  by_cases hs : s = d
  ·
   subst hs
   rw [if_pos rfl] at hw
   cases hw
   simp at hg
   subst hg
   rcases List.mem_append.1 hC with h | h
   ·
    exact absurd (List.mem_map.2 ⟨(s, C), h, rfl⟩) hex
   ·
    simp at h; subst h; exact hB
  ·
   rw [if_neg hs] at hw
   obtain ⟨hjl, _⟩ := lastW_some hw
   rw [List.getElem?_append_left hjl] at hg
   rcases List.mem_append.1 hC with h | h
   ·
    exact hrep.exs j s B hjl hw hg C h u w hB
   ·
    simp at h; exact absurd h.1 hs
 ·
  rw [List.length_append, List.length_singleton, hlw] at hs
  by_cases hsd : s = d
  ·
   rw [if_pos hsd] at hs; cases hs
  ·
   rw [if_neg hsd] at hs
   exact hrep.untouched s hs

theorem env_mem {G : List Pred} {a' : Act} {w : World} : ∀ (ss : List Tmp), envAll ops a0 G i a' w ss → ∀ s ∈ ss, envAt ops a0 G i a' w s
 | [], _, _, h => by cases h
 | s :: ss, ⟨h1, h2⟩, t, ht => by
  rcases List.mem_cons.1 ht with h | h
  ·
   subst h; exact h1
  ·
   exact env_mem ss h2 t h

theorem yielded_eval {tmps tmps' : Array Value} {d : List Deferred} {g s : Nat} (hs : dstOf ops g = some s) (h : (⟨tmps, d⟩ : Act).eval (.tmp s) = (⟨tmps', d⟩ : Act).eval (.tmp s)) : yielded ops tmps g = yielded ops tmps' g := by
 unfold yielded
 have hb : (ops[g]?).bind (·.dst) = some s := hs
 rw [hb]
 simp only [Option.bind_some]
 have h' : tmps.getD s undef = tmps'.getD s undef := h
 rw [Array.getD_eq_getD_getElem?, Array.getD_eq_getD_getElem?] at h'
 cases h1 : tmps[s]? with
 | none =>
  cases h2 : tmps'[s]? with
  | none => rfl
  | some v => rw [h1, h2] at h'; simp only [Option.getD_none, Option.getD_some] at h'; subst h'; rfl
 | some u =>
  cases h2 : tmps'[s]? with
  | none => rw [h1, h2] at h'; simp only [Option.getD_none, Option.getD_some] at h'; subst h'; rfl
  | some v => rw [h1, h2] at h'; simp only [Option.getD_some] at h'; subst h'; rfl

theorem wanted_same {a' : Act} (h : ∀ s ∈ o.looksAt ops, a'.eval (.tmp s) = a.eval (.tmp s)) (hdst : ∀ g b, o.guard = some (g, b) → (dstOf ops g).isSome = true) : Region.wanted o (yielded ops a'.tmps) = Region.wanted o (yielded ops a.tmps) := by
 unfold Region.wanted
 cases hg : o.guard with
 | none => rfl
 | some gb =>
  obtain ⟨g, b⟩ := gb
  obtain ⟨s, hs⟩ := Option.isSome_iff_exists.1 (hdst g b hg)
  have hmem : s ∈ o.looksAt ops := by
   unfold Oper.looksAt
   rw [hg]
   have hb : (ops[g]?).bind (·.dst) = some s := hs
   simp [hb]
  have := yielded_eval (ops := ops) (tmps := a'.tmps) (tmps' := a.tmps) (d := []) hs (h s hmem)
  simp only [this]
def guardOK (ops : Array Oper) (o : Oper) : Bool := match o.guard with | some (g, _) => (dstOf ops g).isSome | none => true
def plainOp (ops : Array Oper) (i : Nat) (o : Oper) (ex : List (Tmp × Pred)) : Bool := lexOp ops i o && noEx ops o (ex.map (·.1)) && noSel o && guardOK ops o && (match o.dst with | some d => !(ex.map (·.1)).contains d | none => false)

theorem plain_look {G : List Pred} (hrep : Rep ops a0 G a ex) (hi : G.length = i) (hp : plainOp ops i o ex = true) {a' : Act} (he : envAll ops a0 G i a' w (o.looksAt ops)) : ∀ s ∈ o.looksAt ops, a'.eval (.tmp s) = a.eval (.tmp s) := by
 intro s hs
 simp only [plainOp, lexOp, noEx, Bool.and_eq_true, List.all_eq_true] at hp
 refine (hrep.look hi (hp.1.1.1.1 s hs) (env_mem _ he s hs)).1 ?_
 have := hp.1.1.1.2 s hs
 simpa using this

theorem look_exec {a' : Act} (h : ∀ s ∈ o.looksAt ops, a'.eval (.tmp s) = a.eval (.tmp s)) (hs : noSel o = true) : execOp a'.eval o = execOp a.eval o := by
 refine execOp_congr o (fun cs b e => by simp [noSel, e] at hs) fun x hx => ?_
 cases x with
 | tmp t => exact h t (List.mem_append_left _ (List.mem_filterMap.2 ⟨.tmp t, by simpa using hx, rfl⟩))
 | const v => rfl
 | global g => rfl
 | func f => rfl

theorem look_guard (hp : plainOp ops i o ex = true) : ∀ g b, o.guard = some (g, b) → (dstOf ops g).isSome = true := by
 intro g b hg
 simp only [plainOp, Bool.and_eq_true] at hp
 have := hp.1.2
 simpa [guardOK, hg] using this

def valOp (o : Oper) : Bool := match o.op with
 | .move _ | .assign _ | .pick _ _ _ | .load _ _ | .binOp _ _ _ _ _ | .unOp _ _ _ | .convert _ _ _ | .fieldAddr _ _ _ | .field _ _ _ | .indexAddr _ _ _ | .index _ _ _ | .slice _ _ _ _ _ | .extract _ _ | .build _ _ | .makeFunc _ _ _ | .lookup _ _ _ _ => true
 | .call c => (match c.callee with | .builtin .len => true | .builtin .cap => true | .builtin .min => true | .builtin .max => true | _ => false)
 | _ => false

theorem run_v {P : Program} {s : Sem Value} {w w' : World} {n : Next} (h : (do pure (.value (← s)) : Sem Next).run P w = .ok n w') : ∃ v, n = .value v := by
 rw [Sem.run_bind] at h
 cases hs : s.run P w with
 | ok v w1 => rw [hs] at h; simp [Result.andThen] at h; exact ⟨v, h.1.symm⟩
 | halt x w1 => rw [hs] at h; simp [Result.andThen] at h

theorem valOp_value {P : Program} {o : Oper} (hv : valOp o = true) {ρ : Operand → Value} {w w' : World} {n : Next} (h : (execOp ρ o).run P w = .ok n w') : ∃ v, n = .value v := by
 obtain ⟨dst, op, type, pos, after, guard⟩ := o
 cases op <;> simp only [valOp] at hv
 case move x => simp [execOp] at h; exact ⟨_, h.1.symm⟩
 case assign x => simp [execOp] at h; exact ⟨_, h.1.symm⟩
 case pick c a b =>
  simp only [execOp] at h
  rw [Sem.run_bind] at h
  cases hs : (asBool (ρ c)).run P w with
  | ok v w1 => rw [hs] at h; simp [Result.andThen] at h; exact ⟨_, h.1.symm⟩
  | halt x w1 => rw [hs] at h; simp [Result.andThen] at h
 case call c =>
  obtain ⟨callee, args, ats⟩ := c
  cases callee <;> simp only at hv
  case builtin b => cases b <;> first | (simp at hv; done) | exact run_v h
  all_goals cases hv
 all_goals first | exact run_v h | cases hv

theorem wpR_want (hp : plainOp ops i o ex = true) (hv : valOp o = true) (hw : Region.wanted o (yielded ops a.tmps) = true)
  (h : ∀ K : Act → Prop, (∀ a', wpR P ops w0 a0 F (i + 1) rest a' ex → K a') → o.quiet P a (fun w' => ∃ p : Regrown, w' = grow (redrawn w0 p.d) p.os) K) : wpR P ops w0 a0 F i (o :: rest) a ex := by
 intro G hG hl hd hrep
 obtain ⟨v, hq, hK⟩ := h _ (fun _ h => h)
 have ho : ops[i]? = some o := by simpa using (hl 0 (by simp)).symm
 obtain ⟨d, hdi, hds, huniq⟩ := hd i (by simp)
 have hod : o.dst = some d := by simpa [dstOf, ho] using hdi
 have hex : d ∉ ex.map (·.1) := by
  simp only [plainOp, Bool.and_eq_true] at hp
  have := hp.2
  rw [hod] at this
  simpa using this
 refine ⟨fun u _ => u = v, fun _ _ _ h _ => h, fun a' w hw0 _ he => ?_, ?_⟩
 ·
  rw [hG] at he
  have hlook := plain_look hrep hG hp he
  have hsel : noSel o = true := by simp only [plainOp, Bool.and_eq_true] at hp; exact hp.1.1.2
  rw [wanted_same hlook (look_guard hp), hw, if_pos rfl]
  have h3 := hq w (regrown_of_below hw0)
  unfold Oper.quietAt at h3
  unfold Oper.wp
  rw [look_exec hlook hsel]
  cases hr : (execOp a.eval o).run P w with
  | ok n w' =>
   obtain ⟨u, rfl⟩ := valOp_value hv hr
   rw [hr] at h3
   obtain ⟨e1, e2⟩ := h3
   rw [e1, e2]
   exact ⟨_, rfl, Below.refl _ _, rfl⟩
  | halt x w' => rw [hr] at h3; simp only [Oper.quietUpon] at h3
 ·
  exact hK (G ++ [fun u _ => u = v]) (by simp [hG]) (fun j hj => by have := hl (j + 1) (by simp; omega); simpa [Nat.add_assoc, Nat.add_comm 1 j] using this)
   (fun j hj => by
    obtain ⟨d', h1, h2, h3⟩ := hd j (by simp; omega)
    exact ⟨d', h1, h2, fun k hk => h3 k (by simp; omega)⟩)
   (by rw [hod]; exact hrep.next hG hdi hds (fun k hk => huniq k (by simp; omega) (by omega)) hex (fun u w h => h))

theorem wpR_call (hp : plainOp ops i o ex = true) (hw : Region.wanted o (yielded ops a.tmps) = true) (f : FuncId) (args : Array Value) (v : Value) (hrun : ∀ w, (execOp a.eval o).run P w = .ok (.enter f args) w)
  (hcall : ∀ w, Below w0.heap.size w0 w → Calls P f args w fun e w' => e = .returned v ∧ Below w.heap.size w w') (hrest : wpR P ops w0 a0 F (i + 1) rest (a.put o.dst v) ex) : wpR P ops w0 a0 F i (o :: rest) a ex := by
 intro G hG hl hd hrep
 have ho : ops[i]? = some o := by simpa using (hl 0 (by simp)).symm
 obtain ⟨d, hdi, hds, huniq⟩ := hd i (by simp)
 have hod : o.dst = some d := by simpa [dstOf, ho] using hdi
 have hex : d ∉ ex.map (·.1) := by
  simp only [plainOp, Bool.and_eq_true] at hp
  have := hp.2
  rw [hod] at this
  simpa using this
 refine ⟨fun u _ => u = v, fun _ _ _ h _ => h, fun a' w hw0 _ he => ?_, ?_⟩
 ·
  rw [hG] at he
  have hlook := plain_look hrep hG hp he
  have hsel : noSel o = true := by simp only [plainOp, Bool.and_eq_true] at hp; exact hp.1.1.2
  rw [wanted_same hlook (look_guard hp), hw, if_pos rfl]
  unfold Oper.wp
  rw [look_exec hlook hsel, hrun w]
  refine (hcall w hw0).mono fun e w' ⟨he', hb⟩ => ?_
  subst he'
  exact ⟨_, rfl, hb, rfl⟩
 ·
  exact hrest (G ++ [fun u _ => u = v]) (by simp [hG]) (fun j hj => by have := hl (j + 1) (by simp; omega); simpa [Nat.add_assoc, Nat.add_comm 1 j] using this)
   (fun j hj => by
    obtain ⟨d', h1, h2, h3⟩ := hd j (by simp; omega)
    exact ⟨d', h1, h2, fun k hk => h3 k (by simp; omega)⟩)
   (by rw [hod]; exact hrep.next hG hdi hds (fun k hk => huniq k (by simp; omega) (by omega)) hex (fun u w h => h))

def exEnv (ex : List (Tmp × Pred)) (a a' : Act) (w : World) : List Tmp → Prop
 | [] => True
 | s :: ss => (match ex.find? (fun x => x.1 == s) with | some x => x.2 (a'.eval (.tmp s)) w | none => a'.eval (.tmp s) = a.eval (.tmp s)) ∧ exEnv ex a a' w ss
def exOp (ops : Array Oper) (i : Nat) (o : Oper) (ex : List (Tmp × Pred)) : Bool :=
 lexOp ops i o && (o.guard.isNone) && (match o.dst with | some d => !(ex.map (·.1)).contains d | none => false) && ((o.looksAt ops).all fun s => !(ex.map (·.1)).contains s || (lastW ops i s).isSome)

theorem exEnv_of {G : List Pred} (hrep : Rep ops a0 G a ex) (hi : G.length = i) {a' : Act} {w : World} : ∀ ss, (∀ s ∈ ss, lexAt ops i s = true) → (∀ s ∈ ss, s ∈ ex.map (·.1) → (lastW ops i s).isSome = true) → envAll ops a0 G i a' w ss → exEnv ex a a' w ss
 | [], _, _, _ => trivial
 | s :: ss, h1, h2, ⟨he, hr⟩ => by
  refine ⟨?_, exEnv_of hrep hi ss (fun t ht => h1 t (List.mem_cons_of_mem _ ht)) (fun t ht => h2 t (List.mem_cons_of_mem _ ht)) hr⟩
  have hlk := hrep.look hi (h1 s (List.mem_cons_self ..)) he
  split
  ·
   rename_i x hx
   have hm := List.mem_of_find?_eq_some hx
   have hs := List.find?_some hx
   have hs' : x.1 = s := by simpa using hs
   obtain ⟨d, B⟩ := x
   simp only at hs'
   subst hs'
   exact hlk.2 B hm (h2 d (List.mem_cons_self ..) (List.mem_map.2 ⟨(d, B), hm, rfl⟩))
  ·
   rename_i hx
   refine hlk.1 (fun hm => ?_)
   obtain ⟨x, hx1, hx2⟩ := List.mem_map.1 hm
   have := List.find?_eq_none.1 hx x hx1
   simp [hx2] at this

theorem wpR_ex (A : Pred) (hA : Lasts A) (hp : exOp ops i o ex = true)
  (hstep : ∀ a' w, Below w0.heap.size w0 w → exEnv ex a a' w (o.looksAt ops) → o.wp P a' w (fun a'' w' => ∃ v, a'' = a'.put o.dst v ∧ Below w.heap.size w w' ∧ A v w') (fun _ _ _ => False))
  (hrest : ∀ d, o.dst = some d → wpR P ops w0 a0 F (i + 1) rest a (ex ++ [(d, A)])) : wpR P ops w0 a0 F i (o :: rest) a ex := by
 intro G hG hl hd hrep
 have ho : ops[i]? = some o := by simpa using (hl 0 (by simp)).symm
 obtain ⟨d, hdi, hds, huniq⟩ := hd i (by simp)
 have hod : o.dst = some d := by simpa [dstOf, ho] using hdi
 simp only [exOp, lexOp, Bool.and_eq_true, List.all_eq_true, Bool.or_eq_true, Bool.not_eq_true', Option.isNone_iff_eq_none] at hp
 obtain ⟨⟨⟨hp1, hp2⟩, hp3⟩, hp4⟩ := hp
 have hex : d ∉ ex.map (·.1) := by
  rw [hod] at hp3
  simpa using hp3
 refine ⟨A, hA, fun a' w hw0 _ he => ?_, ?_⟩
 ·
  rw [hG] at he
  have henv := exEnv_of hrep hG (o.looksAt ops) hp1 (fun s hs hm => by
   rcases hp4 s hs with h | h
   ·
    have : (ex.map (·.1)).contains s = true := by simpa using hm
    rw [this] at h; cases h
   ·
    exact h) he
  rw [if_pos (by simp [Region.wanted, hp2])]
  exact hstep a' w hw0 henv
 ·
  exact hrest d hod (G ++ [A]) (by simp [hG]) (fun j hj => by have := hl (j + 1) (by simp; omega); simpa [Nat.add_assoc, Nat.add_comm 1 j] using this)
   (fun j hj => by
    obtain ⟨d', h1, h2, h3⟩ := hd j (by simp; omega)
    exact ⟨d', h1, h2, fun k hk => h3 k (by simp; omega)⟩)
   (hrep.nextEx hG hdi (fun k hk => huniq k (by simp; omega) (by omega)) hex)
end

section
variable {P : Program} {ops : Array Oper} {w0 : World} {a0 : Act} {F : List Pred → Prop} {i : Nat} {o : Oper} {rest : List Oper} {a : Act} {ex : List (Tmp × Pred)}
end

theorem run_v_ok {P : Program} {s : Sem Value} {w w' : World} (h : s.run P w = .ok v w') : (do pure (.value (← s)) : Sem Next).run P w = .ok (.value v) w' := by
 rw [Sem.run_bind, h]; rfl
theorem wp_of_value {P : Program} {o : Oper} {a : Act} {w w' : World} {next : Act → World → Prop} {Q : Exit → Act → World → Prop} (h : (execOp a.eval o).run P w = .ok (.value v) w') (hn : next (a.put o.dst v) w') : o.wp P a w next Q := by
 unfold Oper.wp; rw [h]; exact hn

theorem finS_intro {K : List Value → World → Prop} {w : World} : ∀ (G : List Pred) (pre : List Value), (∀ vs, vs.length = G.length → (∀ j, j < G.length → (G.getD j (fun _ _ => True)) (vs.getD j undef) w) → K (pre ++ vs) w) → finS K w G pre
 | [], pre, h => by simpa [finS] using h [] rfl (fun j hj => by simp at hj)
 | A :: G, pre, h => by
  intro v hv
  refine finS_intro G (pre ++ [v]) fun vs hl hA => ?_
  have := h (v :: vs) (by simp [hl]) (fun j hj => by
   cases j with
   | zero => simpa using hv
   | succ j => simpa using hA j (by simpa using hj))
  simpa using this

theorem exAll_go {w : World} {k : Act → Prop} (u : Tmp → Value) : ∀ (ex : List (Tmp × Pred)) (a : Act), (∀ x ∈ ex, x.2 (u x.1) w) → exAll w k ex a → k (ex.foldl (fun a x => a.put (some x.1) (u x.1)) a)
 | [], a, _, h => h
 | (d, A) :: ex, a, hA, h => exAll_go u ex _ (fun x hx => hA x (List.mem_cons_of_mem _ hx)) (h (u d) (hA (d, A) (List.mem_cons_self ..)))

theorem foldl_put (u : Tmp → Value) : ∀ (ex : List (Tmp × Pred)) (a : Act), (ex.foldl (fun a x => a.put (some x.1) (u x.1)) a).tmps.size = a.tmps.size ∧ (ex.foldl (fun a x => a.put (some x.1) (u x.1)) a).defers = a.defers ∧
  ∀ s, s < a.tmps.size → (ex.foldl (fun a x => a.put (some x.1) (u x.1)) a).eval (.tmp s) = if s ∈ ex.map (·.1) then u s else a.eval (.tmp s)
 | [], a => ⟨rfl, rfl, fun s _ => by simp⟩
 | (d, A) :: ex, a => by
  have h := foldl_put u ex (a.put (some d) (u d))
  have hsz : (a.put (some d) (u d)).tmps.size = a.tmps.size := by simp [Act.put]
  refine ⟨h.1.trans hsz, h.2.1, fun s hs => ?_⟩
  simp only [List.foldl_cons]
  rw [h.2.2 s (by rw [hsz]; exact hs)]
  by_cases hm : s ∈ ex.map (·.1)
  ·
   rw [if_pos hm, if_pos (by simp at hm ⊢; exact .inr hm)]
  ·
   rw [if_neg hm]
   by_cases hsd : s = d
   ·
    subst hsd
    rw [if_pos (by simp), eval_put_same hs]
   ·
    rw [if_neg (by simp at hm ⊢; exact ⟨hsd, hm⟩), eval_put_ne (Ne.symm hsd)]

def exOK (ops : Array Oper) (n size : Nat) (ex : List (Tmp × Pred)) : Bool := ex.all fun x => (lastW ops n x.1).isSome && decide (x.1 < size)

theorem wpR_nil {P : Program} {l : List Oper} {n : Nat} {w0 : World} {a0 a : Act} {Q : Exit → Act → World → Prop} {ex : List (Tmp × Pred)} (hex : exOK l.toArray n a0.tmps.size ex = true) (hn : n ≤ l.length)
  (h : ∀ w', Below w0.heap.size w0 w' → exAll w' (fun a' => wpList P l.toArray Q (l.drop n) a' w') ex a) :
  wpR P l.toArray w0 a0 (fun G => ∀ w', Below w0.heap.size w0 w' → finS (fun vs w' => wpList P l.toArray Q (l.drop n) (putAll a0 (l.take n) vs) w') w' G []) n [] a ex := by
 intro G hG _ hd hrep w' hw
 refine finS_intro G [] fun vs hl hA => ?_
 rw [List.nil_append]
 have htl : (l.take n).length = n := by simp; omega
 have hps := putAll_size (l.take n) vs a0
 have hone : ∀ s j, lastW l.toArray n s = some j → (putAll a0 (l.take n) vs).eval (.tmp s) = vs.getD j undef := by
  intro s j hw'
  obtain ⟨hj, hjd⟩ := lastW_some hw'
  obtain ⟨d, hd1, hd2, hd3⟩ := hd j (by simpa using hj)
  rw [hjd] at hd1
  cases hd1
  have hjl : j < l.length := by omega
  refine putAll_one (l.take n) vs a0 s j l[j] _ (by simp [hj, hjl]) ?_ (by simpa [dstOf, hjl] using hjd) hd2 (fun k o' hk hne => ?_)
  ·
   have : j < vs.length := by rw [hl, hG]; exact hj
   simp [this]
  ·
   have hkn : k < n := by
    rcases Nat.lt_or_ge k n with h | h
    ·
     exact h
    ·
     rw [List.getElem?_eq_none (by omega)] at hk; cases hk
   have := hd3 k (by simpa using hkn) hne
   have hk' : l[k]? = some o' := by simpa [List.getElem?_take, hkn] using hk
   simpa [dstOf, hk'] using this
 have hnone : ∀ s, lastW l.toArray n s = none → (putAll a0 (l.take n) vs).eval (.tmp s) = a0.eval (.tmp s) := by
  intro s hw'
  refine putAll_none (l.take n) vs a0 s fun o ho hod => ?_
  obtain ⟨k, hk, rfl⟩ := List.mem_iff_getElem.1 ho
  rw [htl] at hk
  have hkl : k < l.length := by omega
  have := List.find?_eq_none.1 hw' k (List.mem_range.2 hk)
  have hod' : l[k].dst = some s := by simpa using hod
  simp [dstOf, hkl, hod'] at this
 have hgo := exAll_go (fun d => (putAll a0 (l.take n) vs).eval (.tmp d)) ex a (fun x hx => by
  obtain ⟨d, B⟩ := x
  have h1 := List.all_eq_true.1 hex (d, B) hx
  simp only [Bool.and_eq_true] at h1
  obtain ⟨j, hj⟩ := Option.isSome_iff_exists.1 h1.1
  obtain ⟨hjn, _⟩ := lastW_some hj
  have hg : G[j]? = some (G.getD j (fun _ _ => True)) := by simp [hG, hjn]
  show B ((putAll a0 (l.take n) vs).eval (.tmp d)) w'
  rw [hone d j hj]
  exact hrep.exs j d _ (by omega) (by rw [hG]; exact hj) hg B hx _ _ (hA j (by omega))) (h w' hw)
 have hf := foldl_put (fun d => (putAll a0 (l.take n) vs).eval (.tmp d)) ex a
 have e : ex.foldl (fun a x => a.put (some x.1) ((putAll a0 (l.take n) vs).eval (.tmp x.1))) a = putAll a0 (l.take n) vs := by
  refine act_ext (hf.1.trans (hrep.size.trans hps.1.symm)) (hf.2.1.trans (hrep.defers.trans hps.2.symm)) (fun s hs => ?_)
  rw [hf.1] at hs
  rw [hf.2.2 s hs]
  by_cases hm : s ∈ ex.map (·.1)
  ·
   rw [if_pos hm]
  ·
   rw [if_neg hm]
   cases hlw : lastW l.toArray n s with
   | none => rw [hnone s hlw]; exact hrep.untouched s (by rw [hG]; exact hlw)
   | some j =>
    obtain ⟨hjn, _⟩ := lastW_some hlw
    have hg : G[j]? = some (G.getD j (fun _ _ => True)) := by simp [hG, hjn]
    rw [hone s j hlw]
    exact (hrep.eqs j s _ (by omega) (by rw [hG]; exact hlw) hg hm _ _ (hA j (by omega))).symm
 rw [e] at hgo
 exact hgo

theorem wp_region_R {P : Program} {id : Nat} {Q : Exit → Act → World → Prop} {a : Act} {l : List Oper} (n : Nat) (hm : P.follows .mixedOrders = true) (hB : headOK l.toArray n a.tmps.size = true)
  (h : wpR P l.toArray w a (fun G => ∀ w', Below w.heap.size w w' → finS (fun vs w' => wpList P l.toArray Q (l.drop n) (putAll a (l.take n) vs) w') w' G []) 0 (l.take n) a []) : (Code.region id l.toArray true).wp P Q a w := by
 have hf := headFacts hB
 have hnl : n ≤ l.length := by simpa using hf.le
 have htl : (l.take n).length = n := by simp; omega
 refine wp_region_S n hm hB (h [] rfl (fun j hj => by rw [htl] at hj; simp [hj]) (fun j hj => by
  rw [htl, Nat.zero_add] at hj
  obtain ⟨d, h1, h2, h3⟩ := hf.dst j hj
  exact ⟨d, h1, h2, fun k hk => h3 k (by rw [htl, Nat.zero_add] at hk; exact hk)⟩) ⟨fun j d A hj => by simp at hj, fun j d A hj => by simp at hj, fun _ _ => rfl, rfl, rfl⟩)
section
variable {P : Program} {ops : Array Oper} {w0 : World} {a0 : Act} {F : List Pred → Prop} {i : Nat} {o : Oper} {rest : List Oper} {a : Act} {ex : List (Tmp × Pred)}
end
structure GW where
 vs : List Value
 w : World
abbrev GPred := Value → GW → Prop
structure Ghost where
 inv : List Value → World → Prop
 own : List Value → Nat → Prop
 quiet : ∀ vs w w', inv vs w → Below w.heap.size w w' → inv vs w'

def Ghost.mv (Γ : Ghost) (vs : List Value) (w : World) (u : Value) (w' : World) : Prop :=
 Γ.inv (vs ++ [u]) w' ∧ w.heap.size ≤ w'.heap.size ∧ (∀ b, b < w.heap.size → ¬ Γ.own vs b → w'.heap[b]? = w.heap[b]?) ∧ (∀ b, Γ.own (vs ++ [u]) b → Γ.own vs b ∨ w.heap.size ≤ b)
def Ghost.step (Γ : Ghost) (g g' : GW) : Prop := (g'.vs = g.vs ∧ Below g.w.heap.size g.w g'.w) ∨ (∃ u, g'.vs = g.vs ++ [u] ∧ Γ.mv g.vs g.w u g'.w)
def Ghost.lasts (Γ : Ghost) (A : GPred) : Prop := ∀ v g g', Γ.inv g.vs g.w → A v g → Γ.step g g' → A v g'

def genvAt (ops : Array Oper) (a0 : Act) (G : List GPred) (i : Nat) (a : Act) (g : GW) (s : Tmp) : Prop :=
 match prodOf ops i s with
 | some j => (G.getD j (fun _ _ => True)) (a.eval (.tmp s)) g
 | none => if origAt ops i s = true then a.eval (.tmp s) = a0.eval (.tmp s) else True
def genvAll (ops : Array Oper) (a0 : Act) (G : List GPred) (i : Nat) (a : Act) (g : GW) : List Tmp → Prop
 | [] => True
 | s :: ss => genvAt ops a0 G i a g s ∧ genvAll ops a0 G i a g ss

def gstepOK (Γ : Ghost) (P : Program) (ops : Array Oper) (a0 : Act) (G : List GPred) (i : Nat) (o : Oper) (ck : Option Nat) (A : GPred) : Prop :=
 ∀ a g, Γ.inv g.vs g.w → a.tmps.size = a0.tmps.size → genvAll ops a0 G i a g (o.looksAt ops) →
  match ck with
  | none => if Region.wanted o (yielded ops a.tmps) then o.wp P a g.w (fun a' w' => ∃ v, a' = a.put o.dst v ∧ Below g.w.heap.size g.w w' ∧ A v ⟨g.vs, w'⟩) (fun _ _ _ => False) else A undef g
  | some k => g.vs.length = k → if Region.wanted o (yielded ops a.tmps) then o.wp P a g.w (fun a' w' => ∃ v, a' = a.put o.dst v ∧ Γ.mv g.vs g.w v w' ∧ A v ⟨g.vs ++ [v], w'⟩) (fun _ _ _ => False) else Γ.mv g.vs g.w undef g.w ∧ A undef ⟨g.vs ++ [undef], g.w⟩

def chainIx (chain : List Nat) (i : Nat) : Option Nat := chain.findIdx? (· == i)
def chainOK (ops : Array Oper) (chain : List Nat) : Bool :=
 (List.range chain.length).all fun k => (chainIx chain (chain.getD k 0) == some k) && (k == 0 || Region.waitsFor .any ops (chain.getD k 0) (chain.getD (k - 1) 0))

def gwpS (Γ : Ghost) (P : Program) (ops : Array Oper) (chain : List Nat) (a0 : Act) (F : List GPred → Prop) : List Oper → List GPred → Prop
 | [], G => F G
 | o :: rest, G => ∃ A, Γ.lasts A ∧ gstepOK Γ P ops a0 G G.length o (chainIx chain G.length) A ∧ gwpS Γ P ops chain a0 F rest (G ++ [A])

def gfinS (K : List Value → Prop) (g : GW) : List GPred → List Value → Prop
 | [], vs => K vs
 | A :: As, vs => ∀ v, A v g → gfinS K g As (vs ++ [v])

structure GInv (Γ : Ghost) (ops : Array Oper) (chain : List Nat) (n : Nat) (a0 : Act) (G : List GPred) (listed : Array Bool) (a : Act) (g : GW) : Prop where
 head : HeadInv .any ops n listed
 world : Γ.inv g.vs g.w
 stage : ∀ k i, chain[k]? = some i → (listed.getD i false = true ↔ k < g.vs.length)
 most : g.vs.length ≤ chain.length
 defers : a.defers = a0.defers
 size : a.tmps.size = a0.tmps.size
 done : ∀ j d, j < n → listed.getD j false = true → dstOf ops j = some d → (G.getD j (fun _ _ => True)) (a.eval (.tmp d)) g
 rest : ∀ s, (∀ j, listed.getD j false = true → dstOf ops j ≠ some s) → a.eval (.tmp s) = a0.eval (.tmp s)

theorem chainIx_some {chain : List Nat} {i k : Nat} (h : chainIx chain i = some k) : chain[k]? = some i := by
 unfold chainIx at h
 rw [List.findIdx?_eq_some_iff_getElem] at h
 obtain ⟨h1, h2, _⟩ := h
 rw [List.getElem?_eq_getElem h1]
 simpa using h2
theorem chainIx_none {chain : List Nat} {i : Nat} (h : chainIx chain i = none) : ∀ k : Nat, chain[k]? ≠ some i := by
 unfold chainIx at h
 rw [List.findIdx?_eq_none_iff] at h
 intro k hk
 have := h i (List.mem_of_getElem? hk)
 simp at this
theorem chain_uniq {ops : Array Oper} {chain : List Nat} (h : chainOK ops chain = true) {k i : Nat} (hk : chain[k]? = some i) : chainIx chain i = some k := by
 have hkl : k < chain.length := (List.getElem?_eq_some_iff.1 hk).1
 have := List.all_eq_true.1 h k (List.mem_range.2 hkl)
 simp only [Bool.and_eq_true, beq_iff_eq] at this
 have e : chain.getD k 0 = i := by simp [List.getD_eq_getElem?_getD, hk]
 rw [e] at this
 exact this.1
theorem chain_waits {ops : Array Oper} {chain : List Nat} (h : chainOK ops chain = true) {k i j : Nat} (hk : chain[k + 1]? = some i) (hj : chain[k]? = some j) : Region.waitsFor .any ops i j = true := by
 have hkl : k + 1 < chain.length := (List.getElem?_eq_some_iff.1 hk).1
 have := List.all_eq_true.1 h (k + 1) (List.mem_range.2 hkl)
 simp only [Bool.and_eq_true, Bool.or_eq_true] at this
 have e : chain.getD (k + 1) 0 = i := by simp [List.getD_eq_getElem?_getD, hk]
 have e' : chain.getD k 0 = j := by simp [List.getD_eq_getElem?_getD, hj]
 rw [e, Nat.add_sub_cancel, e'] at this
 rcases this.2 with h | h
 ·
  simp at h
 ·
  exact h

section
variable {Γ : Ghost} {P : Program} {ops : Array Oper} {chain : List Nat} {n : Nat} {a0 : Act} {G : List GPred} {Q : Exit → Act → World → Prop}

theorem GInv.env {a : Act} {g : GW} {i : Nat} {o : Oper} (hf : HeadFacts ops n a0.tmps.size) (inv : GInv Γ ops chain n a0 G listed a g) (hi : i ∈ Region.ready .any ops listed) (hin : i < n) (ho : ops[i]? = some o) :
  ∀ ss, genvAll ops a0 G i a g ss := by
 obtain ⟨hun, o', ho', hall⟩ := mem_ready.1 hi
 have : o' = o := Option.some.inj (ho'.symm.trans ho)
 subst this
 intro ss
 induction ss with
 | nil => trivial
 | cons s ss ih =>
  refine ⟨?_, ih⟩
  unfold genvAt
  split
  ·
   rename_i j hj
   have hfd := List.find?_some hj
   simp only [Bool.and_eq_true, beq_iff_eq] at hfd
   obtain ⟨e, he, hb, hon⟩ := waits_mem ho hfd.1
   have hlt := hf.back i o' hin ho e he hb
   have hl := hall e he hb
   rw [hon] at hl hlt
   exact inv.done j s (by omega) hl hfd.2
  ·
   split
   ·
    rename_i horig
    refine inv.rest s fun j hl hd => ?_
    have hjs : j < ops.size := by
     rcases Nat.lt_or_ge j ops.size with h | h
     ·
      exact h
     ·
      simp [dstOf, Array.getElem?_eq_none h] at hd
    have h1 := List.all_eq_true.1 horig j (List.mem_range.2 hjs)
    simp only [Bool.or_eq_true, bne_iff_ne, beq_iff_eq] at h1
    rcases h1 with (h1 | h1) | h1
    ·
     exact h1 hd
    ·
     subst h1; rw [getD_both hun] at hl; cases hl
    ·
     obtain ⟨oj, hoj, e, he, hb, hon⟩ := Region.waitsFor_spec h1
     have := inv.head.closed j oj hoj hl e he hb
     rw [hon, getD_both hun] at this; cases this
   ·
    trivial

theorem GInv.next {a : Act} {g g' : GW} {i : Nat} {o : Oper} (hf : HeadFacts ops n a0.tmps.size) (hG : ∀ j, Γ.lasts (G.getD j (fun _ _ => True))) (inv : GInv Γ ops chain n a0 G listed a g) (hi : i ∈ Region.ready .any ops listed) (hin : i < n) (ho : ops[i]? = some o)
  (hw : Γ.step g g') (hJ : Γ.inv g'.vs g'.w) (hst : ∀ k j, chain[k]? = some j → ((listed.setIfInBounds i true).getD j false = true ↔ k < g'.vs.length)) (hmost : g'.vs.length ≤ chain.length)
  (hA : (G.getD i (fun _ _ => True)) v g') : GInv Γ ops chain n a0 G (listed.setIfInBounds i true) (a.put o.dst v) g' := by
 obtain ⟨d, hd, hds, hdn⟩ := hf.dst i hin
 have hod : o.dst = some d := by simpa [dstOf, ho] using hd
 obtain ⟨hun, _, _, _⟩ := mem_ready.1 hi
 have hil : i < listed.size := by rw [inv.head.size]; exact (Array.getElem?_eq_some_iff.1 ho).1
 rw [hod]
 refine ⟨inv.head.set hi hin, hJ, hst, hmost, ?_, ?_, fun j d' hj hl hd' => ?_, fun s hs => ?_⟩
 ·
  simpa [Act.put] using inv.defers
 ·
  simpa [Act.put] using inv.size
 ·
  by_cases hji : j = i
  ·
   subst hji
   rw [hd] at hd'
   cases hd'
   rw [eval_put_same (by rw [inv.size]; exact hds)]
   exact hA
  ·
   rw [getD_set_ne false (Ne.symm hji)] at hl
   have hne : d ≠ d' := fun h => by subst h; exact hdn j hj hji hd'
   rw [eval_put_ne hne]
   exact hG j _ _ _ inv.world (inv.done j d' hj hl hd') hw
 ·
  have hne : d ≠ s := fun h => by
   subst h
   exact hs i (by simp [hil]) hd
  rw [eval_put_ne hne]
  refine inv.rest s fun j hl => hs j ?_
  by_cases hji : j = i
  ·
   subst hji; simp [hil]
  ·
   rw [getD_set_ne false (Ne.symm hji)]; exact hl

theorem GInv.stageQ {a : Act} {g : GW} {i : Nat} (inv : GInv Γ ops chain n a0 G listed a g) (hc : chainIx chain i = none) : ∀ k j, chain[k]? = some j → ((listed.setIfInBounds i true).getD j false = true ↔ k < g.vs.length) := by
 intro k j hk
 have hji : j ≠ i := fun h => by subst h; exact chainIx_none hc k hk
 rw [getD_set_ne false (Ne.symm hji)]
 exact inv.stage k j hk

theorem GInv.stageC {a : Act} {g : GW} {i k : Nat} (hch : chainOK ops chain = true) (inv : GInv Γ ops chain n a0 G listed a g) (hi : i ∈ Region.ready .any ops listed) (hc : chainIx chain i = some k) :
  g.vs.length = k ∧ ∀ u : Value, (∀ m j, chain[m]? = some j → ((listed.setIfInBounds i true).getD j false = true ↔ m < (g.vs ++ [u]).length)) ∧ (g.vs ++ [u]).length ≤ chain.length := by
 have hk := chainIx_some hc
 obtain ⟨hun, o, ho, hall⟩ := mem_ready.1 hi
 have hkl : k < chain.length := (List.getElem?_eq_some_iff.1 hk).1
 have h1 : ¬ k < g.vs.length := fun h => by
  have := (inv.stage k i hk).2 h
  rw [getD_both hun] at this; cases this
 have h2 : k ≤ g.vs.length := by
  cases k with
  | zero => omega
  | succ k =>
   obtain ⟨j, hj⟩ : ∃ j, chain[k]? = some j := ⟨chain[k], by simp⟩
   have hw := chain_waits hch hk hj
   obtain ⟨e, he, hb, hon⟩ := waits_mem ho hw
   have := hall e he hb
   rw [hon] at this
   have := (inv.stage k j hj).1 this
   omega
 have hlen : g.vs.length = k := by omega
 refine ⟨hlen, fun u => ⟨fun m j hm => ?_, by simp; omega⟩⟩
 rw [List.length_append, List.length_singleton, hlen]
 have hil : i < listed.size := by rw [inv.head.size]; exact (Array.getElem?_eq_some_iff.1 ho).1
 by_cases hji : j = i
 ·
  subst hji
  have := chain_uniq hch hm
  rw [hc] at this
  cases this
  simp [hil]
 ·
  rw [getD_set_ne false (Ne.symm hji), inv.stage m j hm, hlen]
  have : m ≠ k := fun h => by subst h; rw [hk] at hm; cases hm; exact hji rfl
  omega

theorem gwpAny_spec (hf : HeadFacts ops n a0.tmps.size) (hch : chainOK ops chain = true) (hcn : ∀ i ∈ chain, i < n) (hG : ∀ j, Γ.lasts (G.getD j (fun _ _ => True))) (hstep : ∀ i o, i < n → ops[i]? = some o → gstepOK Γ P ops a0 G i o (chainIx chain i) (G.getD i (fun _ _ => True)))
  (hfin : ∀ a g, Γ.inv g.vs g.w → g.vs.length = chain.length → a.defers = a0.defers → a.tmps.size = a0.tmps.size → (∀ j d, j < n → dstOf ops j = some d → (G.getD j (fun _ _ => True)) (a.eval (.tmp d)) g) →
   (∀ s, (∀ j, j < n → dstOf ops j ≠ some s) → a.eval (.tmp s) = a0.eval (.tmp s)) → wpList P ops Q (ops.toList.drop n) a g.w) :
  ∀ (f : Nat) (listed : Array Bool) (a : Act) (g : GW), unl listed n = f → GInv Γ ops chain n a0 G listed a g → wpAny P .any ops Q (f + (ops.size - n)) listed a g.w := by
 intro f
 induction f with
 | zero =>
  intro listed a g hu inv
  have hall := unl_zero hu
  have hl := listed_all inv.head.size hf.le hall inv.head.tail
  have hlen : g.vs.length = chain.length := by
   rcases Nat.lt_or_ge g.vs.length chain.length with h | h
   ·
    have hi : chain[g.vs.length]? = some chain[g.vs.length] := by simp [h]
    have := (inv.stage _ _ hi).1 (hall _ (hcn _ (List.getElem_mem h)))
    omega
   ·
    have := inv.most; omega
  have hw := hfin a g inv.world hlen inv.defers inv.size (fun j d hj hd => inv.done j d hj (hall j hj) hd) (fun s hs => inv.rest s fun j hl' hd => by
   by_cases hj : j < n
   ·
    exact hs j hj hd
   ·
    have hjs : j < ops.size := by
     rcases Nat.lt_or_ge j ops.size with h | h
     ·
      exact h
     ·
      simp [dstOf, Array.getElem?_eq_none h] at hd
    have := inv.head.tail j (by omega) hjs
    rw [getD_both this] at hl'; cases hl')
  have hlen : (ops.toList.drop n).length = ops.size - n := by simp
  rw [Nat.zero_add, ← hlen]
  refine wpAny_of_seq (ops.toList.drop n) n listed a g.w (fun j => by simp [List.getElem?_drop]) ?_ hw
  rw [hlen, hl]
  exact hf.seq
 | succ f ih =>
  intro listed a g hu inv
  obtain ⟨j, hj, hjf, hjb⟩ := unl_pos (listed := listed) (n := n) (by omega)
  have hjs : j < ops.size := by have := hf.le; omega
  have hready : j ∈ Region.ready .any ops listed := by
   refine mem_ready.2 ⟨getD_in (by rw [inv.head.size]; exact hjs) hjf, ops[j], by simp [hjs], fun e he hb => ?_⟩
   exact hjb _ (hf.back j ops[j] hj (by simp [hjs]) e he hb)
  rw [show f + 1 + (ops.size - n) = (f + (ops.size - n)) + 1 by omega]
  refine ⟨fun h0 => (by rw [h0] at hready; cases hready), fun i hi => ?_⟩
  have hin : i < n := by
   rcases Nat.lt_or_ge i n with h | h
   ·
    exact h
   ·
    exfalso
    obtain ⟨_, oi, hoi, _⟩ := mem_ready.1 hi
    have his : i < ops.size := (Array.getElem?_eq_some_iff.1 hoi).1
    rcases hf.tail with ht | ⟨hs, hc⟩
    ·
     omega
    ·
     exact tail_waits hs hc (by omega) inv.head (n - j) j rfl hj (getD_in (by rw [inv.head.size]; exact hjs) hjf) i h hi
  obtain ⟨hun, o, ho, _⟩ := mem_ready.1 hi
  have henv := inv.env hf hi hin ho (o.looksAt ops)
  have hs := hstep i o hin ho a g inv.world inv.size henv
  have hu' : unl (listed.setIfInBounds i true) n = f := by
   have := unl_set hin (by rw [inv.head.size]; exact (Array.getElem?_eq_some_iff.1 ho).1) (getD_both hun)
   omega
  unfold wpOp
  simp only [ho]
  cases hck : chainIx chain i with
  | none =>
   rw [hck] at hs
   simp only at hs
   have hstq := inv.stageQ hck
   by_cases hwt : Region.wanted o (yielded ops a.tmps) = true
   ·
    rw [if_pos hwt] at hs ⊢
    refine .inl (upon_mono ?_ (fun _ _ _ h => h.elim) hs)
    rintro a' w' ⟨v, rfl, hb, hA⟩
    exact ih _ _ ⟨g.vs, w'⟩ hu' (inv.next hf hG hi hin ho (.inl ⟨rfl, hb⟩) (Γ.quiet _ _ _ inv.world hb) hstq inv.most hA)
   ·
    rw [if_neg hwt] at hs ⊢
    exact ih _ _ g hu' (inv.next hf hG hi hin ho (.inl ⟨rfl, Below.refl _ _⟩) inv.world hstq inv.most hs)
  | some k =>
   rw [hck] at hs
   simp only at hs
   obtain ⟨hk, hstc⟩ := inv.stageC hch hi hck
   have hs' := hs hk
   by_cases hwt : Region.wanted o (yielded ops a.tmps) = true
   ·
    rw [if_pos hwt] at hs' ⊢
    refine .inl (upon_mono ?_ (fun _ _ _ h => h.elim) hs')
    rintro a' w' ⟨v, rfl, hb, hA⟩
    exact ih _ _ ⟨g.vs ++ [v], w'⟩ hu' (inv.next hf hG hi hin ho (.inr ⟨v, rfl, hb⟩) hb.1 (hstc v).1 (hstc v).2 hA)
   ·
    rw [if_neg hwt] at hs' ⊢
    exact ih _ _ ⟨g.vs ++ [undef], g.w⟩ hu' (inv.next hf hG hi hin ho (.inr ⟨undef, rfl, hs'.1⟩) hs'.1.1 (hstc undef).1 (hstc undef).2 hs'.2)
end

theorem gwpS_parts {Γ : Ghost} {P : Program} {ops : Array Oper} {chain : List Nat} {a0 : Act} {F : List GPred → Prop} : ∀ (l : List Oper) (G : List GPred), (∀ A ∈ G, Γ.lasts A) → (∀ j, j < l.length → l[j]? = ops[G.length + j]?) →
  gwpS Γ P ops chain a0 F l G → ∃ G', F (G ++ G') ∧ G'.length = l.length ∧ (∀ A ∈ G', Γ.lasts A) ∧ ∀ j o, j < l.length → ops[G.length + j]? = some o → gstepOK Γ P ops a0 ((G ++ G').take (G.length + j)) (G.length + j) o (chainIx chain (G.length + j)) ((G ++ G').getD (G.length + j) (fun _ _ => True))
 | [], G, _, _, h => ⟨[], by simpa [gwpS] using h, rfl, by simp, fun j o hj => by simp at hj⟩
 | o :: l, G, hG, hl, h => by
  obtain ⟨A, hA, hs, hr⟩ := h
  obtain ⟨G', hF, hlen, hG', hst⟩ := gwpS_parts l (G ++ [A]) (fun B hB => by
   rcases List.mem_append.1 hB with h | h
   ·
    exact hG B h
   ·
    simp at h; subst h; exact hA) (fun j hj => by
    have := hl (j + 1) (by simp; omega)
    simpa [Nat.add_assoc, Nat.add_comm 1 j] using this) hr
  refine ⟨A :: G', by simpa using hF, by simp [hlen], fun B hB => ?_, fun j oj hj hoj => ?_⟩
  ·
   rcases List.mem_cons.1 hB with h | h
   ·
    subst h; exact hA
   ·
    exact hG' B h
  ·
   cases j with
   | zero =>
    have h0 : some o = ops[G.length]? := by simpa using hl 0 (by simp)
    rw [Nat.add_zero] at hoj ⊢
    rw [← h0] at hoj
    cases hoj
    simpa using hs
   | succ j =>
    have := hst j oj (by simpa using hj) (by simpa [Nat.add_assoc, Nat.add_comm 1 j] using hoj)
    simpa [Nat.add_assoc, Nat.add_comm 1 j] using this

theorem genvAll_take {ops : Array Oper} {n size : Nat} (hf : HeadFacts ops n size) {a0 : Act} {G : List GPred} {i : Nat} {o : Oper} (ho : ops[i]? = some o) (hin : i < n) {a : Act} {g : GW} :
  ∀ ss, genvAll ops a0 G i a g ss → genvAll ops a0 (G.take i) i a g ss
 | [], _ => trivial
 | s :: ss, ⟨h1, h2⟩ => by
  refine ⟨?_, genvAll_take hf ho hin ss h2⟩
  unfold genvAt at h1 ⊢
  split at h1
  ·
   rename_i j hj
   have hfd := List.find?_some hj
   simp only [Bool.and_eq_true, beq_iff_eq] at hfd
   obtain ⟨e, he, hb, hon⟩ := waits_mem ho hfd.1
   have hlt := hf.back i o hin ho e he hb
   rw [hon] at hlt
   have hg : (G.take i).getD j (fun _ _ => True) = G.getD j (fun _ _ => True) := by simp [hlt]
   rw [hg]; exact h1
  ·
   exact h1

theorem glasts_getD {Γ : Ghost} {G : List GPred} (h : ∀ A ∈ G, Γ.lasts A) (j : Nat) : Γ.lasts (G.getD j (fun _ _ => True)) := by
 rcases Nat.lt_or_ge j G.length with hj | hj
 ·
  rw [List.getD_eq_getElem?_getD, List.getElem?_eq_getElem hj]; exact h _ (List.getElem_mem hj)
 ·
  rw [List.getD_eq_getElem?_getD, List.getElem?_eq_none hj]; intro _ _ _ _ _ _; trivial

theorem gfinS_go {K : List Value → Prop} {g : GW} : ∀ (G : List GPred) (pre vs : List Value), vs.length = G.length → (∀ j, j < G.length → (G.getD j (fun _ _ => True)) (vs.getD j undef) g) → gfinS K g G pre → K (pre ++ vs)
 | [], pre, vs, hl, _, h => by
  have : vs = [] := by simpa using hl
  subst this
  simpa [gfinS] using h
 | A :: G, pre, [], hl, _, _ => by simp at hl
 | A :: G, pre, v :: vs, hl, hA, h => by
  have h0 := hA 0 (by simp)
  have := gfinS_go G (pre ++ [v]) vs (by simpa using hl) (fun j hj => by simpa using hA (j + 1) (by simpa using hj)) (h v (by simpa using h0))
  simpa using this

theorem wp_region_G {P : Program} {id : Nat} {Q : Exit → Act → World → Prop} {a : Act} {l : List Oper} (Γ : Ghost) (n : Nat) (chain : List Nat) (hm : P.follows .mixedOrders = true) (hB : headOK l.toArray n a.tmps.size = true) (hch : chainOK l.toArray chain = true) (hcn : (chain.all fun i => decide (i < n)) = true)
  (hstart : Γ.inv [] w)
  (h : gwpS Γ P l.toArray chain a (fun G => ∀ g, Γ.inv g.vs g.w → g.vs.length = chain.length → gfinS (fun vs => wpList P l.toArray Q (l.drop n) (putAll a (l.take n) vs) g.w) g G []) (l.take n) []) : (Code.region id l.toArray true).wp P Q a w := by
 have hf := headFacts hB
 have hnl : n ≤ l.length := by simpa using hf.le
 have htl : (l.take n).length = n := by simp; omega
 obtain ⟨G, hF, hlen, hG, hst⟩ := gwpS_parts (l.take n) [] (by simp) (fun j hj => by rw [htl] at hj; simp [hj]) h
 simp only [List.nil_append, List.length_nil, Nat.zero_add] at hF hst
 rw [htl] at hlen hst
 refine wp_region_any hm ?_
 have hstep : ∀ i o, i < n → l.toArray[i]? = some o → gstepOK Γ P l.toArray a G i o (chainIx chain i) (G.getD i (fun _ _ => True)) := by
  intro i o hi ho a' g hw hs henv
  exact hst i o hi ho a' g hw hs (genvAll_take hf ho hi _ henv)
 have key := gwpAny_spec (P := P) (Q := Q) (G := G) (Γ := Γ) (a0 := a) hf hch (fun i hi => by simpa using List.all_eq_true.1 hcn i hi) (glasts_getD hG) hstep (fun a' g hw hvl hd hs hA hR => by
  have hfin := gfinS_go G [] ((List.range n).map fun j => match dstOf l.toArray j with | some d => a'.eval (.tmp d) | none => undef) (by simp [hlen]) (fun j hj => by
   rw [hlen] at hj
   obtain ⟨d, hd', _, _⟩ := hf.dst j hj
   have := hA j d hj hd'
   simpa [hj, hd'] using this) (hF g hw hvl)
  have e : putAll a (l.take n) ((List.range n).map fun j => match dstOf l.toArray j with | some d => a'.eval (.tmp d) | none => undef) = a' := by
   have hps := putAll_size (l.take n) ((List.range n).map fun j => match dstOf l.toArray j with | some d => a'.eval (.tmp d) | none => undef) a
   refine act_ext (hps.1.trans hs.symm) (hps.2.trans hd.symm) (fun s hs' => ?_)
   by_cases hex : ∃ j, j < n ∧ dstOf l.toArray j = some s
   ·
    obtain ⟨j, hj, hjd⟩ := hex
    have hjl : j < l.length := by omega
    obtain ⟨d, hd', hlt, huniq⟩ := hf.dst j hj
    rw [hjd] at hd'
    cases hd'
    exact putAll_one (l.take n) _ a s j l[j] _ (by simp [hj, hjl]) (by simp [hj, hjd]) (by simpa [dstOf, hjl] using hjd) hlt (fun k o' hk hne => by
     have hkn : k < n := by
      rcases Nat.lt_or_ge k n with h | h
      ·
       exact h
      ·
       rw [List.getElem?_eq_none (by omega)] at hk; cases hk
     have := huniq k hkn hne
     have hk' : l[k]? = some o' := by simpa [List.getElem?_take, hkn] using hk
     simpa [dstOf, hk'] using this)
   ·
    rw [putAll_none (l.take n) _ a s (fun o ho hd' => hex (by
     obtain ⟨k, hk, rfl⟩ := List.mem_iff_getElem.1 ho
     rw [htl] at hk
     refine ⟨k, hk, ?_⟩
     have hkl : k < l.length := by omega
     simpa [dstOf, hkl] using hd'))]
    exact (hR s (fun j hj hjd => hex ⟨j, hj, hjd⟩)).symm
  rw [List.nil_append, e] at hfin
  simpa using hfin) n (Array.replicate l.toArray.size false) a ⟨[], { w with drawn := w.drawn + 1 }⟩ ?_ ⟨?_, ?_, ?_, ?_, rfl, rfl, ?_, fun s _ => rfl⟩
 ·
  rw [show n + (l.toArray.size - n) = l.toArray.size by have := hf.le; omega] at key
  exact key
 ·
  unfold unl
  rw [List.countP_eq_length.2]
  ·
   simp
  ·
   intro j _; simp only [getD_replicate_false]; rfl
 ·
  exact ⟨by simp, fun j oj _ hl => (by rw [getD_replicate_false] at hl; cases hl), fun t _ ht => getD_in (by simpa using ht) (getD_replicate_false _ _)⟩
 ·
  exact Γ.quiet _ _ _ hstart ((Below.refl _ w).drew)
 ·
  intro k i _
  rw [getD_replicate_false]
  simp
 ·
  simp
 ·
  intro j d _ hl _
  rw [getD_replicate_false] at hl; cases hl
structure Ghost.Wd (Γ : Ghost) where
 vs : List Value
 w : World
 h : Γ.inv vs w

structure GRep (Γ : Ghost) (ops : Array Oper) (a0 : Act) (G : List GPred) (a : Act) (ex : List (Tmp × GPred)) : Prop where
 eqs : ∀ j d A, j < G.length → lastW ops G.length d = some j → G[j]? = some A → d ∉ ex.map (·.1) → ∀ v g, Γ.inv g.vs g.w → A v g → v = a.eval (.tmp d)
 exs : ∀ j d A, j < G.length → lastW ops G.length d = some j → G[j]? = some A → ∀ B, (d, B) ∈ ex → ∀ v g, Γ.inv g.vs g.w → A v g → B v g
 untouched : ∀ s, lastW ops G.length s = none → a.eval (.tmp s) = a0.eval (.tmp s)
 size : a.tmps.size = a0.tmps.size
 defers : a.defers = a0.defers

def gexAll (g : GW) (k : Act → Prop) : List (Tmp × GPred) → Act → Prop
 | [], a => k a
 | (d, A) :: ex, a => ∀ u, A u g → gexAll g k ex (a.put (some d) u)

def wpH (Γ : Ghost) (P : Program) (ops : Array Oper) (chain : List Nat) (a0 : Act) (F : List GPred → Prop) (i : Nat) (l : List Oper) (a : Act) (ex : List (Tmp × GPred)) : Prop :=
 ∀ G, G.length = i → (∀ j, j < l.length → l[j]? = ops[i + j]?) → (∀ j, j < i + l.length → ∃ d, dstOf ops j = some d ∧ d < a0.tmps.size ∧ ∀ k, k < i + l.length → k ≠ j → dstOf ops k ≠ some d) → GRep Γ ops a0 G a ex → gwpS Γ P ops chain a0 F l G

def gplainOp (ops : Array Oper) (i : Nat) (o : Oper) (ex : List (Tmp × GPred)) : Bool := lexOp ops i o && noEx ops o (ex.map (·.1)) && noSel o && guardOK ops o && (match o.dst with | some d => !(ex.map (·.1)).contains d | none => false)
def gexEnv (ex : List (Tmp × GPred)) (a a' : Act) (g : GW) : List Tmp → Prop
 | [] => True
 | s :: ss => (match ex.find? (fun x => x.1 == s) with | some x => x.2 (a'.eval (.tmp s)) g | none => a'.eval (.tmp s) = a.eval (.tmp s)) ∧ gexEnv ex a a' g ss
def gexOp (ops : Array Oper) (i : Nat) (o : Oper) (ex : List (Tmp × GPred)) : Bool :=
 lexOp ops i o && (o.guard.isNone) && (match o.dst with | some d => !(ex.map (·.1)).contains d | none => false) && ((o.looksAt ops).all fun s => !(ex.map (·.1)).contains s || (lastW ops i s).isSome)

section
variable {Γ : Ghost} {P : Program} {ops : Array Oper} {chain : List Nat} {a0 : Act} {F : List GPred → Prop} {i : Nat} {o : Oper} {rest : List Oper} {a : Act} {ex : List (Tmp × GPred)}

theorem GRep.look {G : List GPred} (hrep : GRep Γ ops a0 G a ex) (hi : G.length = i) {a' : Act} {g : GW} {s : Tmp} (hg : Γ.inv g.vs g.w) (hl : lexAt ops i s = true) (he : genvAt ops a0 G i a' g s) :
  (s ∉ ex.map (·.1) → a'.eval (.tmp s) = a.eval (.tmp s)) ∧ ∀ B, (s, B) ∈ ex → (lastW ops i s).isSome = true → B (a'.eval (.tmp s)) g := by
 subst hi
 unfold lexAt at hl
 unfold genvAt at he
 cases hw : lastW ops G.length s with
 | some j =>
  rw [hw] at hl
  simp only [decide_eq_true_eq] at hl
  rw [hl] at he
  simp only at he
  obtain ⟨hj, _⟩ := lastW_some hw
  have hgj : G[j]? = some (G.getD j (fun _ _ => True)) := by simp [hj]
  exact ⟨fun hex => hrep.eqs j s _ hj hw hgj hex _ _ hg he, fun B hB _ => hrep.exs j s _ hj hw hgj B hB _ _ hg he⟩
 | none =>
  rw [hw] at hl
  simp only [Bool.and_eq_true, Option.isNone_iff_eq_none] at hl
  rw [hl.1] at he
  simp only [hl.2, if_true] at he
  exact ⟨fun _ => he.trans (hrep.untouched s hw).symm, fun _ _ h => by cases h⟩

theorem lastW_next {n : Nat} {d : Tmp} (hd : dstOf ops n = some d) (huniq : ∀ k, k < n → dstOf ops k ≠ some d) (s : Tmp) : lastW ops (n + 1) s = if s = d then some n else lastW ops n s := by
 unfold lastW
 rw [List.range_succ, List.find?_append]
 by_cases hs : s = d
 ·
  subst hs
  have : (List.range n).find? (fun j => dstOf ops j == some s) = none := by
   rw [List.find?_eq_none]
   intro k hk
   have := huniq k (List.mem_range.1 hk)
   simpa using this
  rw [this]
  simp [hd]
 ·
  rw [if_neg hs]
  have : ([n] : List Nat).find? (fun j => dstOf ops j == some s) = none := by
   simp [hd]; exact fun h => hs h.symm
  rw [this]; simp

theorem GRep.next {G : List GPred} (hrep : GRep Γ ops a0 G a ex) (hi : G.length = i) {d : Tmp} (hd : dstOf ops i = some d) (hds : d < a0.tmps.size) (huniq : ∀ k, k < i → dstOf ops k ≠ some d) (hex : d ∉ ex.map (·.1)) {A : GPred} (hA : ∀ u g, Γ.inv g.vs g.w → A u g → u = v) :
  GRep Γ ops a0 (G ++ [A]) (a.put (some d) v) ex := by
 subst hi
 have hlw := lastW_next (ops := ops) hd huniq
 refine ⟨fun j s B hj hw hg hex' u g hgi hB => ?_, fun j s B hj hw hg C hC u g hgi hB => ?_, fun s hs => ?_, ?_, ?_⟩
 ·
  rw [List.length_append, List.length_singleton, hlw] at hw
  by_cases hs : s = d
  ·
   subst hs
   rw [if_pos rfl] at hw
   cases hw
   simp at hg
   subst hg
   rw [eval_put_same (by rw [hrep.size]; exact hds)]
   exact hA u g hgi hB
  ·
   rw [if_neg hs] at hw
   obtain ⟨hjl, _⟩ := lastW_some hw
   rw [List.getElem?_append_left hjl] at hg
   rw [eval_put_ne (Ne.symm hs)]
   exact hrep.eqs j s B hjl hw hg hex' u g hgi hB
 ·
  rw [List.length_append, List.length_singleton, hlw] at hw
  by_cases hs : s = d
  ·
   subst hs; exact absurd (List.mem_map.2 ⟨(s, C), hC, rfl⟩) hex
  ·
   rw [if_neg hs] at hw
   obtain ⟨hjl, _⟩ := lastW_some hw
   rw [List.getElem?_append_left hjl] at hg
   exact hrep.exs j s B hjl hw hg C hC u g hgi hB
 ·
  rw [List.length_append, List.length_singleton, hlw] at hs
  by_cases hsd : s = d
  ·
   rw [if_pos hsd] at hs; cases hs
  ·
   rw [if_neg hsd] at hs
   rw [eval_put_ne (Ne.symm hsd)]
   exact hrep.untouched s hs
 ·
  simpa [Act.put] using hrep.size
 ·
  simpa [Act.put] using hrep.defers

theorem GRep.nextEx {G : List GPred} (hrep : GRep Γ ops a0 G a ex) (hi : G.length = i) {d : Tmp} (hd : dstOf ops i = some d) (huniq : ∀ k, k < i → dstOf ops k ≠ some d) (hex : d ∉ ex.map (·.1)) {A : GPred} :
  GRep Γ ops a0 (G ++ [A]) a (ex ++ [(d, A)]) := by
 subst hi
 have hlw := lastW_next (ops := ops) hd huniq
 refine ⟨fun j s B hj hw hg hex' u g hgi hB => ?_, fun j s B hj hw hg C hC u g hgi hB => ?_, fun s hs => ?_, hrep.size, hrep.defers⟩
 ·
  rw [List.length_append, List.length_singleton, hlw] at hw
  by_cases hs : s = d
  ·
   subst hs; exact absurd (by simp) hex'
  ·
   rw [if_neg hs] at hw
   obtain ⟨hjl, _⟩ := lastW_some hw
   rw [List.getElem?_append_left hjl] at hg
   exact hrep.eqs j s B hjl hw hg (fun h => hex' (by simp at h ⊢; exact .inl h)) u g hgi hB
 ·
  rw [List.length_append, List.length_singleton, hlw] at hw
  by_cases hs : s = d
  ·
   subst hs
   rw [if_pos rfl] at hw
   cases hw
   simp at hg
   subst hg
   rcases List.mem_append.1 hC with h | h
   ·
    exact absurd (List.mem_map.2 ⟨(s, C), h, rfl⟩) hex
   ·
    simp at h; subst h; exact hB
  ·
   rw [if_neg hs] at hw
   obtain ⟨hjl, _⟩ := lastW_some hw
   rw [List.getElem?_append_left hjl] at hg
   rcases List.mem_append.1 hC with h | h
   ·
    exact hrep.exs j s B hjl hw hg C h u g hgi hB
   ·
    simp at h; exact absurd h.1 hs
 ·
  rw [List.length_append, List.length_singleton, hlw] at hs
  by_cases hsd : s = d
  ·
   rw [if_pos hsd] at hs; cases hs
  ·
   rw [if_neg hsd] at hs
   exact hrep.untouched s hs

theorem genv_mem {G : List GPred} {a' : Act} {g : GW} : ∀ (ss : List Tmp), genvAll ops a0 G i a' g ss → ∀ s ∈ ss, genvAt ops a0 G i a' g s
 | [], _, _, h => by cases h
 | s :: ss, ⟨h1, h2⟩, t, ht => by
  rcases List.mem_cons.1 ht with h | h
  ·
   subst h; exact h1
  ·
   exact genv_mem ss h2 t h

theorem gplain_look {G : List GPred} (hrep : GRep Γ ops a0 G a ex) (hi : G.length = i) (hp : gplainOp ops i o ex = true) {a' : Act} {g : GW} (hg : Γ.inv g.vs g.w) (he : genvAll ops a0 G i a' g (o.looksAt ops)) : ∀ s ∈ o.looksAt ops, a'.eval (.tmp s) = a.eval (.tmp s) := by
 intro s hs
 simp only [gplainOp, lexOp, noEx, Bool.and_eq_true, List.all_eq_true] at hp
 refine (hrep.look hi hg (hp.1.1.1.1 s hs) (genv_mem _ he s hs)).1 ?_
 have := hp.1.1.1.2 s hs
 simpa using this
theorem glook_guard (hp : gplainOp ops i o ex = true) : ∀ g b, o.guard = some (g, b) → (dstOf ops g).isSome = true := by
 intro g b hg
 simp only [gplainOp, Bool.and_eq_true] at hp
 have := hp.1.2
 simpa [guardOK, hg] using this

theorem gexEnv_of {G : List GPred} (hrep : GRep Γ ops a0 G a ex) (hi : G.length = i) {a' : Act} {g : GW} (hg : Γ.inv g.vs g.w) : ∀ ss, (∀ s ∈ ss, lexAt ops i s = true) → (∀ s ∈ ss, s ∈ ex.map (·.1) → (lastW ops i s).isSome = true) → genvAll ops a0 G i a' g ss → gexEnv ex a a' g ss
 | [], _, _, _ => trivial
 | s :: ss, h1, h2, ⟨he, hr⟩ => by
  refine ⟨?_, gexEnv_of hrep hi hg ss (fun t ht => h1 t (List.mem_cons_of_mem _ ht)) (fun t ht => h2 t (List.mem_cons_of_mem _ ht)) hr⟩
  have hlk := hrep.look hi hg (h1 s (List.mem_cons_self ..)) he
  split
  ·
   rename_i x hx
   have hm := List.mem_of_find?_eq_some hx
   have hs := List.find?_some hx
   have hs' : x.1 = s := by simpa using hs
   obtain ⟨d, B⟩ := x
   simp only at hs'
   subst hs'
   exact hlk.2 B hm (h2 d (List.mem_cons_self ..) (List.mem_map.2 ⟨(d, B), hm, rfl⟩))
  ·
   rename_i hx
   refine hlk.1 (fun hm => ?_)
   obtain ⟨x, hx1, hx2⟩ := List.mem_map.1 hm
   have := List.find?_eq_none.1 hx x hx1
   simp [hx2] at this

theorem glasts_const (Γ : Ghost) (v : Value) : Γ.lasts (fun u _ => u = v) := fun _ _ _ _ h _ => h

theorem wpH_next {G : List GPred} (hG : G.length = i) (hl : ∀ j, j < (o :: rest).length → (o :: rest)[j]? = ops[i + j]?) (hd : ∀ j, j < i + (o :: rest).length → ∃ d, dstOf ops j = some d ∧ d < a0.tmps.size ∧ ∀ k, k < i + (o :: rest).length → k ≠ j → dstOf ops k ≠ some d) :
  ∃ d, o.dst = some d ∧ dstOf ops i = some d ∧ d < a0.tmps.size ∧ (∀ k, k < i → dstOf ops k ≠ some d) ∧ ∀ (A : GPred) (a' : Act) (ex' : List (Tmp × GPred)), GRep Γ ops a0 (G ++ [A]) a' ex' → wpH Γ P ops chain a0 F (i + 1) rest a' ex' → gwpS Γ P ops chain a0 F rest (G ++ [A]) := by
 have ho : ops[i]? = some o := by simpa using (hl 0 (by simp)).symm
 obtain ⟨d, hdi, hds, huniq⟩ := hd i (by simp)
 refine ⟨d, by simpa [dstOf, ho] using hdi, hdi, hds, fun k hk => huniq k (by simp; omega) (by omega), fun A a' ex' hrep hK => ?_⟩
 exact hK (G ++ [A]) (by simp [hG]) (fun j hj => by have := hl (j + 1) (by simp; omega); simpa [Nat.add_assoc, Nat.add_comm 1 j] using this)
  (fun j hj => by
   obtain ⟨d', h1, h2, h3⟩ := hd j (by simp; omega)
   exact ⟨d', h1, h2, fun k hk => h3 k (by simp; omega)⟩) hrep

theorem gplain_ex (hp : gplainOp ops i o ex = true) {d : Tmp} (hod : o.dst = some d) : d ∉ ex.map (·.1) := by
 simp only [gplainOp, Bool.and_eq_true] at hp
 have := hp.2
 rw [hod] at this
 simpa using this

theorem wpH_want (hp : gplainOp ops i o ex = true) (hc : chainIx chain i = none) (hv : valOp o = true) (hw : Region.wanted o (yielded ops a.tmps) = true)
  (h : ∀ K : Act → Prop, (∀ a', wpH Γ P ops chain a0 F (i + 1) rest a' ex → K a') → o.quiet P a (fun w' => ∃ p : Γ.Wd, w' = p.w) K) : wpH Γ P ops chain a0 F i (o :: rest) a ex := by
 intro G hG hl hd hrep
 obtain ⟨v, hq, hK⟩ := h _ (fun _ h => h)
 obtain ⟨d, hod, hdi, hds, huniq, hgo⟩ := wpH_next (Γ := Γ) (P := P) (chain := chain) (F := F) hG hl hd
 have hex := gplain_ex hp hod
 refine ⟨fun u _ => u = v, glasts_const Γ v, ?_, hgo _ _ _ (hrep.next hG hdi hds huniq hex (fun u g _ h => h)) (by rw [hod] at hK; exact hK)⟩
 rw [hG]
 intro a' g hg _ he
 rw [hc]
 simp only
 have hlook := gplain_look hrep hG hp hg he
 have hsel : noSel o = true := by simp only [gplainOp, Bool.and_eq_true] at hp; exact hp.1.1.2
 rw [wanted_same hlook (glook_guard hp), hw, if_pos rfl]
 have h3 := hq g.w ⟨⟨g.vs, g.w, hg⟩, rfl⟩
 unfold Oper.quietAt at h3
 unfold Oper.wp
 rw [look_exec hlook hsel]
 cases hr : (execOp a.eval o).run P g.w with
 | ok n w' =>
  obtain ⟨u, rfl⟩ := valOp_value hv hr
  rw [hr] at h3
  obtain ⟨e1, e2⟩ := h3
  rw [e1, e2]
  exact ⟨_, rfl, Below.refl _ _, rfl⟩
 | halt x w' => rw [hr] at h3; simp only [Oper.quietUpon] at h3

theorem gexOp_parts (hp : gexOp ops i o ex = true) : (∀ s ∈ o.looksAt ops, lexAt ops i s = true) ∧ o.guard = none ∧ (∀ d, o.dst = some d → d ∉ ex.map (·.1)) ∧ (∀ s ∈ o.looksAt ops, s ∈ ex.map (·.1) → (lastW ops i s).isSome = true) := by
 simp only [gexOp, lexOp, Bool.and_eq_true, List.all_eq_true, Bool.or_eq_true, Bool.not_eq_true', Option.isNone_iff_eq_none] at hp
 obtain ⟨⟨⟨hp1, hp2⟩, hp3⟩, hp4⟩ := hp
 refine ⟨hp1, hp2, fun d hod => ?_, fun s hs hm => ?_⟩
 ·
  rw [hod] at hp3
  simpa using hp3
 ·
  rcases hp4 s hs with h | h
  ·
   have : (ex.map (·.1)).contains s = true := by simpa using hm
   rw [this] at h; cases h
  ·
   exact h

theorem wpH_ex (A : GPred) (hA : Γ.lasts A) (hp : gexOp ops i o ex = true) (hc : chainIx chain i = none)
  (hstep : ∀ a' g, Γ.inv g.vs g.w → gexEnv ex a a' g (o.looksAt ops) → o.wp P a' g.w (fun a'' w' => ∃ v, a'' = a'.put o.dst v ∧ Below g.w.heap.size g.w w' ∧ A v ⟨g.vs, w'⟩) (fun _ _ _ => False))
  (hrest : ∀ d, o.dst = some d → wpH Γ P ops chain a0 F (i + 1) rest a (ex ++ [(d, A)])) : wpH Γ P ops chain a0 F i (o :: rest) a ex := by
 intro G hG hl hd hrep
 obtain ⟨d, hod, hdi, hds, huniq, hgo⟩ := wpH_next (Γ := Γ) (P := P) (chain := chain) (F := F) hG hl hd
 obtain ⟨hp1, hp2, hp3, hp4⟩ := gexOp_parts hp
 refine ⟨A, hA, ?_, hgo _ _ _ (hrep.nextEx hG hdi huniq (hp3 d hod)) (hrest d hod)⟩
 rw [hG]
 intro a' g hg _ he
 rw [hc]
 simp only
 rw [if_pos (by simp [Region.wanted, hp2])]
 exact hstep a' g hg (gexEnv_of hrep hG hg (o.looksAt ops) hp1 hp4 he)

theorem wpH_chainX (k : Nat) (A : GPred) (hA : Γ.lasts A) (hp : gexOp ops i o ex = true) (hc : chainIx chain i = some k)
  (hstep : ∀ a' g, Γ.inv g.vs g.w → g.vs.length = k → gexEnv ex a a' g (o.looksAt ops) → o.wp P a' g.w (fun a'' w' => ∃ v, a'' = a'.put o.dst v ∧ Γ.mv g.vs g.w v w' ∧ A v ⟨g.vs ++ [v], w'⟩) (fun _ _ _ => False))
  (hrest : ∀ d, o.dst = some d → wpH Γ P ops chain a0 F (i + 1) rest a (ex ++ [(d, A)])) : wpH Γ P ops chain a0 F i (o :: rest) a ex := by
 intro G hG hl hd hrep
 obtain ⟨d, hod, hdi, hds, huniq, hgo⟩ := wpH_next (Γ := Γ) (P := P) (chain := chain) (F := F) hG hl hd
 obtain ⟨hp1, hp2, hp3, hp4⟩ := gexOp_parts hp
 refine ⟨A, hA, ?_, hgo _ _ _ (hrep.nextEx hG hdi huniq (hp3 d hod)) (hrest d hod)⟩
 rw [hG]
 intro a' g hg _ he
 rw [hc]
 simp only
 intro hk
 rw [if_pos (by simp [Region.wanted, hp2])]
 exact hstep a' g hg hk (gexEnv_of hrep hG hg (o.looksAt ops) hp1 hp4 he)
end

theorem gfinS_intro {K : List Value → Prop} {g : GW} : ∀ (G : List GPred) (pre : List Value), (∀ vs, vs.length = G.length → (∀ j, j < G.length → (G.getD j (fun _ _ => True)) (vs.getD j undef) g) → K (pre ++ vs)) → gfinS K g G pre
 | [], pre, h => by simpa [gfinS] using h [] rfl (fun j hj => by simp at hj)
 | A :: G, pre, h => by
  intro v hv
  refine gfinS_intro G (pre ++ [v]) fun vs hl hA => ?_
  have := h (v :: vs) (by simp [hl]) (fun j hj => by
   cases j with
   | zero => simpa using hv
   | succ j => simpa using hA j (by simpa using hj))
  simpa using this

theorem gexAll_go {g : GW} {k : Act → Prop} (u : Tmp → Value) : ∀ (ex : List (Tmp × GPred)) (a : Act), (∀ x ∈ ex, x.2 (u x.1) g) → gexAll g k ex a → k (ex.foldl (fun a x => a.put (some x.1) (u x.1)) a)
 | [], a, _, h => h
 | (d, A) :: ex, a, hA, h => gexAll_go u ex _ (fun x hx => hA x (List.mem_cons_of_mem _ hx)) (h (u d) (hA (d, A) (List.mem_cons_self ..)))

theorem gfoldl_put (u : Tmp → Value) : ∀ (ex : List (Tmp × GPred)) (a : Act), (ex.foldl (fun a x => a.put (some x.1) (u x.1)) a).tmps.size = a.tmps.size ∧ (ex.foldl (fun a x => a.put (some x.1) (u x.1)) a).defers = a.defers ∧
  ∀ s, s < a.tmps.size → (ex.foldl (fun a x => a.put (some x.1) (u x.1)) a).eval (.tmp s) = if s ∈ ex.map (·.1) then u s else a.eval (.tmp s)
 | [], a => ⟨rfl, rfl, fun s _ => by simp⟩
 | (d, A) :: ex, a => by
  have h := gfoldl_put u ex (a.put (some d) (u d))
  have hsz : (a.put (some d) (u d)).tmps.size = a.tmps.size := by simp [Act.put]
  refine ⟨h.1.trans hsz, h.2.1, fun s hs => ?_⟩
  simp only [List.foldl_cons]
  rw [h.2.2 s (by rw [hsz]; exact hs)]
  by_cases hm : s ∈ ex.map (·.1)
  ·
   rw [if_pos hm, if_pos (by simp at hm ⊢; exact .inr hm)]
  ·
   rw [if_neg hm]
   by_cases hsd : s = d
   ·
    subst hsd
    rw [if_pos (by simp), eval_put_same hs]
   ·
    rw [if_neg (by simp at hm ⊢; exact ⟨hsd, hm⟩), eval_put_ne (Ne.symm hsd)]

def gexOK (ops : Array Oper) (n size : Nat) (ex : List (Tmp × GPred)) : Bool := ex.all fun x => (lastW ops n x.1).isSome && decide (x.1 < size)

theorem wpH_nil {Γ : Ghost} {P : Program} {l : List Oper} {chain : List Nat} {n : Nat} {a0 a : Act} {Q : Exit → Act → World → Prop} {ex : List (Tmp × GPred)} (hex : gexOK l.toArray n a0.tmps.size ex = true) (hn : n ≤ l.length)
  (h : ∀ g : GW, Γ.inv g.vs g.w → g.vs.length = chain.length → gexAll g (fun a' => wpList P l.toArray Q (l.drop n) a' g.w) ex a) :
  wpH Γ P l.toArray chain a0 (fun G => ∀ g : GW, Γ.inv g.vs g.w → g.vs.length = chain.length → gfinS (fun vs => wpList P l.toArray Q (l.drop n) (putAll a0 (l.take n) vs) g.w) g G []) n [] a ex := by
 intro G hG _ hd hrep g hgi hgl
 refine gfinS_intro G [] fun vs hl hA => ?_
 rw [List.nil_append]
 have htl : (l.take n).length = n := by simp; omega
 have hps := putAll_size (l.take n) vs a0
 have hone : ∀ s j, lastW l.toArray n s = some j → (putAll a0 (l.take n) vs).eval (.tmp s) = vs.getD j undef := by
  intro s j hw'
  obtain ⟨hj, hjd⟩ := lastW_some hw'
  obtain ⟨d, hd1, hd2, hd3⟩ := hd j (by simpa using hj)
  rw [hjd] at hd1
  cases hd1
  have hjl : j < l.length := by omega
  refine putAll_one (l.take n) vs a0 s j l[j] _ (by simp [hj, hjl]) ?_ (by simpa [dstOf, hjl] using hjd) hd2 (fun k o' hk hne => ?_)
  ·
   have : j < vs.length := by rw [hl, hG]; exact hj
   simp [this]
  ·
   have hkn : k < n := by
    rcases Nat.lt_or_ge k n with h | h
    ·
     exact h
    ·
     rw [List.getElem?_eq_none (by omega)] at hk; cases hk
   have := hd3 k (by simpa using hkn) hne
   have hk' : l[k]? = some o' := by simpa [List.getElem?_take, hkn] using hk
   simpa [dstOf, hk'] using this
 have hnone : ∀ s, lastW l.toArray n s = none → (putAll a0 (l.take n) vs).eval (.tmp s) = a0.eval (.tmp s) := by
  intro s hw'
  refine putAll_none (l.take n) vs a0 s fun o ho hod => ?_
  obtain ⟨k, hk, rfl⟩ := List.mem_iff_getElem.1 ho
  rw [htl] at hk
  have hkl : k < l.length := by omega
  have := List.find?_eq_none.1 hw' k (List.mem_range.2 hk)
  have hod' : l[k].dst = some s := by simpa using hod
  simp [dstOf, hkl, hod'] at this
 have hgo := gexAll_go (fun d => (putAll a0 (l.take n) vs).eval (.tmp d)) ex a (fun x hx => by
  obtain ⟨d, B⟩ := x
  have h1 := List.all_eq_true.1 hex (d, B) hx
  simp only [Bool.and_eq_true] at h1
  obtain ⟨j, hj⟩ := Option.isSome_iff_exists.1 h1.1
  obtain ⟨hjn, _⟩ := lastW_some hj
  have hg : G[j]? = some (G.getD j (fun _ _ => True)) := by simp [hG, hjn]
  show B ((putAll a0 (l.take n) vs).eval (.tmp d)) g
  rw [hone d j hj]
  exact hrep.exs j d _ (by omega) (by rw [hG]; exact hj) hg B hx _ _ hgi (hA j (by omega))) (h g hgi hgl)
 have hf := gfoldl_put (fun d => (putAll a0 (l.take n) vs).eval (.tmp d)) ex a
 have e : ex.foldl (fun a x => a.put (some x.1) ((putAll a0 (l.take n) vs).eval (.tmp x.1))) a = putAll a0 (l.take n) vs := by
  refine act_ext (hf.1.trans (hrep.size.trans hps.1.symm)) (hf.2.1.trans (hrep.defers.trans hps.2.symm)) (fun s hs => ?_)
  rw [hf.1] at hs
  rw [hf.2.2 s hs]
  by_cases hm : s ∈ ex.map (·.1)
  ·
   rw [if_pos hm]
  ·
   rw [if_neg hm]
   cases hlw : lastW l.toArray n s with
   | none => rw [hnone s hlw]; exact hrep.untouched s (by rw [hG]; exact hlw)
   | some j =>
    obtain ⟨hjn, _⟩ := lastW_some hlw
    have hg : G[j]? = some (G.getD j (fun _ _ => True)) := by simp [hG, hjn]
    rw [hone s j hlw]
    exact (hrep.eqs j s _ (by omega) (by rw [hG]; exact hlw) hg hm _ _ hgi (hA j (by omega))).symm
 rw [e] at hgo
 exact hgo

theorem wp_region_H {P : Program} {id : Nat} {Q : Exit → Act → World → Prop} {a : Act} {l : List Oper} (Γ : Ghost) (n : Nat) (chain : List Nat) (hm : P.follows .mixedOrders = true) (hB : headOK l.toArray n a.tmps.size = true) (hch : chainOK l.toArray chain = true) (hcn : (chain.all fun i => decide (i < n)) = true)
  (hstart : Γ.inv [] w)
  (h : wpH Γ P l.toArray chain a (fun G => ∀ g : GW, Γ.inv g.vs g.w → g.vs.length = chain.length → gfinS (fun vs => wpList P l.toArray Q (l.drop n) (putAll a (l.take n) vs) g.w) g G []) 0 (l.take n) a []) : (Code.region id l.toArray true).wp P Q a w := by
 have hf := headFacts hB
 have hnl : n ≤ l.length := by simpa using hf.le
 have htl : (l.take n).length = n := by simp; omega
 refine wp_region_G Γ n chain hm hB hch hcn hstart (h [] rfl (fun j hj => by rw [htl] at hj; simp [hj]) (fun j hj => by
  rw [htl, Nat.zero_add] at hj
  obtain ⟨d, h1, h2, h3⟩ := hf.dst j hj
  exact ⟨d, h1, h2, fun k hk => h3 k (by rw [htl, Nat.zero_add] at hk; exact hk)⟩) ⟨fun j d A hj => by simp at hj, fun j d A hj => by simp at hj, fun _ _ => rfl, rfl, rfl⟩)
end Go.Proofs.YtbhglemolpfnkaaGreatDoor
