/- A range over a function, where the body owns a list of things. No program in sight. One thing among what is owned, alone; an append inside a fence. No program in sight. -/
import Derived.RangeFuncNested
import Derived.RangeFuncBound
import Derived.RangeFuncCalls
import Derived.RangeFuncLeaves
import Derived.RangeFuncFrom
import Derived.Shelf.Abstract
import Derived.Shelf.RegionOpen
import Derived.Stop.RegionWithIn
import Derived.Sort.BigQuietIn
import Derived.Lib.QuietBelowIn
import Derived.OwnWalkIn
import Derived.TacticsInMore
import Derived.LoopNIn
import Derived.LoopIn
import Derived.WalkMore
import Derived.Scope
import Derived.Test.YtockaipodnapjaaGreatDoorRset
namespace Go.Proofs.YtockaipodnapjaaGreatDoor
open Go.RowKit Go.Sort
set_option linter.unusedVariables false
set_option maxRecDepth 100000

/-- What is new in it is no walk's object. -/
def Res.still (B : Nat) (R : Res) : Prop := ∀ (w : World) (F : Nat → Prop), R.P w F → ∀ b, F b → b < B ∨ ∃ o, w.heap[b]? = some o ∧ o.isWalk = false
theorem still_blk {B : Nat} (b : Nat) {o : Obj} (ho : o.isWalk = false) : (blkR b o).still B := fun w F h x hx => .inr ⟨o, by have := (h.1 x).1 hx; subst this; exact h.2, ho⟩
theorem still_row {B : Nat} (v : Value) (E : TypeId) (sz n : Nat) (xs : List Value) : (rowR v E sz n xs).still B := fun w F h x hx => by
  have hx' := (h.1 x).1 hx
  obtain ⟨h1, ⟨e, _⟩ | ⟨g, c, cur, e, _, hh, _⟩⟩ := h.2
  · rw [e] at hx'; cases hx'
  · rw [e] at hx'; cases hx'; exact .inr ⟨_, hh, rfl⟩
theorem still_sep {B : Nat} {Rs : List Res} (h : ∀ R ∈ Rs, R.still B) : (sepR Rs).still B := fun w F hP x hx => by
  obtain ⟨Fs, h1, h2, h3⟩ := hP
  obtain ⟨i, hi, hf⟩ := (h3 x).1 hx
  exact h _ (List.getElem_mem hi) w _ (h1 i Rs[i] (List.getElem?_eq_getElem hi)) x hf
theorem still_ex {B : Nat} {α : Type} {f : α → Res} (h : ∀ a, (f a).still B) : (exR f).still B := fun w F hP x hx => by
  obtain ⟨a, ha⟩ := hP; exact h a w F ha x hx
theorem still_fact {B : Nat} {p : Prop} {R : Res} (h : R.still B) : (factR p R).still B := fun w F hP x hx => h w F hP.2 x hx
def stills (B : Nat) (L : List Res) : Prop := ∀ R ∈ L, R.still B
theorem stills_nil {B : Nat} : stills B [] := fun R h => by cases h
theorem stills_cons {B : Nat} {R : Res} {L : List Res} (h : R.still B) (hL : stills B L) : stills B (R :: L) := fun Q hQ => by
  rcases List.mem_cons.1 hQ with rfl | hQ
  · exact h
  · exact hL _ hQ

section
variable {w0 w w' : World} {D : Nat → Prop} {L A B : List Res}
/-- A walk's object of block B or newer has been turned. -/
theorem Own.turned {B : Nat} (h : Own w0 D w L) (hs : stills B L) (hB : w0.heap.size ≤ B) {row : Option Nat} (hg : w.grownBy w' row) (hr : ∀ r, row = some r → B ≤ r ∧ ∃ o : Obj, w.heap[r]? = some o ∧ o.isWalk = true) : Own w0 D w' L := by
  obtain ⟨h1, Fs, h2, h3⟩ := h
  have hu := upd_of_grown hg
  refine ⟨h1.then hu (fun x hx e => by have := (hr x e).1; omega), Fs, fun i R hi => ⟨R.move (h2 i R hi).1 hu (fun b hb e => ?_), (h2 i R hi).2⟩, h3⟩
  obtain ⟨hBb, o', ho', hc'⟩ := hr b e
  rcases hs R (List.mem_of_getElem? hi) w _ (h2 i R hi).1 b hb with h | ⟨o, ho, hc⟩
  · omega
  · rw [ho] at ho'; cases ho'; rw [hc] at hc'; cases hc'
/-- A block that is owned whole becomes another object. -/
theorem Own.put (h : Own w0 D w L) (i : Nat) {k : Nat} {o : Obj} (hi : L[i]? = some (blkR k o)) (o' : Obj) : Own w0 D (w.putObj k o') (L.set i (blkR k o')) := by
  obtain ⟨F, h1, h2, h3⟩ := h.step hi
  have hlt : k < w.heap.size := (Array.getElem?_eq_some_iff.1 h1.2).1
  exact h3 (R' := blkR k o') (F' := F) ⟨h1.1, World.putObj_heap_same hlt⟩ (fun b hb => .inl hb) ((upd_of_grown (grownBy_putObj' w k o')).mono (fun b _ e => by cases e; exact (h1.1 k).2 rfl))
/-- What is owned here, as what is owned from here on. -/
theorem Own.split (h : Own w0 D w (A ++ B)) : ∃ DA DB : Nat → Prop, Own w DA w A ∧ Own w DB w B ∧ (∀ b, DA b → ¬ DB b) ∧ (∀ b, DA b ∨ DB b → D b ∨ w0.heap.size ≤ b) ∧ (∀ b, DA b ∨ DB b → b < w.heap.size) ∧ (∀ w' B', Own w DB w' B' → Own w0 D w' (A ++ B')) := by
  obtain ⟨h1, Fs, h2, h3⟩ := h
  have hA : ∀ i R, A[i]? = some R → R.P w (Fs i) ∧ ∀ b, Fs i b → D b ∨ w0.heap.size ≤ b := fun i R hi => h2 i R (by rw [List.getElem?_append_left (get_len hi)]; exact hi)
  have hB : ∀ i R, B[i]? = some R → R.P w (Fs (A.length + i)) ∧ ∀ b, Fs (A.length + i) b → D b ∨ w0.heap.size ≤ b := fun i R hi => h2 (A.length + i) R (by rw [List.getElem?_append_right (by omega)]; simpa using hi)
  have hBl : ∀ i, i < B.length → A.length + i < (A ++ B).length := fun i hi => by simp; omega
  have hAl : ∀ i, i < A.length → i < (A ++ B).length := fun i hi => by simp; omega
  have hbnd : ∀ i b, i < (A ++ B).length → Fs i b → b < w.heap.size := fun i b hi hb => ((A ++ B)[i]).bound (h2 i _ (List.getElem?_eq_getElem hi)).1 b hb
  refine ⟨fun b => ∃ i, i < A.length ∧ Fs i b, fun b => ∃ i, i < B.length ∧ Fs (A.length + i) b, ⟨Upd.refl _ _, Fs, fun i R hi => ⟨(hA i R hi).1, fun b hb => .inl ⟨i, get_len hi, hb⟩⟩, fun i j hi hj => h3 i j (hAl i hi) (hAl j hj)⟩,
    ⟨Upd.refl _ _, fun i => Fs (A.length + i), fun i R hi => ⟨(hB i R hi).1, fun b hb => .inl ⟨i, get_len hi, hb⟩⟩, fun i j hi hj hij => h3 (A.length + i) (A.length + j) (hBl i hi) (hBl j hj) (by omega)⟩,
    fun b ⟨i, hi, hf⟩ ⟨j, hj, hg⟩ => h3 i (A.length + j) (hAl i hi) (hBl j hj) (by omega) b hf hg, fun b hb => ?_, fun b hb => ?_, fun w' B' ho => ?_⟩
  · rcases hb with ⟨i, hi, hf⟩ | ⟨i, hi, hf⟩
    · exact (hA i _ (List.getElem?_eq_getElem hi)).2 b hf
    · exact (hB i _ (List.getElem?_eq_getElem hi)).2 b hf
  · rcases hb with ⟨i, hi, hf⟩ | ⟨i, hi, hf⟩
    · exact hbnd i b (hAl i hi) hf
    · exact hbnd _ b (hBl i hi) hf
  · obtain ⟨k1, Gs, k2, k3⟩ := ho
    have hGD : ∀ i b, i < B'.length → Gs i b → (∃ j, j < B.length ∧ Fs (A.length + j) b) ∨ w.heap.size ≤ b := fun i b hi hb => (k2 i _ (List.getElem?_eq_getElem hi)).2 b hb
    have cross : ∀ i j b, i < A.length → j < B'.length → Fs i b → ¬ Gs j b := fun i j b hi hj hf hg => by
      rcases hGD j b hj hg with ⟨m, hm, hm'⟩ | hge
      · exact h3 i (A.length + m) (hAl i hi) (hBl m hm) (by omega) b hf hm'
      · have := hbnd i b (hAl i hi) hf; omega
    refine ⟨h1.then k1 (fun x hx ⟨i, hi, hf⟩ => ((hB i _ (List.getElem?_eq_getElem hi)).2 x hf).elim id (fun h => by omega)), fun j => if j < A.length then Fs j else Gs (j - A.length), fun j R hj => ?_, fun i j hi hj hij b => ?_⟩
    · dsimp only
      by_cases e : j < A.length
      · rw [if_pos e]
        rw [List.getElem?_append_left e] at hj
        exact ⟨R.move (hA j R hj).1 k1 (fun b hf ⟨m, hm, hm'⟩ => h3 j (A.length + m) (hAl j e) (hBl m hm) (by omega) b hf hm'), (hA j R hj).2⟩
      · rw [if_neg e]
        rw [List.getElem?_append_right (by omega)] at hj
        refine ⟨(k2 _ R hj).1, fun b hb => ?_⟩
        rcases hGD _ b (get_len hj) hb with ⟨m, hm, hm'⟩ | hge
        · exact (hB m _ (List.getElem?_eq_getElem hm)).2 b hm'
        · exact .inr (Nat.le_trans h1.size hge)
    · simp only [List.length_append] at hi hj
      dsimp only
      by_cases e1 : i < A.length
      · rw [if_pos e1]
        by_cases e2 : j < A.length
        · rw [if_pos e2]; exact h3 i j (hAl i e1) (hAl j e2) hij b
        · rw [if_neg e2]; exact cross i _ b e1 (by omega)
      · rw [if_neg e1]
        by_cases e2 : j < A.length
        · rw [if_pos e2]; exact fun x y => cross j _ b e2 (by omega) y x
        · rw [if_neg e2]; exact k3 _ _ (by omega) (by omega) (by omega) b
/-- What lies apart from all that has changed. -/
theorem Own.apart {G : Nat → Prop} (h : Own w D w L) (hu : Upd G w w') (hG : ∀ b, b < w.heap.size → D b → ¬ G b) : Own w' D w' L := by
  obtain ⟨h1, Fs, h2, h3⟩ := h
  have hF : ∀ i R, L[i]? = some R → ∀ b, Fs i b → D b ∧ b < w.heap.size := fun i R hi b hb => by
    have hlt := R.bound (h2 i R hi).1 b hb
    exact ⟨((h2 i R hi).2 b hb).elim id (fun h => by omega), hlt⟩
  exact ⟨Upd.refl _ _, Fs, fun i R hi => ⟨R.move (h2 i R hi).1 hu (fun b hb hg => hG b (hF i R hi b hb).2 (hF i R hi b hb).1 hg), fun b hb => .inl (hF i R hi b hb).1⟩, h3⟩
end

theorem wpIn_scope_wide {n : Nat} {P : Program} {c : Code} {Q : Exit → Act → World → Prop} {a : Act} {w : World} (h : c.wpIn Fence.wide n P (Exit.noGoto Q) a w) : (Code.scope c).wpIn Fence.wide n P Q a w := wpIn_wide.2 (wp_scope_straight (wpIn_wide.1 h))
/-- What a round keeps: all that lay when the loop began, but for D. -/
abbrev kpO (D : Nat → Prop) (w : World) : World → World → Prop := Upd (fun b => D b ∨ w.heap.size ≤ b)
/-- How a round may be left. -/
def roPost {α : Type} (D : Nat → Prop) (I : List α → List Res → Prop) (Ix : Code → List α → List Res → Prop) (xs : List α) (W : World) : Exit → Act → World → Prop
  | .normal, _, W' => ∃ L, I xs L ∧ Own W D W' L
  | .ret, _, W' => ∃ L, Ix .ret xs L ∧ Own W D W' L
  | .exit id, _, W' => ∃ L, Ix (.exit id) xs L ∧ Own W D W' L
  | .goto t, _, W' => ∃ L, Ix (.goto t) xs L ∧ Own W D W' L
  | _, _, _ => False
section
variable {α : Type} {P : Program} {n : Nat}
theorem wpIn_mono' {F : Fence} {n : Nat} {P : Program} {c : Code} {a : Act} {w : World} {Q Q' : Exit → Act → World → Prop} (h : c.wpIn F n P Q a w) (hQ : ∀ e a w, Q e a w → Q' e a w) : c.wpIn F n P Q' a w := wpIn_mono h hQ
/-- A range over a function; the assignment may box the loop variable (Lx: what it makes). -/
theorem wpIn_rangeO {g : Operand} {ps : Array Tmp} {assign body : Code} {Q : Exit → Act → World → Prop} {a : Act} {w : World}
    (h1 : 1 ≤ n) {gf : Nat} {lb : Array Value} (hg : a.eval g = .func (.func gf) #[] lb) (eg : ∀ args w, (callFunc gf args).run P w = .ok (.enter gf args) w)
    {encs : α → Array Value} {S Sp : List α → Prop} {N : Nat} {D : Nat → Prop} (hseq : SeqStopsK Fence.wide (n - 1) P gf lb encs (kpO D w) S Sp N w) (hps : ∀ x, (encs x).size = ps.size)
    (I : List α → List Res → Prop) (Ix : Code → List α → List Res → Prop) (hI : ∀ xs L, I xs L → stills w.heap.size L) (hIx : ∀ c xs L, Ix c xs L → stills w.heap.size L) {L0 : List Res} (hO : Own w D w L0) (h0 : I [] L0)
    (Ax : α → Act → List Res → Prop)
    (hassign : ∀ (l : Nat) (pre : List α) (x : α) (W : World) (D' : Nat → Prop) (L : List Res) (K : Act → World → Prop), I pre L → Own W D' W L → (∀ a' W' Lx, Ax x a' Lx → Own W D' W' (L ++ Lx) → K a' W') →
      assign.wpIn (Fence.wide.inRound l) (n - 1 - 1) P (Exit.then K (fun _ _ _ => False)) { tmps := (ps.zip (encs x)).foldl (fun t (p, v) => t.setIfInBounds p v) a.tmps, defers := [] } W)
    (hbody : ∀ (l : Nat) (pre : List α) (x : α) (a' : Act) (W : World) (D' : Nat → Prop) (L Lx : List Res), I pre L → Ax x a' Lx → pre.length < N → Upd D w W → Own W D' W (L ++ Lx) → body.wpIn (Fence.wide.inRound l) (n - 1 - 1) P (roPost D' I Ix (pre ++ [x]) W) a' W)
    (hdone : ∀ (k : Nat) (xs : List α) (W : World) (L : List Res), S xs → I xs L → Own w D W (blkR k (.deferred (some [])) :: L) → Q .normal { a with defers := { target := .collected k, args := #[] } :: a.defers } W)
    (hstop : ∀ (k : Nat) (c : Code) (pre : List α) (W : World) (L : List Res), Sp pre → Ix c pre L → Own w D W (blkR k (.deferred (some [])) :: L) → c.wpIn Fence.wide n P Q { a with defers := { target := .collected k, args := #[] } :: a.defers } W) :
    (Code.rangeFunc g ps assign body).wpIn Fence.wide n P Q a w := by
  refine wpIn_rangeFunc fun fn hfn => ?_
  obtain ⟨rec, hrec⟩ : ∃ rec : LoopState → Option Code → Loop, rec = fun st pe => { state := st, pending := pe, fn, tmps := a.tmps, params := ps, assign, body, defers := w.heap.size } := ⟨_, rfl⟩
  obtain ⟨k, hk⟩ : ∃ k, w.heap.size = k := ⟨_, rfl⟩
  obtain ⟨W1, hW1⟩ : ∃ W1, (w.alloc (.deferred (some []))).alloc (.loop (rec .ready none)) = W1 := ⟨_, rfl⟩
  have K : ∀ (st : LoopState) (pe : Option Code) (L : List Res), stills w.heap.size L → stills w.heap.size (blkR (k + 1) (.loop (rec st pe)) :: blkR k (.deferred (some [])) :: L) := fun st pe L h => stills_cons (still_blk _ rfl) (stills_cons (still_blk _ rfl) h)
  have hb1 : Below w.heap.size w W1 := by
    rw [← hW1]; exact ((Below.refl _ w).alloc (Nat.le_refl _) _).alloc (by simp) _
  have hO1 : Own w D W1 (blkR (k + 1) (.loop (rec .ready none)) :: blkR k (.deferred (some [])) :: L0) := by
    have h2 := (hO.alloc (.deferred (some []))).alloc (.loop (rec .ready none))
    rw [World.size_alloc, hk, hW1] at h2
    exact h2.perm (by
      have e : L0 ++ [blkR k (.deferred (some []))] ++ [blkR (k + 1) (.loop (rec .ready none))] = (L0 ++ [blkR k (.deferred (some [])), blkR (k + 1) (.loop (rec .ready none))]) := by simp
      rw [e]
      exact List.perm_append_comm.trans (List.Perm.swap _ _ _))
  have hres : (resolve a.eval (rangeCall g (k + 1)) 0).run P W1 = .ok { target := .fn (.func gf) lb, args := #[.func (.yield (k + 1)) #[] #[]] } W1 := by
    simp only [resolve, hg]
    simp [go_sem]
  have hent := run_enterLoop_outer (P := P) (w := w) fn a.tmps ps assign body
  rw [show (Loop.mk .ready none fn a.tmps ps assign body w.heap.size) = rec .ready none by rw [hrec], hW1, hk] at hent
  refine ⟨k + 1, _, W1, _, W1, gf, #[.func (.yield (k + 1)) #[] #[]] ++ lb, W1, hent, hres, fun f' hf' => trivial, by simp [invoke, go_sem, eg], fun h => (by cases h), ?_⟩
  have abide : ∀ (J : List α → World → List Res → Prop), (∀ xs W L, J xs W L → stills w.heap.size L) → (∀ xs W W' L, J xs W L → J xs W' L) → AbidesFrom W1.heap.size (fun xs W => ∃ L, J xs W L ∧ Own w D W L) := fun J hJ hJw xs W W' row ⟨L, g1, g2⟩ hg hr => ⟨L, hJw _ _ _ _ g1, g2.turned (hJ _ _ _ g1) (Nat.le_refl _) hg (fun r e => ⟨by have := (hr r e).1; rw [← hW1] at this; simp at this; omega, (hr r e).2⟩)⟩
  refine (hseq (k + 1) (fun xs W => ∃ L, (∃ L', I xs L' ∧ L = blkR (k + 1) (.loop (rec .ready none)) :: blkR k (.deferred (some [])) :: L') ∧ Own w D W L)
    (fun xs W => ∃ L, (∃ c L', Ix c xs L' ∧ L = blkR (k + 1) (.loop (rec .done (some c))) :: blkR k (.deferred (some [])) :: L') ∧ Own w D W L) W1 hb1
    (abide (fun xs _ L => ∃ L', I xs L' ∧ L = _) (fun xs W L ⟨L', h, e⟩ => by rw [e]; exact K _ _ _ (hI _ _ h)) (fun _ _ _ _ h => h))
    (abide (fun xs _ L => ∃ c L', Ix c xs L' ∧ L = _) (fun xs W L ⟨c, L', h, e⟩ => by rw [e]; exact K _ _ _ (hIx _ _ _ h)) (fun _ _ _ _ h => h))
    ?_ ⟨_, ⟨L0, h0, rfl⟩, hO1⟩).mono ?_
  · rintro pre x W ⟨_, ⟨L, hi, rfl⟩, ho⟩ hlen
    have hl : W.heap[k + 1]? = some (.loop (rec .ready none)) := ho.blk 0 rfl
    have hy := run_yield (P := P) (args := encs x) hl (by rw [hrec]; exact hps x)
    rw [hrec] at hy
    refine ⟨fn, _, assign, body, hy, roundIn_of_wpIn hfn ?_⟩
    clear hy
    obtain ⟨DA, DB, s1, s2, s3, s4, s5, s6⟩ := Own.split (A := [blkR (k + 1) (.loop (rec .ready none)), blkR k (.deferred (some []))]) (B := L) ho
    refine hassign (k + 1) pre x W DB L _ hi s2 (fun a' Wa Lx hax hoa => ?_)
    have hua := hoa.upd
    replace hoa := s6 _ _ hoa
    have hla : Wa.heap[k + 1]? = some (.loop (rec .ready none)) := hoa.blk 0 rfl
    refine ⟨_, run_beginRound hla (by rw [hrec]), ?_⟩
    have hob := hoa.put 0 rfl (.loop { rec .ready none with state := .busy })
    have hkb : kpO D w W (Wa.putObj (k + 1) (.loop { rec .ready none with state := .busy })) := (hua.mono (fun b _ hb => s4 b (.inr hb))).trans ((upd_of_grown (grownBy_putObj' Wa (k + 1) _)).mono (fun b _ e => by cases e; right; omega))
    generalize Wa.putObj (k + 1) (.loop { rec .ready none with state := .busy }) = Wb at *
    obtain ⟨DA2, DB2, t1, t2, t3, t4, t5, t6⟩ := Own.split (A := [blkR (k + 1) (.loop { rec .ready none with state := .busy }), blkR k (.deferred (some []))]) (B := L ++ Lx) hob
    refine wpIn_mono (hbody (k + 1) pre x a' Wb DB2 L Lx hi hax hlen hob.upd t2) ?_
    have fin : ∀ (jump : Option Code) (W3 : World) (L' : List Res), Own Wb DB2 W3 L' →
        ∃ W4, (Instr.endRound (k + 1) jump).run P W3 = .ok (.bool jump.isNone) W4 ∧ Own w D W4 (blkR (k + 1) (.loop (rec (if jump.isNone then .ready else .done) jump)) :: blkR k (.deferred (some [])) :: L') ∧ kpO D w W W4 := fun jump W3 L' hoc => by
      have huc := hoc.upd
      replace hoc := t6 _ _ hoc
      have hlc : W3.heap[k + 1]? = some (.loop { rec .ready none with state := .busy }) := hoc.blk 0 rfl
      have her := run_endRound (P := P) jump hlc
      refine ⟨_, her, ?_, (hkb.trans (huc.mono (fun b _ hb => t4 b (.inr hb)))).trans ((upd_of_grown (grownBy_putObj' W3 (k + 1) _)).mono (fun b _ e => by cases e; right; omega))⟩
      have := hoc.put 0 rfl (.loop { ({ rec .ready none with state := .busy } : Loop) with state := if jump.isNone then .ready else .done, pending := jump })
      rw [hrec] at this ⊢
      exact this
    rintro e a3 W3 hp
    cases e with
    | normal => obtain ⟨L', hi', ho'⟩ := hp; obtain ⟨W4, f1, f2, f3⟩ := fin none W3 L' ho'; exact ⟨_, _, f1, .inl ⟨rfl, ⟨_, ⟨L', hi', rfl⟩, f2⟩, f3⟩⟩
    | ret => obtain ⟨L', hi', ho'⟩ := hp; obtain ⟨W4, f1, f2, f3⟩ := fin (some .ret) W3 L' ho'; exact ⟨_, _, f1, .inr ⟨rfl, _, ⟨_, L', hi', rfl⟩, f2⟩⟩
    | exit id => obtain ⟨L', hi', ho'⟩ := hp; obtain ⟨W4, f1, f2, f3⟩ := fin (some (.exit id)) W3 L' ho'; exact ⟨_, _, f1, .inr ⟨rfl, _, ⟨_, L', hi', rfl⟩, f2⟩⟩
    | goto t => obtain ⟨L', hi', ho'⟩ := hp; obtain ⟨W4, f1, f2, f3⟩ := fin (some (.goto t)) W3 L' ho'; exact ⟨_, _, f1, .inr ⟨rfl, _, ⟨_, L', hi', rfl⟩, f2⟩⟩
    | panic ch => exact hp.elim
    | outgrown => exact hp.elim
  · rintro e W2 ⟨⟨v, rfl⟩, (⟨xs, hS, _, ⟨L, hi, rfl⟩, ho⟩ | ⟨pre, hSp, _, ⟨c, L, hi, rfl⟩, ho⟩)⟩
    · have hl : W2.heap[k + 1]? = some (.loop (rec .ready none)) := ho.blk 0 rfl
      have := run_endLoop (P := P) hl (by rw [hrec]; simp)
      rw [hrec] at this
      refine ⟨none, _, this, hdone k xs _ L hS hi ?_⟩
      have h2 := (ho.put 0 rfl (.loop { rec .ready none with state := .exhausted })).drop 1
      rw [hrec] at h2
      exact h2
    · have hl : W2.heap[k + 1]? = some (.loop (rec .done (some c))) := ho.blk 0 rfl
      have := run_endLoop (P := P) hl (by rw [hrec]; simp)
      rw [hrec] at this
      refine ⟨some c, _, this, hstop k c pre _ L hSp hi ?_⟩
      have h2 := (ho.put 0 rfl (.loop { rec .done (some c) with state := .exhausted })).drop 1
      rw [hrec] at h2
      exact h2
end

end Go.Proofs.YtockaipodnapjaaGreatDoor

namespace Go.Proofs.YtockaipodnapjaaGreatDoor
open Go.RowKit Go.Sort
set_option linter.unusedVariables false
set_option maxRecDepth 100000

theorem erase_perm {α : Type} : ∀ {L : List α} {i : Nat} {x : α}, L[i]? = some x → L.Perm (L.eraseIdx i ++ [x])
  | [], i, x, h => by simp at h
  | a :: l, 0, x, h => by
    simp only [List.getElem?_cons_zero, Option.some.injEq] at h
    subst h
    exact List.perm_append_comm (l₁ := [a]) (l₂ := l)
  | a :: l, i + 1, x, h => (erase_perm (L := l) (by simpa using h)).cons a
section
variable {w0 w : World} {D : Nat → Prop} {L : List Res}
theorem Own.focus (h : Own w0 D w L) {i : Nat} {R : Res} (hi : L[i]? = some R) : ∃ DB, Own w DB w [R] ∧ ∀ w' Q, Own w DB w' (R :: Q) → Own w0 D w' (L ++ Q) := by
  obtain ⟨DA, DB, s1, s2, s3, s4, s5, s6⟩ := Own.split (A := L.eraseIdx i) (B := [R]) (h.perm (erase_perm hi))
  refine ⟨DB, s2, fun w' Q ho => ?_⟩
  have h2 := s6 w' (R :: Q) ho
  refine h2.perm ?_
  have e : L.eraseIdx i ++ R :: Q = (L.eraseIdx i ++ [R]) ++ Q := by simp
  rw [e]
  exact (erase_perm hi).symm.append_right Q
/-- With the thing changed. -/
theorem Own.focus' (h : Own w0 D w L) {i : Nat} {R : Res} (hi : L[i]? = some R) : ∃ DB, Own w DB w [R] ∧ ∀ w' R' Q, Own w DB w' (R' :: Q) → Own w0 D w' (L.set i R' ++ Q) := by
  obtain ⟨DA, DB, s1, s2, s3, s4, s5, s6⟩ := Own.split (A := L.eraseIdx i) (B := [R]) (h.perm (erase_perm hi))
  refine ⟨DB, s2, fun w' R' Q ho => ?_⟩
  have h2 := s6 w' (R' :: Q) ho
  refine h2.perm ?_
  have e : L.eraseIdx i ++ R' :: Q = (L.eraseIdx i ++ [R']) ++ Q := by simp
  rw [e]
  refine List.Perm.append_right Q ?_
  have hi' : (L.set i R')[i]? = some R' := by rw [List.getElem?_set_self (get_len hi)]
  have := (erase_perm hi').symm
  rwa [List.eraseIdx_set_eq] at this
end
/-- An append to a row that is owned, inside a fence. -/
theorem wpListIn_appO {F : Fence} {nf : Nat} {P : Program} {ops : Array Oper} {rest : List Oper} {o : Oper} {a : Act} {w0 w : World} {D : Nat → Prop} {L : List Res} {Q : Exit → Act → World → Prop} (hgd : o.guard = none) (s x : Operand) (t : TypeId) (ho : o.op = .call { callee := .builtin .append, args := #[s, x], argTypes := #[t, t] })
    {e : TypeId} {z : Value} {size bytes : Nat} (ht : P.underlying t = some (.slice e)) (hi : (P.info? e).map (fun i => (i.zero, i.size, i.bytes)) = some (some z, size, bytes)) (hzs : z.cells.size = size) (hsz : 0 < size)
    (h : Own w0 D w L) (i : Nat) {v : Value} {n : Nat} {xs : List Value} (hL : L[i]? = some (rowR v e size n xs)) (hs : a.eval s = v) (j : Nat) {b : Nat} (m c : Nat) (news : List Value) {t' : TypeId} (hb : L[j]? = some (blkR b (.cells news.toArray t'))) (hx : a.eval x = .slice (some ⟨b, 0, none⟩) m c)
    (hl : news.length = m * size) (h1 : ∀ u ∈ news, u.oneCell' = true) (h63 : n + m ≤ maxLen) (hbytes : (n + m) * bytes ≤ 140737488355328)
    (hk : ∀ v' w', Own w0 D w' (L.set i (rowR v' e size (n + m) (xs ++ news))) → wpListIn F nf P ops Q rest (a.put o.dst v') w') : wpListIn F nf P ops Q (o :: rest) a w := by
  obtain ⟨i0, hi, hz0, hz1, hz2⟩ := info_parts hi
  refine wpListIn_plain hgd fun K hK' => ?_
  obtain ⟨v', w', hrun, r1, r2, r3⟩ := run_append_near (P := P) w 0 t o.type e i0 z size bytes ht hi hz0 hz1 hz2 hzs hsz v n xs (h.row i hL) ⟨b, 0, none⟩ m c news hl (news_o (h.blk j hb)) h1 h63 hbytes (Nat.zero_le _)
  unfold Oper.wpIn
  refine ⟨?_, ?_⟩
  · simp [Oper.about, ho, resolve, Target.leads, Sem.run_pure]
  · rw [Oper.semAt_plain F _ _ (by rw [ho]; intro c hc'; cases hc')]
    simp [execOp, ho, resolve, invoke, builtin, hs, hx, hrun, Result.andThen]
    refine hK' _ _ (hk v' w' (h.rowTo i hL r1 (upd_of_grown r2) fun g hg => ?_))
    rcases r3 with h2 | h2 | ⟨g2, h2, h3⟩
    · rw [h2] at hg; cases hg
    · exact .inl (h2 ▸ hg)
    · rw [h2] at hg; cases hg; exact .inr h3

end Go.Proofs.YtockaipodnapjaaGreatDoor
