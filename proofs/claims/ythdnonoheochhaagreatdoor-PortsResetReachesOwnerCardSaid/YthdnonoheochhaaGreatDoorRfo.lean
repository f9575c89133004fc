/- A range over a function, where the body owns a list of things. No program in sight. One thing among what is owned, alone; an append inside a fence. No program in sight. -/
import Derived.RangeFuncNested
import Derived.RangeFuncBound
import Derived.RangeFuncCalls
import Derived.RangeFuncLeaves
import Derived.RangeFuncFrom
import Derived.Shelf.Abstract
import Derived.Shelf.RegionOpen
import Derived.Stop.RegionWithIn
import Derived.Sort.BigQuietIn
import Derived.Lib.QuietBelowIn
import Derived.OwnWalkIn
import Derived.TacticsInMore
import Derived.LoopNIn
import Derived.LoopIn
import Derived.WalkMore
import Derived.Scope
import Derived.Test.YthdnonoheochhaaGreatDoorRset
namespace Go.Proofs.YthdnonoheochhaaGreatDoor
open Go.RowKit Go.Sort
set_option linter.unusedVariables false
set_option maxRecDepth 100000
def Res.still (B : Nat) (R : Res) : Prop := ∀ (w : World) (F : Nat → Prop), R.P w F → ∀ b, F b → b < B ∨ ∃ o, w.heap[b]? = some o ∧ o.isWalk = false
theorem still_blk {B : Nat} (b : Nat) {o : Obj} (ho : o.isWalk = false) : (blkR b o).still B := fun w F h x hx => .inr ⟨o, by have := (h.1 x).1 hx; subst this; exact h.2, ho⟩
def stills (B : Nat) (L : List Res) : Prop := ∀ R ∈ L, R.still B
theorem stills_nil {B : Nat} : stills B [] := fun R h => by cases h
theorem stills_cons {B : Nat} {R : Res} {L : List Res} (h : R.still B) (hL : stills B L) : stills B (R :: L) := fun Q hQ => by
  rcases List.mem_cons.1 hQ with rfl | hQ
  · exact h
  · exact hL _ hQ
section
variable {w0 w w' : World} {D : Nat → Prop} {L A B : List Res}
theorem Own.turned {B : Nat} (h : Own w0 D w L) (hs : stills B L) (hB : w0.heap.size ≤ B) {row : Option Nat} (hg : w.grownBy w' row) (hr : ∀ r, row = some r → B ≤ r ∧ ∃ o : Obj, w.heap[r]? = some o ∧ o.isWalk = true) : Own w0 D w' L := by
  obtain ⟨h1, Fs, h2, h3⟩ := h
  have hu := upd_of_grown hg
  refine ⟨h1.then hu (fun x hx e => by have := (hr x e).1; omega), Fs, fun i R hi => ⟨R.move (h2 i R hi).1 hu (fun b hb e => ?_), (h2 i R hi).2⟩, h3⟩
  obtain ⟨hBb, o', ho', hc'⟩ := hr b e
  rcases hs R (List.mem_of_getElem? hi) w _ (h2 i R hi).1 b hb with h | ⟨o, ho, hc⟩
  · omega
  · rw [ho] at ho'; cases ho'; rw [hc] at hc'; cases hc'
theorem Own.put (h : Own w0 D w L) (i : Nat) {k : Nat} {o : Obj} (hi : L[i]? = some (blkR k o)) (o' : Obj) : Own w0 D (w.putObj k o') (L.set i (blkR k o')) := by
  obtain ⟨F, h1, h2, h3⟩ := h.step hi
  have hlt : k < w.heap.size := (Array.getElem?_eq_some_iff.1 h1.2).1
  exact h3 (R' := blkR k o') (F' := F) ⟨h1.1, World.putObj_heap_same hlt⟩ (fun b hb => .inl hb) ((upd_of_grown (grownBy_putObj' w k o')).mono (fun b _ e => by cases e; exact (h1.1 k).2 rfl))
theorem Own.split (h : Own w0 D w (A ++ B)) : ∃ DA DB : Nat → Prop, Own w DA w A ∧ Own w DB w B ∧ (∀ b, DA b → ¬ DB b) ∧ (∀ b, DA b ∨ DB b → D b ∨ w0.heap.size ≤ b) ∧ (∀ b, DA b ∨ DB b → b < w.heap.size) ∧ (∀ w' B', Own w DB w' B' → Own w0 D w' (A ++ B')) := by
  obtain ⟨h1, Fs, h2, h3⟩ := h
  have hA : ∀ i R, A[i]? = some R → R.P w (Fs i) ∧ ∀ b, Fs i b → D b ∨ w0.heap.size ≤ b := fun i R hi => h2 i R (by rw [List.getElem?_append_left (get_len hi)]; exact hi)
  have hB : ∀ i R, B[i]? = some R → R.P w (Fs (A.length + i)) ∧ ∀ b, Fs (A.length + i) b → D b ∨ w0.heap.size ≤ b := fun i R hi => h2 (A.length + i) R (by rw [List.getElem?_append_right (by omega)]; simpa using hi)
  have hBl : ∀ i, i < B.length → A.length + i < (A ++ B).length := fun i hi => by simp; omega
  have hAl : ∀ i, i < A.length → i < (A ++ B).length := fun i hi => by simp; omega
  have hbnd : ∀ i b, i < (A ++ B).length → Fs i b → b < w.heap.size := fun i b hi hb => ((A ++ B)[i]).bound (h2 i _ (List.getElem?_eq_getElem hi)).1 b hb
  refine ⟨fun b => ∃ i, i < A.length ∧ Fs i b, fun b => ∃ i, i < B.length ∧ Fs (A.length + i) b, ⟨Upd.refl _ _, Fs, fun i R hi => ⟨(hA i R hi).1, fun b hb => .inl ⟨i, get_len hi, hb⟩⟩, fun i j hi hj => h3 i j (hAl i hi) (hAl j hj)⟩,
    ⟨Upd.refl _ _, fun i => Fs (A.length + i), fun i R hi => ⟨(hB i R hi).1, fun b hb => .inl ⟨i, get_len hi, hb⟩⟩, fun i j hi hj hij => h3 (A.length + i) (A.length + j) (hBl i hi) (hBl j hj) (by omega)⟩,
    fun b ⟨i, hi, hf⟩ ⟨j, hj, hg⟩ => h3 i (A.length + j) (hAl i hi) (hBl j hj) (by omega) b hf hg, fun b hb => ?_, fun b hb => ?_, fun w' B' ho => ?_⟩
  · rcases hb with ⟨i, hi, hf⟩ | ⟨i, hi, hf⟩
    · exact (hA i _ (List.getElem?_eq_getElem hi)).2 b hf
    · exact (hB i _ (List.getElem?_eq_getElem hi)).2 b hf
  · rcases hb with ⟨i, hi, hf⟩ | ⟨i, hi, hf⟩
    · exact hbnd i b (hAl i hi) hf
    · exact hbnd _ b (hBl i hi) hf
  · obtain ⟨k1, Gs, k2, k3⟩ := ho
    have hGD : ∀ i b, i < B'.length → Gs i b → (∃ j, j < B.length ∧ Fs (A.length + j) b) ∨ w.heap.size ≤ b := fun i b hi hb => (k2 i _ (List.getElem?_eq_getElem hi)).2 b hb
    have cross : ∀ i j b, i < A.length → j < B'.length → Fs i b → ¬ Gs j b := fun i j b hi hj hf hg => by
      rcases hGD j b hj hg with ⟨m, hm, hm'⟩ | hge
      · exact h3 i (A.length + m) (hAl i hi) (hBl m hm) (by omega) b hf hm'
      · have := hbnd i b (hAl i hi) hf; omega
    refine ⟨h1.then k1 (fun x hx ⟨i, hi, hf⟩ => ((hB i _ (List.getElem?_eq_getElem hi)).2 x hf).elim id (fun h => by omega)), fun j => if j < A.length then Fs j else Gs (j - A.length), fun j R hj => ?_, fun i j hi hj hij b => ?_⟩
    · dsimp only
      by_cases e : j < A.length
      · rw [if_pos e]
        rw [List.getElem?_append_left e] at hj
        exact ⟨R.move (hA j R hj).1 k1 (fun b hf ⟨m, hm, hm'⟩ => h3 j (A.length + m) (hAl j e) (hBl m hm) (by omega) b hf hm'), (hA j R hj).2⟩
      · rw [if_neg e]
        rw [List.getElem?_append_right (by omega)] at hj
        refine ⟨(k2 _ R hj).1, fun b hb => ?_⟩
        rcases hGD _ b (get_len hj) hb with ⟨m, hm, hm'⟩ | hge
        · exact (hB m _ (List.getElem?_eq_getElem hm)).2 b hm'
        · exact .inr (Nat.le_trans h1.size hge)
    · simp only [List.length_append] at hi hj
      dsimp only
      by_cases e1 : i < A.length
      · rw [if_pos e1]
        by_cases e2 : j < A.length
        · rw [if_pos e2]; exact h3 i j (hAl i e1) (hAl j e2) hij b
        · rw [if_neg e2]; exact cross i _ b e1 (by omega)
      · rw [if_neg e1]
        by_cases e2 : j < A.length
        · rw [if_pos e2]; exact fun x y => cross j _ b e2 (by omega) y x
        · rw [if_neg e2]; exact k3 _ _ (by omega) (by omega) (by omega) b
theorem Own.apart {G : Nat → Prop} (h : Own w D w L) (hu : Upd G w w') (hG : ∀ b, b < w.heap.size → D b → ¬ G b) : Own w' D w' L := by
  obtain ⟨h1, Fs, h2, h3⟩ := h
  have hF : ∀ i R, L[i]? = some R → ∀ b, Fs i b → D b ∧ b < w.heap.size := fun i R hi b hb => by
    have hlt := R.bound (h2 i R hi).1 b hb
    exact ⟨((h2 i R hi).2 b hb).elim id (fun h => by omega), hlt⟩
  exact ⟨Upd.refl _ _, Fs, fun i R hi => ⟨R.move (h2 i R hi).1 hu (fun b hb hg => hG b (hF i R hi b hb).2 (hF i R hi b hb).1 hg), fun b hb => .inl (hF i R hi b hb).1⟩, h3⟩
end
abbrev kpO (D : Nat → Prop) (w : World) : World → World → Prop := Upd (fun b => D b ∨ w.heap.size ≤ b)
def roPost {α : Type} (D : Nat → Prop) (I : List α → List Res → Prop) (Ix : Code → List α → List Res → Prop) (xs : List α) (W : World) : Exit → Act → World → Prop
  | .normal, _, W' => ∃ L, I xs L ∧ Own W D W' L
  | .ret, _, W' => ∃ L, Ix .ret xs L ∧ Own W D W' L
  | .exit id, _, W' => ∃ L, Ix (.exit id) xs L ∧ Own W D W' L
  | .goto t, _, W' => ∃ L, Ix (.goto t) xs L ∧ Own W D W' L
  | _, _, _ => False
section
variable {α : Type} {P : Program} {n : Nat}
theorem wpIn_rangeO {g : Operand} {ps : Array Tmp} {assign body : Code} {Q : Exit → Act → World → Prop} {a : Act} {w : World}
    (h1 : 1 ≤ n) {gf : Nat} {lb : Array Value} (hg : a.eval g = .func (.func gf) #[] lb) (eg : ∀ args w, (callFunc gf args).run P w = .ok (.enter gf args) w)
    {encs : α → Array Value} {S Sp : List α → Prop} {N : Nat} {D : Nat → Prop} (hseq : SeqStopsK Fence.wide (n - 1) P gf lb encs (kpO D w) S Sp N w) (hps : ∀ x, (encs x).size = ps.size)
    (I : List α → List Res → Prop) (Ix : Code → List α → List Res → Prop) (hI : ∀ xs L, I xs L → stills w.heap.size L) (hIx : ∀ c xs L, Ix c xs L → stills w.heap.size L) {L0 : List Res} (hO : Own w D w L0) (h0 : I [] L0)
    (Ax : α → Act → List Res → Prop)
    (hassign : ∀ (l : Nat) (pre : List α) (x : α) (W : World) (D' : Nat → Prop) (L : List Res) (K : Act → World → Prop), I pre L → Own W D' W L → (∀ a' W' Lx, Ax x a' Lx → Own W D' W' (L ++ Lx) → K a' W') →
      assign.wpIn (Fence.wide.inRound l) (n - 1 - 1) P (Exit.then K (fun _ _ _ => False)) { tmps := (ps.zip (encs x)).foldl (fun t (p, v) => t.setIfInBounds p v) a.tmps, defers := [] } W)
    (hbody : ∀ (l : Nat) (pre : List α) (x : α) (a' : Act) (W : World) (D' : Nat → Prop) (L Lx : List Res), I pre L → Ax x a' Lx → pre.length < N → Upd D w W → Own W D' W (L ++ Lx) → body.wpIn (Fence.wide.inRound l) (n - 1 - 1) P (roPost D' I Ix (pre ++ [x]) W) a' W)
    (hdone : ∀ (k : Nat) (xs : List α) (W : World) (L : List Res), S xs → I xs L → Own w D W (blkR k (.deferred (some [])) :: L) → Q .normal { a with defers := { target := .collected k, args := #[] } :: a.defers } W)
    (hstop : ∀ (k : Nat) (c : Code) (pre : List α) (W : World) (L : List Res), Sp pre → Ix c pre L → Own w D W (blkR k (.deferred (some [])) :: L) → c.wpIn Fence.wide n P Q { a with defers := { target := .collected k, args := #[] } :: a.defers } W) :
    (Code.rangeFunc g ps assign body).wpIn Fence.wide n P Q a w := by
  refine wpIn_rangeFunc fun fn hfn => ?_
  obtain ⟨rec, hrec⟩ : ∃ rec : LoopState → Option Code → Loop, rec = fun st pe => { state := st, pending := pe, fn, tmps := a.tmps, params := ps, assign, body, defers := w.heap.size } := ⟨_, rfl⟩
  obtain ⟨k, hk⟩ : ∃ k, w.heap.size = k := ⟨_, rfl⟩
  obtain ⟨W1, hW1⟩ : ∃ W1, (w.alloc (.deferred (some []))).alloc (.loop (rec .ready none)) = W1 := ⟨_, rfl⟩
  have K : ∀ (st : LoopState) (pe : Option Code) (L : List Res), stills w.heap.size L → stills w.heap.size (blkR (k + 1) (.loop (rec st pe)) :: blkR k (.deferred (some [])) :: L) := fun st pe L h => stills_cons (still_blk _ rfl) (stills_cons (still_blk _ rfl) h)
  have hb1 : Below w.heap.size w W1 := by
    rw [← hW1]; exact ((Below.refl _ w).alloc (Nat.le_refl _) _).alloc (by simp) _
  have hO1 : Own w D W1 (blkR (k + 1) (.loop (rec .ready none)) :: blkR k (.deferred (some [])) :: L0) := by
    have h2 := (hO.alloc (.deferred (some []))).alloc (.loop (rec .ready none))
    rw [World.size_alloc, hk, hW1] at h2
    exact h2.perm (by
      have e : L0 ++ [blkR k (.deferred (some []))] ++ [blkR (k + 1) (.loop (rec .ready none))] = (L0 ++ [blkR k (.deferred (some [])), blkR (k + 1) (.loop (rec .ready none))]) := by simp
      rw [e]
      exact List.perm_append_comm.trans (List.Perm.swap _ _ _))
  have hres : (resolve a.eval (rangeCall g (k + 1)) 0).run P W1 = .ok { target := .fn (.func gf) lb, args := #[.func (.yield (k + 1)) #[] #[]] } W1 := by
    simp only [resolve, hg]
    simp [go_sem]
  have hent := run_enterLoop_outer (P := P) (w := w) fn a.tmps ps assign body
  rw [show (Loop.mk .ready none fn a.tmps ps assign body w.heap.size) = rec .ready none by rw [hrec], hW1, hk] at hent
  refine ⟨k + 1, _, W1, _, W1, gf, #[.func (.yield (k + 1)) #[] #[]] ++ lb, W1, hent, hres, fun f' hf' => trivial, by simp [invoke, go_sem, eg], fun h => (by cases h), ?_⟩
  have abide : ∀ (J : List α → World → List Res → Prop), (∀ xs W L, J xs W L → stills w.heap.size L) → (∀ xs W W' L, J xs W L → J xs W' L) → AbidesFrom W1.heap.size (fun xs W => ∃ L, J xs W L ∧ Own w D W L) := fun J hJ hJw xs W W' row ⟨L, g1, g2⟩ hg hr => ⟨L, hJw _ _ _ _ g1, g2.turned (hJ _ _ _ g1) (Nat.le_refl _) hg (fun r e => ⟨by have := (hr r e).1; rw [← hW1] at this; simp at this; omega, (hr r e).2⟩)⟩
  refine (hseq (k + 1) (fun xs W => ∃ L, (∃ L', I xs L' ∧ L = blkR (k + 1) (.loop (rec .ready none)) :: blkR k (.deferred (some [])) :: L') ∧ Own w D W L)
    (fun xs W => ∃ L, (∃ c L', Ix c xs L' ∧ L = blkR (k + 1) (.loop (rec .done (some c))) :: blkR k (.deferred (some [])) :: L') ∧ Own w D W L) W1 hb1
    (abide (fun xs _ L => ∃ L', I xs L' ∧ L = _) (fun xs W L ⟨L', h, e⟩ => by rw [e]; exact K _ _ _ (hI _ _ h)) (fun _ _ _ _ h => h))
    (abide (fun xs _ L => ∃ c L', Ix c xs L' ∧ L = _) (fun xs W L ⟨c, L', h, e⟩ => by rw [e]; exact K _ _ _ (hIx _ _ _ h)) (fun _ _ _ _ h => h))
    ?_ ⟨_, ⟨L0, h0, rfl⟩, hO1⟩).mono ?_
  · rintro pre x W ⟨_, ⟨L, hi, rfl⟩, ho⟩ hlen
    have hl : W.heap[k + 1]? = some (.loop (rec .ready none)) := ho.blk 0 rfl
    have hy := run_yield (P := P) (args := encs x) hl (by rw [hrec]; exact hps x)
    rw [hrec] at hy
    refine ⟨fn, _, assign, body, hy, roundIn_of_wpIn hfn ?_⟩
    clear hy
    obtain ⟨DA, DB, s1, s2, s3, s4, s5, s6⟩ := Own.split (A := [blkR (k + 1) (.loop (rec .ready none)), blkR k (.deferred (some []))]) (B := L) ho
    refine hassign (k + 1) pre x W DB L _ hi s2 (fun a' Wa Lx hax hoa => ?_)
    have hua := hoa.upd
    replace hoa := s6 _ _ hoa
    have hla : Wa.heap[k + 1]? = some (.loop (rec .ready none)) := hoa.blk 0 rfl
    refine ⟨_, run_beginRound hla (by rw [hrec]), ?_⟩
    have hob := hoa.put 0 rfl (.loop { rec .ready none with state := .busy })
    have hkb : kpO D w W (Wa.putObj (k + 1) (.loop { rec .ready none with state := .busy })) := (hua.mono (fun b _ hb => s4 b (.inr hb))).trans ((upd_of_grown (grownBy_putObj' Wa (k + 1) _)).mono (fun b _ e => by cases e; right; omega))
    generalize Wa.putObj (k + 1) (.loop { rec .ready none with state := .busy }) = Wb at *
    obtain ⟨DA2, DB2, t1, t2, t3, t4, t5, t6⟩ := Own.split (A := [blkR (k + 1) (.loop { rec .ready none with state := .busy }), blkR k (.deferred (some []))]) (B := L ++ Lx) hob
    refine wpIn_mono (hbody (k + 1) pre x a' Wb DB2 L Lx hi hax hlen hob.upd t2) ?_
    have fin : ∀ (jump : Option Code) (W3 : World) (L' : List Res), Own Wb DB2 W3 L' →
        ∃ W4, (Instr.endRound (k + 1) jump).run P W3 = .ok (.bool jump.isNone) W4 ∧ Own w D W4 (blkR (k + 1) (.loop (rec (if jump.isNone then .ready else .done) jump)) :: blkR k (.deferred (some [])) :: L') ∧ kpO D w W W4 := fun jump W3 L' hoc => by
      have huc := hoc.upd
      replace hoc := t6 _ _ hoc
      have hlc : W3.heap[k + 1]? = some (.loop { rec .ready none with state := .busy }) := hoc.blk 0 rfl
      have her := run_endRound (P := P) jump hlc
      refine ⟨_, her, ?_, (hkb.trans (huc.mono (fun b _ hb => t4 b (.inr hb)))).trans ((upd_of_grown (grownBy_putObj' W3 (k + 1) _)).mono (fun b _ e => by cases e; right; omega))⟩
      have := hoc.put 0 rfl (.loop { ({ rec .ready none with state := .busy } : Loop) with state := if jump.isNone then .ready else .done, pending := jump })
      rw [hrec] at this ⊢
      exact this
    rintro e a3 W3 hp
    cases e with
    | normal => obtain ⟨L', hi', ho'⟩ := hp; obtain ⟨W4, f1, f2, f3⟩ := fin none W3 L' ho'; exact ⟨_, _, f1, .inl ⟨rfl, ⟨_, ⟨L', hi', rfl⟩, f2⟩, f3⟩⟩
    | ret => obtain ⟨L', hi', ho'⟩ := hp; obtain ⟨W4, f1, f2, f3⟩ := fin (some .ret) W3 L' ho'; exact ⟨_, _, f1, .inr ⟨rfl, _, ⟨_, L', hi', rfl⟩, f2⟩⟩
    | exit id => obtain ⟨L', hi', ho'⟩ := hp; obtain ⟨W4, f1, f2, f3⟩ := fin (some (.exit id)) W3 L' ho'; exact ⟨_, _, f1, .inr ⟨rfl, _, ⟨_, L', hi', rfl⟩, f2⟩⟩
    | goto t => obtain ⟨L', hi', ho'⟩ := hp; obtain ⟨W4, f1, f2, f3⟩ := fin (some (.goto t)) W3 L' ho'; exact ⟨_, _, f1, .inr ⟨rfl, _, ⟨_, L', hi', rfl⟩, f2⟩⟩
    | panic ch => exact hp.elim
    | outgrown => exact hp.elim
  · rintro e W2 ⟨⟨v, rfl⟩, (⟨xs, hS, _, ⟨L, hi, rfl⟩, ho⟩ | ⟨pre, hSp, _, ⟨c, L, hi, rfl⟩, ho⟩)⟩
    · have hl : W2.heap[k + 1]? = some (.loop (rec .ready none)) := ho.blk 0 rfl
      have := run_endLoop (P := P) hl (by rw [hrec]; simp)
      rw [hrec] at this
      refine ⟨none, _, this, hdone k xs _ L hS hi ?_⟩
      have h2 := (ho.put 0 rfl (.loop { rec .ready none with state := .exhausted })).drop 1
      rw [hrec] at h2
      exact h2
    · have hl : W2.heap[k + 1]? = some (.loop (rec .done (some c))) := ho.blk 0 rfl
      have := run_endLoop (P := P) hl (by rw [hrec]; simp)
      rw [hrec] at this
      refine ⟨some c, _, this, hstop k c pre _ L hSp hi ?_⟩
      have h2 := (ho.put 0 rfl (.loop { rec .done (some c) with state := .exhausted })).drop 1
      rw [hrec] at h2
      exact h2
end
end Go.Proofs.YthdnonoheochhaaGreatDoor
namespace Go.Proofs.YthdnonoheochhaaGreatDoor
open Go.RowKit Go.Sort
set_option linter.unusedVariables false
set_option maxRecDepth 100000
section
variable {w0 w : World} {D : Nat → Prop} {L : List Res}
end
end Go.Proofs.YthdnonoheochhaaGreatDoor
