/- A range over a method value (an iterator whose receiver comes first): the law, out of the library's single steps. No program in sight. -/
import Derived.RangeFuncNested
import Derived.RangeFuncFrom
import Derived.RangeFuncLeaves
import Derived.RangeFuncCalls
import Derived.Test.YthkkhgfdppbphaaBase
namespace Go.Proofs.Ythkkhgfdppbphaa
open Go.RowKit
set_option linter.unusedVariables false

/-- An iterator that takes its receiver first: whatever the caller's loop keeps (J) while it goes on, and leaves (Jx) where it breaks off. -/
def SeqFirst {α : Type} (F : Fence) (n : Nat) (P : Program) (gf : Nat) (fb : Array Value) (encs : α → Array Value) (B0 : Nat) (S Sp : List α → Prop) (Nx : List α → α → Prop) (w : World) : Prop :=
  ∀ (l : Nat) (J Jx : List α → World → Prop) (W : World), Below w.heap.size w W → AbidesFrom W.heap.size J → AbidesFrom W.heap.size Jx →
    (∀ pre x W1, J pre W1 → Nx pre x → YieldAt F (n - 1) P l (encs x) W1 fun e W' => (e = .returned (.bool true) ∧ J (pre ++ [x]) W' ∧ Below B0 W1 W') ∨ (e = .returned (.bool false) ∧ Jx (pre ++ [x]) W')) →
    J [] W → CallsIn F n P gf (fb ++ #[.func (.yield l) #[] #[]]) W fun e W' => (∃ v, e = .returned v) ∧ ((∃ xs, S xs ∧ J xs W') ∨ (∃ pre, Sp pre ∧ Jx pre W'))

/-- The loop's own block, in a given state. -/
def loopIs (D fn : Nat) (tm : Array Value) (ps : Array Tmp) (assign body : Code) (st : LoopState) (pe : Option Code) : Obj := .loop { state := st, pending := pe, fn := fn, tmps := tm, params := ps, assign := assign, body := body, defers := D }
/-- The two blocks of book-keeping of a loop: its mark at D, itself at D + 1. -/
def Book (D fn : Nat) (tm : Array Value) (ps : Array Tmp) (assign body : Code) (st : LoopState) (pe : Option Code) (W : World) : Prop :=
  W.heap[D + 1]? = some (loopIs D fn tm ps assign body st pe) ∧ W.heap[D]? = some (.deferred (some []))

theorem Book.kept {D fn : Nat} {tm : Array Value} {ps : Array Tmp} {assign body : Code} {st : LoopState} {pe : Option Code} {A B : World} {row : Option Nat} (h : Book D fn tm ps assign body st pe A) (hg : A.grownBy B row) (hr : ∀ r, row = some r → ∃ o : Obj, A.heap[r]? = some o ∧ o.isWalk = true) : Book D fn tm ps assign body st pe B :=
  ⟨(grownBy_keeps hg hr h.1 rfl).trans h.1, (grownBy_keeps hg hr h.2 rfl).trans h.2⟩
theorem Book.put {D fn : Nat} {tm : Array Value} {ps : Array Tmp} {assign body : Code} {st st' : LoopState} {pe pe' : Option Code} {A : World} (h : Book D fn tm ps assign body st pe A) : Book D fn tm ps assign body st' pe' (A.putObj (D + 1) (loopIs D fn tm ps assign body st' pe')) :=
  ⟨World.putObj_heap_same (Array.getElem?_eq_some_iff.1 h.1).1, (World.putObj_heap_other (by omega)).trans h.2⟩
theorem Book.others {D fn : Nat} {tm : Array Value} {ps : Array Tmp} {assign body : Code} {st : LoopState} {pe : Option Code} {A B : World} (h : Book D fn tm ps assign body st pe A) (hk : KeepsOthers A B) : Book D fn tm ps assign body st pe B :=
  ⟨hk.same _ _ h.1 rfl, hk.same _ _ h.2 rfl⟩
theorem below_putObj {B D : Nat} (W : World) (o : Obj) (hB : B ≤ D + 1) (hs : B ≤ W.heap.size) : Below B W (W.putObj (D + 1) o) := (Below.refl B W).grown (grownBy_putObj' W (D + 1) o) hs (fun k e => by cases e; exact hB)

section
variable {α : Type} {F : Fence} {n : Nat} {P : Program} {ps : Array Tmp} {assign body : Code} {a : Act} {w : World} {encs : α → Array Value} {B0 : Nat} {I : List α → World → Prop} {Ix : Code → List α → World → Prop} {a₁ : α → Nat → Act} {Nx : List α → α → Prop} {bx : α → Obj}

/-- One round of the caller's loop. -/
theorem first_round (hB0 : B0 ≤ w.heap.size) (hps : ∀ x, (encs x).size = ps.size) (hI : OwnFrom w.heap.size I) (hIx : ∀ c, OwnFrom w.heap.size (Ix c))
    (hassign : ∀ (l : Nat) (x : α) (W : World) (K : Act → World → Prop), K (a₁ x W.heap.size) (W.alloc (bx x)) → assign.wpIn (F.inRound l) (n - 1 - 1) P (Exit.then K (fun _ _ _ => False)) { tmps := (ps.zip (encs x)).foldl (fun t (p, v) => t.setIfInBounds p v) a.tmps, defers := [] } W)
    (hbody : ∀ (l : Nat) (pre : List α) (x : α) (b : Nat) (W : World), I pre W → Nx pre x → W.heap[b]? = some (bx x) → w.heap.size ≤ b → (∃ Wp, I pre Wp ∧ Wp.heap.size = b ∧ ∀ ad v, Wp.cell? ad = some v → W.cell? ad = some v) → body.wpIn (F.inRound l) (n - 1 - 1) P (ownPostK (Below B0) I Ix (pre ++ [x]) W) (a₁ x b) W)
    {fn : Nat} (hfn : F.fn fn) (pre : List α) (x : α) (W : World) (hi : I pre W) (hbk : Book w.heap.size fn a.tmps ps assign body .ready none W) (hlen : Nx pre x) :
    YieldAt F (n - 1 - 1) P (w.heap.size + 1) (encs x) W fun e W' =>
      (e = .returned (.bool true) ∧ (I (pre ++ [x]) W' ∧ Book w.heap.size fn a.tmps ps assign body .ready none W') ∧ Below B0 W W') ∨
      (e = .returned (.bool false) ∧ ∃ c, Ix c (pre ++ [x]) W' ∧ Book w.heap.size fn a.tmps ps assign body .done (some c) W') := by
  have hlt : w.heap.size + 1 < W.heap.size := (Array.getElem?_eq_some_iff.1 hbk.1).1
  have hal := (Below.refl W.heap.size W).alloc (Nat.le_refl _) (bx x)
  have hga : W.grownBy (W.alloc (bx x)) none := ⟨hal.os, hal.tape, hal.output, hal.size, fun k hk _ => hal.block k hk⟩
  have hbm := hbk.kept hga (fun r e => by cases e)
  have him : I pre (W.alloc (bx x)) := hI pre W _ none hi hga (fun r e => by cases e)
  refine ⟨fn, _, assign, body, run_yield (P := P) (args := encs x) hbk.1 (hps x), roundIn_of_wpIn hfn (hassign _ x W _ ⟨_, run_beginRound hbm.1 rfl, ?_⟩)⟩
  have hbusy : Book w.heap.size fn a.tmps ps assign body .busy none ((W.alloc (bx x)).putObj (w.heap.size + 1) (loopIs w.heap.size fn a.tmps ps assign body .busy none)) := hbm.put
  have hw2 : Below B0 W ((W.alloc (bx x)).putObj (w.heap.size + 1) (loopIs w.heap.size fn a.tmps ps assign body .busy none)) := (hal.mono (by omega)).trans (below_putObj (B := B0) (D := w.heap.size) _ _ (by omega) (by simp; omega))
  have hbxx : ((W.alloc (bx x)).putObj (w.heap.size + 1) (loopIs w.heap.size fn a.tmps ps assign body .busy none)).heap[W.heap.size]? = some (bx x) := (World.putObj_heap_other (by omega)).trans (World.alloc_heap_new W _)
  refine wpIn_mono (hbody _ pre x W.heap.size _ (hI.putObj _ him (by omega) hbm.1 rfl) hlen hbxx (by omega) ⟨W, hi, rfl, fun ad v hv => ?hcells⟩) ?_
  case hcells =>
    have hav : ad.block < W.heap.size := block_lt_of_cell hv
    have hne : ad.block ≠ w.heap.size + 1 := fun e => by
      have := hbk.1
      rw [← e] at this
      simp [World.cell?, this, loopIs] at hv
    rw [World.cell?_of_block (World.putObj_heap_other hne)]
    exact keep hal hv
  -- how the round ends, wherever it goes
  have stop : ∀ (c : Code) (W3 : World), KeepsOthers ((W.alloc (bx x)).putObj (w.heap.size + 1) (loopIs w.heap.size fn a.tmps ps assign body .busy none)) W3 → Ix c (pre ++ [x]) W3 →
      ∃ v W4, (Instr.endRound (w.heap.size + 1) (some c)).run P W3 = .ok v W4 ∧ ((Ending.returned v = .returned (.bool true) ∧ (I (pre ++ [x]) W4 ∧ Book w.heap.size fn a.tmps ps assign body .ready none W4) ∧ Below B0 W W4) ∨
        (Ending.returned v = .returned (.bool false) ∧ ∃ c, Ix c (pre ++ [x]) W4 ∧ Book w.heap.size fn a.tmps ps assign body .done (some c) W4)) := by
    intro c W3 hk3 hi3
    have hb3 := hbusy.others hk3
    exact ⟨_, _, run_endRound (P := P) (some c) hb3.1, .inr ⟨rfl, c, (hIx c).putObj _ hi3 (by omega) hb3.1 rfl, hb3.put⟩⟩
  rintro e a3 W3 hp
  match e, hp with
  | .normal, ⟨hk3, hkp3, hi3⟩ =>
    have hb3 := hbusy.others hk3
    have hs3 : B0 ≤ W3.heap.size := by have := (Array.getElem?_eq_some_iff.1 hb3.1).1; omega
    exact ⟨_, _, run_endRound (P := P) none hb3.1, .inl ⟨rfl, ⟨hI.putObj _ hi3 (by omega) hb3.1 rfl, hb3.put⟩, (hw2.trans hkp3).trans (below_putObj W3 _ (by omega) hs3)⟩⟩
  | .ret, ⟨hk3, hi3⟩ => exact stop .ret W3 hk3 hi3
  | .exit id, ⟨hk3, hi3⟩ => exact stop (.exit id) W3 hk3 hi3
  | .goto t, ⟨hk3, hi3⟩ => exact stop (.goto t) W3 hk3 hi3
end

/-- **A RANGE OVER A METHOD VALUE.** -/
theorem range_first {α : Type} {F : Fence} {n : Nat} {P : Program} {g : Operand} {ps : Array Tmp} {assign body : Code} {Q : Exit → Act → World → Prop} {a : Act} {w : World}
    (hro : F.round = none) (h1 : 1 ≤ n) {gf : Nat} {fb : Array Value} (hg : a.eval g = .func (.func gf) fb #[]) (hFg : F.fn gf) (eg : ∀ args w, (callFunc gf args).run P w = .ok (.enter gf args) w)
    {encs : α → Array Value} {B0 : Nat} {S Sp : List α → Prop} {Nx : List α → α → Prop} {w0 : World} (hseq : SeqFirst F (n - 1) P gf fb encs B0 S Sp Nx w0) (hb0 : Below w0.heap.size w0 w) (hB0 : B0 ≤ w.heap.size) (hps : ∀ x, (encs x).size = ps.size)
    (I : List α → World → Prop) (Ix : Code → List α → World → Prop) (hI : OwnFrom w.heap.size I) (hIx : ∀ c, OwnFrom w.heap.size (Ix c)) (h0 : I [] w) (a₁ : α → Nat → Act) (bx : α → Obj)
    (hassign : ∀ (l : Nat) (x : α) (W : World) (K : Act → World → Prop), K (a₁ x W.heap.size) (W.alloc (bx x)) → assign.wpIn (F.inRound l) (n - 1 - 1) P (Exit.then K (fun _ _ _ => False)) { tmps := (ps.zip (encs x)).foldl (fun t (p, v) => t.setIfInBounds p v) a.tmps, defers := [] } W)
    (hbody : ∀ (l : Nat) (pre : List α) (x : α) (b : Nat) (W : World), I pre W → Nx pre x → W.heap[b]? = some (bx x) → w.heap.size ≤ b → (∃ Wp, I pre Wp ∧ Wp.heap.size = b ∧ ∀ ad v, Wp.cell? ad = some v → W.cell? ad = some v) → body.wpIn (F.inRound l) (n - 1 - 1) P (ownPostK (Below B0) I Ix (pre ++ [x]) W) (a₁ x b) W)
    (hdone : ∀ (D : Nat) (xs : List α) (W : World), w.heap.size ≤ D → S xs → I xs W → W.heap[D]? = some (.deferred (some [])) → Q .normal { a with defers := { target := .collected D, args := #[] } :: a.defers } W)
    (hstop : ∀ (D : Nat) (c : Code) (pre : List α) (W : World), w.heap.size ≤ D → Sp pre → Ix c pre W → W.heap[D]? = some (.deferred (some [])) → c.wpIn F n P Q { a with defers := { target := .collected D, args := #[] } :: a.defers } W) :
    (Code.rangeFunc g ps assign body).wpIn F n P Q a w := by
  refine wpIn_rangeFunc fun fn hfn => ?_
  rw [hro]
  generalize hW1 : (w.alloc (.deferred (some []))).alloc (loopIs w.heap.size fn a.tmps ps assign body .ready none) = W1
  have hsz : W1.heap.size = w.heap.size + 2 := by rw [← hW1]; simp
  have hbk : Book w.heap.size fn a.tmps ps assign body .ready none W1 := by
    rw [← hW1]
    refine ⟨?_, (Below.heap_alloc _ _ _ (by simp)).trans (World.alloc_heap_new w _)⟩
    have := World.alloc_heap_new (w.alloc (.deferred (some []))) (loopIs w.heap.size fn a.tmps ps assign body .ready none)
    rwa [World.size_alloc] at this
  have hgrow : Below w.heap.size w W1 := by rw [← hW1]; exact ((Below.refl _ w).alloc (Nat.le_refl _) _).alloc (by simp) _
  refine ⟨w.heap.size + 1, [{ target := .collected w.heap.size, args := #[] }], W1, { target := .fn (.func gf) #[], args := fb ++ #[.func (.yield (w.heap.size + 1)) #[] #[]] }, W1, gf, fb ++ #[.func (.yield (w.heap.size + 1)) #[] #[]], W1, ?_, ?_, ?_, ?_, fun _ => h1, ?_⟩
  · rw [← hW1]; exact run_enterLoop_outer _ _ _ _ _
  · simp only [resolve, hg]
    simp [go_sem]
  · intro f' hf'; simp [Target.leads] at hf'; subst hf'; exact hFg
  · simp [invoke, go_sem, eg]
  · have wide : ∀ {A : World} {row : Option Nat}, (∀ r, row = some r → W1.heap.size ≤ r ∧ ∃ o : Obj, A.heap[r]? = some o ∧ o.isWalk = true) → (∀ r, row = some r → w.heap.size ≤ r ∧ ∃ o : Obj, A.heap[r]? = some o ∧ o.isCells = false) := by
      intro A row hr r e
      obtain ⟨hB, o, ho, hw⟩ := hr r e
      exact ⟨by omega, o, ho, Obj.not_cells_of_walk hw⟩
    refine (hseq (w.heap.size + 1) (fun pre W => I pre W ∧ Book w.heap.size fn a.tmps ps assign body .ready none W) (fun pre W => ∃ c, Ix c pre W ∧ Book w.heap.size fn a.tmps ps assign body .done (some c) W) W1
      (hb0.trans (hgrow.mono hb0.size))
      (fun s A B row hs hg' hr => ⟨hI s A B row hs.1 hg' (wide hr), hs.2.kept hg' (fun r e => (hr r e).2)⟩)
      (fun s A B row ⟨c, hc, hk⟩ hg' hr => ⟨c, hIx c s A B row hc hg' (wide hr), hk.kept hg' (fun r e => (hr r e).2)⟩)
      (fun pre x W hi hlen => first_round hB0 hps hI hIx hassign hbody hfn pre x W hi.1 hi.2 hlen)
      ⟨hI [] w W1 none h0 ⟨hgrow.os, hgrow.tape, hgrow.output, hgrow.size, fun k hk _ => hgrow.block k hk⟩ (fun r e => by cases e), hbk⟩).mono ?_
    rintro e W2 ⟨⟨v, rfl⟩, (⟨xs, hS, hi, hk⟩ | ⟨pre, hSp, c, hi, hk⟩)⟩
    · exact ⟨none, _, run_endLoop (P := P) hk.1 (by simp), hdone _ xs _ (Nat.le_refl _) hS (hI.putObj _ hi (by omega) hk.1 rfl) ((World.putObj_heap_other (by omega)).trans hk.2)⟩
    · exact ⟨some c, _, run_endLoop (P := P) hk.1 (by simp), hstop _ c pre _ (Nat.le_refl _) hSp ((hIx c).putObj _ hi (by omega) hk.1 rfl) ((World.putObj_heap_other (by omega)).trans hk.2)⟩

end Go.Proofs.Ythkkhgfdppbphaa
