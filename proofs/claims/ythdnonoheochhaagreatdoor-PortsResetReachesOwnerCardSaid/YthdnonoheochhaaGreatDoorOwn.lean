/- What a walk owns: a list of things that lie in blocks of their own, of the blocks D of the world w0 or newer. No program in sight. -/
import Derived.Test.YthdnonoheochhaaGreatDoorUpd
namespace Go.Proofs.YthdnonoheochhaaGreatDoor
open Go.RowKit Go.Sort
set_option linter.unusedVariables false
set_option maxRecDepth 100000
structure Res where
  P : World → (Nat → Prop) → Prop
  bound : ∀ {w : World} {F : Nat → Prop}, P w F → ∀ b, F b → b < w.heap.size
  move : ∀ {w w' : World} {F G : Nat → Prop}, P w F → Upd G w w' → (∀ b, F b → ¬ G b) → P w' F
def blkR (b : Nat) (o : Obj) : Res where
  P w F := (∀ x, F x ↔ x = b) ∧ w.heap[b]? = some o
  bound h x hx := by rw [(h.1 x).1 hx]; exact (Array.getElem?_eq_some_iff.1 h.2).1
  move h hu hF := ⟨h.1, (hu.block _ (Array.getElem?_eq_some_iff.1 h.2).1 (hF _ ((h.1 _).2 rfl))).trans h.2⟩
theorem get_len {α : Type} {L : List α} {i : Nat} {R : α} (hi : L[i]? = some R) : i < L.length := by
  rcases Nat.lt_or_ge i L.length with h | h
  · exact h
  · rw [List.getElem?_eq_none h] at hi; cases hi
def rowR (v : Value) (E : TypeId) (sz n : Nat) (xs : List Value) : Res where
  P := fun (w : World) F => (∀ b, F b ↔ v.ownBlock = some b) ∧ w.ownsRow 0 E sz v n xs
  bound h b hb := by
    obtain ⟨h1, h2, h3⟩ := h
    have hb' := (h1 b).1 hb
    rcases h3 with ⟨e, _⟩ | ⟨g, c, cur, e, _, hh, _⟩
    · rw [e] at hb'; cases hb'
    · rw [e] at hb'; cases hb'; exact (Array.getElem?_eq_some_iff.1 hh).1
  move h hu hF := ⟨h.1, hu.row h.2 (fun g hg => hF g ((h.1 g).2 hg))⟩
def sepR (Rs : List Res) : Res where
  P w F := ∃ Fs : Nat → Nat → Prop, (∀ (i : Nat) (R : Res), Rs[i]? = some R → R.P w (Fs i)) ∧ (∀ i j : Nat, i < Rs.length → j < Rs.length → i ≠ j → ∀ b, Fs i b → ¬ Fs j b) ∧ ∀ b, F b ↔ ∃ i, i < Rs.length ∧ Fs i b
  bound h b hb := by
    obtain ⟨Fs, h1, h2, h3⟩ := h
    obtain ⟨i, hi, hf⟩ := (h3 b).1 hb
    exact (Rs[i]).bound (h1 i Rs[i] (List.getElem?_eq_getElem hi)) b hf
  move h hu hF := by
    obtain ⟨Fs, h1, h2, h3⟩ := h
    exact ⟨Fs, fun i R hi => R.move (h1 i R hi) hu (fun b hb => hF b ((h3 b).2 ⟨i, get_len hi, hb⟩)), h2, h3⟩
def exR {α : Type} (f : α → Res) : Res where
  P w F := ∃ a, (f a).P w F
  bound h := by obtain ⟨a, h⟩ := h; exact (f a).bound h
  move h hu hF := by obtain ⟨a, h⟩ := h; exact ⟨a, (f a).move h hu hF⟩
def factR (p : Prop) (R : Res) : Res where
  P w F := p ∧ R.P w F
  bound h := R.bound h.2
  move h hu hF := ⟨h.1, R.move h.2 hu hF⟩
structure Own (w0 : World) (D : Nat → Prop) (w : World) (L : List Res) : Prop where
  upd : Upd D w0 w
  is : ∃ Fs : Nat → Nat → Prop, (∀ i R, L[i]? = some R → R.P w (Fs i) ∧ ∀ b, Fs i b → D b ∨ w0.heap.size ≤ b) ∧ ∀ i j, i < L.length → j < L.length → i ≠ j → ∀ b, Fs i b → ¬ Fs j b
abbrev none0 : Nat → Prop := fun _ => False
section
variable {w0 w w' : World} {D : Nat → Prop} {L : List Res}
theorem Own.nil (w : World) (D : Nat → Prop) : Own w D w [] := ⟨Upd.refl _ _, fun _ _ => False, fun i R h => by simp at h, fun i j h => by simp at h⟩
theorem Own.size (h : Own w0 D w L) : w0.heap.size ≤ w.heap.size := h.upd.size
theorem Own.below (h : Own w0 none0 w L) : Below w0.heap.size w0 w := h.upd.none
theorem Own.stay (h : Own w0 D w L) (hb : Below w.heap.size w w') : Own w0 D w' L := by
  obtain ⟨h1, Fs, h2, h3⟩ := h
  exact ⟨h1.thenB hb, Fs, fun i R hi => ⟨R.move (h2 i R hi).1 (Upd.of_below (F := fun _ => False) hb) (fun _ _ h => h), (h2 i R hi).2⟩, h3⟩
theorem Own.step (h : Own w0 D w L) {i : Nat} {R : Res} (hi : L[i]? = some R) :
    ∃ F, R.P w F ∧ (∀ b, F b → D b ∨ w0.heap.size ≤ b) ∧ ∀ {w' : World} {R' : Res} {F' : Nat → Prop}, R'.P w' F' → (∀ b, F' b → F b ∨ w.heap.size ≤ b) → Upd F w w' → Own w0 D w' (L.set i R') := by
  obtain ⟨h1, Fs, h2, h3⟩ := h
  have hil := get_len hi
  refine ⟨Fs i, (h2 i R hi).1, (h2 i R hi).2, fun {w' R' F'} hR' hF' hu => ⟨h1.then hu (fun b hb hf => ((h2 i R hi).2 b hf).elim id (fun h => by omega)), fun j => if j = i then F' else Fs j, fun j Q hj => ?_, fun j k hj hk hjk b => ?_⟩⟩
  · dsimp only
    by_cases e : j = i
    · subst e
      rw [List.getElem?_set_self hil] at hj
      cases hj
      rw [if_pos rfl]
      exact ⟨hR', fun b hb => (hF' b hb).elim ((h2 j R hi).2 b) (fun h => .inr (Nat.le_trans h1.size h))⟩
    · rw [List.getElem?_set_ne (fun h => e h.symm)] at hj
      rw [if_neg e]
      exact ⟨Q.move (h2 j Q hj).1 hu (h3 j i (get_len hj) hil e), (h2 j Q hj).2⟩
  · rw [List.length_set] at hj hk
    have key : ∀ k, k < L.length → k ≠ i → ∀ b, F' b → ¬ Fs k b := fun k hk e b hb hkb => by
      rcases hF' b hb with h | h
      · exact h3 i k hil hk (fun h => e h.symm) b h hkb
      · have := (L[k]).bound (h2 k L[k] (List.getElem?_eq_getElem hk)).1 b hkb
        omega
    dsimp only
    by_cases e1 : j = i
    · by_cases e2 : k = i
      · exact absurd (e1.trans e2.symm) hjk
      · rw [if_pos e1, if_neg e2]; exact key k hk e2 b
    · by_cases e2 : k = i
      · rw [if_neg e1, if_pos e2]; exact fun a c => key j hj e1 b c a
      · rw [if_neg e1, if_neg e2]; exact h3 j k hj hk hjk b
theorem Own.push (h : Own w0 D w L) {R : Res} {F : Nat → Prop} (hR : R.P w' F) (hF : ∀ b, F b → w.heap.size ≤ b) (hb : Below w.heap.size w w') : Own w0 D w' (L ++ [R]) := by
  obtain ⟨h1, Fs, h2, h3⟩ := h
  have hold : ∀ j Q, j < L.length → (L ++ [R])[j]? = some Q → L[j]? = some Q := fun j Q hj hQ => by rwa [List.getElem?_append_left hj] at hQ
  refine ⟨h1.thenB hb, fun j => if j < L.length then Fs j else F, fun j Q hj => ?_, fun j k hj hk hjk b => ?_⟩
  · dsimp only
    by_cases e : j < L.length
    · rw [if_pos e]
      have := hold j Q e hj
      exact ⟨Q.move (h2 j Q this).1 (Upd.of_below (F := fun _ => False) hb) (fun _ _ h => h), (h2 j Q this).2⟩
    · rw [if_neg e]
      have hjl := get_len hj
      simp only [List.length_append, List.length_cons, List.length_nil] at hjl
      obtain rfl : j = L.length := by omega
      rw [List.getElem?_append_right (Nat.le_refl _), Nat.sub_self] at hj
      cases hj
      exact ⟨hR, fun b hb => .inr (Nat.le_trans h1.size (hF b hb))⟩
  · simp only [List.length_append, List.length_cons, List.length_nil] at hj hk
    have key : ∀ k, k < L.length → ∀ b, F b → ¬ Fs k b := fun k hk b hb hkb => by
      have := (L[k]).bound (h2 k L[k] (List.getElem?_eq_getElem hk)).1 b hkb
      have := hF b hb
      omega
    dsimp only
    by_cases e1 : j < L.length
    · by_cases e2 : k < L.length
      · rw [if_pos e1, if_pos e2]; exact h3 j k e1 e2 hjk b
      · rw [if_pos e1, if_neg e2]; exact fun a c => key j e1 b c a
    · by_cases e2 : k < L.length
      · rw [if_neg e1, if_pos e2]; exact key k e2 b
      · omega
theorem Own.alloc (h : Own w0 D w L) (o : Obj) : Own w0 D (w.alloc o) (L ++ [blkR w.heap.size o]) :=
  h.push (R := blkR w.heap.size o) (F := fun b => b = w.heap.size) ⟨fun _ => Iff.rfl, by show (w.heap.push o)[w.heap.size]? = _; simp⟩ (fun b hb => by rw [hb]; exact Nat.le_refl _) (below_one w o)
theorem Own.take (h : Own w0 D w L) (n : Nat) : Own w0 D w (L.take n) := by
  obtain ⟨h1, Fs, h2, h3⟩ := h
  refine ⟨h1, Fs, fun i R hi => ?_, fun i j hi hj => h3 i j (by simp at hi; omega) (by simp at hj; omega)⟩
  rw [List.getElem?_take] at hi
  split at hi
  · exact h2 i R hi
  · cases hi
theorem Own.pick (h : Own w0 D w L) (is : List Nat) (hn : is.Nodup) {L' : List Res} (hL : ∀ (k : Nat) (R : Res), L'[k]? = some R → ∃ i : Nat, is[k]? = some i ∧ L[i]? = some R) : Own w0 D w L' := by
  obtain ⟨h1, Fs, h2, h3⟩ := h
  refine ⟨h1, fun k => Fs (is.getD k 0), fun k R hk => ?_, fun j k hj hk hjk => ?_⟩
  · obtain ⟨i, hi, hR⟩ := hL k R hk
    have e : is.getD k 0 = i := by simp [hi]
    dsimp only; rw [e]
    exact h2 i R hR
  · obtain ⟨i1, hi1, hR1⟩ := hL j _ (List.getElem?_eq_getElem hj)
    obtain ⟨i2, hi2, hR2⟩ := hL k _ (List.getElem?_eq_getElem hk)
    have e1 : is.getD j 0 = i1 := by simp [hi1]
    have e2 : is.getD k 0 = i2 := by simp [hi2]
    dsimp only; rw [e1, e2]
    obtain ⟨l1, g1⟩ := List.getElem?_eq_some_iff.1 hi1
    obtain ⟨l2, g2⟩ := List.getElem?_eq_some_iff.1 hi2
    exact h3 i1 i2 (get_len hR1) (get_len hR2) (fun e => hjk (by
      have hp := List.pairwise_iff_getElem.1 hn
      rcases Nat.lt_trichotomy j k with h | h | h
      · exact absurd (g1.trans (e.trans g2.symm)) (hp j k l1 l2 h)
      · exact h
      · exact absurd (g2.trans (e.symm.trans g1.symm)) (hp k j l2 l1 h)))
theorem Own.blk (h : Own w0 D w L) (i : Nat) {b : Nat} {o : Obj} (hi : L[i]? = some (blkR b o)) : w.heap[b]? = some o := by
  obtain ⟨F, h1, _⟩ := h.step hi; exact h1.2
theorem Own.cell (h : Own w0 D w L) (i : Nat) {b : Nat} {c : Array Value} {t : TypeId} (hi : L[i]? = some (blkR b (.cells c t))) (j : Nat) {u : Value} (hj : c[j]? = some u) : w.cell? ⟨b, j, none⟩ = some u := by
  have := h.blk i hi; simp [World.cell?, this, hj]
theorem Own.frz (h : Own w0 D w L) (i : Nat) {b : Nat} {c : Array Value} {t : TypeId} (hi : L[i]? = some (blkR b (.cells c t))) (j : Nat) : w.frozen? ⟨b, j, none⟩ = false := by
  have := h.blk i hi; simp [World.frozen?, this]
theorem blk_setc {b : Nat} {c : Array Value} {t : TypeId} (h : w.heap[b]? = some (.cells c t)) (i : Nat) (v : Value) : (w.setCell ⟨b, i, none⟩ v).heap[b]? = some (.cells (c.setIfInBounds i v) t) := by
  have hlt := (Array.getElem?_eq_some_iff.1 h).1
  have h' : w.heap[b] = .cells c t := by simpa [Array.getElem?_eq_getElem hlt] using h
  show (w.heap.modify b _)[b]? = _
  rw [Array.getElem?_eq_getElem (by simpa using hlt), Array.getElem_modify_self, h']
  rfl
theorem Own.setCell (h : Own w0 D w L) (i : Nat) {b : Nat} {c : Array Value} {t : TypeId} (hi : L[i]? = some (blkR b (.cells c t))) (j : Nat) (v : Value) : Own w0 D (w.setCell ⟨b, j, none⟩ v) (L.set i (blkR b (.cells (c.setIfInBounds j v) t))) := by
  obtain ⟨F, h1, h2, h3⟩ := h.step hi
  refine h3 (R' := blkR b (.cells (c.setIfInBounds j v) t)) (F' := F) ⟨h1.1, blk_setc h1.2 j v⟩ (fun b hb => .inl hb) ?_
  exact Upd.setCell (p := ⟨b, j, none⟩) (Upd.refl F w) (fun _ => (h1.1 b).2 rfl) v
theorem Own.lt (h : Own w0 D w L) (i : Nat) {b : Nat} {o : Obj} (hi : L[i]? = some (blkR b o)) : b < w.heap.size := (Array.getElem?_eq_some_iff.1 (h.blk i hi)).1
theorem Own.one {R : Res} {F : Nat → Prop} (hR : R.P w F) : Own w F w [R] :=
  ⟨Upd.refl _ _, fun _ => F, fun i Q hi => by cases i with | zero => cases hi; exact ⟨hR, fun _ h => .inl h⟩ | succ i => simp at hi, fun i j hi hj hij => by simp at hi hj; omega⟩
theorem Own.two {R1 R2 : Res} {F1 F2 : Nat → Prop} (h1 : R1.P w F1) (h2 : R2.P w F2) (hd : ∀ b, F1 b → ¬ F2 b) : Own w (fun b => F1 b ∨ F2 b) w [R1, R2] :=
  ⟨Upd.refl _ _, fun i => if i = 0 then F1 else F2, fun i Q hi => by
    match i, hi with
    | 0, hi => cases hi; exact ⟨h1, fun _ h => .inl (.inl h)⟩
    | 1, hi => cases hi; exact ⟨h2, fun _ h => .inl (.inr h)⟩,
    fun i j hi hj hij b => by
      simp at hi hj
      have : (i = 0 ∧ j = 1) ∨ (i = 1 ∧ j = 0) := by omega
      rcases this with ⟨rfl, rfl⟩ | ⟨rfl, rfl⟩
      · exact hd b
      · exact fun a c => hd b c a⟩
theorem Own.open {Rs : List Res} (h : Own w0 D w [sepR Rs]) : Own w0 D w Rs := by
  obtain ⟨h1, Gs, h2, h3⟩ := h
  obtain ⟨⟨Fs, f1, f2, f3⟩, hd⟩ := h2 0 (sepR Rs) rfl
  exact ⟨h1, Fs, fun i R hi => ⟨f1 i R hi, fun b hb => hd b ((f3 b).2 ⟨i, get_len hi, hb⟩)⟩, f2⟩
theorem Own.row (h : Own w0 D w L) (i : Nat) {v : Value} {E : TypeId} {sz n : Nat} {xs : List Value} (hi : L[i]? = some (rowR v E sz n xs)) : w.ownsRow 0 E sz v n xs := by
  obtain ⟨F, h1, _⟩ := h.step hi; exact h1.2
theorem Own.rowTo (h : Own w0 D w L) (i : Nat) {v : Value} {E : TypeId} {sz n : Nat} {xs : List Value} (hi : L[i]? = some (rowR v E sz n xs)) {v' : Value} {n' : Nat} {xs' : List Value}
    (hr : w'.ownsRow 0 E sz v' n' xs') (hu : Upd (fun b => v.ownBlock = some b) w w') (hn : ∀ g, v'.ownBlock = some g → v.ownBlock = some g ∨ w.heap.size ≤ g) : Own w0 D w' (L.set i (rowR v' E sz n' xs')) := by
  obtain ⟨F, h1, h2, h3⟩ := h.step hi
  exact h3 (R' := rowR v' E sz n' xs') (F' := fun b => v'.ownBlock = some b) ⟨fun _ => Iff.rfl, hr⟩ (fun b hb => (hn b hb).imp (h1.1 b).2 id) (hu.mono fun b _ hb => (h1.1 b).2 hb)
theorem Own.rowNew (h : Own w0 D w L) (E : TypeId) (sz : Nat) : Own w0 D w (L ++ [rowR (.slice none 0 0) E sz 0 []]) :=
  h.push (R := rowR (.slice none 0 0) E sz 0 []) (F := fun _ => False) ⟨fun b => ⟨fun h => h.elim, fun h => by cases h⟩, World.ownsRow_nil w _ _ _⟩ (fun _ h => h.elim) (Below.refl _ _)
end
section
variable {w0 w : World} {D : Nat → Prop} {L : List Res}
theorem Own.setE (h : Own w0 D w L) (i : Nat) {b : Nat} {c : Array Value} {t : TypeId} (hi : L[i]? = some (blkR b (.cells c t))) (j : Nat) (v : Value) : ∃ x, w.setCell ⟨b, j, none⟩ v = x ∧ Own w0 D x (L.set i (blkR b (.cells (c.setIfInBounds j v) t))) := ⟨_, rfl, h.setCell i hi j v⟩
end
section
variable {w0 w : World} {D : Nat → Prop} {L : List Res}
theorem Own.c1 (h : Own w0 D w L) (i : Nat) {b : Nat} {t : TypeId} {a0 : Value} (hi : L[i]? = some (blkR b (.cells #[a0] t))) : w.cell? ⟨b, 0, none⟩ = some a0 := h.cell i hi 0 rfl
theorem Own.c2 (h : Own w0 D w L) (i : Nat) {b : Nat} {t : TypeId} {a0 a1 : Value} (hi : L[i]? = some (blkR b (.cells #[a0, a1] t))) : w.cell? ⟨b, 0, none⟩ = some a0 ∧ w.cell? ⟨b, 1, none⟩ = some a1 := ⟨h.cell i hi 0 rfl, h.cell i hi 1 rfl⟩
theorem Own.c3 (h : Own w0 D w L) (i : Nat) {b : Nat} {t : TypeId} {a0 a1 a2 : Value} (hi : L[i]? = some (blkR b (.cells #[a0, a1, a2] t))) : w.cell? ⟨b, 0, none⟩ = some a0 ∧ w.cell? ⟨b, 1, none⟩ = some a1 ∧ w.cell? ⟨b, 2, none⟩ = some a2 := ⟨h.cell i hi 0 rfl, h.cell i hi 1 rfl, h.cell i hi 2 rfl⟩
theorem Own.c4 (h : Own w0 D w L) (i : Nat) {b : Nat} {t : TypeId} {a0 a1 a2 a3 : Value} (hi : L[i]? = some (blkR b (.cells #[a0, a1, a2, a3] t))) : w.cell? ⟨b, 0, none⟩ = some a0 ∧ w.cell? ⟨b, 1, none⟩ = some a1 ∧ w.cell? ⟨b, 2, none⟩ = some a2 ∧ w.cell? ⟨b, 3, none⟩ = some a3 := ⟨h.cell i hi 0 rfl, h.cell i hi 1 rfl, h.cell i hi 2 rfl, h.cell i hi 3 rfl⟩
end
section
variable {w0 w : World} {D : Nat → Prop} {L : List Res} {b : Nat} {t : TypeId} {a0 a1 a2 a3 a4 a5 a6 a7 a8 a9 : Value}
theorem Own.g2 (h : Own w0 D w L) (i : Nat) (hi : L[i]? = some (blkR b (.cells #[a0, a1] t))) : (∀ d os, (grow (redrawn w d) os).cell? ⟨b, 0, none⟩ = some a0) ∧ (∀ d os, (grow (redrawn w d) os).cell? ⟨b, 1, none⟩ = some a1) := ⟨cell_regrown (h.cell i hi 0 rfl), cell_regrown (h.cell i hi 1 rfl)⟩
theorem Own.g3 (h : Own w0 D w L) (i : Nat) (hi : L[i]? = some (blkR b (.cells #[a0, a1, a2] t))) : (∀ d os, (grow (redrawn w d) os).cell? ⟨b, 0, none⟩ = some a0) ∧ (∀ d os, (grow (redrawn w d) os).cell? ⟨b, 1, none⟩ = some a1) ∧ (∀ d os, (grow (redrawn w d) os).cell? ⟨b, 2, none⟩ = some a2) := ⟨cell_regrown (h.cell i hi 0 rfl), cell_regrown (h.cell i hi 1 rfl), cell_regrown (h.cell i hi 2 rfl)⟩
theorem Own.g4 (h : Own w0 D w L) (i : Nat) (hi : L[i]? = some (blkR b (.cells #[a0, a1, a2, a3] t))) : (∀ d os, (grow (redrawn w d) os).cell? ⟨b, 0, none⟩ = some a0) ∧ (∀ d os, (grow (redrawn w d) os).cell? ⟨b, 1, none⟩ = some a1) ∧ (∀ d os, (grow (redrawn w d) os).cell? ⟨b, 2, none⟩ = some a2) ∧ (∀ d os, (grow (redrawn w d) os).cell? ⟨b, 3, none⟩ = some a3) := ⟨cell_regrown (h.cell i hi 0 rfl), cell_regrown (h.cell i hi 1 rfl), cell_regrown (h.cell i hi 2 rfl), cell_regrown (h.cell i hi 3 rfl)⟩
end
end Go.Proofs.YthdnonoheochhaaGreatDoor
