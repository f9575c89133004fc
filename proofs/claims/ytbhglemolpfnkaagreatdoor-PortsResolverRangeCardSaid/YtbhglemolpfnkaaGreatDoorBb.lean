/- The region that draws, makes memory and changes it (XRegG, XRegH), with operations of the head that have no destination: stores. -/
import Derived.Test.YtbhglemolpfnkaaGreatDoorBa
import Derived.ArgAppend
import Derived.Laws.AppendOwn
set_option linter.unusedVariables false
set_option maxRecDepth 100000
set_option maxHeartbeats 32000000
namespace Go.Proofs.YtbhglemolpfnkaaGreatDoor
open Go.RowKit Go.Sort

section
variable {Γ : Ghost} {P : Program} {ops : Array Oper} {chain : List Nat} {n : Nat} {a0 : Act} {G : List GPred} {Q : Exit → Act → World → Prop}

end
theorem wp_append_run {P : Program} {o : Oper} {a : Act} {w w' : World} {s x : Operand} {t : TypeId} {v u v' : Value} {K : Act → World → Prop} {Q : Exit → Act → World → Prop} (ho : o.op = .call { callee := .builtin .append, args := #[s, x], argTypes := #[t, t] })
  (hs : a.eval s = v) (hx : a.eval x = u) (hrun : (Builtin.append_ #[t, t] o.type #[v, u]).run P w = .ok v' w') (hK : K (a.put o.dst v') w') : o.wp P a w K Q := by
 unfold Oper.wp execOp
 simp only [ho, resolve, invoke, builtin, Sem.run_bind, Sem.run_pure, Result.andThen_ok, List.map_toArray, List.map_cons, List.map_nil, hs, hx, hrun]
 exact hK

section
variable {P : Program} {o : Oper} {a : Act} {w : World} {Q : Exit → Act → World → Prop}
end

theorem wp_next {P : Program} {o : Oper} {a : Act} {w : World} {K1 K2 : Act → World → Prop} {Q : Exit → Act → World → Prop} (h : o.wp P a w K1 Q) (hk : ∀ a' w', K1 a' w' → K2 a' w') : o.wp P a w K2 Q := upon_mono hk (fun _ _ _ h => h) h

def gblk (Γ : Ghost) (B : Nat) (V : Nat → Value) (o : Obj) : GPred := fun v g => ∃ b, v = V b ∧ B ≤ b ∧ g.w.heap[b]? = some o ∧ ¬ Γ.own g.vs b
theorem gblk_lasts (Γ : Ghost) (B : Nat) (V : Nat → Value) (o : Obj) : Γ.lasts (gblk Γ B V o) := by
 rintro v g g' hJ ⟨b, rfl, hB, hb, ho⟩ hs
 have hlt : b < g.w.heap.size := (Array.getElem?_eq_some_iff.1 hb).1
 rcases hs with ⟨h1, h2⟩ | ⟨u, h1, h2⟩
 ·
  exact ⟨b, rfl, hB, (h2.block b hlt).trans hb, by rw [h1]; exact ho⟩
 ·
  refine ⟨b, rfl, hB, (h2.2.2.1 b hlt ho).trans hb, fun h => ?_⟩
  rw [h1] at h
  rcases h2.2.2.2 b h with h | h
  ·
   exact ho h
  ·
   omega
theorem gblk_new (Γ : Ghost) {B : Nat} {V : Nat → Value} {o : Obj} {g : GW} (hno : ∀ b, Γ.own g.vs b → b < g.w.heap.size) (hB : B ≤ g.w.heap.size) : gblk Γ B V o (V g.w.heap.size) ⟨g.vs, g.w.alloc o⟩ := by
 refine ⟨g.w.heap.size, rfl, hB, ?_, fun h => ?_⟩
 ·
  show (g.w.heap.push o)[g.w.heap.size]? = some o
  simp
 ·
  have := hno _ h; omega
def gnth (k : Nat) : GPred := fun v g => g.vs[k]? = some v
theorem gnth_lasts (Γ : Ghost) (k : Nat) : Γ.lasts (gnth k) := by
 rintro v g g' _ h hs
 have hlt : k < g.vs.length := by
  rcases Nat.lt_or_ge k g.vs.length with h' | h'
  ·
   exact h'
  ·
   unfold gnth at h; rw [List.getElem?_eq_none h'] at h; cases h
 rcases hs with ⟨h1, _⟩ | ⟨u, h1, _⟩
 ·
  unfold gnth; rw [h1]; exact h
 ·
  unfold gnth; rw [h1, List.getElem?_append_left hlt]; exact h
section
variable {P : Program} {ops : Array Oper} {w0 : World} {a0 : Act} {F : List Pred → Prop} {i : Nat} {o : Oper} {rest : List Oper} {a : Act} {ex : List (Tmp × Pred)}
theorem wpR_val (hp : plainOp ops i o ex = true) (hw : Region.wanted o (yielded ops a.tmps) = true) (v : Value) (hrun : ∀ w, Below w0.heap.size w0 w → ∃ w', (execOp a.eval o).run P w = .ok (.value v) w' ∧ Below w.heap.size w w')
  (hrest : wpR P ops w0 a0 F (i + 1) rest (a.put o.dst v) ex) : wpR P ops w0 a0 F i (o :: rest) a ex := by
 intro G hG hl hd hrep
 have ho : ops[i]? = some o := by simpa using (hl 0 (by simp)).symm
 obtain ⟨d, hdi, hds, huniq⟩ := hd i (by simp)
 have hod : o.dst = some d := by simpa [dstOf, ho] using hdi
 have hex : d ∉ ex.map (·.1) := by
  simp only [plainOp, Bool.and_eq_true] at hp
  have := hp.2
  rw [hod] at this
  simpa using this
 refine ⟨fun u _ => u = v, fun _ _ _ h _ => h, fun a' w hw0 _ he => ?_, ?_⟩
 ·
  rw [hG] at he
  have hlook := plain_look hrep hG hp he
  have hsel : noSel o = true := by simp only [plainOp, Bool.and_eq_true] at hp; exact hp.1.1.2
  rw [wanted_same hlook (look_guard hp), hw, if_pos rfl]
  unfold Oper.wp
  obtain ⟨w', hr, hb⟩ := hrun w hw0
  rw [look_exec hlook hsel, hr]
  exact ⟨_, rfl, hb, rfl⟩
 ·
  exact hrest (G ++ [fun u _ => u = v]) (by simp [hG]) (fun j hj => by have := hl (j + 1) (by simp; omega); simpa [Nat.add_assoc, Nat.add_comm 1 j] using this)
   (fun j hj => by
    obtain ⟨d', h1, h2, h3⟩ := hd j (by simp; omega)
    exact ⟨d', h1, h2, fun k hk => h3 k (by simp; omega)⟩)
   (by rw [hod]; exact hrep.next hG hdi hds (fun k hk => huniq k (by simp; omega) (by omega)) hex (fun u w h => h))
theorem wpR_is (hp : plainOp ops i o ex = true) (hw : Region.wanted o (yielded ops a.tmps) = true) (v : Value) (hrun : ∀ w, Below w0.heap.size w0 w → (execOp a.eval o).run P w = .ok (.value v) w)
  (hrest : wpR P ops w0 a0 F (i + 1) rest (a.put o.dst v) ex) : wpR P ops w0 a0 F i (o :: rest) a ex :=
 wpR_val hp hw v (fun w h => ⟨w, hrun w h, Below.refl _ _⟩) hrest
end

section
variable {Γ : Ghost} {P : Program} {ops : Array Oper} {chain : List Nat} {a0 : Act} {F : List GPred → Prop} {i : Nat} {o : Oper} {rest : List Oper} {a : Act} {ex : List (Tmp × GPred)}
theorem wpH_val (hp : gplainOp ops i o ex = true) (hc : chainIx chain i = none) (hw : Region.wanted o (yielded ops a.tmps) = true) (v : Value) (hrun : ∀ vs w, Γ.inv vs w → ∃ w', (execOp a.eval o).run P w = .ok (.value v) w' ∧ Below w.heap.size w w')
  (hrest : wpH Γ P ops chain a0 F (i + 1) rest (a.put o.dst v) ex) : wpH Γ P ops chain a0 F i (o :: rest) a ex := by
 intro G hG hl hd hrep
 obtain ⟨d, hod, hdi, hds, huniq, hgo⟩ := wpH_next (Γ := Γ) (P := P) (chain := chain) (F := F) hG hl hd
 have hex := gplain_ex hp hod
 refine ⟨fun u _ => u = v, glasts_const Γ v, ?_, hgo _ _ _ (hrep.next hG hdi hds huniq hex (fun u g _ h => h)) (by rw [hod] at hrest; exact hrest)⟩
 rw [hG]
 intro a' g hg _ he
 rw [hc]
 simp only
 have hlook := gplain_look hrep hG hp hg he
 have hsel : noSel o = true := by simp only [gplainOp, Bool.and_eq_true] at hp; exact hp.1.1.2
 rw [wanted_same hlook (glook_guard hp), hw, if_pos rfl]
 unfold Oper.wp
 obtain ⟨w', hr, hb⟩ := hrun g.vs g.w hg
 rw [look_exec hlook hsel, hr]
 exact ⟨_, rfl, hb, rfl⟩
theorem wpH_is (hp : gplainOp ops i o ex = true) (hc : chainIx chain i = none) (hw : Region.wanted o (yielded ops a.tmps) = true) (v : Value) (hrun : ∀ vs w, Γ.inv vs w → (execOp a.eval o).run P w = .ok (.value v) w)
  (hrest : wpH Γ P ops chain a0 F (i + 1) rest (a.put o.dst v) ex) : wpH Γ P ops chain a0 F i (o :: rest) a ex :=
 wpH_val hp hc hw v (fun vs w h => ⟨w, hrun vs w h, Below.refl _ _⟩) hrest
end
section
variable {Γ : Ghost} {P : Program} {ops : Array Oper} {chain : List Nat} {a0 : Act} {F : List GPred → Prop} {i : Nat} {o : Oper} {rest : List Oper} {a : Act} {ex : List (Tmp × GPred)}
end
structure Upd (F : Nat → Prop) (w w' : World) : Prop where
 os : w'.os = w.os
 tape : w'.tape = w.tape
 output : w'.output = w.output
 size : w.heap.size ≤ w'.heap.size
 block : ∀ k, k < w.heap.size → ¬ F k → w'.heap[k]? = w.heap[k]?

theorem Upd.refl (F : Nat → Prop) (w : World) : Upd F w w := ⟨rfl, rfl, rfl, Nat.le_refl _, fun _ _ _ => rfl⟩
theorem Upd.trans {F : Nat → Prop} {a b c : World} (h : Upd F a b) (k : Upd F b c) : Upd F a c :=
 ⟨k.os.trans h.os, k.tape.trans h.tape, k.output.trans h.output, Nat.le_trans h.size k.size, fun i hi hF => (k.block i (Nat.lt_of_lt_of_le hi h.size) hF).trans (h.block i hi hF)⟩
theorem Upd.mono {F G : Nat → Prop} {w w' : World} (h : Upd F w w') (hFG : ∀ b, b < w.heap.size → F b → G b) : Upd G w w' :=
 ⟨h.os, h.tape, h.output, h.size, fun k hk hG => h.block k hk fun hF => hG (hFG k hk hF)⟩
theorem Upd.then {F G : Nat → Prop} {a b c : World} (h : Upd F a b) (k : Upd G b c) (hG : ∀ x, x < a.heap.size → G x → F x) : Upd F a c :=
 ⟨k.os.trans h.os, k.tape.trans h.tape, k.output.trans h.output, Nat.le_trans h.size k.size, fun i hi hF => (k.block i (Nat.lt_of_lt_of_le hi h.size) fun hg => hF (hG i hi hg)).trans (h.block i hi hF)⟩
theorem Upd.of_below {F : Nat → Prop} {w w' : World} (h : Below w.heap.size w w') : Upd F w w' := ⟨h.os, h.tape, h.output, h.size, fun k hk _ => h.block k hk⟩
theorem Upd.below {F : Nat → Prop} {B : Nat} {w w' : World} (h : Upd F w w') (hB : B ≤ w.heap.size) (hF : ∀ b, F b → B ≤ b) : Below B w w' :=
 ⟨h.os, h.tape, h.output, h.size, fun k hk => h.block k (by omega) fun hf => by have := hF k hf; omega⟩
theorem Upd.none {w w' : World} (h : Upd (fun _ => False) w w') : Below w.heap.size w w' := h.below (Nat.le_refl _) (fun _ h => h.elim)
theorem Upd.thenB {F : Nat → Prop} {a b c : World} (h : Upd F a b) (k : Below b.heap.size b c) : Upd F a c := h.trans (Upd.of_below k)
theorem Upd.setCell {F : Nat → Prop} {a w : World} (h : Upd F a w) {p : Addr} (hp : p.block < a.heap.size → F p.block) (u : Value) : Upd F a (w.setCell p u) :=
 h.then (G := fun b => b = p.block) ⟨rfl, rfl, rfl, by simp [World.setCell], fun k _ hk => Below.heap_setCell _ _ _ _ hk⟩ (fun x hx e => by subst e; exact hp hx)
theorem Upd.alloc {F : Nat → Prop} {a w : World} (h : Upd F a w) (o : Obj) : Upd F a (w.alloc o) := h.thenB ((Below.refl _ _).alloc (Nat.le_refl _) o)
theorem Upd.keep {F : Nat → Prop} {w w' : World} {a : Addr} {v : Value} (h : Upd F w w') (hF : ¬ F a.block) (hc : w.cell? a = some v) : w'.cell? a = some v :=
 (World.cell?_of_block (h.block a.block (block_lt_of_cell hc) hF)).trans hc
theorem Upd.frz {F : Nat → Prop} {w w' : World} {a : Addr} {v : Value} (h : Upd F w w') (hF : ¬ F a.block) (hc : w.cell? a = some v) (hf : w.frozen? a = false) : w'.frozen? a = false :=
 (World.frozen?_of_block (h.block a.block (block_lt_of_cell hc) hF)).trans hf
theorem Upd.row {F : Nat → Prop} {w w' : World} {base : Nat} {e : TypeId} {size : Nat} {v : Value} {n : Nat} {xs : List Value} (h : Upd F w w') (ho : w.ownsRow base e size v n xs) (hF : ∀ g, v.ownBlock = some g → ¬ F g) : w'.ownsRow base e size v n xs := by
 obtain ⟨h1, h2⟩ := ho
 refine ⟨h1, ?_⟩
 rcases h2 with h2 | ⟨g, cap, cur, hv, hg, hh, r⟩
 ·
  exact .inl h2
 ·
  exact .inr ⟨g, cap, cur, hv, hg, (h.block g (Array.getElem?_eq_some_iff.1 hh).1 (hF g (by rw [hv]; rfl))).trans hh, r⟩

theorem below_one (w : World) (o : Obj) : Below w.heap.size w (w.alloc o) := (Below.refl _ _).alloc (Nat.le_refl _) o
theorem frz {w w' : World} {a : Addr} {v : Value} (hb : Below w.heap.size w w') (h : w.cell? a = some v) (hf : w.frozen? a = false) : w'.frozen? a = false := by
 rw [hb.frozen (block_lt_of_cell h)]; exact hf
structure Res where
 P : World → (Nat → Prop) → Prop
 bound : ∀ {w : World} {F : Nat → Prop}, P w F → ∀ b, F b → b < w.heap.size
 move : ∀ {w w' : World} {F G : Nat → Prop}, P w F → Upd G w w' → (∀ b, F b → ¬ G b) → P w' F

def blkR (b : Nat) (o : Obj) : Res where
 P w F := (∀ x, F x ↔ x = b) ∧ w.heap[b]? = some o
 bound h x hx := by rw [(h.1 x).1 hx]; exact (Array.getElem?_eq_some_iff.1 h.2).1
 move h hu hF := ⟨h.1, (hu.block _ (Array.getElem?_eq_some_iff.1 h.2).1 (hF _ ((h.1 _).2 rfl))).trans h.2⟩

theorem get_len {α : Type} {L : List α} {i : Nat} {R : α} (hi : L[i]? = some R) : i < L.length := by
 rcases Nat.lt_or_ge i L.length with h | h
 ·
  exact h
 ·
  rw [List.getElem?_eq_none h] at hi; cases hi

def rowR (v : Value) (E : TypeId) (sz n : Nat) (xs : List Value) : Res where
 P := fun (w : World) F => (∀ b, F b ↔ v.ownBlock = some b) ∧ w.ownsRow 0 E sz v n xs
 bound h b hb := by
  obtain ⟨h1, h2, h3⟩ := h
  have hb' := (h1 b).1 hb
  rcases h3 with ⟨e, _⟩ | ⟨g, c, cur, e, _, hh, _⟩
  ·
   rw [e] at hb'; cases hb'
  ·
   rw [e] at hb'; cases hb'; exact (Array.getElem?_eq_some_iff.1 hh).1
 move h hu hF := ⟨h.1, hu.row h.2 (fun g hg => hF g ((h.1 g).2 hg))⟩
def sepR (Rs : List Res) : Res where
 P w F := ∃ Fs : Nat → Nat → Prop, (∀ (i : Nat) (R : Res), Rs[i]? = some R → R.P w (Fs i)) ∧ (∀ i j : Nat, i < Rs.length → j < Rs.length → i ≠ j → ∀ b, Fs i b → ¬ Fs j b) ∧ ∀ b, F b ↔ ∃ i, i < Rs.length ∧ Fs i b
 bound h b hb := by
  obtain ⟨Fs, h1, h2, h3⟩ := h
  obtain ⟨i, hi, hf⟩ := (h3 b).1 hb
  exact (Rs[i]).bound (h1 i Rs[i] (List.getElem?_eq_getElem hi)) b hf
 move h hu hF := by
  obtain ⟨Fs, h1, h2, h3⟩ := h
  exact ⟨Fs, fun i R hi => R.move (h1 i R hi) hu (fun b hb => hF b ((h3 b).2 ⟨i, get_len hi, hb⟩)), h2, h3⟩
def exR {α : Type} (f : α → Res) : Res where
 P w F := ∃ a, (f a).P w F
 bound h := by obtain ⟨a, h⟩ := h; exact (f a).bound h
 move h hu hF := by obtain ⟨a, h⟩ := h; exact ⟨a, (f a).move h hu hF⟩
def factR (p : Prop) (R : Res) : Res where
 P w F := p ∧ R.P w F
 bound h := R.bound h.2
 move h hu hF := ⟨h.1, R.move h.2 hu hF⟩

structure Own (w0 : World) (D : Nat → Prop) (w : World) (L : List Res) : Prop where
 upd : Upd D w0 w
 is : ∃ Fs : Nat → Nat → Prop, (∀ i R, L[i]? = some R → R.P w (Fs i) ∧ ∀ b, Fs i b → D b ∨ w0.heap.size ≤ b) ∧ ∀ i j, i < L.length → j < L.length → i ≠ j → ∀ b, Fs i b → ¬ Fs j b
abbrev none0 : Nat → Prop := fun _ => False

section
variable {w0 w w' : World} {D : Nat → Prop} {L : List Res}
theorem Own.nil (w : World) (D : Nat → Prop) : Own w D w [] := ⟨Upd.refl _ _, fun _ _ => False, fun i R h => by simp at h, fun i j h => by simp at h⟩
theorem Own.size (h : Own w0 D w L) : w0.heap.size ≤ w.heap.size := h.upd.size
theorem Own.below (h : Own w0 none0 w L) : Below w0.heap.size w0 w := h.upd.none
theorem Own.stay (h : Own w0 D w L) (hb : Below w.heap.size w w') : Own w0 D w' L := by
 obtain ⟨h1, Fs, h2, h3⟩ := h
 exact ⟨h1.thenB hb, Fs, fun i R hi => ⟨R.move (h2 i R hi).1 (Upd.of_below (F := fun _ => False) hb) (fun _ _ h => h), (h2 i R hi).2⟩, h3⟩
theorem Own.step (h : Own w0 D w L) {i : Nat} {R : Res} (hi : L[i]? = some R) :
  ∃ F, R.P w F ∧ (∀ b, F b → D b ∨ w0.heap.size ≤ b) ∧ ∀ {w' : World} {R' : Res} {F' : Nat → Prop}, R'.P w' F' → (∀ b, F' b → F b ∨ w.heap.size ≤ b) → Upd F w w' → Own w0 D w' (L.set i R') := by
 obtain ⟨h1, Fs, h2, h3⟩ := h
 have hil := get_len hi
 refine ⟨Fs i, (h2 i R hi).1, (h2 i R hi).2, fun {w' R' F'} hR' hF' hu => ⟨h1.then hu (fun b hb hf => ((h2 i R hi).2 b hf).elim id (fun h => by omega)), fun j => if j = i then F' else Fs j, fun j Q hj => ?_, fun j k hj hk hjk b => ?_⟩⟩
 ·
  dsimp only
  by_cases e : j = i
  ·
   subst e
   rw [List.getElem?_set_self hil] at hj
   cases hj
   rw [if_pos rfl]
   exact ⟨hR', fun b hb => (hF' b hb).elim ((h2 j R hi).2 b) (fun h => .inr (Nat.le_trans h1.size h))⟩
  ·
   rw [List.getElem?_set_ne (fun h => e h.symm)] at hj
   rw [if_neg e]
   exact ⟨Q.move (h2 j Q hj).1 hu (h3 j i (get_len hj) hil e), (h2 j Q hj).2⟩
 ·
  rw [List.length_set] at hj hk
  have key : ∀ k, k < L.length → k ≠ i → ∀ b, F' b → ¬ Fs k b := fun k hk e b hb hkb => by
   rcases hF' b hb with h | h
   ·
    exact h3 i k hil hk (fun h => e h.symm) b h hkb
   ·
    have := (L[k]).bound (h2 k L[k] (List.getElem?_eq_getElem hk)).1 b hkb
    omega
  dsimp only
  by_cases e1 : j = i
  ·
   by_cases e2 : k = i
   ·
    exact absurd (e1.trans e2.symm) hjk
   ·
    rw [if_pos e1, if_neg e2]; exact key k hk e2 b
  ·
   by_cases e2 : k = i
   ·
    rw [if_neg e1, if_pos e2]; exact fun a c => key j hj e1 b c a
   ·
    rw [if_neg e1, if_neg e2]; exact h3 j k hj hk hjk b
theorem Own.push (h : Own w0 D w L) {R : Res} {F : Nat → Prop} (hR : R.P w' F) (hF : ∀ b, F b → w.heap.size ≤ b) (hb : Below w.heap.size w w') : Own w0 D w' (L ++ [R]) := by
 obtain ⟨h1, Fs, h2, h3⟩ := h
 have hold : ∀ j Q, j < L.length → (L ++ [R])[j]? = some Q → L[j]? = some Q := fun j Q hj hQ => by rwa [List.getElem?_append_left hj] at hQ
 refine ⟨h1.thenB hb, fun j => if j < L.length then Fs j else F, fun j Q hj => ?_, fun j k hj hk hjk b => ?_⟩
 ·
  dsimp only
  by_cases e : j < L.length
  ·
   rw [if_pos e]
   have := hold j Q e hj
   exact ⟨Q.move (h2 j Q this).1 (Upd.of_below (F := fun _ => False) hb) (fun _ _ h => h), (h2 j Q this).2⟩
  ·
   rw [if_neg e]
   have hjl := get_len hj
   simp only [List.length_append, List.length_cons, List.length_nil] at hjl
   obtain rfl : j = L.length := by omega
   rw [List.getElem?_append_right (Nat.le_refl _), Nat.sub_self] at hj
   cases hj
   exact ⟨hR, fun b hb => .inr (Nat.le_trans h1.size (hF b hb))⟩
 ·
  simp only [List.length_append, List.length_cons, List.length_nil] at hj hk
  have key : ∀ k, k < L.length → ∀ b, F b → ¬ Fs k b := fun k hk b hb hkb => by
   have := (L[k]).bound (h2 k L[k] (List.getElem?_eq_getElem hk)).1 b hkb
   have := hF b hb
   omega
  dsimp only
  by_cases e1 : j < L.length
  ·
   by_cases e2 : k < L.length
   ·
    rw [if_pos e1, if_pos e2]; exact h3 j k e1 e2 hjk b
   ·
    rw [if_pos e1, if_neg e2]; exact fun a c => key j e1 b c a
  ·
   by_cases e2 : k < L.length
   ·
    rw [if_neg e1, if_pos e2]; exact key k e2 b
   ·
    omega
theorem Own.alloc (h : Own w0 D w L) (o : Obj) : Own w0 D (w.alloc o) (L ++ [blkR w.heap.size o]) :=
 h.push (R := blkR w.heap.size o) (F := fun b => b = w.heap.size) ⟨fun _ => Iff.rfl, by show (w.heap.push o)[w.heap.size]? = _; simp⟩ (fun b hb => by rw [hb]; exact Nat.le_refl _) (below_one w o)
theorem Own.take (h : Own w0 D w L) (n : Nat) : Own w0 D w (L.take n) := by
 obtain ⟨h1, Fs, h2, h3⟩ := h
 refine ⟨h1, Fs, fun i R hi => ?_, fun i j hi hj => h3 i j (by simp at hi; omega) (by simp at hj; omega)⟩
 rw [List.getElem?_take] at hi
 split at hi
 ·
  exact h2 i R hi
 ·
  cases hi
theorem Own.pick (h : Own w0 D w L) (is : List Nat) (hn : is.Nodup) {L' : List Res} (hL : ∀ (k : Nat) (R : Res), L'[k]? = some R → ∃ i : Nat, is[k]? = some i ∧ L[i]? = some R) : Own w0 D w L' := by
 obtain ⟨h1, Fs, h2, h3⟩ := h
 refine ⟨h1, fun k => Fs (is.getD k 0), fun k R hk => ?_, fun j k hj hk hjk => ?_⟩
 ·
  obtain ⟨i, hi, hR⟩ := hL k R hk
  have e : is.getD k 0 = i := by simp [hi]
  dsimp only; rw [e]
  exact h2 i R hR
 ·
  obtain ⟨i1, hi1, hR1⟩ := hL j _ (List.getElem?_eq_getElem hj)
  obtain ⟨i2, hi2, hR2⟩ := hL k _ (List.getElem?_eq_getElem hk)
  have e1 : is.getD j 0 = i1 := by simp [hi1]
  have e2 : is.getD k 0 = i2 := by simp [hi2]
  dsimp only; rw [e1, e2]
  obtain ⟨l1, g1⟩ := List.getElem?_eq_some_iff.1 hi1
  obtain ⟨l2, g2⟩ := List.getElem?_eq_some_iff.1 hi2
  exact h3 i1 i2 (get_len hR1) (get_len hR2) (fun e => hjk (by
   have hp := List.pairwise_iff_getElem.1 hn
   rcases Nat.lt_trichotomy j k with h | h | h
   ·
    exact absurd (g1.trans (e.trans g2.symm)) (hp j k l1 l2 h)
   ·
    exact h
   ·
    exact absurd (g2.trans (e.symm.trans g1.symm)) (hp k j l2 l1 h)))
theorem Own.blk (h : Own w0 D w L) (i : Nat) {b : Nat} {o : Obj} (hi : L[i]? = some (blkR b o)) : w.heap[b]? = some o := by
 obtain ⟨F, h1, _⟩ := h.step hi; exact h1.2
theorem Own.cell (h : Own w0 D w L) (i : Nat) {b : Nat} {c : Array Value} {t : TypeId} (hi : L[i]? = some (blkR b (.cells c t))) (j : Nat) {u : Value} (hj : c[j]? = some u) : w.cell? ⟨b, j, none⟩ = some u := by
 have := h.blk i hi; simp [World.cell?, this, hj]
theorem Own.frz (h : Own w0 D w L) (i : Nat) {b : Nat} {c : Array Value} {t : TypeId} (hi : L[i]? = some (blkR b (.cells c t))) (j : Nat) : w.frozen? ⟨b, j, none⟩ = false := by
 have := h.blk i hi; simp [World.frozen?, this]
theorem blk_setc {b : Nat} {c : Array Value} {t : TypeId} (h : w.heap[b]? = some (.cells c t)) (i : Nat) (v : Value) : (w.setCell ⟨b, i, none⟩ v).heap[b]? = some (.cells (c.setIfInBounds i v) t) := by
 have hlt := (Array.getElem?_eq_some_iff.1 h).1
 have h' : w.heap[b] = .cells c t := by simpa [Array.getElem?_eq_getElem hlt] using h
 show (w.heap.modify b _)[b]? = _
 rw [Array.getElem?_eq_getElem (by simpa using hlt), Array.getElem_modify_self, h']
 rfl
theorem Own.setCell (h : Own w0 D w L) (i : Nat) {b : Nat} {c : Array Value} {t : TypeId} (hi : L[i]? = some (blkR b (.cells c t))) (j : Nat) (v : Value) : Own w0 D (w.setCell ⟨b, j, none⟩ v) (L.set i (blkR b (.cells (c.setIfInBounds j v) t))) := by
 obtain ⟨F, h1, h2, h3⟩ := h.step hi
 refine h3 (R' := blkR b (.cells (c.setIfInBounds j v) t)) (F' := F) ⟨h1.1, blk_setc h1.2 j v⟩ (fun b hb => .inl hb) ?_
 exact Upd.setCell (p := ⟨b, j, none⟩) (Upd.refl F w) (fun _ => (h1.1 b).2 rfl) v
theorem Own.lt (h : Own w0 D w L) (i : Nat) {b : Nat} {o : Obj} (hi : L[i]? = some (blkR b o)) : b < w.heap.size := (Array.getElem?_eq_some_iff.1 (h.blk i hi)).1
theorem Own.one {R : Res} {F : Nat → Prop} (hR : R.P w F) : Own w F w [R] :=
 ⟨Upd.refl _ _, fun _ => F, fun i Q hi => by cases i with | zero => cases hi; exact ⟨hR, fun _ h => .inl h⟩ | succ i => simp at hi, fun i j hi hj hij => by simp at hi hj; omega⟩
theorem Own.two {R1 R2 : Res} {F1 F2 : Nat → Prop} (h1 : R1.P w F1) (h2 : R2.P w F2) (hd : ∀ b, F1 b → ¬ F2 b) : Own w (fun b => F1 b ∨ F2 b) w [R1, R2] :=
 ⟨Upd.refl _ _, fun i => if i = 0 then F1 else F2, fun i Q hi => by
  match i, hi with
  | 0, hi => cases hi; exact ⟨h1, fun _ h => .inl (.inl h)⟩
  | 1, hi => cases hi; exact ⟨h2, fun _ h => .inl (.inr h)⟩,
  fun i j hi hj hij b => by
   simp at hi hj
   have : (i = 0 ∧ j = 1) ∨ (i = 1 ∧ j = 0) := by omega
   rcases this with ⟨rfl, rfl⟩ | ⟨rfl, rfl⟩
   ·
    exact hd b
   ·
    exact fun a c => hd b c a⟩
theorem Own.open {Rs : List Res} (h : Own w0 D w [sepR Rs]) : Own w0 D w Rs := by
 obtain ⟨h1, Gs, h2, h3⟩ := h
 obtain ⟨⟨Fs, f1, f2, f3⟩, hd⟩ := h2 0 (sepR Rs) rfl
 exact ⟨h1, Fs, fun i R hi => ⟨f1 i R hi, fun b hb => hd b ((f3 b).2 ⟨i, get_len hi, hb⟩)⟩, f2⟩
theorem Own.shut {Rs : List Res} (h : Own w0 D w Rs) : Own w0 D w [sepR Rs] := by
 obtain ⟨h1, Fs, h2, h3⟩ := h
 refine ⟨h1, fun _ b => ∃ i, i < Rs.length ∧ Fs i b, fun i R hi => ?_, fun i j hi hj hij => by simp at hi hj; omega⟩
 cases i with
 | succ i => simp at hi
 | zero =>
  cases hi
  exact ⟨⟨Fs, fun i R hi => (h2 i R hi).1, h3, fun b => Iff.rfl⟩, fun b ⟨i, hi, hb⟩ => (h2 i Rs[i] (List.getElem?_eq_getElem hi)).2 b hb⟩
theorem Own.row (h : Own w0 D w L) (i : Nat) {v : Value} {E : TypeId} {sz n : Nat} {xs : List Value} (hi : L[i]? = some (rowR v E sz n xs)) : w.ownsRow 0 E sz v n xs := by
 obtain ⟨F, h1, _⟩ := h.step hi; exact h1.2
theorem Own.rowTo (h : Own w0 D w L) (i : Nat) {v : Value} {E : TypeId} {sz n : Nat} {xs : List Value} (hi : L[i]? = some (rowR v E sz n xs)) {v' : Value} {n' : Nat} {xs' : List Value}
  (hr : w'.ownsRow 0 E sz v' n' xs') (hu : Upd (fun b => v.ownBlock = some b) w w') (hn : ∀ g, v'.ownBlock = some g → v.ownBlock = some g ∨ w.heap.size ≤ g) : Own w0 D w' (L.set i (rowR v' E sz n' xs')) := by
 obtain ⟨F, h1, h2, h3⟩ := h.step hi
 exact h3 (R' := rowR v' E sz n' xs') (F' := fun b => v'.ownBlock = some b) ⟨fun _ => Iff.rfl, hr⟩ (fun b hb => (hn b hb).imp (h1.1 b).2 id) (hu.mono fun b _ hb => (h1.1 b).2 hb)
theorem Own.rowNew (h : Own w0 D w L) (E : TypeId) (sz : Nat) : Own w0 D w (L ++ [rowR (.slice none 0 0) E sz 0 []]) :=
 h.push (R := rowR (.slice none 0 0) E sz 0 []) (F := fun _ => False) ⟨fun b => ⟨fun h => h.elim, fun h => by cases h⟩, World.ownsRow_nil w _ _ _⟩ (fun _ h => h.elim) (Below.refl _ _)
end

section
variable {w0 w : World} {D : Nat → Prop} {L : List Res}
theorem Own.cf (h : Own w0 D w L) (i : Nat) {b : Nat} {c : Array Value} {t : TypeId} (hi : L[i]? = some (blkR b (.cells c t))) (j : Nat) {u : Value} (hj : c[j]? = some u) : w.cell? ⟨b, j, none⟩ = some u ∧ w.frozen? ⟨b, j, none⟩ = false := ⟨h.cell i hi j hj, h.frz i hi j⟩
theorem Own.setE (h : Own w0 D w L) (i : Nat) {b : Nat} {c : Array Value} {t : TypeId} (hi : L[i]? = some (blkR b (.cells c t))) (j : Nat) (v : Value) : ∃ x, w.setCell ⟨b, j, none⟩ v = x ∧ Own w0 D x (L.set i (blkR b (.cells (c.setIfInBounds j v) t))) := ⟨_, rfl, h.setCell i hi j v⟩
theorem Own.allocE (h : Own w0 D w L) (o : Obj) : ∃ x, w.alloc o = x ∧ ∃ b, w.heap.size = b ∧ Own w0 D x (L ++ [blkR b o]) := ⟨_, rfl, _, rfl, h.alloc o⟩
theorem set_self {α : Type} {l : List α} {i : Nat} {x y : α} (h : l[i]? = some x) : (l.set i y)[i]? = some y := by
 obtain ⟨hl, _⟩ := List.getElem?_eq_some_iff.1 h
 rw [List.getElem?_set_self hl]
theorem Own.steps3 (h : Own w0 D w L) (i : Nat) {b : Nat} {t : TypeId} {a0 a1 a2 : Value} (hi : L[i]? = some (blkR b (.cells #[a0, a1, a2] t))) (v0 v1 v2 : Value) : ∃ x1 x2 x3, w.setCell ⟨b, 0, none⟩ v0 = x1 ∧ x1.setCell ⟨b, 1, none⟩ v1 = x2 ∧ x2.setCell ⟨b, 2, none⟩ v2 = x3 ∧ w.cell? ⟨b, 0, none⟩ = some a0 ∧ w.frozen? ⟨b, 0, none⟩ = false ∧ x1.cell? ⟨b, 1, none⟩ = some a1 ∧ x1.frozen? ⟨b, 1, none⟩ = false ∧ x2.cell? ⟨b, 2, none⟩ = some a2 ∧ x2.frozen? ⟨b, 2, none⟩ = false ∧ Own w0 D x3 (L.set i (blkR b (.cells #[v0, v1, v2] t))) := by
 have h1 : Own w0 D _ (L.set i (blkR b (.cells #[v0, a1, a2] t))) := h.setCell i hi 0 v0
 have g1 : (L.set i (blkR b (.cells #[v0, a1, a2] t)))[i]? = some (blkR b (.cells #[v0, a1, a2] t)) := set_self hi
 have h2 : Own w0 D ((w.setCell ⟨b, 0, none⟩ v0).setCell ⟨b, 1, none⟩ v1) (L.set i (blkR b (.cells #[v0, v1, a2] t))) := by
  have := h1.setCell i g1 1 v1
  rw [List.set_set] at this
  exact this
 have g2 : (L.set i (blkR b (.cells #[v0, v1, a2] t)))[i]? = some (blkR b (.cells #[v0, v1, a2] t)) := set_self hi
 have h3 : Own w0 D (((w.setCell ⟨b, 0, none⟩ v0).setCell ⟨b, 1, none⟩ v1).setCell ⟨b, 2, none⟩ v2) (L.set i (blkR b (.cells #[v0, v1, v2] t))) := by
  have := h2.setCell i g2 2 v2
  rw [List.set_set] at this
  exact this
 exact ⟨_, _, _, rfl, rfl, rfl, h.cell i hi 0 rfl, h.frz i hi 0, h1.cell i g1 1 rfl, h1.frz i g1 1, h2.cell i g2 2 rfl, h2.frz i g2 2, h3⟩
theorem Own.steps5 (h : Own w0 D w L) (i : Nat) {b : Nat} {t : TypeId} {a0 a1 a2 a3 a4 : Value} (hi : L[i]? = some (blkR b (.cells #[a0, a1, a2, a3, a4] t))) (v0 v1 v2 v3 v4 : Value) : ∃ x1 x2 x3 x4 x5, w.setCell ⟨b, 0, none⟩ v0 = x1 ∧ x1.setCell ⟨b, 1, none⟩ v1 = x2 ∧ x2.setCell ⟨b, 2, none⟩ v2 = x3 ∧ x3.setCell ⟨b, 3, none⟩ v3 = x4 ∧ x4.setCell ⟨b, 4, none⟩ v4 = x5 ∧ w.cell? ⟨b, 0, none⟩ = some a0 ∧ w.frozen? ⟨b, 0, none⟩ = false ∧ x1.cell? ⟨b, 1, none⟩ = some a1 ∧ x1.frozen? ⟨b, 1, none⟩ = false ∧ x2.cell? ⟨b, 2, none⟩ = some a2 ∧ x2.frozen? ⟨b, 2, none⟩ = false ∧ x3.cell? ⟨b, 3, none⟩ = some a3 ∧ x3.frozen? ⟨b, 3, none⟩ = false ∧ x4.cell? ⟨b, 4, none⟩ = some a4 ∧ x4.frozen? ⟨b, 4, none⟩ = false ∧ Own w0 D x5 (L.set i (blkR b (.cells #[v0, v1, v2, v3, v4] t))) := by
 have h1 : Own w0 D _ (L.set i (blkR b (.cells #[v0, a1, a2, a3, a4] t))) := h.setCell i hi 0 v0
 have g1 : (L.set i (blkR b (.cells #[v0, a1, a2, a3, a4] t)))[i]? = some (blkR b (.cells #[v0, a1, a2, a3, a4] t)) := set_self hi
 have h2 : Own w0 D ((w.setCell ⟨b, 0, none⟩ v0).setCell ⟨b, 1, none⟩ v1) (L.set i (blkR b (.cells #[v0, v1, a2, a3, a4] t))) := by
  have := h1.setCell i g1 1 v1
  rw [List.set_set] at this
  exact this
 have g2 : (L.set i (blkR b (.cells #[v0, v1, a2, a3, a4] t)))[i]? = some (blkR b (.cells #[v0, v1, a2, a3, a4] t)) := set_self hi
 have h3 : Own w0 D (((w.setCell ⟨b, 0, none⟩ v0).setCell ⟨b, 1, none⟩ v1).setCell ⟨b, 2, none⟩ v2) (L.set i (blkR b (.cells #[v0, v1, v2, a3, a4] t))) := by
  have := h2.setCell i g2 2 v2
  rw [List.set_set] at this
  exact this
 have g3 : (L.set i (blkR b (.cells #[v0, v1, v2, a3, a4] t)))[i]? = some (blkR b (.cells #[v0, v1, v2, a3, a4] t)) := set_self hi
 have h4 : Own w0 D ((((w.setCell ⟨b, 0, none⟩ v0).setCell ⟨b, 1, none⟩ v1).setCell ⟨b, 2, none⟩ v2).setCell ⟨b, 3, none⟩ v3) (L.set i (blkR b (.cells #[v0, v1, v2, v3, a4] t))) := by
  have := h3.setCell i g3 3 v3
  rw [List.set_set] at this
  exact this
 have g4 : (L.set i (blkR b (.cells #[v0, v1, v2, v3, a4] t)))[i]? = some (blkR b (.cells #[v0, v1, v2, v3, a4] t)) := set_self hi
 have h5 : Own w0 D (((((w.setCell ⟨b, 0, none⟩ v0).setCell ⟨b, 1, none⟩ v1).setCell ⟨b, 2, none⟩ v2).setCell ⟨b, 3, none⟩ v3).setCell ⟨b, 4, none⟩ v4) (L.set i (blkR b (.cells #[v0, v1, v2, v3, v4] t))) := by
  have := h4.setCell i g4 4 v4
  rw [List.set_set] at this
  exact this
 exact ⟨_, _, _, _, _, rfl, rfl, rfl, rfl, rfl, h.cell i hi 0 rfl, h.frz i hi 0, h1.cell i g1 1 rfl, h1.frz i g1 1, h2.cell i g2 2 rfl, h2.frz i g2 2, h3.cell i g3 3 rfl, h3.frz i g3 3, h4.cell i g4 4 rfl, h4.frz i g4 4, h5⟩
theorem Own.steps6 (h : Own w0 D w L) (i : Nat) {b : Nat} {t : TypeId} {a0 a1 a2 a3 a4 a5 : Value} (hi : L[i]? = some (blkR b (.cells #[a0, a1, a2, a3, a4, a5] t))) (v0 v1 v2 v3 v4 v5 : Value) : ∃ x1 x2 x3 x4 x5 x6, w.setCell ⟨b, 0, none⟩ v0 = x1 ∧ x1.setCell ⟨b, 1, none⟩ v1 = x2 ∧ x2.setCell ⟨b, 2, none⟩ v2 = x3 ∧ x3.setCell ⟨b, 3, none⟩ v3 = x4 ∧ x4.setCell ⟨b, 4, none⟩ v4 = x5 ∧ x5.setCell ⟨b, 5, none⟩ v5 = x6 ∧ w.cell? ⟨b, 0, none⟩ = some a0 ∧ w.frozen? ⟨b, 0, none⟩ = false ∧ x1.cell? ⟨b, 1, none⟩ = some a1 ∧ x1.frozen? ⟨b, 1, none⟩ = false ∧ x2.cell? ⟨b, 2, none⟩ = some a2 ∧ x2.frozen? ⟨b, 2, none⟩ = false ∧ x3.cell? ⟨b, 3, none⟩ = some a3 ∧ x3.frozen? ⟨b, 3, none⟩ = false ∧ x4.cell? ⟨b, 4, none⟩ = some a4 ∧ x4.frozen? ⟨b, 4, none⟩ = false ∧ x5.cell? ⟨b, 5, none⟩ = some a5 ∧ x5.frozen? ⟨b, 5, none⟩ = false ∧ Own w0 D x6 (L.set i (blkR b (.cells #[v0, v1, v2, v3, v4, v5] t))) := by
 have h1 : Own w0 D _ (L.set i (blkR b (.cells #[v0, a1, a2, a3, a4, a5] t))) := h.setCell i hi 0 v0
 have g1 : (L.set i (blkR b (.cells #[v0, a1, a2, a3, a4, a5] t)))[i]? = some (blkR b (.cells #[v0, a1, a2, a3, a4, a5] t)) := set_self hi
 have h2 : Own w0 D ((w.setCell ⟨b, 0, none⟩ v0).setCell ⟨b, 1, none⟩ v1) (L.set i (blkR b (.cells #[v0, v1, a2, a3, a4, a5] t))) := by
  have := h1.setCell i g1 1 v1
  rw [List.set_set] at this
  exact this
 have g2 : (L.set i (blkR b (.cells #[v0, v1, a2, a3, a4, a5] t)))[i]? = some (blkR b (.cells #[v0, v1, a2, a3, a4, a5] t)) := set_self hi
 have h3 : Own w0 D (((w.setCell ⟨b, 0, none⟩ v0).setCell ⟨b, 1, none⟩ v1).setCell ⟨b, 2, none⟩ v2) (L.set i (blkR b (.cells #[v0, v1, v2, a3, a4, a5] t))) := by
  have := h2.setCell i g2 2 v2
  rw [List.set_set] at this
  exact this
 have g3 : (L.set i (blkR b (.cells #[v0, v1, v2, a3, a4, a5] t)))[i]? = some (blkR b (.cells #[v0, v1, v2, a3, a4, a5] t)) := set_self hi
 have h4 : Own w0 D ((((w.setCell ⟨b, 0, none⟩ v0).setCell ⟨b, 1, none⟩ v1).setCell ⟨b, 2, none⟩ v2).setCell ⟨b, 3, none⟩ v3) (L.set i (blkR b (.cells #[v0, v1, v2, v3, a4, a5] t))) := by
  have := h3.setCell i g3 3 v3
  rw [List.set_set] at this
  exact this
 have g4 : (L.set i (blkR b (.cells #[v0, v1, v2, v3, a4, a5] t)))[i]? = some (blkR b (.cells #[v0, v1, v2, v3, a4, a5] t)) := set_self hi
 have h5 : Own w0 D (((((w.setCell ⟨b, 0, none⟩ v0).setCell ⟨b, 1, none⟩ v1).setCell ⟨b, 2, none⟩ v2).setCell ⟨b, 3, none⟩ v3).setCell ⟨b, 4, none⟩ v4) (L.set i (blkR b (.cells #[v0, v1, v2, v3, v4, a5] t))) := by
  have := h4.setCell i g4 4 v4
  rw [List.set_set] at this
  exact this
 have g5 : (L.set i (blkR b (.cells #[v0, v1, v2, v3, v4, a5] t)))[i]? = some (blkR b (.cells #[v0, v1, v2, v3, v4, a5] t)) := set_self hi
 have h6 : Own w0 D ((((((w.setCell ⟨b, 0, none⟩ v0).setCell ⟨b, 1, none⟩ v1).setCell ⟨b, 2, none⟩ v2).setCell ⟨b, 3, none⟩ v3).setCell ⟨b, 4, none⟩ v4).setCell ⟨b, 5, none⟩ v5) (L.set i (blkR b (.cells #[v0, v1, v2, v3, v4, v5] t))) := by
  have := h5.setCell i g5 5 v5
  rw [List.set_set] at this
  exact this
 exact ⟨_, _, _, _, _, _, rfl, rfl, rfl, rfl, rfl, rfl, h.cell i hi 0 rfl, h.frz i hi 0, h1.cell i g1 1 rfl, h1.frz i g1 1, h2.cell i g2 2 rfl, h2.frz i g2 2, h3.cell i g3 3 rfl, h3.frz i g3 3, h4.cell i g4 4 rfl, h4.frz i g4 4, h5.cell i g5 5 rfl, h5.frz i g5 5, h6⟩
end

section
variable {w0 w : World} {D : Nat → Prop} {L : List Res}
theorem Own.c1 (h : Own w0 D w L) (i : Nat) {b : Nat} {t : TypeId} {a0 : Value} (hi : L[i]? = some (blkR b (.cells #[a0] t))) : w.cell? ⟨b, 0, none⟩ = some a0 := h.cell i hi 0 rfl
theorem Own.c2 (h : Own w0 D w L) (i : Nat) {b : Nat} {t : TypeId} {a0 a1 : Value} (hi : L[i]? = some (blkR b (.cells #[a0, a1] t))) : w.cell? ⟨b, 0, none⟩ = some a0 ∧ w.cell? ⟨b, 1, none⟩ = some a1 := ⟨h.cell i hi 0 rfl, h.cell i hi 1 rfl⟩
theorem Own.c3 (h : Own w0 D w L) (i : Nat) {b : Nat} {t : TypeId} {a0 a1 a2 : Value} (hi : L[i]? = some (blkR b (.cells #[a0, a1, a2] t))) : w.cell? ⟨b, 0, none⟩ = some a0 ∧ w.cell? ⟨b, 1, none⟩ = some a1 ∧ w.cell? ⟨b, 2, none⟩ = some a2 := ⟨h.cell i hi 0 rfl, h.cell i hi 1 rfl, h.cell i hi 2 rfl⟩
theorem Own.c4 (h : Own w0 D w L) (i : Nat) {b : Nat} {t : TypeId} {a0 a1 a2 a3 : Value} (hi : L[i]? = some (blkR b (.cells #[a0, a1, a2, a3] t))) : w.cell? ⟨b, 0, none⟩ = some a0 ∧ w.cell? ⟨b, 1, none⟩ = some a1 ∧ w.cell? ⟨b, 2, none⟩ = some a2 ∧ w.cell? ⟨b, 3, none⟩ = some a3 := ⟨h.cell i hi 0 rfl, h.cell i hi 1 rfl, h.cell i hi 2 rfl, h.cell i hi 3 rfl⟩
theorem Own.c5 (h : Own w0 D w L) (i : Nat) {b : Nat} {t : TypeId} {a0 a1 a2 a3 a4 : Value} (hi : L[i]? = some (blkR b (.cells #[a0, a1, a2, a3, a4] t))) : w.cell? ⟨b, 0, none⟩ = some a0 ∧ w.cell? ⟨b, 1, none⟩ = some a1 ∧ w.cell? ⟨b, 2, none⟩ = some a2 ∧ w.cell? ⟨b, 3, none⟩ = some a3 ∧ w.cell? ⟨b, 4, none⟩ = some a4 := ⟨h.cell i hi 0 rfl, h.cell i hi 1 rfl, h.cell i hi 2 rfl, h.cell i hi 3 rfl, h.cell i hi 4 rfl⟩
theorem Own.c6 (h : Own w0 D w L) (i : Nat) {b : Nat} {t : TypeId} {a0 a1 a2 a3 a4 a5 : Value} (hi : L[i]? = some (blkR b (.cells #[a0, a1, a2, a3, a4, a5] t))) : w.cell? ⟨b, 0, none⟩ = some a0 ∧ w.cell? ⟨b, 1, none⟩ = some a1 ∧ w.cell? ⟨b, 2, none⟩ = some a2 ∧ w.cell? ⟨b, 3, none⟩ = some a3 ∧ w.cell? ⟨b, 4, none⟩ = some a4 ∧ w.cell? ⟨b, 5, none⟩ = some a5 := ⟨h.cell i hi 0 rfl, h.cell i hi 1 rfl, h.cell i hi 2 rfl, h.cell i hi 3 rfl, h.cell i hi 4 rfl, h.cell i hi 5 rfl⟩
theorem Own.c7 (h : Own w0 D w L) (i : Nat) {b : Nat} {t : TypeId} {a0 a1 a2 a3 a4 a5 a6 : Value} (hi : L[i]? = some (blkR b (.cells #[a0, a1, a2, a3, a4, a5, a6] t))) : w.cell? ⟨b, 0, none⟩ = some a0 ∧ w.cell? ⟨b, 1, none⟩ = some a1 ∧ w.cell? ⟨b, 2, none⟩ = some a2 ∧ w.cell? ⟨b, 3, none⟩ = some a3 ∧ w.cell? ⟨b, 4, none⟩ = some a4 ∧ w.cell? ⟨b, 5, none⟩ = some a5 ∧ w.cell? ⟨b, 6, none⟩ = some a6 := ⟨h.cell i hi 0 rfl, h.cell i hi 1 rfl, h.cell i hi 2 rfl, h.cell i hi 3 rfl, h.cell i hi 4 rfl, h.cell i hi 5 rfl, h.cell i hi 6 rfl⟩
end

section
variable {w0 w : World} {D : Nat → Prop} {L : List Res} {b : Nat} {t : TypeId} {a0 a1 a2 a3 a4 a5 a6 a7 a8 a9 : Value}
theorem Own.g2 (h : Own w0 D w L) (i : Nat) (hi : L[i]? = some (blkR b (.cells #[a0, a1] t))) : (∀ d os, (grow (redrawn w d) os).cell? ⟨b, 0, none⟩ = some a0) ∧ (∀ d os, (grow (redrawn w d) os).cell? ⟨b, 1, none⟩ = some a1) := ⟨cell_regrown (h.cell i hi 0 rfl), cell_regrown (h.cell i hi 1 rfl)⟩
theorem Own.g3 (h : Own w0 D w L) (i : Nat) (hi : L[i]? = some (blkR b (.cells #[a0, a1, a2] t))) : (∀ d os, (grow (redrawn w d) os).cell? ⟨b, 0, none⟩ = some a0) ∧ (∀ d os, (grow (redrawn w d) os).cell? ⟨b, 1, none⟩ = some a1) ∧ (∀ d os, (grow (redrawn w d) os).cell? ⟨b, 2, none⟩ = some a2) := ⟨cell_regrown (h.cell i hi 0 rfl), cell_regrown (h.cell i hi 1 rfl), cell_regrown (h.cell i hi 2 rfl)⟩
theorem Own.g4 (h : Own w0 D w L) (i : Nat) (hi : L[i]? = some (blkR b (.cells #[a0, a1, a2, a3] t))) : (∀ d os, (grow (redrawn w d) os).cell? ⟨b, 0, none⟩ = some a0) ∧ (∀ d os, (grow (redrawn w d) os).cell? ⟨b, 1, none⟩ = some a1) ∧ (∀ d os, (grow (redrawn w d) os).cell? ⟨b, 2, none⟩ = some a2) ∧ (∀ d os, (grow (redrawn w d) os).cell? ⟨b, 3, none⟩ = some a3) := ⟨cell_regrown (h.cell i hi 0 rfl), cell_regrown (h.cell i hi 1 rfl), cell_regrown (h.cell i hi 2 rfl), cell_regrown (h.cell i hi 3 rfl)⟩
theorem Own.g5 (h : Own w0 D w L) (i : Nat) (hi : L[i]? = some (blkR b (.cells #[a0, a1, a2, a3, a4] t))) : (∀ d os, (grow (redrawn w d) os).cell? ⟨b, 0, none⟩ = some a0) ∧ (∀ d os, (grow (redrawn w d) os).cell? ⟨b, 1, none⟩ = some a1) ∧ (∀ d os, (grow (redrawn w d) os).cell? ⟨b, 2, none⟩ = some a2) ∧ (∀ d os, (grow (redrawn w d) os).cell? ⟨b, 3, none⟩ = some a3) ∧ (∀ d os, (grow (redrawn w d) os).cell? ⟨b, 4, none⟩ = some a4) := ⟨cell_regrown (h.cell i hi 0 rfl), cell_regrown (h.cell i hi 1 rfl), cell_regrown (h.cell i hi 2 rfl), cell_regrown (h.cell i hi 3 rfl), cell_regrown (h.cell i hi 4 rfl)⟩
theorem Own.g6 (h : Own w0 D w L) (i : Nat) (hi : L[i]? = some (blkR b (.cells #[a0, a1, a2, a3, a4, a5] t))) : (∀ d os, (grow (redrawn w d) os).cell? ⟨b, 0, none⟩ = some a0) ∧ (∀ d os, (grow (redrawn w d) os).cell? ⟨b, 1, none⟩ = some a1) ∧ (∀ d os, (grow (redrawn w d) os).cell? ⟨b, 2, none⟩ = some a2) ∧ (∀ d os, (grow (redrawn w d) os).cell? ⟨b, 3, none⟩ = some a3) ∧ (∀ d os, (grow (redrawn w d) os).cell? ⟨b, 4, none⟩ = some a4) ∧ (∀ d os, (grow (redrawn w d) os).cell? ⟨b, 5, none⟩ = some a5) := ⟨cell_regrown (h.cell i hi 0 rfl), cell_regrown (h.cell i hi 1 rfl), cell_regrown (h.cell i hi 2 rfl), cell_regrown (h.cell i hi 3 rfl), cell_regrown (h.cell i hi 4 rfl), cell_regrown (h.cell i hi 5 rfl)⟩
theorem Own.g7 (h : Own w0 D w L) (i : Nat) (hi : L[i]? = some (blkR b (.cells #[a0, a1, a2, a3, a4, a5, a6] t))) : (∀ d os, (grow (redrawn w d) os).cell? ⟨b, 0, none⟩ = some a0) ∧ (∀ d os, (grow (redrawn w d) os).cell? ⟨b, 1, none⟩ = some a1) ∧ (∀ d os, (grow (redrawn w d) os).cell? ⟨b, 2, none⟩ = some a2) ∧ (∀ d os, (grow (redrawn w d) os).cell? ⟨b, 3, none⟩ = some a3) ∧ (∀ d os, (grow (redrawn w d) os).cell? ⟨b, 4, none⟩ = some a4) ∧ (∀ d os, (grow (redrawn w d) os).cell? ⟨b, 5, none⟩ = some a5) ∧ (∀ d os, (grow (redrawn w d) os).cell? ⟨b, 6, none⟩ = some a6) := ⟨cell_regrown (h.cell i hi 0 rfl), cell_regrown (h.cell i hi 1 rfl), cell_regrown (h.cell i hi 2 rfl), cell_regrown (h.cell i hi 3 rfl), cell_regrown (h.cell i hi 4 rfl), cell_regrown (h.cell i hi 5 rfl), cell_regrown (h.cell i hi 6 rfl)⟩
end
section
variable {w : World}
theorem flat_getR {κ : Type} (kc : κ → List Value) (sz : Nat) (h : ∀ k, (kc k).length = sz) : ∀ (l : List κ) (j : Nat) (hj : j < l.length) (i : Nat), i < sz → (l.flatMap kc)[j * sz + i]? = (kc l[j])[i]?
 | [], j, hj, i, _ => by simp at hj
 | a :: l, 0, hj, i, hi => by
  simp only [List.flatMap_cons, Nat.zero_mul, Nat.zero_add, List.getElem_cons_zero]
  rw [List.getElem?_append_left (by rw [h]; exact hi)]
 | a :: l, j + 1, hj, i, hi => by
  simp only [List.flatMap_cons, List.getElem_cons_succ]
  rw [List.getElem?_append_right (by rw [h, Nat.add_mul]; omega), h, show (j + 1) * sz + i - sz = j * sz + i by rw [Nat.add_mul]; omega]
  exact flat_getR kc sz h l j (by simpa using hj) i hi
theorem any_take {α : Type} {p : α → Bool} {l : List α} {k : Nat} (hk : k < l.length) (h : (l.take k).any p = false) : (l.take (k + 1)).any p = p l[k] := by
 rw [List.take_succ_eq_append_getElem hk, List.any_append, h]; simp
theorem filter_step {α : Type} {p : α → Bool} {l : List α} {k : Nat} (hk : k < l.length) : (l.take (k + 1)).filter p = (l.take k).filter p ++ (if p l[k] then [l[k]] else []) := by
 rw [List.take_succ_eq_append_getElem hk, List.filter_append]
 cases h : p l[k] <;> simp [h]
end
def near (w : World) (v v' : Value) : Prop := v'.ownBlock = none ∨ v'.ownBlock = v.ownBlock ∨ ∃ g, v'.ownBlock = some g ∧ w.heap.size ≤ g
theorem near.refl (w : World) (v : Value) : near w v v := .inr (.inl rfl)
theorem near.trans {w w1 : World} {v v1 v2 : Value} (hs : w.heap.size ≤ w1.heap.size) (h1 : near w v v1) (h2 : near w1 v1 v2) : near w v v2 := by
 rcases h2 with h | h | ⟨g, h, hg⟩
 ·
  exact .inl h
 ·
  rcases h1 with h' | h' | ⟨g, h', hg⟩
  ·
   exact .inl (h.trans h')
  ·
   exact .inr (.inl (h.trans h'))
  ·
   exact .inr (.inr ⟨g, h.trans h', hg⟩)
 ·
  exact .inr (.inr ⟨g, h, by omega⟩)

theorem run_append_near {P : Program} (w : World) (base : Nat) (t ty e : TypeId) (i : TypeInfo) (z : Value) (size bytes : Nat) (ht : P.underlying t = some (.slice e)) (hi : P.info? e = some i) (hz : i.zero = some z)
  (hsize : i.size = size) (hby : i.bytes = bytes) (hzs : z.cells.size = size) (hsz : 0 < size) (v : Value) (n : Nat) (xs : List Value) (hown : w.ownsRow base e size v n xs)
  (ad : Addr) (m c : Nat) (news : List Value) (hl : news.length = m * size) (hnews : ∀ j u, news[j]? = some u → w.cell? (ad.add j) = some u) (h1 : ∀ u ∈ news, u.oneCell' = true)
  (h63 : n + m ≤ maxLen) (hbytes : (n + m) * bytes ≤ 140737488355328) (hbase : base ≤ w.heap.size) :
  ∃ v' w', (Builtin.append_ #[t, t] ty #[v, .slice (some ad) m c]).run P w = .ok v' w' ∧ w'.ownsRow base e size v' (n + m) (xs ++ news) ∧ w.grownBy w' v.ownBlock ∧ near w v v' := by
 obtain ⟨v', w', hrun, r1, r2, _⟩ := run_append_own (P := P) w base t ty e i z size bytes ht hi hz hsize hby hzs hsz v n xs hown ad m c news hl hnews h1 h63 hbytes hbase
 have hold := hown.2
 rcases hold with ⟨rfl, hn⟩ | ⟨g, cap, cur, rfl, hg, hcur, hncap, hcm, hsz', htk⟩
 ·
  subst hn
  obtain rfl : xs = [] := List.eq_nil_of_length_eq_zero (by simpa using hown.1)
  obtain ⟨v2, w2, hrun2, s1, s2, _⟩ := run_append_own (P := P) w w.heap.size t ty e i z size bytes ht hi hz hsize hby hzs hsz (.slice none 0 0) 0 [] (World.ownsRow_nil w _ e size) ad m c news hl hnews h1 h63 hbytes (Nat.le_refl _)
  rw [hrun] at hrun2
  cases hrun2
  refine ⟨_, _, hrun, r1, r2, ?_⟩
  rcases s1.2 with ⟨e', _⟩ | ⟨g, _, _, e', hg, _⟩
  ·
   exact .inl (by rw [e']; rfl)
  ·
   exact .inr (.inr ⟨g, by rw [e']; rfl, hg⟩)
 ·
  by_cases hroom : n + m ≤ cap
  ·
   subst hsize
   have hrun2 := run_append_room_cells (P := P) w t ty e i ht hi g 0 n cap ad m c news hl hnews h1 hroom (fun j hj => by
    have : n * i.size + j < cur.size := by
     rw [hsz']
     have := Nat.mul_le_mul_right i.size hroom
     rw [Nat.add_mul] at this
     omega
    simp [World.cell?, hcur, this]) (fun j hj => by simp [World.frozen?, hcur])
   rw [hrun] at hrun2
   cases hrun2
   exact ⟨_, _, hrun, r1, r2, .inr (.inl rfl)⟩
  ·
   have hcells : ∀ j u, xs[j]? = some u → w.cell? ((⟨g, 0, none⟩ : Addr).add j) = some u := fun j u hj => by
    have hjl : j < n * size := by
     rcases Nat.lt_or_ge j (n * size) with h | h
     ·
      exact h
     ·
      rw [List.getElem?_eq_none (by rw [hown.1]; exact h)] at hj; cases hj
    have ea : (⟨g, 0, none⟩ : Addr).add j = ⟨g, j, none⟩ := by
     unfold Addr.add
     split
     ·
      rename_i h; have : j = 0 := by simpa using h
      subst this; rfl
     ·
      simp
    rw [ea]
    rw [← htk, List.getElem?_take, if_pos hjl] at hj
    simpa [World.cell?, hcur] using hj
   obtain ⟨v2, w2, hrun2, s1, s2⟩ := run_append_arg_grows (P := P) w t ty e i z size bytes ht hi hz hsize hby hzs hsz ⟨g, 0, none⟩ n cap xs hown.1 hcells ad m c news hl hnews (by omega) h63 hbytes
   rw [hrun] at hrun2
   cases hrun2
   refine ⟨_, _, hrun, r1, r2, ?_⟩
   rcases s1.2 with ⟨e', _⟩ | ⟨g, _, _, e', hg, _⟩
   ·
    exact .inl (by rw [e']; rfl)
   ·
    exact .inr (.inr ⟨g, by rw [e']; rfl, hg⟩)

theorem upd_of_grown {w w' : World} {row : Option Nat} (h : w.grownBy w' row) : Upd (fun b => row = some b) w w' :=
 ⟨h.os, h.tape, h.output, h.size, fun k hk hn => h.block k hk (fun e => hn e.symm)⟩
theorem wp_app {P : Program} {o : Oper} {a : Act} {w : World} {Q : Exit → Act → World → Prop} (s x : Operand) (t : TypeId) (ho : o.op = .call { callee := .builtin .append, args := #[s, x], argTypes := #[t, t] })
  {e : TypeId} {i : TypeInfo} {z : Value} {size bytes : Nat} (ht : P.underlying t = some (.slice e)) (hi : P.info? e = some i) (hz : i.zero = some z) (hsize : i.size = size) (hby : i.bytes = bytes) (hzs : z.cells.size = size) (hsz : 0 < size)
  {base : Nat} {v : Value} {n : Nat} {xs : List Value} (hs : a.eval s = v) (hown : w.ownsRow base e size v n xs) {ad : Addr} {m c : Nat} (news : List Value) (hx : a.eval x = .slice (some ad) m c) (hl : news.length = m * size) (hnews : ∀ j u, news[j]? = some u → w.cell? (ad.add j) = some u)
  (h1 : ∀ u ∈ news, u.oneCell' = true) (h63 : n + m ≤ maxLen) (hbytes : (n + m) * bytes ≤ 140737488355328) (hbase : base ≤ w.heap.size) :
  o.wp P a w (fun a' w' => ∃ v', a' = a.put o.dst v' ∧ w'.ownsRow base e size v' (n + m) (xs ++ news) ∧ Upd (fun b => v.ownBlock = some b) w w' ∧ near w v v') Q := by
 obtain ⟨v', w', hrun, r1, r2, r3⟩ := run_append_near (P := P) w base t o.type e i z size bytes ht hi hz hsize hby hzs hsz v n xs hown ad m c news hl hnews h1 h63 hbytes hbase
 exact wp_append_run ho hs hx hrun ⟨v', rfl, r1, upd_of_grown r2, r3⟩

theorem wpList_app {P : Program} {ops : Array Oper} {rest : List Oper} {o : Oper} {a : Act} {w : World} {Q : Exit → Act → World → Prop} (hgd : o.guard = none) (s x : Operand) (t : TypeId) (ho : o.op = .call { callee := .builtin .append, args := #[s, x], argTypes := #[t, t] })
  {e : TypeId} {i : TypeInfo} {z : Value} {size bytes : Nat} (ht : P.underlying t = some (.slice e)) (hi : P.info? e = some i) (hz : i.zero = some z) (hsize : i.size = size) (hby : i.bytes = bytes) (hzs : z.cells.size = size) (hsz : 0 < size)
  {base : Nat} {v : Value} {n : Nat} {xs : List Value} (hs : a.eval s = v) (hown : w.ownsRow base e size v n xs) {ad : Addr} {m c : Nat} (news : List Value) (hx : a.eval x = .slice (some ad) m c) (hl : news.length = m * size) (hnews : ∀ j u, news[j]? = some u → w.cell? (ad.add j) = some u)
  (h1 : ∀ u ∈ news, u.oneCell' = true) (h63 : n + m ≤ maxLen) (hbytes : (n + m) * bytes ≤ 140737488355328) (hbase : base ≤ w.heap.size)
  (h : ∀ v' w', w'.ownsRow base e size v' (n + m) (xs ++ news) → Upd (fun b => v.ownBlock = some b) w w' → near w v v' → wpList P ops Q rest (a.put o.dst v') w') : wpList P ops Q (o :: rest) a w := by
 obtain ⟨v', w', hrun, r1, r2, r3⟩ := run_append_near (P := P) w base t o.type e i z size bytes ht hi hz hsize hby hzs hsz v n xs hown ad m c news hl hnews h1 h63 hbytes hbase
 exact wpList_plain hgd fun K hK => wp_append_run ho hs hx hrun (hK _ _ (h v' w' r1 (upd_of_grown r2) r3))
def OPost (w0 : World) (D : Nat → Prop) (L : List Res) (v : Value) (w : World) (e : Ending) (w' : World) : Prop := e = .returned v ∧ Own w0 D w' L ∧ w.heap.size ≤ w'.heap.size
section
variable {P : Program} {f : FuncId} {args : Array Value} {w0 w : World} {D : Nat → Prop} {v : Value} {L : List Res}
theorem o_still (h : Own w0 D w L) (hc : Calls P f args w fun e w' => e = .returned v ∧ Below w.heap.size w w') : Calls P f args w (OPost w0 D L v w) :=
 hc.mono fun e w' ⟨he, hb⟩ => ⟨he, h.stay hb, hb.size⟩
theorem o_same (h : Own w0 D w L) (hc : Calls P f args w fun e w' => e = .returned v ∧ w = w') : Calls P f args w (OPost w0 D L v w) :=
 hc.mono fun e w' ⟨he, hb⟩ => ⟨he, hb ▸ h, by rw [hb]; exact Nat.le_refl _⟩
theorem o_step {i : Nat} {R R' : Res} (h : Own w0 D w L) (hi : L[i]? = some R)
  (hc : ∀ F, R.P w F → Calls P f args w fun e w' => e = .returned v ∧ ∃ F', R'.P w' F' ∧ (∀ b, F' b → F b ∨ w.heap.size ≤ b) ∧ Upd F w w') : Calls P f args w (OPost w0 D (L.set i R') v w) := by
 obtain ⟨F, h1, _, h3⟩ := h.step hi
 exact (hc F h1).mono fun e w' ⟨he, F', hR, hF, hu⟩ => ⟨he, h3 hR hF hu, hu.size⟩
theorem o_one {i : Nat} {R R' : Res} (h : Own w0 D w L) (hi : L[i]? = some R)
  (hc : ∀ D, Own w D w [R] → Calls P f args w (OPost w D [R'] v w)) : Calls P f args w (OPost w0 D (L.set i R') v w) :=
 o_step h hi fun F hF => (hc F (Own.one hF)).mono fun e w' ⟨he, ho, _⟩ => by
  obtain ⟨F', h1, h2, _⟩ := ho.step (i := 0) rfl
  exact ⟨he, F', h1, h2, ho.upd⟩
end

theorem ghO_quiet {P : Program} {f : FuncId} {args : Array Value} {w : World} {v : Value} (hc : Calls P f args w fun e w' => e = .returned v ∧ w = w') : Calls P f args w fun e w' => e = .returned v ∧ Below w.heap.size w w' :=
 hc.mono fun e w' ⟨he, hb⟩ => ⟨he, hb ▸ Below.refl _ _⟩

theorem news_o {w : World} {b : Nat} {l : List Value} {t : TypeId} (h : w.heap[b]? = some (.cells l.toArray t)) : ∀ j u, l[j]? = some u → w.cell? ((⟨b, 0, none⟩ : Addr).add j) = some u := by
 intro j u hj
 have ea : (⟨b, 0, none⟩ : Addr).add j = ⟨b, j, none⟩ := by
  unfold Addr.add
  split
  ·
   rename_i h; have : j = 0 := by simpa using h
   subst this; rfl
  ·
   simp
 rw [ea]
 simp [World.cell?, h, hj]
theorem wpList_appO {P : Program} {ops : Array Oper} {rest : List Oper} {o : Oper} {a : Act} {w0 w : World} {D : Nat → Prop} {L : List Res} {Q : Exit → Act → World → Prop} (hgd : o.guard = none) (s x : Operand) (t : TypeId) (ho : o.op = .call { callee := .builtin .append, args := #[s, x], argTypes := #[t, t] })
  {e : TypeId} {z : Value} {size bytes : Nat} (ht : P.underlying t = some (.slice e)) (hi : (P.info? e).map (fun i => (i.zero, i.size, i.bytes)) = some (some z, size, bytes)) (hzs : z.cells.size = size) (hsz : 0 < size)
  (h : Own w0 D w L) (i : Nat) {v : Value} {n : Nat} {xs : List Value} (hL : L[i]? = some (rowR v e size n xs)) (hs : a.eval s = v) (j : Nat) {b : Nat} (m c : Nat) (news : List Value) {t' : TypeId} (hb : L[j]? = some (blkR b (.cells news.toArray t'))) (hx : a.eval x = .slice (some ⟨b, 0, none⟩) m c)
  (hl : news.length = m * size) (h1 : ∀ u ∈ news, u.oneCell' = true) (h63 : n + m ≤ maxLen) (hbytes : (n + m) * bytes ≤ 140737488355328)
  (hk : ∀ v' w', Own w0 D w' (L.set i (rowR v' e size (n + m) (xs ++ news))) → wpList P ops Q rest (a.put o.dst v') w') : wpList P ops Q (o :: rest) a w := by
 obtain ⟨i0, hi, hz0, hz1, hz2⟩ := info_parts hi
 refine wpList_app hgd s x t ho ht hi hz0 hz1 hz2 hzs hsz hs (h.row i hL) news hx hl (news_o (h.blk j hb)) h1 h63 hbytes (Nat.zero_le _) fun v' w' hown hu hnear => hk v' w' (h.rowTo i hL hown hu fun g hg => ?_)
 rcases hnear with h2 | h2 | ⟨g2, h2, h3⟩
 ·
  rw [h2] at hg; cases hg
 ·
  exact .inl (h2 ▸ hg)
 ·
  rw [h2] at hg; cases hg; exact .inr h3
section
variable {w0 w : World} {D : Nat → Prop} {L : List Res}
theorem Own.openC {Rs : List Res} (h : Own w0 D w (sepR Rs :: L)) : Own w0 D w (Rs ++ L) := by
 obtain ⟨h1, Fs, h2, h3⟩ := h
 obtain ⟨⟨Gs, f1, f2, f3⟩, hd⟩ := h2 0 (sepR Rs) rfl
 have hcross : ∀ i k b, i < Rs.length → k < L.length → Gs i b → ¬ Fs (k + 1) b := fun i k b hi hk hg => h3 0 (k + 1) (by simp) (by simp; omega) (by omega) b ((f3 b).2 ⟨i, hi, hg⟩)
 refine ⟨h1, fun j => if j < Rs.length then Gs j else Fs (j - Rs.length + 1), fun j R hj => ?_, fun j k hj hk hjk b => ?_⟩
 ·
  dsimp only
  by_cases e : j < Rs.length
  ·
   rw [if_pos e]
   rw [List.getElem?_append_left e] at hj
   exact ⟨f1 j R hj, fun b hb => hd b ((f3 b).2 ⟨j, e, hb⟩)⟩
  ·
   rw [if_neg e]
   rw [List.getElem?_append_right (by omega)] at hj
   exact h2 (j - Rs.length + 1) R (by simpa using hj)
 ·
  rw [List.length_append] at hj hk
  dsimp only
  by_cases e1 : j < Rs.length
  ·
   rw [if_pos e1]
   by_cases e2 : k < Rs.length
   ·
    rw [if_pos e2]; exact f2 j k e1 e2 hjk b
   ·
    rw [if_neg e2]; exact hcross j (k - Rs.length) b e1 (by omega)
  ·
   rw [if_neg e1]
   by_cases e2 : k < Rs.length
   ·
    rw [if_pos e2]; exact fun x y => hcross k (j - Rs.length) b e2 (by omega) y x
   ·
    rw [if_neg e2]; exact h3 (j - Rs.length + 1) (k - Rs.length + 1) (by simp; omega) (by simp; omega) (by omega) b
theorem Own.shutC {Rs : List Res} (h : Own w0 D w (Rs ++ L)) : Own w0 D w (sepR Rs :: L) := by
 obtain ⟨h1, Gs, h2, h3⟩ := h
 have hR : ∀ i R, Rs[i]? = some R → R.P w (Gs i) ∧ ∀ b, Gs i b → D b ∨ w0.heap.size ≤ b := fun i R hi => h2 i R (by rw [List.getElem?_append_left (get_len hi)]; exact hi)
 refine ⟨h1, fun j => match j with | 0 => fun b => ∃ i, i < Rs.length ∧ Gs i b | k + 1 => Gs (Rs.length + k), fun j R hj => ?_, fun j k hj hk hjk b => ?_⟩
 ·
  cases j with
  | zero =>
   cases hj
   refine ⟨⟨Gs, fun i R hi => (hR i R hi).1, fun i j hi hj => h3 i j (by simp; omega) (by simp; omega), fun b => Iff.rfl⟩, fun b ⟨i, hi, hb⟩ => (hR i Rs[i] (List.getElem?_eq_getElem hi)).2 b hb⟩
  | succ k => exact h2 (Rs.length + k) R (by rw [List.getElem?_append_right (by omega)]; simpa using hj)
 ·
  simp only [List.length_cons] at hj hk
  cases j with
  | zero =>
   cases k with
   | zero => exact absurd rfl hjk
   | succ k => rintro ⟨i, hi, hb⟩; exact h3 i (Rs.length + k) (by simp; omega) (by simp; omega) (by omega) b hb
  | succ j =>
   cases k with
   | zero => rintro hb ⟨i, hi, hb2⟩; exact h3 i (Rs.length + j) (by simp; omega) (by simp; omega) (by omega) b hb2 hb
   | succ k => exact h3 (Rs.length + j) (Rs.length + k) (by simp; omega) (by simp; omega) (by omega) b
theorem Own.openExC {α : Type} {f : α → Res} (h : Own w0 D w (exR f :: L)) : ∃ a, Own w0 D w (f a :: L) := by
 obtain ⟨h1, Gs, h2, h3⟩ := h
 obtain ⟨⟨a, ha⟩, hd⟩ := h2 0 (exR f) rfl
 refine ⟨a, h1, Gs, fun i R hi => ?_, h3⟩
 cases i with
 | succ i => exact h2 (i + 1) R hi
 | zero => cases hi; exact ⟨ha, hd⟩
theorem Own.shutExC {α : Type} {f : α → Res} (a : α) (h : Own w0 D w (f a :: L)) : Own w0 D w (exR f :: L) := by
 obtain ⟨h1, Gs, h2, h3⟩ := h
 obtain ⟨ha, hd⟩ := h2 0 (f a) rfl
 refine ⟨h1, Gs, fun i R hi => ?_, h3⟩
 cases i with
 | succ i => exact h2 (i + 1) R hi
 | zero => cases hi; exact ⟨⟨a, ha⟩, hd⟩
end
section
variable {w0 w : World} {D : Nat → Prop} {L L' : List Res}
theorem Own.swap {pre l : List Res} {x y : Res} (h : Own w0 D w (pre ++ y :: x :: l)) : Own w0 D w (pre ++ x :: y :: l) := by
 obtain ⟨h1, Fs, h2, h3⟩ := h
 let s : Nat → Nat := fun k => if k = pre.length then k + 1 else if k = pre.length + 1 then k - 1 else k
 have hinj : ∀ j k, j ≠ k → s j ≠ s k := fun j k hjk => by
  simp only [s]
  split <;> split <;> (try split) <;> (try split) <;> omega
 have hlen : ∀ k, k < (pre ++ x :: y :: l).length → s k < (pre ++ y :: x :: l).length := fun k hk => by
  simp only [List.length_append, List.length_cons, s] at *
  split
  ·
   omega
  ·
   split <;> omega
 have hget : ∀ k, (pre ++ x :: y :: l)[k]? = (pre ++ y :: x :: l)[s k]? := fun k => by
  simp only [s]
  by_cases e1 : k = pre.length
  ·
   subst e1; simp
  ·
   by_cases e2 : k = pre.length + 1
   ·
    subst e2
    rw [if_neg (by omega), if_pos rfl]
    simp
   ·
    rw [if_neg e1, if_neg e2]
    by_cases e3 : k < pre.length
    ·
     rw [List.getElem?_append_left e3, List.getElem?_append_left e3]
    ·
     rw [List.getElem?_append_right (by omega), List.getElem?_append_right (by omega)]
     obtain ⟨n, hn⟩ : ∃ n, k - pre.length = n + 2 := ⟨k - pre.length - 2, by omega⟩
     rw [hn]; simp
 refine ⟨h1, fun k => Fs (s k), fun k R hk => h2 (s k) R (by rw [← hget]; exact hk), fun j k hj hk hjk => h3 (s j) (s k) (hlen j hj) (hlen k hk) (hinj j k hjk)⟩
theorem Own.swap' {x y : Res} (h : Own w0 D w (y :: x :: L)) : Own w0 D w (x :: y :: L) := Own.swap (pre := []) h
theorem Own.perm_pre (hp : L.Perm L') : ∀ pre : List Res, Own w0 D w (pre ++ L) → Own w0 D w (pre ++ L') := by
 induction hp with
 | nil => exact fun _ h => h
 | cons x _ ih =>
  intro pre h
  have := ih (pre ++ [x]) (by simpa using h)
  simpa using this
 | swap x y l => exact fun pre h => h.swap
 | trans _ _ ih1 ih2 => exact fun pre h => ih2 pre (ih1 pre h)
theorem Own.perm (h : Own w0 D w L) (hp : L.Perm L') : Own w0 D w L' := Own.perm_pre hp [] h
theorem Own.rot (h : Own w0 D w (L ++ L')) : Own w0 D w (L' ++ L) := h.perm List.perm_append_comm
theorem Own.drop (h : Own w0 D w L) (n : Nat) : Own w0 D w (L.drop n) := by
 have h1 : Own w0 D w (L.drop n ++ L.take n) := Own.rot (by rw [List.take_append_drop]; exact h)
 have := h1.take (L.drop n).length
 rwa [List.take_left'] at this
 rfl
end
def ghS (w0 : World) (D : Nat → Prop) (S : List Value → List Res → Prop) : Ghost where
 inv := fun vs w => ∃ L, S vs L ∧ Own w0 D w L
 own := fun _ _ => True
 quiet := fun vs w w' ⟨L, h1, h2⟩ hb => ⟨L, h1, h2.stay hb⟩
theorem ghS_mv {w0 w w' : World} {D : Nat → Prop} {S : List Value → List Res → Prop} {vs : List Value} {u : Value} {L : List Res} (hS : S (vs ++ [u]) L) (h : Own w0 D w' L) (hs : w.heap.size ≤ w'.heap.size) : (ghS w0 D S).mv vs w u w' :=
 ⟨⟨L, hS, h⟩, hs, fun b _ hn => (hn trivial).elim, fun b _ => .inl trivial⟩
def apS (L : List Res) (i : Nat) (news : List Value) (T : TypeId) (R : Value → Res) : List Value → List Res → Prop
 | [], L' => L' = L
 | [s], L' => ∃ b, s = .slice (some ⟨b, 0, none⟩) 1 1 ∧ L' = L ++ [blkR b (.cells news.toArray T)]
 | [_, v], L' => L' = L.set i (R v)
 | _, _ => False
section
variable {w0 w : World} {D : Nat → Prop} {L : List Res} {i : Nat} {news : List Value} {T : TypeId} {R : Value → Res}
theorem apS_start (h : Own w0 D w L) : (ghS w0 D (apS L i news T R)).inv [] w := ⟨L, rfl, h⟩
theorem apS_cell (k : Nat) {b : Nat} {c : Array Value} {t : TypeId} (hk : L[k]? = some (blkR b (.cells c t))) (hki : k ≠ i) (j : Nat) {u : Value} (hj : c[j]? = some u) (p : (ghS w0 D (apS L i news T R)).Wd) : p.w.cell? ⟨b, j, none⟩ = some u := by
 obtain ⟨vs, w, L', h1, h2⟩ := p
 refine h2.cell (t := t) (c := c) k ?_ j hj
 have hkl := get_len hk
 match vs, h1 with
 | [], h1 => cases h1; exact hk
 | [s], ⟨b, _, h1⟩ => rw [h1, List.getElem?_append_left hkl]; exact hk
 | [s, v], h1 => cases h1; rw [List.getElem?_set_ne (Ne.symm hki)]; exact hk
theorem apS_build {vs : List Value} (h : (ghS w0 D (apS L i news T R)).inv vs w) (hl : vs.length = 0) : (ghS w0 D (apS L i news T R)).mv vs w (.slice (some ⟨w.heap.size, 0, none⟩) 1 1) (w.alloc (.cells news.toArray T)) := by
 obtain rfl : vs = [] := List.eq_nil_of_length_eq_zero hl
 obtain ⟨L', h1, h2⟩ := h
 cases h1
 exact ghS_mv (L := L ++ [blkR w.heap.size (.cells news.toArray T)]) ⟨_, rfl, rfl⟩ (h2.alloc _) (by simp)
theorem apS_app {P : Program} {o : Oper} {a : Act} {g : GW} {Q : Exit → Act → World → Prop} (s x : Operand) (t : TypeId) (ho : o.op = .call { callee := .builtin .append, args := #[s, x], argTypes := #[t, t] })
  {z : Value} {size bytes : Nat} (ht : P.underlying t = some (.slice T)) (hi0 : (P.info? T).map (fun i => (i.zero, i.size, i.bytes)) = some (some z, size, bytes)) (hzs : z.cells.size = size) (hsz : 0 < size)
  {v : Value} {n : Nat} {xs : List Value} (hL : L[i]? = some (rowR v T size n xs)) (hnl : news.length = size) (h1 : ∀ u ∈ news, u.oneCell' = true) (h63 : n + 1 ≤ maxLen) (hbytes : (n + 1) * bytes ≤ 140737488355328)
  (hinv : (ghS w0 D (apS L i news T (fun v' => rowR v' T size (n + 1) (xs ++ news)))).inv g.vs g.w) (hl : g.vs.length = 1) (hs : a.eval s = v) (hx : g.vs[0]? = some (a.eval x)) :
  o.wp P a g.w (fun a' w' => ∃ v', a' = a.put o.dst v' ∧ (ghS w0 D (apS L i news T (fun v' => rowR v' T size (n + 1) (xs ++ news)))).mv g.vs g.w v' w' ∧ gnth 1 v' ⟨g.vs ++ [v'], w'⟩) Q := by
 obtain ⟨vs, w⟩ := g
 obtain ⟨u, rfl⟩ : ∃ u, vs = [u] := List.length_eq_one_iff.1 hl
 obtain ⟨L', ⟨b, hu, rfl⟩, h⟩ := hinv
 have hx' : a.eval x = .slice (some ⟨b, 0, none⟩) 1 1 := by
  have : u = a.eval x := by simpa using hx
  rw [← this, hu]
 obtain ⟨i0, hi, hz0, hz1, hz2⟩ := info_parts hi0
 have hil := get_len hL
 have hL2 : (L ++ [blkR b (.cells news.toArray T)])[i]? = some (rowR v T size n xs) := by rw [List.getElem?_append_left hil]; exact hL
 have hb2 : (L ++ [blkR b (.cells news.toArray T)])[L.length]? = some (blkR b (.cells news.toArray T)) := by simp
 refine wp_next (wp_app s x t ho ht hi hz0 hz1 hz2 hzs hsz hs (h.row i hL2) news hx' (by rw [hnl]; simp) (news_o (h.blk _ hb2)) h1 h63 hbytes (Nat.zero_le _)) ?_
 rintro a'' w' ⟨v', rfl, hown, hu', hnear⟩
 refine ⟨v', rfl, ghS_mv (L := L.set i (rowR v' T size (n + 1) (xs ++ news))) rfl ?_ hu'.size, rfl⟩
 have := (h.rowTo i hL2 hown hu' fun g hg => ?_).take L.length
 ·
  rwa [List.set_append_left _ _ hil, List.take_left' (by simp)] at this
 ·
  rcases hnear with h2 | h2 | ⟨g2, h2, h3⟩
  ·
   rw [h2] at hg; cases hg
  ·
   exact .inl (h2 ▸ hg)
  ·
   rw [h2] at hg; cases hg; exact .inr h3
theorem apS_end {g : GW} (h : (ghS w0 D (apS L i news T R)).inv g.vs g.w) (hl : g.vs.length = 2) : ∃ s v, g.vs = [s, v] ∧ Own w0 D g.w (L.set i (R v)) := by
 obtain ⟨vs, w⟩ := g
 obtain ⟨s, v, rfl⟩ : ∃ s v, vs = [s, v] := by
  match vs, hl with
  | [s, v], _ => exact ⟨s, v, rfl⟩
 obtain ⟨L', h1, h2⟩ := h
 cases h1
 exact ⟨s, v, rfl, h2⟩
end
section
variable {Γ : Ghost} {P : Program} {ops : Array Oper} {chain : List Nat} {a0 : Act} {F : List GPred → Prop} {i : Nat} {o : Oper} {rest : List Oper} {a : Act} {ex : List (Tmp × GPred)}
end
theorem row_cells {w : World} {E sz n : Nat} {g cap : Nat} {xs : List Value} (h : w.ownsRow 0 E sz (.slice (some ⟨g, 0, none⟩) n cap) n xs) : (∀ j u, xs[j]? = some u → w.cell? ⟨g, j, none⟩ = some u) ∧ ∀ j, w.frozen? ⟨g, j, none⟩ = false := by
 obtain ⟨h1, ⟨e, _⟩ | ⟨g', cp, cur, e, _, hh, hcp, _, hs, htk⟩⟩ := h
 ·
  cases e
 ·
  cases e
  refine ⟨fun j u hj => ?_, fun j => by simp [World.frozen?, hh]⟩
  have hjl : j < n * sz := by
   rcases Nat.lt_or_ge j (n * sz) with h | h
   ·
    exact h
   ·
    rw [List.getElem?_eq_none (by omega)] at hj; cases hj
  rw [← htk, List.getElem?_take, if_pos hjl] at hj
  simp [World.cell?, hh]
  simpa using hj
theorem row_some {w : World} {E sz n : Nat} {a : Option Addr} {cap : Nat} {xs : List Value} (h : w.ownsRow 0 E sz (.slice a n cap) n xs) (h0 : 0 < n) : ∃ g, a = some ⟨g, 0, none⟩ := by
 obtain ⟨h1, ⟨e, hn⟩ | ⟨g', cp, cur, e, _⟩⟩ := h
 ·
  omega
 ·
  cases e; exact ⟨g', rfl⟩
theorem row_shape {w : World} {E sz n : Nat} {v : Value} {xs : List Value} (h : w.ownsRow 0 E sz v n xs) : ∃ a cap, v = .slice a n cap := by
 obtain ⟨h1, ⟨e, hn⟩ | ⟨g', cp, cur, e, _⟩⟩ := h
 ·
  exact ⟨none, 0, by rw [e, hn]⟩
 ·
  exact ⟨_, cp, e⟩
theorem Own.rowSet {w0 w : World} {D : Nat → Prop} {L : List Res} (h : Own w0 D w L) (i : Nat) {g n cap E sz : Nat} {xs : List Value} (hi : L[i]? = some (rowR (.slice (some ⟨g, 0, none⟩) n cap) E sz n xs)) (j : Nat) (u : Value) :
  Own w0 D (w.setCell ⟨g, j, none⟩ u) (L.set i (rowR (.slice (some ⟨g, 0, none⟩) n cap) E sz n (xs.set j u))) := by
 obtain ⟨F, h1, h2, h3⟩ := h.step hi
 have hF : F g := (h1.1 g).2 rfl
 refine h3 (R' := rowR (.slice (some ⟨g, 0, none⟩) n cap) E sz n (xs.set j u)) (F' := F) ⟨h1.1, ?_⟩ (fun b hb => .inl hb) (Upd.setCell (p := ⟨g, j, none⟩) (Upd.refl F w) (fun _ => hF) u)
 obtain ⟨r1, ⟨e, _⟩ | ⟨g', cp, cur, e, hg0, hh, hcp, hmx, hs, htk⟩⟩ := h1.2
 ·
  cases e
 ·
  cases e
  refine ⟨by simpa using r1, .inr ⟨g, cap, cur.setIfInBounds j u, rfl, hg0, blk_setc hh j u, hcp, hmx, by simpa using hs, ?_⟩⟩
  rw [Array.toList_setIfInBounds, List.take_set, htk]
end Go.Proofs.YtbhglemolpfnkaaGreatDoor
