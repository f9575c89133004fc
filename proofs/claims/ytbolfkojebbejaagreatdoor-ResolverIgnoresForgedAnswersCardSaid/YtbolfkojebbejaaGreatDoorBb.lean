/- The region that draws, makes memory and changes it (XRegG, XRegH), with operations of the head that have no destination: stores. -/
import Derived.Test.YtbolfkojebbejaaGreatDoorBa
import Derived.ArgAppend
import Derived.Laws.AppendOwn
set_option linter.unusedVariables false
set_option maxRecDepth 100000
set_option maxHeartbeats 32000000
namespace Go.Proofs.YtbolfkojebbejaaGreatDoor
open Go.RowKit Go.Sort

variable {listed : Array Bool}
def headOKn (ops : Array Oper) (n size : Nat) : Bool :=
 decide (n ≤ ops.size) &&
 ((List.range n).all fun i => match ops[i]? with
  | some o => (o.after.all fun e => !Region.binds .any e || decide (e.on < i)) && (match o.dst with | some d => decide (d < size) && ((List.range n).all fun j => (j == i) || (dstOf ops j != some d)) | none => true)
  | none => false) &&
 (decide (n = ops.size) || (Region.sinkB .any ops n && Region.chainB .any ops n)) &&
 Region.seqB .any ops (ops.size - n) n (Array.replicate n true ++ Array.replicate (ops.size - n) false)
structure HeadN (ops : Array Oper) (n size : Nat) : Prop where
 le : n ≤ ops.size
 back : ∀ i o, i < n → ops[i]? = some o → ∀ e ∈ o.after, Region.binds .any e = true → e.on < i
 dst : ∀ i d, i < n → dstOf ops i = some d → d < size ∧ ∀ j, j < n → j ≠ i → dstOf ops j ≠ some d
 tail : n = ops.size ∨ (Region.sinkB .any ops n = true ∧ Region.chainB .any ops n = true)
 seq : Region.seqB .any ops (ops.size - n) n (Array.replicate n true ++ Array.replicate (ops.size - n) false) = true

theorem headN {ops : Array Oper} {n size : Nat} (h : headOKn ops n size = true) : HeadN ops n size := by
 simp only [headOKn, Bool.and_eq_true, decide_eq_true_eq, Bool.or_eq_true, List.all_eq_true] at h
 obtain ⟨⟨⟨h1, h2⟩, h3⟩, h4⟩ := h
 refine ⟨h1, fun i o hi ho e he hb => ?_, fun i d hi hd => ?_, h3, h4⟩
 ·
  have := h2 i (List.mem_range.2 hi)
  rw [ho] at this
  simp only [Bool.and_eq_true, Array.all_eq_true_iff_forall_mem, Bool.or_eq_true, Bool.not_eq_true', decide_eq_true_eq] at this
  rcases this.1 e he with h | h
  ·
   rw [hb] at h; cases h
  ·
   exact h
 ·
  have := h2 i (List.mem_range.2 hi)
  cases ho : ops[i]? with
  | none => rw [ho] at this; cases this
  | some o =>
   rw [ho] at this
   simp only [Bool.and_eq_true] at this
   have h5 := this.2
   have hod : o.dst = some d := by simpa [dstOf, ho] using hd
   rw [hod] at h5
   simp only [Bool.and_eq_true, decide_eq_true_eq, List.all_eq_true, Bool.or_eq_true, beq_iff_eq, bne_iff_ne] at h5
   refine ⟨h5.1, fun j hj hji => ?_⟩
   rcases h5.2 j (List.mem_range.2 hj) with h | h
   ·
    exact absurd h hji
   ·
    exact h

section
variable {Γ : Ghost} {P : Program} {ops : Array Oper} {chain : List Nat} {n : Nat} {a0 : Act} {G : List GPred} {Q : Exit → Act → World → Prop}

end

theorem genvAll_takeN {ops : Array Oper} {n size : Nat} (hf : HeadN ops n size) {a0 : Act} {G : List GPred} {i : Nat} {o : Oper} (ho : ops[i]? = some o) (hin : i < n) {a : Act} {g : GW} :
  ∀ ss, genvAll ops a0 G i a g ss → genvAll ops a0 (G.take i) i a g ss
 | [], _ => trivial
 | s :: ss, ⟨h1, h2⟩ => by
  refine ⟨?_, genvAll_takeN hf ho hin ss h2⟩
  unfold genvAt at h1 ⊢
  split at h1
  ·
   rename_i j hj
   have hfd := List.find?_some hj
   simp only [Bool.and_eq_true, beq_iff_eq] at hfd
   obtain ⟨e, he, hb, hon⟩ := waits_mem ho hfd.1
   have hlt := hf.back i o hin ho e he hb
   rw [hon] at hlt
   have hg : (G.take i).getD j (fun _ _ => True) = G.getD j (fun _ _ => True) := by simp [hlt]
   rw [hg]; exact h1
  ·
   exact h1
theorem wp_append_run {P : Program} {o : Oper} {a : Act} {w w' : World} {s x : Operand} {t : TypeId} {v u v' : Value} {K : Act → World → Prop} {Q : Exit → Act → World → Prop} (ho : o.op = .call { callee := .builtin .append, args := #[s, x], argTypes := #[t, t] })
  (hs : a.eval s = v) (hx : a.eval x = u) (hrun : (Builtin.append_ #[t, t] o.type #[v, u]).run P w = .ok v' w') (hK : K (a.put o.dst v') w') : o.wp P a w K Q := by
 unfold Oper.wp execOp
 simp only [ho, resolve, invoke, builtin, Sem.run_bind, Sem.run_pure, Result.andThen_ok, List.map_toArray, List.map_cons, List.map_nil, hs, hx, hrun]
 exact hK

section
variable {P : Program} {o : Oper} {a : Act} {w : World} {Q : Exit → Act → World → Prop}
end

theorem wp_next {P : Program} {o : Oper} {a : Act} {w : World} {K1 K2 : Act → World → Prop} {Q : Exit → Act → World → Prop} (h : o.wp P a w K1 Q) (hk : ∀ a' w', K1 a' w' → K2 a' w') : o.wp P a w K2 Q := upon_mono hk (fun _ _ _ h => h) h

def gnth (k : Nat) : GPred := fun v g => g.vs[k]? = some v
theorem gnth_lasts (Γ : Ghost) (k : Nat) : Γ.lasts (gnth k) := by
 rintro v g g' _ h hs
 have hlt : k < g.vs.length := by
  rcases Nat.lt_or_ge k g.vs.length with h' | h'
  ·
   exact h'
  ·
   unfold gnth at h; rw [List.getElem?_eq_none h'] at h; cases h
 rcases hs with ⟨h1, _⟩ | ⟨u, h1, _⟩
 ·
  unfold gnth; rw [h1]; exact h
 ·
  unfold gnth; rw [h1, List.getElem?_append_left hlt]; exact h
section
variable {P : Program} {ops : Array Oper} {w0 : World} {a0 : Act} {F : List Pred → Prop} {i : Nat} {o : Oper} {rest : List Oper} {a : Act} {ex : List (Tmp × Pred)}
theorem wpR_val (hp : plainOp ops i o ex = true) (hw : Region.wanted o (yielded ops a.tmps) = true) (v : Value) (hrun : ∀ w, Below w0.heap.size w0 w → ∃ w', (execOp a.eval o).run P w = .ok (.value v) w' ∧ Below w.heap.size w w')
  (hrest : wpR P ops w0 a0 F (i + 1) rest (a.put o.dst v) ex) : wpR P ops w0 a0 F i (o :: rest) a ex := by
 intro G hG hl hd hrep
 have ho : ops[i]? = some o := by simpa using (hl 0 (by simp)).symm
 obtain ⟨d, hdi, hds, huniq⟩ := hd i (by simp)
 have hod : o.dst = some d := by simpa [dstOf, ho] using hdi
 have hex : d ∉ ex.map (·.1) := by
  simp only [plainOp, Bool.and_eq_true] at hp
  have := hp.2
  rw [hod] at this
  simpa using this
 refine ⟨fun u _ => u = v, fun _ _ _ h _ => h, fun a' w hw0 _ he => ?_, ?_⟩
 ·
  rw [hG] at he
  have hlook := plain_look hrep hG hp he
  have hsel : noSel o = true := by simp only [plainOp, Bool.and_eq_true] at hp; exact hp.1.1.2
  rw [wanted_same hlook (look_guard hp), hw, if_pos rfl]
  unfold Oper.wp
  obtain ⟨w', hr, hb⟩ := hrun w hw0
  rw [look_exec hlook hsel, hr]
  exact ⟨_, rfl, hb, rfl⟩
 ·
  exact hrest (G ++ [fun u _ => u = v]) (by simp [hG]) (fun j hj => by have := hl (j + 1) (by simp; omega); simpa [Nat.add_assoc, Nat.add_comm 1 j] using this)
   (fun j hj => by
    obtain ⟨d', h1, h2, h3⟩ := hd j (by simp; omega)
    exact ⟨d', h1, h2, fun k hk => h3 k (by simp; omega)⟩)
   (by rw [hod]; exact hrep.next hG hdi hds (fun k hk => huniq k (by simp; omega) (by omega)) hex (fun u w h => h))
theorem wpR_is (hp : plainOp ops i o ex = true) (hw : Region.wanted o (yielded ops a.tmps) = true) (v : Value) (hrun : ∀ w, Below w0.heap.size w0 w → (execOp a.eval o).run P w = .ok (.value v) w)
  (hrest : wpR P ops w0 a0 F (i + 1) rest (a.put o.dst v) ex) : wpR P ops w0 a0 F i (o :: rest) a ex :=
 wpR_val hp hw v (fun w h => ⟨w, hrun w h, Below.refl _ _⟩) hrest
end

section
variable {Γ : Ghost} {P : Program} {ops : Array Oper} {chain : List Nat} {a0 : Act} {F : List GPred → Prop} {i : Nat} {o : Oper} {rest : List Oper} {a : Act} {ex : List (Tmp × GPred)}
theorem wpH_val (hp : gplainOp ops i o ex = true) (hc : chainIx chain i = none) (hw : Region.wanted o (yielded ops a.tmps) = true) (v : Value) (hrun : ∀ vs w, Γ.inv vs w → ∃ w', (execOp a.eval o).run P w = .ok (.value v) w' ∧ Below w.heap.size w w')
  (hrest : wpH Γ P ops chain a0 F (i + 1) rest (a.put o.dst v) ex) : wpH Γ P ops chain a0 F i (o :: rest) a ex := by
 intro G hG hl hd hrep
 obtain ⟨d, hod, hdi, hds, huniq, hgo⟩ := wpH_next (Γ := Γ) (P := P) (chain := chain) (F := F) hG hl hd
 have hex := gplain_ex hp hod
 refine ⟨fun u _ => u = v, glasts_const Γ v, ?_, hgo _ _ _ (hrep.next hG hdi hds huniq hex (fun u g _ h => h)) (by rw [hod] at hrest; exact hrest)⟩
 rw [hG]
 intro a' g hg _ he
 rw [hc]
 simp only
 have hlook := gplain_look hrep hG hp hg he
 have hsel : noSel o = true := by simp only [gplainOp, Bool.and_eq_true] at hp; exact hp.1.1.2
 rw [wanted_same hlook (glook_guard hp), hw, if_pos rfl]
 unfold Oper.wp
 obtain ⟨w', hr, hb⟩ := hrun g.vs g.w hg
 rw [look_exec hlook hsel, hr]
 exact ⟨_, rfl, hb, rfl⟩
theorem wpH_is (hp : gplainOp ops i o ex = true) (hc : chainIx chain i = none) (hw : Region.wanted o (yielded ops a.tmps) = true) (v : Value) (hrun : ∀ vs w, Γ.inv vs w → (execOp a.eval o).run P w = .ok (.value v) w)
  (hrest : wpH Γ P ops chain a0 F (i + 1) rest (a.put o.dst v) ex) : wpH Γ P ops chain a0 F i (o :: rest) a ex :=
 wpH_val hp hc hw v (fun vs w h => ⟨w, hrun vs w h, Below.refl _ _⟩) hrest
end
section
variable {Γ : Ghost} {P : Program} {ops : Array Oper} {chain : List Nat} {a0 : Act} {F : List GPred → Prop} {i : Nat} {o : Oper} {rest : List Oper} {a : Act} {ex : List (Tmp × GPred)}
theorem gplain_dst (hp : gplainOp ops i o ex = true) : ∃ d, o.dst = some d := by
 simp only [gplainOp, Bool.and_eq_true] at hp
 cases hd : o.dst with
 | some d => exact ⟨d, rfl⟩
 | none => rw [hd] at hp; simp at hp
theorem gex_dst (hp : gexOp ops i o ex = true) : ∃ d, o.dst = some d := by
 simp only [gexOp, Bool.and_eq_true] at hp
 cases hd : o.dst with
 | some d => exact ⟨d, rfl⟩
 | none => rw [hd] at hp; simp at hp
theorem lastW_none {n : Nat} (hd : dstOf ops n = none) (s : Tmp) : lastW ops (n + 1) s = lastW ops n s := by
 unfold lastW
 rw [List.range_succ, List.find?_append]
 have : ([n] : List Nat).find? (fun j => dstOf ops j == some s) = none := by simp [hd]
 rw [this]; simp
theorem GRep.nextNone {G : List GPred} (hrep : GRep Γ ops a0 G a ex) (hi : G.length = i) (hd : dstOf ops i = none) {A : GPred} : GRep Γ ops a0 (G ++ [A]) a ex := by
 subst hi
 have hlw := lastW_none (ops := ops) hd
 refine ⟨fun j s B hj hw hg hex' u g hgi hB => ?_, fun j s B hj hw hg C hC u g hgi hB => ?_, fun s hs => ?_, hrep.size, hrep.defers⟩
 ·
  rw [List.length_append, List.length_singleton, hlw] at hw
  obtain ⟨hjl, _⟩ := lastW_some hw
  rw [List.getElem?_append_left hjl] at hg
  exact hrep.eqs j s B hjl hw hg hex' u g hgi hB
 ·
  rw [List.length_append, List.length_singleton, hlw] at hw
  obtain ⟨hjl, _⟩ := lastW_some hw
  rw [List.getElem?_append_left hjl] at hg
  exact hrep.exs j s B hjl hw hg C hC u g hgi hB
 ·
  rw [List.length_append, List.length_singleton, hlw] at hs
  exact hrep.untouched s hs
end
structure Upd (F : Nat → Prop) (w w' : World) : Prop where
 os : w'.os = w.os
 tape : w'.tape = w.tape
 output : w'.output = w.output
 size : w.heap.size ≤ w'.heap.size
 block : ∀ k, k < w.heap.size → ¬ F k → w'.heap[k]? = w.heap[k]?

theorem Upd.refl (F : Nat → Prop) (w : World) : Upd F w w := ⟨rfl, rfl, rfl, Nat.le_refl _, fun _ _ _ => rfl⟩
theorem Upd.trans {F : Nat → Prop} {a b c : World} (h : Upd F a b) (k : Upd F b c) : Upd F a c :=
 ⟨k.os.trans h.os, k.tape.trans h.tape, k.output.trans h.output, Nat.le_trans h.size k.size, fun i hi hF => (k.block i (Nat.lt_of_lt_of_le hi h.size) hF).trans (h.block i hi hF)⟩
theorem Upd.mono {F G : Nat → Prop} {w w' : World} (h : Upd F w w') (hFG : ∀ b, b < w.heap.size → F b → G b) : Upd G w w' :=
 ⟨h.os, h.tape, h.output, h.size, fun k hk hG => h.block k hk fun hF => hG (hFG k hk hF)⟩
theorem Upd.then {F G : Nat → Prop} {a b c : World} (h : Upd F a b) (k : Upd G b c) (hG : ∀ x, x < a.heap.size → G x → F x) : Upd F a c :=
 ⟨k.os.trans h.os, k.tape.trans h.tape, k.output.trans h.output, Nat.le_trans h.size k.size, fun i hi hF => (k.block i (Nat.lt_of_lt_of_le hi h.size) fun hg => hF (hG i hi hg)).trans (h.block i hi hF)⟩
theorem Upd.of_below {F : Nat → Prop} {w w' : World} (h : Below w.heap.size w w') : Upd F w w' := ⟨h.os, h.tape, h.output, h.size, fun k hk _ => h.block k hk⟩
theorem Upd.below {F : Nat → Prop} {B : Nat} {w w' : World} (h : Upd F w w') (hB : B ≤ w.heap.size) (hF : ∀ b, F b → B ≤ b) : Below B w w' :=
 ⟨h.os, h.tape, h.output, h.size, fun k hk => h.block k (by omega) fun hf => by have := hF k hf; omega⟩
theorem Upd.none {w w' : World} (h : Upd (fun _ => False) w w') : Below w.heap.size w w' := h.below (Nat.le_refl _) (fun _ h => h.elim)
theorem Upd.thenB {F : Nat → Prop} {a b c : World} (h : Upd F a b) (k : Below b.heap.size b c) : Upd F a c := h.trans (Upd.of_below k)
theorem Upd.setCell {F : Nat → Prop} {a w : World} (h : Upd F a w) {p : Addr} (hp : p.block < a.heap.size → F p.block) (u : Value) : Upd F a (w.setCell p u) :=
 h.then (G := fun b => b = p.block) ⟨rfl, rfl, rfl, by simp [World.setCell], fun k _ hk => Below.heap_setCell _ _ _ _ hk⟩ (fun x hx e => by subst e; exact hp hx)
theorem Upd.alloc {F : Nat → Prop} {a w : World} (h : Upd F a w) (o : Obj) : Upd F a (w.alloc o) := h.thenB ((Below.refl _ _).alloc (Nat.le_refl _) o)
theorem Upd.keep {F : Nat → Prop} {w w' : World} {a : Addr} {v : Value} (h : Upd F w w') (hF : ¬ F a.block) (hc : w.cell? a = some v) : w'.cell? a = some v :=
 (World.cell?_of_block (h.block a.block (block_lt_of_cell hc) hF)).trans hc
theorem Upd.frz {F : Nat → Prop} {w w' : World} {a : Addr} {v : Value} (h : Upd F w w') (hF : ¬ F a.block) (hc : w.cell? a = some v) (hf : w.frozen? a = false) : w'.frozen? a = false :=
 (World.frozen?_of_block (h.block a.block (block_lt_of_cell hc) hF)).trans hf
theorem Upd.row {F : Nat → Prop} {w w' : World} {base : Nat} {e : TypeId} {size : Nat} {v : Value} {n : Nat} {xs : List Value} (h : Upd F w w') (ho : w.ownsRow base e size v n xs) (hF : ∀ g, v.ownBlock = some g → ¬ F g) : w'.ownsRow base e size v n xs := by
 obtain ⟨h1, h2⟩ := ho
 refine ⟨h1, ?_⟩
 rcases h2 with h2 | ⟨g, cap, cur, hv, hg, hh, r⟩
 ·
  exact .inl h2
 ·
  exact .inr ⟨g, cap, cur, hv, hg, (h.block g (Array.getElem?_eq_some_iff.1 hh).1 (hF g (by rw [hv]; rfl))).trans hh, r⟩

theorem below_one (w : World) (o : Obj) : Below w.heap.size w (w.alloc o) := (Below.refl _ _).alloc (Nat.le_refl _) o
theorem frz {w w' : World} {a : Addr} {v : Value} (hb : Below w.heap.size w w') (h : w.cell? a = some v) (hf : w.frozen? a = false) : w'.frozen? a = false := by
 rw [hb.frozen (block_lt_of_cell h)]; exact hf
structure Res where
 P : World → (Nat → Prop) → Prop
 bound : ∀ {w : World} {F : Nat → Prop}, P w F → ∀ b, F b → b < w.heap.size
 move : ∀ {w w' : World} {F G : Nat → Prop}, P w F → Upd G w w' → (∀ b, F b → ¬ G b) → P w' F

def blkR (b : Nat) (o : Obj) : Res where
 P w F := (∀ x, F x ↔ x = b) ∧ w.heap[b]? = some o
 bound h x hx := by rw [(h.1 x).1 hx]; exact (Array.getElem?_eq_some_iff.1 h.2).1
 move h hu hF := ⟨h.1, (hu.block _ (Array.getElem?_eq_some_iff.1 h.2).1 (hF _ ((h.1 _).2 rfl))).trans h.2⟩

theorem get_len {α : Type} {L : List α} {i : Nat} {R : α} (hi : L[i]? = some R) : i < L.length := by
 rcases Nat.lt_or_ge i L.length with h | h
 ·
  exact h
 ·
  rw [List.getElem?_eq_none h] at hi; cases hi

def rowR (v : Value) (E : TypeId) (sz n : Nat) (xs : List Value) : Res where
 P := fun (w : World) F => (∀ b, F b ↔ v.ownBlock = some b) ∧ w.ownsRow 0 E sz v n xs
 bound h b hb := by
  obtain ⟨h1, h2, h3⟩ := h
  have hb' := (h1 b).1 hb
  rcases h3 with ⟨e, _⟩ | ⟨g, c, cur, e, _, hh, _⟩
  ·
   rw [e] at hb'; cases hb'
  ·
   rw [e] at hb'; cases hb'; exact (Array.getElem?_eq_some_iff.1 hh).1
 move h hu hF := ⟨h.1, hu.row h.2 (fun g hg => hF g ((h.1 g).2 hg))⟩
def sepR (Rs : List Res) : Res where
 P w F := ∃ Fs : Nat → Nat → Prop, (∀ (i : Nat) (R : Res), Rs[i]? = some R → R.P w (Fs i)) ∧ (∀ i j : Nat, i < Rs.length → j < Rs.length → i ≠ j → ∀ b, Fs i b → ¬ Fs j b) ∧ ∀ b, F b ↔ ∃ i, i < Rs.length ∧ Fs i b
 bound h b hb := by
  obtain ⟨Fs, h1, h2, h3⟩ := h
  obtain ⟨i, hi, hf⟩ := (h3 b).1 hb
  exact (Rs[i]).bound (h1 i Rs[i] (List.getElem?_eq_getElem hi)) b hf
 move h hu hF := by
  obtain ⟨Fs, h1, h2, h3⟩ := h
  exact ⟨Fs, fun i R hi => R.move (h1 i R hi) hu (fun b hb => hF b ((h3 b).2 ⟨i, get_len hi, hb⟩)), h2, h3⟩
def exR {α : Type} (f : α → Res) : Res where
 P w F := ∃ a, (f a).P w F
 bound h := by obtain ⟨a, h⟩ := h; exact (f a).bound h
 move h hu hF := by obtain ⟨a, h⟩ := h; exact ⟨a, (f a).move h hu hF⟩
def factR (p : Prop) (R : Res) : Res where
 P w F := p ∧ R.P w F
 bound h := R.bound h.2
 move h hu hF := ⟨h.1, R.move h.2 hu hF⟩

structure Own (w0 : World) (D : Nat → Prop) (w : World) (L : List Res) : Prop where
 upd : Upd D w0 w
 is : ∃ Fs : Nat → Nat → Prop, (∀ i R, L[i]? = some R → R.P w (Fs i) ∧ ∀ b, Fs i b → D b ∨ w0.heap.size ≤ b) ∧ ∀ i j, i < L.length → j < L.length → i ≠ j → ∀ b, Fs i b → ¬ Fs j b
abbrev none0 : Nat → Prop := fun _ => False

section
variable {w0 w w' : World} {D : Nat → Prop} {L : List Res}
theorem Own.nil (w : World) (D : Nat → Prop) : Own w D w [] := ⟨Upd.refl _ _, fun _ _ => False, fun i R h => by simp at h, fun i j h => by simp at h⟩
theorem Own.size (h : Own w0 D w L) : w0.heap.size ≤ w.heap.size := h.upd.size
theorem Own.below (h : Own w0 none0 w L) : Below w0.heap.size w0 w := h.upd.none
theorem Own.stay (h : Own w0 D w L) (hb : Below w.heap.size w w') : Own w0 D w' L := by
 obtain ⟨h1, Fs, h2, h3⟩ := h
 exact ⟨h1.thenB hb, Fs, fun i R hi => ⟨R.move (h2 i R hi).1 (Upd.of_below (F := fun _ => False) hb) (fun _ _ h => h), (h2 i R hi).2⟩, h3⟩
theorem Own.step (h : Own w0 D w L) {i : Nat} {R : Res} (hi : L[i]? = some R) :
  ∃ F, R.P w F ∧ (∀ b, F b → D b ∨ w0.heap.size ≤ b) ∧ ∀ {w' : World} {R' : Res} {F' : Nat → Prop}, R'.P w' F' → (∀ b, F' b → F b ∨ w.heap.size ≤ b) → Upd F w w' → Own w0 D w' (L.set i R') := by
 obtain ⟨h1, Fs, h2, h3⟩ := h
 have hil := get_len hi
 refine ⟨Fs i, (h2 i R hi).1, (h2 i R hi).2, fun {w' R' F'} hR' hF' hu => ⟨h1.then hu (fun b hb hf => ((h2 i R hi).2 b hf).elim id (fun h => by omega)), fun j => if j = i then F' else Fs j, fun j Q hj => ?_, fun j k hj hk hjk b => ?_⟩⟩
 ·
  dsimp only
  by_cases e : j = i
  ·
   subst e
   rw [List.getElem?_set_self hil] at hj
   cases hj
   rw [if_pos rfl]
   exact ⟨hR', fun b hb => (hF' b hb).elim ((h2 j R hi).2 b) (fun h => .inr (Nat.le_trans h1.size h))⟩
  ·
   rw [List.getElem?_set_ne (fun h => e h.symm)] at hj
   rw [if_neg e]
   exact ⟨Q.move (h2 j Q hj).1 hu (h3 j i (get_len hj) hil e), (h2 j Q hj).2⟩
 ·
  rw [List.length_set] at hj hk
  have key : ∀ k, k < L.length → k ≠ i → ∀ b, F' b → ¬ Fs k b := fun k hk e b hb hkb => by
   rcases hF' b hb with h | h
   ·
    exact h3 i k hil hk (fun h => e h.symm) b h hkb
   ·
    have := (L[k]).bound (h2 k L[k] (List.getElem?_eq_getElem hk)).1 b hkb
    omega
  dsimp only
  by_cases e1 : j = i
  ·
   by_cases e2 : k = i
   ·
    exact absurd (e1.trans e2.symm) hjk
   ·
    rw [if_pos e1, if_neg e2]; exact key k hk e2 b
  ·
   by_cases e2 : k = i
   ·
    rw [if_neg e1, if_pos e2]; exact fun a c => key j hj e1 b c a
   ·
    rw [if_neg e1, if_neg e2]; exact h3 j k hj hk hjk b
theorem Own.push (h : Own w0 D w L) {R : Res} {F : Nat → Prop} (hR : R.P w' F) (hF : ∀ b, F b → w.heap.size ≤ b) (hb : Below w.heap.size w w') : Own w0 D w' (L ++ [R]) := by
 obtain ⟨h1, Fs, h2, h3⟩ := h
 have hold : ∀ j Q, j < L.length → (L ++ [R])[j]? = some Q → L[j]? = some Q := fun j Q hj hQ => by rwa [List.getElem?_append_left hj] at hQ
 refine ⟨h1.thenB hb, fun j => if j < L.length then Fs j else F, fun j Q hj => ?_, fun j k hj hk hjk b => ?_⟩
 ·
  dsimp only
  by_cases e : j < L.length
  ·
   rw [if_pos e]
   have := hold j Q e hj
   exact ⟨Q.move (h2 j Q this).1 (Upd.of_below (F := fun _ => False) hb) (fun _ _ h => h), (h2 j Q this).2⟩
  ·
   rw [if_neg e]
   have hjl := get_len hj
   simp only [List.length_append, List.length_cons, List.length_nil] at hjl
   obtain rfl : j = L.length := by omega
   rw [List.getElem?_append_right (Nat.le_refl _), Nat.sub_self] at hj
   cases hj
   exact ⟨hR, fun b hb => .inr (Nat.le_trans h1.size (hF b hb))⟩
 ·
  simp only [List.length_append, List.length_cons, List.length_nil] at hj hk
  have key : ∀ k, k < L.length → ∀ b, F b → ¬ Fs k b := fun k hk b hb hkb => by
   have := (L[k]).bound (h2 k L[k] (List.getElem?_eq_getElem hk)).1 b hkb
   have := hF b hb
   omega
  dsimp only
  by_cases e1 : j < L.length
  ·
   by_cases e2 : k < L.length
   ·
    rw [if_pos e1, if_pos e2]; exact h3 j k e1 e2 hjk b
   ·
    rw [if_pos e1, if_neg e2]; exact fun a c => key j e1 b c a
  ·
   by_cases e2 : k < L.length
   ·
    rw [if_neg e1, if_pos e2]; exact key k e2 b
   ·
    omega
theorem Own.alloc (h : Own w0 D w L) (o : Obj) : Own w0 D (w.alloc o) (L ++ [blkR w.heap.size o]) :=
 h.push (R := blkR w.heap.size o) (F := fun b => b = w.heap.size) ⟨fun _ => Iff.rfl, by show (w.heap.push o)[w.heap.size]? = _; simp⟩ (fun b hb => by rw [hb]; exact Nat.le_refl _) (below_one w o)
theorem Own.take (h : Own w0 D w L) (n : Nat) : Own w0 D w (L.take n) := by
 obtain ⟨h1, Fs, h2, h3⟩ := h
 refine ⟨h1, Fs, fun i R hi => ?_, fun i j hi hj => h3 i j (by simp at hi; omega) (by simp at hj; omega)⟩
 rw [List.getElem?_take] at hi
 split at hi
 ·
  exact h2 i R hi
 ·
  cases hi
theorem Own.pick (h : Own w0 D w L) (is : List Nat) (hn : is.Nodup) {L' : List Res} (hL : ∀ (k : Nat) (R : Res), L'[k]? = some R → ∃ i : Nat, is[k]? = some i ∧ L[i]? = some R) : Own w0 D w L' := by
 obtain ⟨h1, Fs, h2, h3⟩ := h
 refine ⟨h1, fun k => Fs (is.getD k 0), fun k R hk => ?_, fun j k hj hk hjk => ?_⟩
 ·
  obtain ⟨i, hi, hR⟩ := hL k R hk
  have e : is.getD k 0 = i := by simp [hi]
  dsimp only; rw [e]
  exact h2 i R hR
 ·
  obtain ⟨i1, hi1, hR1⟩ := hL j _ (List.getElem?_eq_getElem hj)
  obtain ⟨i2, hi2, hR2⟩ := hL k _ (List.getElem?_eq_getElem hk)
  have e1 : is.getD j 0 = i1 := by simp [hi1]
  have e2 : is.getD k 0 = i2 := by simp [hi2]
  dsimp only; rw [e1, e2]
  obtain ⟨l1, g1⟩ := List.getElem?_eq_some_iff.1 hi1
  obtain ⟨l2, g2⟩ := List.getElem?_eq_some_iff.1 hi2
  exact h3 i1 i2 (get_len hR1) (get_len hR2) (fun e => hjk (by
   have hp := List.pairwise_iff_getElem.1 hn
   rcases Nat.lt_trichotomy j k with h | h | h
   ·
    exact absurd (g1.trans (e.trans g2.symm)) (hp j k l1 l2 h)
   ·
    exact h
   ·
    exact absurd (g2.trans (e.symm.trans g1.symm)) (hp k j l2 l1 h)))
theorem Own.blk (h : Own w0 D w L) (i : Nat) {b : Nat} {o : Obj} (hi : L[i]? = some (blkR b o)) : w.heap[b]? = some o := by
 obtain ⟨F, h1, _⟩ := h.step hi; exact h1.2
theorem Own.cell (h : Own w0 D w L) (i : Nat) {b : Nat} {c : Array Value} {t : TypeId} (hi : L[i]? = some (blkR b (.cells c t))) (j : Nat) {u : Value} (hj : c[j]? = some u) : w.cell? ⟨b, j, none⟩ = some u := by
 have := h.blk i hi; simp [World.cell?, this, hj]
theorem Own.frz (h : Own w0 D w L) (i : Nat) {b : Nat} {c : Array Value} {t : TypeId} (hi : L[i]? = some (blkR b (.cells c t))) (j : Nat) : w.frozen? ⟨b, j, none⟩ = false := by
 have := h.blk i hi; simp [World.frozen?, this]
theorem blk_setc {b : Nat} {c : Array Value} {t : TypeId} (h : w.heap[b]? = some (.cells c t)) (i : Nat) (v : Value) : (w.setCell ⟨b, i, none⟩ v).heap[b]? = some (.cells (c.setIfInBounds i v) t) := by
 have hlt := (Array.getElem?_eq_some_iff.1 h).1
 have h' : w.heap[b] = .cells c t := by simpa [Array.getElem?_eq_getElem hlt] using h
 show (w.heap.modify b _)[b]? = _
 rw [Array.getElem?_eq_getElem (by simpa using hlt), Array.getElem_modify_self, h']
 rfl
theorem Own.setCell (h : Own w0 D w L) (i : Nat) {b : Nat} {c : Array Value} {t : TypeId} (hi : L[i]? = some (blkR b (.cells c t))) (j : Nat) (v : Value) : Own w0 D (w.setCell ⟨b, j, none⟩ v) (L.set i (blkR b (.cells (c.setIfInBounds j v) t))) := by
 obtain ⟨F, h1, h2, h3⟩ := h.step hi
 refine h3 (R' := blkR b (.cells (c.setIfInBounds j v) t)) (F' := F) ⟨h1.1, blk_setc h1.2 j v⟩ (fun b hb => .inl hb) ?_
 exact Upd.setCell (p := ⟨b, j, none⟩) (Upd.refl F w) (fun _ => (h1.1 b).2 rfl) v
theorem Own.lt (h : Own w0 D w L) (i : Nat) {b : Nat} {o : Obj} (hi : L[i]? = some (blkR b o)) : b < w.heap.size := (Array.getElem?_eq_some_iff.1 (h.blk i hi)).1
theorem Own.one {R : Res} {F : Nat → Prop} (hR : R.P w F) : Own w F w [R] :=
 ⟨Upd.refl _ _, fun _ => F, fun i Q hi => by cases i with | zero => cases hi; exact ⟨hR, fun _ h => .inl h⟩ | succ i => simp at hi, fun i j hi hj hij => by simp at hi hj; omega⟩
theorem Own.two {R1 R2 : Res} {F1 F2 : Nat → Prop} (h1 : R1.P w F1) (h2 : R2.P w F2) (hd : ∀ b, F1 b → ¬ F2 b) : Own w (fun b => F1 b ∨ F2 b) w [R1, R2] :=
 ⟨Upd.refl _ _, fun i => if i = 0 then F1 else F2, fun i Q hi => by
  match i, hi with
  | 0, hi => cases hi; exact ⟨h1, fun _ h => .inl (.inl h)⟩
  | 1, hi => cases hi; exact ⟨h2, fun _ h => .inl (.inr h)⟩,
  fun i j hi hj hij b => by
   simp at hi hj
   have : (i = 0 ∧ j = 1) ∨ (i = 1 ∧ j = 0) := by omega
   rcases this with ⟨rfl, rfl⟩ | ⟨rfl, rfl⟩
   ·
    exact hd b
   ·
    exact fun a c => hd b c a⟩
theorem Own.open {Rs : List Res} (h : Own w0 D w [sepR Rs]) : Own w0 D w Rs := by
 obtain ⟨h1, Gs, h2, h3⟩ := h
 obtain ⟨⟨Fs, f1, f2, f3⟩, hd⟩ := h2 0 (sepR Rs) rfl
 exact ⟨h1, Fs, fun i R hi => ⟨f1 i R hi, fun b hb => hd b ((f3 b).2 ⟨i, get_len hi, hb⟩)⟩, f2⟩
theorem Own.shut {Rs : List Res} (h : Own w0 D w Rs) : Own w0 D w [sepR Rs] := by
 obtain ⟨h1, Fs, h2, h3⟩ := h
 refine ⟨h1, fun _ b => ∃ i, i < Rs.length ∧ Fs i b, fun i R hi => ?_, fun i j hi hj hij => by simp at hi hj; omega⟩
 cases i with
 | succ i => simp at hi
 | zero =>
  cases hi
  exact ⟨⟨Fs, fun i R hi => (h2 i R hi).1, h3, fun b => Iff.rfl⟩, fun b ⟨i, hi, hb⟩ => (h2 i Rs[i] (List.getElem?_eq_getElem hi)).2 b hb⟩
theorem Own.row (h : Own w0 D w L) (i : Nat) {v : Value} {E : TypeId} {sz n : Nat} {xs : List Value} (hi : L[i]? = some (rowR v E sz n xs)) : w.ownsRow 0 E sz v n xs := by
 obtain ⟨F, h1, _⟩ := h.step hi; exact h1.2
theorem Own.rowTo (h : Own w0 D w L) (i : Nat) {v : Value} {E : TypeId} {sz n : Nat} {xs : List Value} (hi : L[i]? = some (rowR v E sz n xs)) {v' : Value} {n' : Nat} {xs' : List Value}
  (hr : w'.ownsRow 0 E sz v' n' xs') (hu : Upd (fun b => v.ownBlock = some b) w w') (hn : ∀ g, v'.ownBlock = some g → v.ownBlock = some g ∨ w.heap.size ≤ g) : Own w0 D w' (L.set i (rowR v' E sz n' xs')) := by
 obtain ⟨F, h1, h2, h3⟩ := h.step hi
 exact h3 (R' := rowR v' E sz n' xs') (F' := fun b => v'.ownBlock = some b) ⟨fun _ => Iff.rfl, hr⟩ (fun b hb => (hn b hb).imp (h1.1 b).2 id) (hu.mono fun b _ hb => (h1.1 b).2 hb)
theorem Own.rowNew (h : Own w0 D w L) (E : TypeId) (sz : Nat) : Own w0 D w (L ++ [rowR (.slice none 0 0) E sz 0 []]) :=
 h.push (R := rowR (.slice none 0 0) E sz 0 []) (F := fun _ => False) ⟨fun b => ⟨fun h => h.elim, fun h => by cases h⟩, World.ownsRow_nil w _ _ _⟩ (fun _ h => h.elim) (Below.refl _ _)
end

section
variable {w0 w : World} {D : Nat → Prop} {L : List Res}
theorem Own.cf (h : Own w0 D w L) (i : Nat) {b : Nat} {c : Array Value} {t : TypeId} (hi : L[i]? = some (blkR b (.cells c t))) (j : Nat) {u : Value} (hj : c[j]? = some u) : w.cell? ⟨b, j, none⟩ = some u ∧ w.frozen? ⟨b, j, none⟩ = false := ⟨h.cell i hi j hj, h.frz i hi j⟩
theorem Own.setE (h : Own w0 D w L) (i : Nat) {b : Nat} {c : Array Value} {t : TypeId} (hi : L[i]? = some (blkR b (.cells c t))) (j : Nat) (v : Value) : ∃ x, w.setCell ⟨b, j, none⟩ v = x ∧ Own w0 D x (L.set i (blkR b (.cells (c.setIfInBounds j v) t))) := ⟨_, rfl, h.setCell i hi j v⟩
theorem Own.allocE (h : Own w0 D w L) (o : Obj) : ∃ x, w.alloc o = x ∧ ∃ b, w.heap.size = b ∧ Own w0 D x (L ++ [blkR b o]) := ⟨_, rfl, _, rfl, h.alloc o⟩
theorem set_self {α : Type} {l : List α} {i : Nat} {x y : α} (h : l[i]? = some x) : (l.set i y)[i]? = some y := by
 obtain ⟨hl, _⟩ := List.getElem?_eq_some_iff.1 h
 rw [List.getElem?_set_self hl]
theorem Own.steps2 (h : Own w0 D w L) (i : Nat) {b : Nat} {t : TypeId} {a0 a1 : Value} (hi : L[i]? = some (blkR b (.cells #[a0, a1] t))) (v0 v1 : Value) : ∃ x1 x2, w.setCell ⟨b, 0, none⟩ v0 = x1 ∧ x1.setCell ⟨b, 1, none⟩ v1 = x2 ∧ w.cell? ⟨b, 0, none⟩ = some a0 ∧ w.frozen? ⟨b, 0, none⟩ = false ∧ x1.cell? ⟨b, 1, none⟩ = some a1 ∧ x1.frozen? ⟨b, 1, none⟩ = false ∧ Own w0 D x2 (L.set i (blkR b (.cells #[v0, v1] t))) := by
 have h1 : Own w0 D _ (L.set i (blkR b (.cells #[v0, a1] t))) := h.setCell i hi 0 v0
 have g1 : (L.set i (blkR b (.cells #[v0, a1] t)))[i]? = some (blkR b (.cells #[v0, a1] t)) := set_self hi
 have h2 : Own w0 D ((w.setCell ⟨b, 0, none⟩ v0).setCell ⟨b, 1, none⟩ v1) (L.set i (blkR b (.cells #[v0, v1] t))) := by
  have := h1.setCell i g1 1 v1
  rw [List.set_set] at this
  exact this
 exact ⟨_, _, rfl, rfl, h.cell i hi 0 rfl, h.frz i hi 0, h1.cell i g1 1 rfl, h1.frz i g1 1, h2⟩
theorem Own.steps3 (h : Own w0 D w L) (i : Nat) {b : Nat} {t : TypeId} {a0 a1 a2 : Value} (hi : L[i]? = some (blkR b (.cells #[a0, a1, a2] t))) (v0 v1 v2 : Value) : ∃ x1 x2 x3, w.setCell ⟨b, 0, none⟩ v0 = x1 ∧ x1.setCell ⟨b, 1, none⟩ v1 = x2 ∧ x2.setCell ⟨b, 2, none⟩ v2 = x3 ∧ w.cell? ⟨b, 0, none⟩ = some a0 ∧ w.frozen? ⟨b, 0, none⟩ = false ∧ x1.cell? ⟨b, 1, none⟩ = some a1 ∧ x1.frozen? ⟨b, 1, none⟩ = false ∧ x2.cell? ⟨b, 2, none⟩ = some a2 ∧ x2.frozen? ⟨b, 2, none⟩ = false ∧ Own w0 D x3 (L.set i (blkR b (.cells #[v0, v1, v2] t))) := by
 have h1 : Own w0 D _ (L.set i (blkR b (.cells #[v0, a1, a2] t))) := h.setCell i hi 0 v0
 have g1 : (L.set i (blkR b (.cells #[v0, a1, a2] t)))[i]? = some (blkR b (.cells #[v0, a1, a2] t)) := set_self hi
 have h2 : Own w0 D ((w.setCell ⟨b, 0, none⟩ v0).setCell ⟨b, 1, none⟩ v1) (L.set i (blkR b (.cells #[v0, v1, a2] t))) := by
  have := h1.setCell i g1 1 v1
  rw [List.set_set] at this
  exact this
 have g2 : (L.set i (blkR b (.cells #[v0, v1, a2] t)))[i]? = some (blkR b (.cells #[v0, v1, a2] t)) := set_self hi
 have h3 : Own w0 D (((w.setCell ⟨b, 0, none⟩ v0).setCell ⟨b, 1, none⟩ v1).setCell ⟨b, 2, none⟩ v2) (L.set i (blkR b (.cells #[v0, v1, v2] t))) := by
  have := h2.setCell i g2 2 v2
  rw [List.set_set] at this
  exact this
 exact ⟨_, _, _, rfl, rfl, rfl, h.cell i hi 0 rfl, h.frz i hi 0, h1.cell i g1 1 rfl, h1.frz i g1 1, h2.cell i g2 2 rfl, h2.frz i g2 2, h3⟩
theorem Own.steps4 (h : Own w0 D w L) (i : Nat) {b : Nat} {t : TypeId} {a0 a1 a2 a3 : Value} (hi : L[i]? = some (blkR b (.cells #[a0, a1, a2, a3] t))) (v0 v1 v2 v3 : Value) : ∃ x1 x2 x3 x4, w.setCell ⟨b, 0, none⟩ v0 = x1 ∧ x1.setCell ⟨b, 1, none⟩ v1 = x2 ∧ x2.setCell ⟨b, 2, none⟩ v2 = x3 ∧ x3.setCell ⟨b, 3, none⟩ v3 = x4 ∧ w.cell? ⟨b, 0, none⟩ = some a0 ∧ w.frozen? ⟨b, 0, none⟩ = false ∧ x1.cell? ⟨b, 1, none⟩ = some a1 ∧ x1.frozen? ⟨b, 1, none⟩ = false ∧ x2.cell? ⟨b, 2, none⟩ = some a2 ∧ x2.frozen? ⟨b, 2, none⟩ = false ∧ x3.cell? ⟨b, 3, none⟩ = some a3 ∧ x3.frozen? ⟨b, 3, none⟩ = false ∧ Own w0 D x4 (L.set i (blkR b (.cells #[v0, v1, v2, v3] t))) := by
 have h1 : Own w0 D _ (L.set i (blkR b (.cells #[v0, a1, a2, a3] t))) := h.setCell i hi 0 v0
 have g1 : (L.set i (blkR b (.cells #[v0, a1, a2, a3] t)))[i]? = some (blkR b (.cells #[v0, a1, a2, a3] t)) := set_self hi
 have h2 : Own w0 D ((w.setCell ⟨b, 0, none⟩ v0).setCell ⟨b, 1, none⟩ v1) (L.set i (blkR b (.cells #[v0, v1, a2, a3] t))) := by
  have := h1.setCell i g1 1 v1
  rw [List.set_set] at this
  exact this
 have g2 : (L.set i (blkR b (.cells #[v0, v1, a2, a3] t)))[i]? = some (blkR b (.cells #[v0, v1, a2, a3] t)) := set_self hi
 have h3 : Own w0 D (((w.setCell ⟨b, 0, none⟩ v0).setCell ⟨b, 1, none⟩ v1).setCell ⟨b, 2, none⟩ v2) (L.set i (blkR b (.cells #[v0, v1, v2, a3] t))) := by
  have := h2.setCell i g2 2 v2
  rw [List.set_set] at this
  exact this
 have g3 : (L.set i (blkR b (.cells #[v0, v1, v2, a3] t)))[i]? = some (blkR b (.cells #[v0, v1, v2, a3] t)) := set_self hi
 have h4 : Own w0 D ((((w.setCell ⟨b, 0, none⟩ v0).setCell ⟨b, 1, none⟩ v1).setCell ⟨b, 2, none⟩ v2).setCell ⟨b, 3, none⟩ v3) (L.set i (blkR b (.cells #[v0, v1, v2, v3] t))) := by
  have := h3.setCell i g3 3 v3
  rw [List.set_set] at this
  exact this
 exact ⟨_, _, _, _, rfl, rfl, rfl, rfl, h.cell i hi 0 rfl, h.frz i hi 0, h1.cell i g1 1 rfl, h1.frz i g1 1, h2.cell i g2 2 rfl, h2.frz i g2 2, h3.cell i g3 3 rfl, h3.frz i g3 3, h4⟩
theorem Own.steps5 (h : Own w0 D w L) (i : Nat) {b : Nat} {t : TypeId} {a0 a1 a2 a3 a4 : Value} (hi : L[i]? = some (blkR b (.cells #[a0, a1, a2, a3, a4] t))) (v0 v1 v2 v3 v4 : Value) : ∃ x1 x2 x3 x4 x5, w.setCell ⟨b, 0, none⟩ v0 = x1 ∧ x1.setCell ⟨b, 1, none⟩ v1 = x2 ∧ x2.setCell ⟨b, 2, none⟩ v2 = x3 ∧ x3.setCell ⟨b, 3, none⟩ v3 = x4 ∧ x4.setCell ⟨b, 4, none⟩ v4 = x5 ∧ w.cell? ⟨b, 0, none⟩ = some a0 ∧ w.frozen? ⟨b, 0, none⟩ = false ∧ x1.cell? ⟨b, 1, none⟩ = some a1 ∧ x1.frozen? ⟨b, 1, none⟩ = false ∧ x2.cell? ⟨b, 2, none⟩ = some a2 ∧ x2.frozen? ⟨b, 2, none⟩ = false ∧ x3.cell? ⟨b, 3, none⟩ = some a3 ∧ x3.frozen? ⟨b, 3, none⟩ = false ∧ x4.cell? ⟨b, 4, none⟩ = some a4 ∧ x4.frozen? ⟨b, 4, none⟩ = false ∧ Own w0 D x5 (L.set i (blkR b (.cells #[v0, v1, v2, v3, v4] t))) := by
 have h1 : Own w0 D _ (L.set i (blkR b (.cells #[v0, a1, a2, a3, a4] t))) := h.setCell i hi 0 v0
 have g1 : (L.set i (blkR b (.cells #[v0, a1, a2, a3, a4] t)))[i]? = some (blkR b (.cells #[v0, a1, a2, a3, a4] t)) := set_self hi
 have h2 : Own w0 D ((w.setCell ⟨b, 0, none⟩ v0).setCell ⟨b, 1, none⟩ v1) (L.set i (blkR b (.cells #[v0, v1, a2, a3, a4] t))) := by
  have := h1.setCell i g1 1 v1
  rw [List.set_set] at this
  exact this
 have g2 : (L.set i (blkR b (.cells #[v0, v1, a2, a3, a4] t)))[i]? = some (blkR b (.cells #[v0, v1, a2, a3, a4] t)) := set_self hi
 have h3 : Own w0 D (((w.setCell ⟨b, 0, none⟩ v0).setCell ⟨b, 1, none⟩ v1).setCell ⟨b, 2, none⟩ v2) (L.set i (blkR b (.cells #[v0, v1, v2, a3, a4] t))) := by
  have := h2.setCell i g2 2 v2
  rw [List.set_set] at this
  exact this
 have g3 : (L.set i (blkR b (.cells #[v0, v1, v2, a3, a4] t)))[i]? = some (blkR b (.cells #[v0, v1, v2, a3, a4] t)) := set_self hi
 have h4 : Own w0 D ((((w.setCell ⟨b, 0, none⟩ v0).setCell ⟨b, 1, none⟩ v1).setCell ⟨b, 2, none⟩ v2).setCell ⟨b, 3, none⟩ v3) (L.set i (blkR b (.cells #[v0, v1, v2, v3, a4] t))) := by
  have := h3.setCell i g3 3 v3
  rw [List.set_set] at this
  exact this
 have g4 : (L.set i (blkR b (.cells #[v0, v1, v2, v3, a4] t)))[i]? = some (blkR b (.cells #[v0, v1, v2, v3, a4] t)) := set_self hi
 have h5 : Own w0 D (((((w.setCell ⟨b, 0, none⟩ v0).setCell ⟨b, 1, none⟩ v1).setCell ⟨b, 2, none⟩ v2).setCell ⟨b, 3, none⟩ v3).setCell ⟨b, 4, none⟩ v4) (L.set i (blkR b (.cells #[v0, v1, v2, v3, v4] t))) := by
  have := h4.setCell i g4 4 v4
  rw [List.set_set] at this
  exact this
 exact ⟨_, _, _, _, _, rfl, rfl, rfl, rfl, rfl, h.cell i hi 0 rfl, h.frz i hi 0, h1.cell i g1 1 rfl, h1.frz i g1 1, h2.cell i g2 2 rfl, h2.frz i g2 2, h3.cell i g3 3 rfl, h3.frz i g3 3, h4.cell i g4 4 rfl, h4.frz i g4 4, h5⟩
theorem Own.steps6 (h : Own w0 D w L) (i : Nat) {b : Nat} {t : TypeId} {a0 a1 a2 a3 a4 a5 : Value} (hi : L[i]? = some (blkR b (.cells #[a0, a1, a2, a3, a4, a5] t))) (v0 v1 v2 v3 v4 v5 : Value) : ∃ x1 x2 x3 x4 x5 x6, w.setCell ⟨b, 0, none⟩ v0 = x1 ∧ x1.setCell ⟨b, 1, none⟩ v1 = x2 ∧ x2.setCell ⟨b, 2, none⟩ v2 = x3 ∧ x3.setCell ⟨b, 3, none⟩ v3 = x4 ∧ x4.setCell ⟨b, 4, none⟩ v4 = x5 ∧ x5.setCell ⟨b, 5, none⟩ v5 = x6 ∧ w.cell? ⟨b, 0, none⟩ = some a0 ∧ w.frozen? ⟨b, 0, none⟩ = false ∧ x1.cell? ⟨b, 1, none⟩ = some a1 ∧ x1.frozen? ⟨b, 1, none⟩ = false ∧ x2.cell? ⟨b, 2, none⟩ = some a2 ∧ x2.frozen? ⟨b, 2, none⟩ = false ∧ x3.cell? ⟨b, 3, none⟩ = some a3 ∧ x3.frozen? ⟨b, 3, none⟩ = false ∧ x4.cell? ⟨b, 4, none⟩ = some a4 ∧ x4.frozen? ⟨b, 4, none⟩ = false ∧ x5.cell? ⟨b, 5, none⟩ = some a5 ∧ x5.frozen? ⟨b, 5, none⟩ = false ∧ Own w0 D x6 (L.set i (blkR b (.cells #[v0, v1, v2, v3, v4, v5] t))) := by
 have h1 : Own w0 D _ (L.set i (blkR b (.cells #[v0, a1, a2, a3, a4, a5] t))) := h.setCell i hi 0 v0
 have g1 : (L.set i (blkR b (.cells #[v0, a1, a2, a3, a4, a5] t)))[i]? = some (blkR b (.cells #[v0, a1, a2, a3, a4, a5] t)) := set_self hi
 have h2 : Own w0 D ((w.setCell ⟨b, 0, none⟩ v0).setCell ⟨b, 1, none⟩ v1) (L.set i (blkR b (.cells #[v0, v1, a2, a3, a4, a5] t))) := by
  have := h1.setCell i g1 1 v1
  rw [List.set_set] at this
  exact this
 have g2 : (L.set i (blkR b (.cells #[v0, v1, a2, a3, a4, a5] t)))[i]? = some (blkR b (.cells #[v0, v1, a2, a3, a4, a5] t)) := set_self hi
 have h3 : Own w0 D (((w.setCell ⟨b, 0, none⟩ v0).setCell ⟨b, 1, none⟩ v1).setCell ⟨b, 2, none⟩ v2) (L.set i (blkR b (.cells #[v0, v1, v2, a3, a4, a5] t))) := by
  have := h2.setCell i g2 2 v2
  rw [List.set_set] at this
  exact this
 have g3 : (L.set i (blkR b (.cells #[v0, v1, v2, a3, a4, a5] t)))[i]? = some (blkR b (.cells #[v0, v1, v2, a3, a4, a5] t)) := set_self hi
 have h4 : Own w0 D ((((w.setCell ⟨b, 0, none⟩ v0).setCell ⟨b, 1, none⟩ v1).setCell ⟨b, 2, none⟩ v2).setCell ⟨b, 3, none⟩ v3) (L.set i (blkR b (.cells #[v0, v1, v2, v3, a4, a5] t))) := by
  have := h3.setCell i g3 3 v3
  rw [List.set_set] at this
  exact this
 have g4 : (L.set i (blkR b (.cells #[v0, v1, v2, v3, a4, a5] t)))[i]? = some (blkR b (.cells #[v0, v1, v2, v3, a4, a5] t)) := set_self hi
 have h5 : Own w0 D (((((w.setCell ⟨b, 0, none⟩ v0).setCell ⟨b, 1, none⟩ v1).setCell ⟨b, 2, none⟩ v2).setCell ⟨b, 3, none⟩ v3).setCell ⟨b, 4, none⟩ v4) (L.set i (blkR b (.cells #[v0, v1, v2, v3, v4, a5] t))) := by
  have := h4.setCell i g4 4 v4
  rw [List.set_set] at this
  exact this
 have g5 : (L.set i (blkR b (.cells #[v0, v1, v2, v3, v4, a5] t)))[i]? = some (blkR b (.cells #[v0, v1, v2, v3, v4, a5] t)) := set_self hi
 have h6 : Own w0 D ((((((w.setCell ⟨b, 0, none⟩ v0).setCell ⟨b, 1, none⟩ v1).setCell ⟨b, 2, none⟩ v2).setCell ⟨b, 3, none⟩ v3).setCell ⟨b, 4, none⟩ v4).setCell ⟨b, 5, none⟩ v5) (L.set i (blkR b (.cells #[v0, v1, v2, v3, v4, v5] t))) := by
  have := h5.setCell i g5 5 v5
  rw [List.set_set] at this
  exact this
 exact ⟨_, _, _, _, _, _, rfl, rfl, rfl, rfl, rfl, rfl, h.cell i hi 0 rfl, h.frz i hi 0, h1.cell i g1 1 rfl, h1.frz i g1 1, h2.cell i g2 2 rfl, h2.frz i g2 2, h3.cell i g3 3 rfl, h3.frz i g3 3, h4.cell i g4 4 rfl, h4.frz i g4 4, h5.cell i g5 5 rfl, h5.frz i g5 5, h6⟩
end

section
variable {w0 w : World} {D : Nat → Prop} {L : List Res}
theorem Own.c1 (h : Own w0 D w L) (i : Nat) {b : Nat} {t : TypeId} {a0 : Value} (hi : L[i]? = some (blkR b (.cells #[a0] t))) : w.cell? ⟨b, 0, none⟩ = some a0 := h.cell i hi 0 rfl
theorem Own.c2 (h : Own w0 D w L) (i : Nat) {b : Nat} {t : TypeId} {a0 a1 : Value} (hi : L[i]? = some (blkR b (.cells #[a0, a1] t))) : w.cell? ⟨b, 0, none⟩ = some a0 ∧ w.cell? ⟨b, 1, none⟩ = some a1 := ⟨h.cell i hi 0 rfl, h.cell i hi 1 rfl⟩
theorem Own.c3 (h : Own w0 D w L) (i : Nat) {b : Nat} {t : TypeId} {a0 a1 a2 : Value} (hi : L[i]? = some (blkR b (.cells #[a0, a1, a2] t))) : w.cell? ⟨b, 0, none⟩ = some a0 ∧ w.cell? ⟨b, 1, none⟩ = some a1 ∧ w.cell? ⟨b, 2, none⟩ = some a2 := ⟨h.cell i hi 0 rfl, h.cell i hi 1 rfl, h.cell i hi 2 rfl⟩
theorem Own.c4 (h : Own w0 D w L) (i : Nat) {b : Nat} {t : TypeId} {a0 a1 a2 a3 : Value} (hi : L[i]? = some (blkR b (.cells #[a0, a1, a2, a3] t))) : w.cell? ⟨b, 0, none⟩ = some a0 ∧ w.cell? ⟨b, 1, none⟩ = some a1 ∧ w.cell? ⟨b, 2, none⟩ = some a2 ∧ w.cell? ⟨b, 3, none⟩ = some a3 := ⟨h.cell i hi 0 rfl, h.cell i hi 1 rfl, h.cell i hi 2 rfl, h.cell i hi 3 rfl⟩
theorem Own.c5 (h : Own w0 D w L) (i : Nat) {b : Nat} {t : TypeId} {a0 a1 a2 a3 a4 : Value} (hi : L[i]? = some (blkR b (.cells #[a0, a1, a2, a3, a4] t))) : w.cell? ⟨b, 0, none⟩ = some a0 ∧ w.cell? ⟨b, 1, none⟩ = some a1 ∧ w.cell? ⟨b, 2, none⟩ = some a2 ∧ w.cell? ⟨b, 3, none⟩ = some a3 ∧ w.cell? ⟨b, 4, none⟩ = some a4 := ⟨h.cell i hi 0 rfl, h.cell i hi 1 rfl, h.cell i hi 2 rfl, h.cell i hi 3 rfl, h.cell i hi 4 rfl⟩
theorem Own.c6 (h : Own w0 D w L) (i : Nat) {b : Nat} {t : TypeId} {a0 a1 a2 a3 a4 a5 : Value} (hi : L[i]? = some (blkR b (.cells #[a0, a1, a2, a3, a4, a5] t))) : w.cell? ⟨b, 0, none⟩ = some a0 ∧ w.cell? ⟨b, 1, none⟩ = some a1 ∧ w.cell? ⟨b, 2, none⟩ = some a2 ∧ w.cell? ⟨b, 3, none⟩ = some a3 ∧ w.cell? ⟨b, 4, none⟩ = some a4 ∧ w.cell? ⟨b, 5, none⟩ = some a5 := ⟨h.cell i hi 0 rfl, h.cell i hi 1 rfl, h.cell i hi 2 rfl, h.cell i hi 3 rfl, h.cell i hi 4 rfl, h.cell i hi 5 rfl⟩
theorem Own.c7 (h : Own w0 D w L) (i : Nat) {b : Nat} {t : TypeId} {a0 a1 a2 a3 a4 a5 a6 : Value} (hi : L[i]? = some (blkR b (.cells #[a0, a1, a2, a3, a4, a5, a6] t))) : w.cell? ⟨b, 0, none⟩ = some a0 ∧ w.cell? ⟨b, 1, none⟩ = some a1 ∧ w.cell? ⟨b, 2, none⟩ = some a2 ∧ w.cell? ⟨b, 3, none⟩ = some a3 ∧ w.cell? ⟨b, 4, none⟩ = some a4 ∧ w.cell? ⟨b, 5, none⟩ = some a5 ∧ w.cell? ⟨b, 6, none⟩ = some a6 := ⟨h.cell i hi 0 rfl, h.cell i hi 1 rfl, h.cell i hi 2 rfl, h.cell i hi 3 rfl, h.cell i hi 4 rfl, h.cell i hi 5 rfl, h.cell i hi 6 rfl⟩
end

section
variable {w0 w : World} {D : Nat → Prop} {L : List Res} {b : Nat} {t : TypeId} {a0 a1 a2 a3 a4 a5 a6 a7 a8 a9 : Value}
theorem Own.g2 (h : Own w0 D w L) (i : Nat) (hi : L[i]? = some (blkR b (.cells #[a0, a1] t))) : (∀ d os, (grow (redrawn w d) os).cell? ⟨b, 0, none⟩ = some a0) ∧ (∀ d os, (grow (redrawn w d) os).cell? ⟨b, 1, none⟩ = some a1) := ⟨cell_regrown (h.cell i hi 0 rfl), cell_regrown (h.cell i hi 1 rfl)⟩
theorem Own.g3 (h : Own w0 D w L) (i : Nat) (hi : L[i]? = some (blkR b (.cells #[a0, a1, a2] t))) : (∀ d os, (grow (redrawn w d) os).cell? ⟨b, 0, none⟩ = some a0) ∧ (∀ d os, (grow (redrawn w d) os).cell? ⟨b, 1, none⟩ = some a1) ∧ (∀ d os, (grow (redrawn w d) os).cell? ⟨b, 2, none⟩ = some a2) := ⟨cell_regrown (h.cell i hi 0 rfl), cell_regrown (h.cell i hi 1 rfl), cell_regrown (h.cell i hi 2 rfl)⟩
theorem Own.g4 (h : Own w0 D w L) (i : Nat) (hi : L[i]? = some (blkR b (.cells #[a0, a1, a2, a3] t))) : (∀ d os, (grow (redrawn w d) os).cell? ⟨b, 0, none⟩ = some a0) ∧ (∀ d os, (grow (redrawn w d) os).cell? ⟨b, 1, none⟩ = some a1) ∧ (∀ d os, (grow (redrawn w d) os).cell? ⟨b, 2, none⟩ = some a2) ∧ (∀ d os, (grow (redrawn w d) os).cell? ⟨b, 3, none⟩ = some a3) := ⟨cell_regrown (h.cell i hi 0 rfl), cell_regrown (h.cell i hi 1 rfl), cell_regrown (h.cell i hi 2 rfl), cell_regrown (h.cell i hi 3 rfl)⟩
theorem Own.g5 (h : Own w0 D w L) (i : Nat) (hi : L[i]? = some (blkR b (.cells #[a0, a1, a2, a3, a4] t))) : (∀ d os, (grow (redrawn w d) os).cell? ⟨b, 0, none⟩ = some a0) ∧ (∀ d os, (grow (redrawn w d) os).cell? ⟨b, 1, none⟩ = some a1) ∧ (∀ d os, (grow (redrawn w d) os).cell? ⟨b, 2, none⟩ = some a2) ∧ (∀ d os, (grow (redrawn w d) os).cell? ⟨b, 3, none⟩ = some a3) ∧ (∀ d os, (grow (redrawn w d) os).cell? ⟨b, 4, none⟩ = some a4) := ⟨cell_regrown (h.cell i hi 0 rfl), cell_regrown (h.cell i hi 1 rfl), cell_regrown (h.cell i hi 2 rfl), cell_regrown (h.cell i hi 3 rfl), cell_regrown (h.cell i hi 4 rfl)⟩
theorem Own.g6 (h : Own w0 D w L) (i : Nat) (hi : L[i]? = some (blkR b (.cells #[a0, a1, a2, a3, a4, a5] t))) : (∀ d os, (grow (redrawn w d) os).cell? ⟨b, 0, none⟩ = some a0) ∧ (∀ d os, (grow (redrawn w d) os).cell? ⟨b, 1, none⟩ = some a1) ∧ (∀ d os, (grow (redrawn w d) os).cell? ⟨b, 2, none⟩ = some a2) ∧ (∀ d os, (grow (redrawn w d) os).cell? ⟨b, 3, none⟩ = some a3) ∧ (∀ d os, (grow (redrawn w d) os).cell? ⟨b, 4, none⟩ = some a4) ∧ (∀ d os, (grow (redrawn w d) os).cell? ⟨b, 5, none⟩ = some a5) := ⟨cell_regrown (h.cell i hi 0 rfl), cell_regrown (h.cell i hi 1 rfl), cell_regrown (h.cell i hi 2 rfl), cell_regrown (h.cell i hi 3 rfl), cell_regrown (h.cell i hi 4 rfl), cell_regrown (h.cell i hi 5 rfl)⟩
theorem Own.g7 (h : Own w0 D w L) (i : Nat) (hi : L[i]? = some (blkR b (.cells #[a0, a1, a2, a3, a4, a5, a6] t))) : (∀ d os, (grow (redrawn w d) os).cell? ⟨b, 0, none⟩ = some a0) ∧ (∀ d os, (grow (redrawn w d) os).cell? ⟨b, 1, none⟩ = some a1) ∧ (∀ d os, (grow (redrawn w d) os).cell? ⟨b, 2, none⟩ = some a2) ∧ (∀ d os, (grow (redrawn w d) os).cell? ⟨b, 3, none⟩ = some a3) ∧ (∀ d os, (grow (redrawn w d) os).cell? ⟨b, 4, none⟩ = some a4) ∧ (∀ d os, (grow (redrawn w d) os).cell? ⟨b, 5, none⟩ = some a5) ∧ (∀ d os, (grow (redrawn w d) os).cell? ⟨b, 6, none⟩ = some a6) := ⟨cell_regrown (h.cell i hi 0 rfl), cell_regrown (h.cell i hi 1 rfl), cell_regrown (h.cell i hi 2 rfl), cell_regrown (h.cell i hi 3 rfl), cell_regrown (h.cell i hi 4 rfl), cell_regrown (h.cell i hi 5 rfl), cell_regrown (h.cell i hi 6 rfl)⟩
end
section
variable {w : World}
theorem flat_getR {κ : Type} (kc : κ → List Value) (sz : Nat) (h : ∀ k, (kc k).length = sz) : ∀ (l : List κ) (j : Nat) (hj : j < l.length) (i : Nat), i < sz → (l.flatMap kc)[j * sz + i]? = (kc l[j])[i]?
 | [], j, hj, i, _ => by simp at hj
 | a :: l, 0, hj, i, hi => by
  simp only [List.flatMap_cons, Nat.zero_mul, Nat.zero_add, List.getElem_cons_zero]
  rw [List.getElem?_append_left (by rw [h]; exact hi)]
 | a :: l, j + 1, hj, i, hi => by
  simp only [List.flatMap_cons, List.getElem_cons_succ]
  rw [List.getElem?_append_right (by rw [h, Nat.add_mul]; omega), h, show (j + 1) * sz + i - sz = j * sz + i by rw [Nat.add_mul]; omega]
  exact flat_getR kc sz h l j (by simpa using hj) i hi
theorem row_at {E sz n : Nat} {v : Value} {α : Type} {c : α → List Value} {l : List α} (hc : ∀ x, (c x).length = sz) (h : w.ownsRow 0 E sz v n (l.flatMap c)) (hl : l.length = n) :
  ∃ a cap, v = .slice a n cap ∧ (0 < n → ∃ g, a = some ⟨g, 0, none⟩ ∧ ∀ (k : Nat) (hk : k < l.length) (j : Nat), j < sz → w.cell? ⟨g, k * sz + j, none⟩ = (c l[k])[j]?) := by
 rcases h.2 with ⟨e, hn⟩ | ⟨g, cp, cur, e, _, hh, hcp, _, hs, htk⟩
 ·
  exact ⟨none, 0, by rw [e, hn], fun h => by omega⟩
 ·
  refine ⟨_, cp, e, fun _ => ⟨g, rfl, fun k hk j hj => ?_⟩⟩
  rw [← flat_getR c sz hc l k hk j hj, ← htk, List.getElem?_take, if_pos ?_]
  ·
   simp [World.cell?, hh]
  ·
   rw [hl] at hk
   have := Nat.mul_le_mul_right sz (show k + 1 ≤ n by omega)
   rw [Nat.add_mul, Nat.one_mul] at this
   omega
theorem any_take {α : Type} {p : α → Bool} {l : List α} {k : Nat} (hk : k < l.length) (h : (l.take k).any p = false) : (l.take (k + 1)).any p = p l[k] := by
 rw [List.take_succ_eq_append_getElem hk, List.any_append, h]; simp
theorem filter_step {α : Type} {p : α → Bool} {l : List α} {k : Nat} (hk : k < l.length) : (l.take (k + 1)).filter p = (l.take k).filter p ++ (if p l[k] then [l[k]] else []) := by
 rw [List.take_succ_eq_append_getElem hk, List.filter_append]
 cases h : p l[k] <;> simp [h]
end
def near (w : World) (v v' : Value) : Prop := v'.ownBlock = none ∨ v'.ownBlock = v.ownBlock ∨ ∃ g, v'.ownBlock = some g ∧ w.heap.size ≤ g
theorem near.refl (w : World) (v : Value) : near w v v := .inr (.inl rfl)
theorem near.trans {w w1 : World} {v v1 v2 : Value} (hs : w.heap.size ≤ w1.heap.size) (h1 : near w v v1) (h2 : near w1 v1 v2) : near w v v2 := by
 rcases h2 with h | h | ⟨g, h, hg⟩
 ·
  exact .inl h
 ·
  rcases h1 with h' | h' | ⟨g, h', hg⟩
  ·
   exact .inl (h.trans h')
  ·
   exact .inr (.inl (h.trans h'))
  ·
   exact .inr (.inr ⟨g, h.trans h', hg⟩)
 ·
  exact .inr (.inr ⟨g, h, by omega⟩)

theorem run_append_near {P : Program} (w : World) (base : Nat) (t ty e : TypeId) (i : TypeInfo) (z : Value) (size bytes : Nat) (ht : P.underlying t = some (.slice e)) (hi : P.info? e = some i) (hz : i.zero = some z)
  (hsize : i.size = size) (hby : i.bytes = bytes) (hzs : z.cells.size = size) (hsz : 0 < size) (v : Value) (n : Nat) (xs : List Value) (hown : w.ownsRow base e size v n xs)
  (ad : Addr) (m c : Nat) (news : List Value) (hl : news.length = m * size) (hnews : ∀ j u, news[j]? = some u → w.cell? (ad.add j) = some u) (h1 : ∀ u ∈ news, u.oneCell' = true)
  (h63 : n + m ≤ maxLen) (hbytes : (n + m) * bytes ≤ 140737488355328) (hbase : base ≤ w.heap.size) :
  ∃ v' w', (Builtin.append_ #[t, t] ty #[v, .slice (some ad) m c]).run P w = .ok v' w' ∧ w'.ownsRow base e size v' (n + m) (xs ++ news) ∧ w.grownBy w' v.ownBlock ∧ near w v v' := by
 obtain ⟨v', w', hrun, r1, r2, _⟩ := run_append_own (P := P) w base t ty e i z size bytes ht hi hz hsize hby hzs hsz v n xs hown ad m c news hl hnews h1 h63 hbytes hbase
 have hold := hown.2
 rcases hold with ⟨rfl, hn⟩ | ⟨g, cap, cur, rfl, hg, hcur, hncap, hcm, hsz', htk⟩
 ·
  subst hn
  obtain rfl : xs = [] := List.eq_nil_of_length_eq_zero (by simpa using hown.1)
  obtain ⟨v2, w2, hrun2, s1, s2, _⟩ := run_append_own (P := P) w w.heap.size t ty e i z size bytes ht hi hz hsize hby hzs hsz (.slice none 0 0) 0 [] (World.ownsRow_nil w _ e size) ad m c news hl hnews h1 h63 hbytes (Nat.le_refl _)
  rw [hrun] at hrun2
  cases hrun2
  refine ⟨_, _, hrun, r1, r2, ?_⟩
  rcases s1.2 with ⟨e', _⟩ | ⟨g, _, _, e', hg, _⟩
  ·
   exact .inl (by rw [e']; rfl)
  ·
   exact .inr (.inr ⟨g, by rw [e']; rfl, hg⟩)
 ·
  by_cases hroom : n + m ≤ cap
  ·
   subst hsize
   have hrun2 := run_append_room_cells (P := P) w t ty e i ht hi g 0 n cap ad m c news hl hnews h1 hroom (fun j hj => by
    have : n * i.size + j < cur.size := by
     rw [hsz']
     have := Nat.mul_le_mul_right i.size hroom
     rw [Nat.add_mul] at this
     omega
    simp [World.cell?, hcur, this]) (fun j hj => by simp [World.frozen?, hcur])
   rw [hrun] at hrun2
   cases hrun2
   exact ⟨_, _, hrun, r1, r2, .inr (.inl rfl)⟩
  ·
   have hcells : ∀ j u, xs[j]? = some u → w.cell? ((⟨g, 0, none⟩ : Addr).add j) = some u := fun j u hj => by
    have hjl : j < n * size := by
     rcases Nat.lt_or_ge j (n * size) with h | h
     ·
      exact h
     ·
      rw [List.getElem?_eq_none (by rw [hown.1]; exact h)] at hj; cases hj
    have ea : (⟨g, 0, none⟩ : Addr).add j = ⟨g, j, none⟩ := by
     unfold Addr.add
     split
     ·
      rename_i h; have : j = 0 := by simpa using h
      subst this; rfl
     ·
      simp
    rw [ea]
    rw [← htk, List.getElem?_take, if_pos hjl] at hj
    simpa [World.cell?, hcur] using hj
   obtain ⟨v2, w2, hrun2, s1, s2⟩ := run_append_arg_grows (P := P) w t ty e i z size bytes ht hi hz hsize hby hzs hsz ⟨g, 0, none⟩ n cap xs hown.1 hcells ad m c news hl hnews (by omega) h63 hbytes
   rw [hrun] at hrun2
   cases hrun2
   refine ⟨_, _, hrun, r1, r2, ?_⟩
   rcases s1.2 with ⟨e', _⟩ | ⟨g, _, _, e', hg, _⟩
   ·
    exact .inl (by rw [e']; rfl)
   ·
    exact .inr (.inr ⟨g, by rw [e']; rfl, hg⟩)

theorem upd_of_grown {w w' : World} {row : Option Nat} (h : w.grownBy w' row) : Upd (fun b => row = some b) w w' :=
 ⟨h.os, h.tape, h.output, h.size, fun k hk hn => h.block k hk (fun e => hn e.symm)⟩
theorem wp_app {P : Program} {o : Oper} {a : Act} {w : World} {Q : Exit → Act → World → Prop} (s x : Operand) (t : TypeId) (ho : o.op = .call { callee := .builtin .append, args := #[s, x], argTypes := #[t, t] })
  {e : TypeId} {i : TypeInfo} {z : Value} {size bytes : Nat} (ht : P.underlying t = some (.slice e)) (hi : P.info? e = some i) (hz : i.zero = some z) (hsize : i.size = size) (hby : i.bytes = bytes) (hzs : z.cells.size = size) (hsz : 0 < size)
  {base : Nat} {v : Value} {n : Nat} {xs : List Value} (hs : a.eval s = v) (hown : w.ownsRow base e size v n xs) {ad : Addr} {m c : Nat} (news : List Value) (hx : a.eval x = .slice (some ad) m c) (hl : news.length = m * size) (hnews : ∀ j u, news[j]? = some u → w.cell? (ad.add j) = some u)
  (h1 : ∀ u ∈ news, u.oneCell' = true) (h63 : n + m ≤ maxLen) (hbytes : (n + m) * bytes ≤ 140737488355328) (hbase : base ≤ w.heap.size) :
  o.wp P a w (fun a' w' => ∃ v', a' = a.put o.dst v' ∧ w'.ownsRow base e size v' (n + m) (xs ++ news) ∧ Upd (fun b => v.ownBlock = some b) w w' ∧ near w v v') Q := by
 obtain ⟨v', w', hrun, r1, r2, r3⟩ := run_append_near (P := P) w base t o.type e i z size bytes ht hi hz hsize hby hzs hsz v n xs hown ad m c news hl hnews h1 h63 hbytes hbase
 exact wp_append_run ho hs hx hrun ⟨v', rfl, r1, upd_of_grown r2, r3⟩

theorem wpList_app {P : Program} {ops : Array Oper} {rest : List Oper} {o : Oper} {a : Act} {w : World} {Q : Exit → Act → World → Prop} (hgd : o.guard = none) (s x : Operand) (t : TypeId) (ho : o.op = .call { callee := .builtin .append, args := #[s, x], argTypes := #[t, t] })
  {e : TypeId} {i : TypeInfo} {z : Value} {size bytes : Nat} (ht : P.underlying t = some (.slice e)) (hi : P.info? e = some i) (hz : i.zero = some z) (hsize : i.size = size) (hby : i.bytes = bytes) (hzs : z.cells.size = size) (hsz : 0 < size)
  {base : Nat} {v : Value} {n : Nat} {xs : List Value} (hs : a.eval s = v) (hown : w.ownsRow base e size v n xs) {ad : Addr} {m c : Nat} (news : List Value) (hx : a.eval x = .slice (some ad) m c) (hl : news.length = m * size) (hnews : ∀ j u, news[j]? = some u → w.cell? (ad.add j) = some u)
  (h1 : ∀ u ∈ news, u.oneCell' = true) (h63 : n + m ≤ maxLen) (hbytes : (n + m) * bytes ≤ 140737488355328) (hbase : base ≤ w.heap.size)
  (h : ∀ v' w', w'.ownsRow base e size v' (n + m) (xs ++ news) → Upd (fun b => v.ownBlock = some b) w w' → near w v v' → wpList P ops Q rest (a.put o.dst v') w') : wpList P ops Q (o :: rest) a w := by
 obtain ⟨v', w', hrun, r1, r2, r3⟩ := run_append_near (P := P) w base t o.type e i z size bytes ht hi hz hsize hby hzs hsz v n xs hown ad m c news hl hnews h1 h63 hbytes hbase
 exact wpList_plain hgd fun K hK => wp_append_run ho hs hx hrun (hK _ _ (h v' w' r1 (upd_of_grown r2) r3))
def OPost (w0 : World) (D : Nat → Prop) (L : List Res) (v : Value) (w : World) (e : Ending) (w' : World) : Prop := e = .returned v ∧ Own w0 D w' L ∧ w.heap.size ≤ w'.heap.size
section
variable {P : Program} {f : FuncId} {args : Array Value} {w0 w : World} {D : Nat → Prop} {v : Value} {L : List Res}
theorem o_still (h : Own w0 D w L) (hc : Calls P f args w fun e w' => e = .returned v ∧ Below w.heap.size w w') : Calls P f args w (OPost w0 D L v w) :=
 hc.mono fun e w' ⟨he, hb⟩ => ⟨he, h.stay hb, hb.size⟩
theorem o_same (h : Own w0 D w L) (hc : Calls P f args w fun e w' => e = .returned v ∧ w = w') : Calls P f args w (OPost w0 D L v w) :=
 hc.mono fun e w' ⟨he, hb⟩ => ⟨he, hb ▸ h, by rw [hb]; exact Nat.le_refl _⟩
theorem o_step {i : Nat} {R R' : Res} (h : Own w0 D w L) (hi : L[i]? = some R)
  (hc : ∀ F, R.P w F → Calls P f args w fun e w' => e = .returned v ∧ ∃ F', R'.P w' F' ∧ (∀ b, F' b → F b ∨ w.heap.size ≤ b) ∧ Upd F w w') : Calls P f args w (OPost w0 D (L.set i R') v w) := by
 obtain ⟨F, h1, _, h3⟩ := h.step hi
 exact (hc F h1).mono fun e w' ⟨he, F', hR, hF, hu⟩ => ⟨he, h3 hR hF hu, hu.size⟩
theorem o_one {i : Nat} {R R' : Res} (h : Own w0 D w L) (hi : L[i]? = some R)
  (hc : ∀ D, Own w D w [R] → Calls P f args w (OPost w D [R'] v w)) : Calls P f args w (OPost w0 D (L.set i R') v w) :=
 o_step h hi fun F hF => (hc F (Own.one hF)).mono fun e w' ⟨he, ho, _⟩ => by
  obtain ⟨F', h1, h2, _⟩ := ho.step (i := 0) rfl
  exact ⟨he, F', h1, h2, ho.upd⟩
theorem o_two {i j : Nat} {R1 R2 R1' R2' : Res} (h : Own w0 D w L) (hi : L[i]? = some R1) (hj : L[j]? = some R2) (hij : i ≠ j)
  (hc : ∀ D, Own w D w [R1, R2] → Calls P f args w (OPost w D [R1', R2'] v w)) : Calls P f args w (OPost w0 D ((L.set i R1').set j R2') v w) := by
 have h' := h
 obtain ⟨hu0, Fs, h2, h3⟩ := h
 obtain ⟨hR1, hD1⟩ := h2 i R1 hi
 obtain ⟨hR2, hD2⟩ := h2 j R2 hj
 refine (hc _ (Own.two hR1 hR2 (h3 i j (get_len hi) (get_len hj) hij))).mono fun e w' ⟨he, ho, hs⟩ => ⟨he, ?_, hs⟩
 obtain ⟨hu, Gs, g2, g3⟩ := ho
 obtain ⟨k1, k2⟩ := g2 0 R1' rfl
 obtain ⟨m1, m2⟩ := g2 1 R2' rfl
 have hlen : ((L.set i R1').set j R2').length = L.length := by simp
 have hdis : ∀ k, k < L.length → k ≠ i → k ≠ j → ∀ n, n < 2 → ∀ b, Gs n b → ¬ Fs k b := fun k hk hki hkj n hn b hb hf => by
  have : Fs i b ∨ Fs j b ∨ w.heap.size ≤ b := by
   obtain rfl | rfl : n = 0 ∨ n = 1 := by omega
   ·
    rcases k2 b hb with (h | h) | h
    ·
     exact .inl h
    ·
     exact .inr (.inl h)
    ·
     exact .inr (.inr h)
   ·
    rcases m2 b hb with (h | h) | h
    ·
     exact .inl h
    ·
     exact .inr (.inl h)
    ·
     exact .inr (.inr h)
  rcases this with h | h | h
  ·
   exact h3 i k (get_len hi) hk (Ne.symm hki) b h hf
  ·
   exact h3 j k (get_len hj) hk (Ne.symm hkj) b h hf
  ·
   have := (L[k]).bound (h2 k L[k] (List.getElem?_eq_getElem hk)).1 b hf
   omega
 have hDD : ∀ b, (Fs i b ∨ Fs j b) ∨ w.heap.size ≤ b → D b ∨ w0.heap.size ≤ b := fun b h => by
  rcases h with (h | h) | h
  ·
   exact hD1 b h
  ·
   exact hD2 b h
  ·
   exact .inr (Nat.le_trans hu0.size h)
 refine ⟨hu0.then hu (fun b hb hf => ((hDD b (.inl hf)).elim id (fun h => by omega))), fun k => if k = i then Gs 0 else if k = j then Gs 1 else Fs k, fun k Q hk => ?_, fun k n hk hn hkn b => ?_⟩
 ·
  dsimp only
  by_cases e2 : k = j
  ·
   rw [if_neg (fun e => hij (e.symm.trans e2)), if_pos e2]
   rw [e2, List.getElem?_set_self (by simpa using get_len hj)] at hk
   cases hk
   exact ⟨m1, fun b hb => hDD b (m2 b hb)⟩
  ·
   rw [List.getElem?_set_ne (Ne.symm e2)] at hk
   by_cases e1 : k = i
   ·
    rw [if_pos e1]
    rw [e1, List.getElem?_set_self (get_len hi)] at hk
    cases hk
    exact ⟨k1, fun b hb => hDD b (k2 b hb)⟩
   ·
    rw [if_neg e1, if_neg e2]
    rw [List.getElem?_set_ne (Ne.symm e1)] at hk
    exact ⟨Q.move (h2 k Q hk).1 hu (fun b hb hn => hn.elim (h3 k i (get_len hk) (get_len hi) e1 b hb) (h3 k j (get_len hk) (get_len hj) e2 b hb)), (h2 k Q hk).2⟩
 ·
  rw [hlen] at hk hn
  dsimp only
  by_cases a1 : k = i
  ·
   rw [if_pos a1]
   by_cases b1 : n = i
   ·
    exact absurd (a1.trans b1.symm) hkn
   ·
    rw [if_neg b1]
    by_cases b2 : n = j
    ·
     rw [if_pos b2]; exact g3 0 1 (by simp) (by simp) (by decide) b
    ·
     rw [if_neg b2]; exact hdis n hn b1 b2 0 (by decide) b
  ·
   rw [if_neg a1]
   by_cases a2 : k = j
   ·
    rw [if_pos a2]
    by_cases b1 : n = i
    ·
     rw [if_pos b1]; exact g3 1 0 (by simp) (by simp) (by decide) b
    ·
     rw [if_neg b1]
     by_cases b2 : n = j
     ·
      exact absurd (a2.trans b2.symm) hkn
     ·
      rw [if_neg b2]; exact hdis n hn b1 b2 1 (by decide) b
   ·
    rw [if_neg a2]
    by_cases b1 : n = i
    ·
     rw [if_pos b1]; exact fun x y => hdis k hk a1 a2 0 (by decide) b y x
    ·
     rw [if_neg b1]
     by_cases b2 : n = j
     ·
      rw [if_pos b2]; exact fun x y => hdis k hk a1 a2 1 (by decide) b y x
     ·
      rw [if_neg b2]; exact h3 k n hk hn hkn b
end

def ghO (w0 : World) (D : Nat → Prop) (Ls : List (List Res)) : Ghost where
 inv := fun vs w => ∃ L, Ls[vs.length]? = some L ∧ Own w0 D w L
 own := fun _ _ => True
 quiet := fun vs w w' ⟨L, h1, h2⟩ hb => ⟨L, h1, h2.stay hb⟩
theorem ghO_start {D : Nat → Prop} {w0 w : World} {L : List Res} {Ls : List (List Res)} (h : Own w0 D w L) : (ghO w0 D (L :: Ls)).inv [] w := ⟨L, rfl, h⟩
theorem ghO_at {D : Nat → Prop} {w0 w : World} {vs : List Value} {Ls : List (List Res)} (h : (ghO w0 D Ls).inv vs w) (k : Nat) (hk : vs.length = k) {L : List Res} (hL : Ls[k]? = some L) : Own w0 D w L := by
 obtain ⟨L', h1, h2⟩ := h
 rw [hk, hL] at h1
 cases h1; exact h2
theorem ghO_mv {D : Nat → Prop} {w0 w w' : World} {vs : List Value} {u : Value} {Ls : List (List Res)} {L' : List Res} (k : Nat) (hk : vs.length = k) (hL : Ls[k + 1]? = some L') (h : Own w0 D w' L') (hs : w.heap.size ≤ w'.heap.size) : (ghO w0 D Ls).mv vs w u w' :=
 ⟨⟨L', by rw [List.length_append, hk]; exact hL, h⟩, hs, fun b _ hn => (hn trivial).elim, fun b _ => .inl trivial⟩
theorem ghO_cell {D : Nat → Prop} {w0 : World} {Ls : List (List Res)} (i : Nat) {b : Nat} {c : Array Value} {t : TypeId} (hi : ∀ L ∈ Ls, L[i]? = some (blkR b (.cells c t))) (j : Nat) {u : Value} (hj : c[j]? = some u) (p : (ghO w0 D Ls).Wd) : p.w.cell? ⟨b, j, none⟩ = some u := by
 obtain ⟨L, h1, h2⟩ := p.h
 exact h2.cell i (hi L (List.mem_of_getElem? h1)) j hj
theorem ghO_call {D : Nat → Prop} {P : Program} {f : FuncId} {args : Array Value} {w0 w : World} {vs : List Value} {v : Value} {Ls : List (List Res)} {L L' : List Res} (k : Nat) (hinv : (ghO w0 D Ls).inv vs w) (hk : vs.length = k) (hL : Ls[k]? = some L) (hL' : Ls[k + 1]? = some L')
  (hc : Own w0 D w L → Calls P f args w (OPost w0 D L' v w)) : Calls P f args w fun e w' => e = .returned v ∧ (ghO w0 D Ls).mv vs w v w' :=
 (hc (ghO_at hinv k hk hL)).mono fun e w' ⟨he, ho, hs⟩ => ⟨he, ghO_mv k hk hL' ho hs⟩
theorem ghO_quiet {P : Program} {f : FuncId} {args : Array Value} {w : World} {v : Value} (hc : Calls P f args w fun e w' => e = .returned v ∧ w = w') : Calls P f args w fun e w' => e = .returned v ∧ Below w.heap.size w w' :=
 hc.mono fun e w' ⟨he, hb⟩ => ⟨he, hb ▸ Below.refl _ _⟩

theorem news_o {w : World} {b : Nat} {l : List Value} {t : TypeId} (h : w.heap[b]? = some (.cells l.toArray t)) : ∀ j u, l[j]? = some u → w.cell? ((⟨b, 0, none⟩ : Addr).add j) = some u := by
 intro j u hj
 have ea : (⟨b, 0, none⟩ : Addr).add j = ⟨b, j, none⟩ := by
  unfold Addr.add
  split
  ·
   rename_i h; have : j = 0 := by simpa using h
   subst this; rfl
  ·
   simp
 rw [ea]
 simp [World.cell?, h, hj]
theorem wpList_appO {P : Program} {ops : Array Oper} {rest : List Oper} {o : Oper} {a : Act} {w0 w : World} {D : Nat → Prop} {L : List Res} {Q : Exit → Act → World → Prop} (hgd : o.guard = none) (s x : Operand) (t : TypeId) (ho : o.op = .call { callee := .builtin .append, args := #[s, x], argTypes := #[t, t] })
  {e : TypeId} {z : Value} {size bytes : Nat} (ht : P.underlying t = some (.slice e)) (hi : (P.info? e).map (fun i => (i.zero, i.size, i.bytes)) = some (some z, size, bytes)) (hzs : z.cells.size = size) (hsz : 0 < size)
  (h : Own w0 D w L) (i : Nat) {v : Value} {n : Nat} {xs : List Value} (hL : L[i]? = some (rowR v e size n xs)) (hs : a.eval s = v) (j : Nat) {b : Nat} (m c : Nat) (news : List Value) {t' : TypeId} (hb : L[j]? = some (blkR b (.cells news.toArray t'))) (hx : a.eval x = .slice (some ⟨b, 0, none⟩) m c)
  (hl : news.length = m * size) (h1 : ∀ u ∈ news, u.oneCell' = true) (h63 : n + m ≤ maxLen) (hbytes : (n + m) * bytes ≤ 140737488355328)
  (hk : ∀ v' w', Own w0 D w' (L.set i (rowR v' e size (n + m) (xs ++ news))) → wpList P ops Q rest (a.put o.dst v') w') : wpList P ops Q (o :: rest) a w := by
 obtain ⟨i0, hi, hz0, hz1, hz2⟩ := info_parts hi
 refine wpList_app hgd s x t ho ht hi hz0 hz1 hz2 hzs hsz hs (h.row i hL) news hx hl (news_o (h.blk j hb)) h1 h63 hbytes (Nat.zero_le _) fun v' w' hown hu hnear => hk v' w' (h.rowTo i hL hown hu fun g hg => ?_)
 rcases hnear with h2 | h2 | ⟨g2, h2, h3⟩
 ·
  rw [h2] at hg; cases hg
 ·
  exact .inl (h2 ▸ hg)
 ·
  rw [h2] at hg; cases hg; exact .inr h3
section
variable {w0 w : World} {D : Nat → Prop} {L : List Res}
theorem Own.openC {Rs : List Res} (h : Own w0 D w (sepR Rs :: L)) : Own w0 D w (Rs ++ L) := by
 obtain ⟨h1, Fs, h2, h3⟩ := h
 obtain ⟨⟨Gs, f1, f2, f3⟩, hd⟩ := h2 0 (sepR Rs) rfl
 have hcross : ∀ i k b, i < Rs.length → k < L.length → Gs i b → ¬ Fs (k + 1) b := fun i k b hi hk hg => h3 0 (k + 1) (by simp) (by simp; omega) (by omega) b ((f3 b).2 ⟨i, hi, hg⟩)
 refine ⟨h1, fun j => if j < Rs.length then Gs j else Fs (j - Rs.length + 1), fun j R hj => ?_, fun j k hj hk hjk b => ?_⟩
 ·
  dsimp only
  by_cases e : j < Rs.length
  ·
   rw [if_pos e]
   rw [List.getElem?_append_left e] at hj
   exact ⟨f1 j R hj, fun b hb => hd b ((f3 b).2 ⟨j, e, hb⟩)⟩
  ·
   rw [if_neg e]
   rw [List.getElem?_append_right (by omega)] at hj
   exact h2 (j - Rs.length + 1) R (by simpa using hj)
 ·
  rw [List.length_append] at hj hk
  dsimp only
  by_cases e1 : j < Rs.length
  ·
   rw [if_pos e1]
   by_cases e2 : k < Rs.length
   ·
    rw [if_pos e2]; exact f2 j k e1 e2 hjk b
   ·
    rw [if_neg e2]; exact hcross j (k - Rs.length) b e1 (by omega)
  ·
   rw [if_neg e1]
   by_cases e2 : k < Rs.length
   ·
    rw [if_pos e2]; exact fun x y => hcross k (j - Rs.length) b e2 (by omega) y x
   ·
    rw [if_neg e2]; exact h3 (j - Rs.length + 1) (k - Rs.length + 1) (by simp; omega) (by simp; omega) (by omega) b
theorem Own.shutC {Rs : List Res} (h : Own w0 D w (Rs ++ L)) : Own w0 D w (sepR Rs :: L) := by
 obtain ⟨h1, Gs, h2, h3⟩ := h
 have hR : ∀ i R, Rs[i]? = some R → R.P w (Gs i) ∧ ∀ b, Gs i b → D b ∨ w0.heap.size ≤ b := fun i R hi => h2 i R (by rw [List.getElem?_append_left (get_len hi)]; exact hi)
 refine ⟨h1, fun j => match j with | 0 => fun b => ∃ i, i < Rs.length ∧ Gs i b | k + 1 => Gs (Rs.length + k), fun j R hj => ?_, fun j k hj hk hjk b => ?_⟩
 ·
  cases j with
  | zero =>
   cases hj
   refine ⟨⟨Gs, fun i R hi => (hR i R hi).1, fun i j hi hj => h3 i j (by simp; omega) (by simp; omega), fun b => Iff.rfl⟩, fun b ⟨i, hi, hb⟩ => (hR i Rs[i] (List.getElem?_eq_getElem hi)).2 b hb⟩
  | succ k => exact h2 (Rs.length + k) R (by rw [List.getElem?_append_right (by omega)]; simpa using hj)
 ·
  simp only [List.length_cons] at hj hk
  cases j with
  | zero =>
   cases k with
   | zero => exact absurd rfl hjk
   | succ k => rintro ⟨i, hi, hb⟩; exact h3 i (Rs.length + k) (by simp; omega) (by simp; omega) (by omega) b hb
  | succ j =>
   cases k with
   | zero => rintro hb ⟨i, hi, hb2⟩; exact h3 i (Rs.length + j) (by simp; omega) (by simp; omega) (by omega) b hb2 hb
   | succ k => exact h3 (Rs.length + j) (Rs.length + k) (by simp; omega) (by simp; omega) (by omega) b
theorem Own.openExC {α : Type} {f : α → Res} (h : Own w0 D w (exR f :: L)) : ∃ a, Own w0 D w (f a :: L) := by
 obtain ⟨h1, Gs, h2, h3⟩ := h
 obtain ⟨⟨a, ha⟩, hd⟩ := h2 0 (exR f) rfl
 refine ⟨a, h1, Gs, fun i R hi => ?_, h3⟩
 cases i with
 | succ i => exact h2 (i + 1) R hi
 | zero => cases hi; exact ⟨ha, hd⟩
theorem Own.shutExC {α : Type} {f : α → Res} (a : α) (h : Own w0 D w (f a :: L)) : Own w0 D w (exR f :: L) := by
 obtain ⟨h1, Gs, h2, h3⟩ := h
 obtain ⟨ha, hd⟩ := h2 0 (f a) rfl
 refine ⟨h1, Gs, fun i R hi => ?_, h3⟩
 cases i with
 | succ i => exact h2 (i + 1) R hi
 | zero => cases hi; exact ⟨⟨a, ha⟩, hd⟩
end
section
variable {w0 w : World} {D : Nat → Prop} {L L' : List Res}
theorem Own.swap {pre l : List Res} {x y : Res} (h : Own w0 D w (pre ++ y :: x :: l)) : Own w0 D w (pre ++ x :: y :: l) := by
 obtain ⟨h1, Fs, h2, h3⟩ := h
 let s : Nat → Nat := fun k => if k = pre.length then k + 1 else if k = pre.length + 1 then k - 1 else k
 have hinj : ∀ j k, j ≠ k → s j ≠ s k := fun j k hjk => by
  simp only [s]
  split <;> split <;> (try split) <;> (try split) <;> omega
 have hlen : ∀ k, k < (pre ++ x :: y :: l).length → s k < (pre ++ y :: x :: l).length := fun k hk => by
  simp only [List.length_append, List.length_cons, s] at *
  split
  ·
   omega
  ·
   split <;> omega
 have hget : ∀ k, (pre ++ x :: y :: l)[k]? = (pre ++ y :: x :: l)[s k]? := fun k => by
  simp only [s]
  by_cases e1 : k = pre.length
  ·
   subst e1; simp
  ·
   by_cases e2 : k = pre.length + 1
   ·
    subst e2
    rw [if_neg (by omega), if_pos rfl]
    simp
   ·
    rw [if_neg e1, if_neg e2]
    by_cases e3 : k < pre.length
    ·
     rw [List.getElem?_append_left e3, List.getElem?_append_left e3]
    ·
     rw [List.getElem?_append_right (by omega), List.getElem?_append_right (by omega)]
     obtain ⟨n, hn⟩ : ∃ n, k - pre.length = n + 2 := ⟨k - pre.length - 2, by omega⟩
     rw [hn]; simp
 refine ⟨h1, fun k => Fs (s k), fun k R hk => h2 (s k) R (by rw [← hget]; exact hk), fun j k hj hk hjk => h3 (s j) (s k) (hlen j hj) (hlen k hk) (hinj j k hjk)⟩
theorem Own.swap' {x y : Res} (h : Own w0 D w (y :: x :: L)) : Own w0 D w (x :: y :: L) := Own.swap (pre := []) h
theorem Own.perm_pre (hp : L.Perm L') : ∀ pre : List Res, Own w0 D w (pre ++ L) → Own w0 D w (pre ++ L') := by
 induction hp with
 | nil => exact fun _ h => h
 | cons x _ ih =>
  intro pre h
  have := ih (pre ++ [x]) (by simpa using h)
  simpa using this
 | swap x y l => exact fun pre h => h.swap
 | trans _ _ ih1 ih2 => exact fun pre h => ih2 pre (ih1 pre h)
theorem Own.perm (h : Own w0 D w L) (hp : L.Perm L') : Own w0 D w L' := Own.perm_pre hp [] h
theorem Own.rot (h : Own w0 D w (L ++ L')) : Own w0 D w (L' ++ L) := h.perm List.perm_append_comm
theorem Own.drop (h : Own w0 D w L) (n : Nat) : Own w0 D w (L.drop n) := by
 have h1 : Own w0 D w (L.drop n ++ L.take n) := Own.rot (by rw [List.take_append_drop]; exact h)
 have := h1.take (L.drop n).length
 rwa [List.take_left'] at this
 rfl
end
def ghS (w0 : World) (D : Nat → Prop) (S : List Value → List Res → Prop) : Ghost where
 inv := fun vs w => ∃ L, S vs L ∧ Own w0 D w L
 own := fun _ _ => True
 quiet := fun vs w w' ⟨L, h1, h2⟩ hb => ⟨L, h1, h2.stay hb⟩
theorem ghS_mv {w0 w w' : World} {D : Nat → Prop} {S : List Value → List Res → Prop} {vs : List Value} {u : Value} {L : List Res} (hS : S (vs ++ [u]) L) (h : Own w0 D w' L) (hs : w.heap.size ≤ w'.heap.size) : (ghS w0 D S).mv vs w u w' :=
 ⟨⟨L, hS, h⟩, hs, fun b _ hn => (hn trivial).elim, fun b _ => .inl trivial⟩
def apS (L : List Res) (i : Nat) (news : List Value) (T : TypeId) (R : Value → Res) : List Value → List Res → Prop
 | [], L' => L' = L
 | [s], L' => ∃ b, s = .slice (some ⟨b, 0, none⟩) 1 1 ∧ L' = L ++ [blkR b (.cells news.toArray T)]
 | [_, v], L' => L' = L.set i (R v)
 | _, _ => False
section
variable {w0 w : World} {D : Nat → Prop} {L : List Res} {i : Nat} {news : List Value} {T : TypeId} {R : Value → Res}
theorem apS_start (h : Own w0 D w L) : (ghS w0 D (apS L i news T R)).inv [] w := ⟨L, rfl, h⟩
theorem apS_cell (k : Nat) {b : Nat} {c : Array Value} {t : TypeId} (hk : L[k]? = some (blkR b (.cells c t))) (hki : k ≠ i) (j : Nat) {u : Value} (hj : c[j]? = some u) (p : (ghS w0 D (apS L i news T R)).Wd) : p.w.cell? ⟨b, j, none⟩ = some u := by
 obtain ⟨vs, w, L', h1, h2⟩ := p
 refine h2.cell (t := t) (c := c) k ?_ j hj
 have hkl := get_len hk
 match vs, h1 with
 | [], h1 => cases h1; exact hk
 | [s], ⟨b, _, h1⟩ => rw [h1, List.getElem?_append_left hkl]; exact hk
 | [s, v], h1 => cases h1; rw [List.getElem?_set_ne (Ne.symm hki)]; exact hk
theorem apS_build {vs : List Value} (h : (ghS w0 D (apS L i news T R)).inv vs w) (hl : vs.length = 0) : (ghS w0 D (apS L i news T R)).mv vs w (.slice (some ⟨w.heap.size, 0, none⟩) 1 1) (w.alloc (.cells news.toArray T)) := by
 obtain rfl : vs = [] := List.eq_nil_of_length_eq_zero hl
 obtain ⟨L', h1, h2⟩ := h
 cases h1
 exact ghS_mv (L := L ++ [blkR w.heap.size (.cells news.toArray T)]) ⟨_, rfl, rfl⟩ (h2.alloc _) (by simp)
theorem apS_app {P : Program} {o : Oper} {a : Act} {g : GW} {Q : Exit → Act → World → Prop} (s x : Operand) (t : TypeId) (ho : o.op = .call { callee := .builtin .append, args := #[s, x], argTypes := #[t, t] })
  {z : Value} {size bytes : Nat} (ht : P.underlying t = some (.slice T)) (hi0 : (P.info? T).map (fun i => (i.zero, i.size, i.bytes)) = some (some z, size, bytes)) (hzs : z.cells.size = size) (hsz : 0 < size)
  {v : Value} {n : Nat} {xs : List Value} (hL : L[i]? = some (rowR v T size n xs)) (hnl : news.length = size) (h1 : ∀ u ∈ news, u.oneCell' = true) (h63 : n + 1 ≤ maxLen) (hbytes : (n + 1) * bytes ≤ 140737488355328)
  (hinv : (ghS w0 D (apS L i news T (fun v' => rowR v' T size (n + 1) (xs ++ news)))).inv g.vs g.w) (hl : g.vs.length = 1) (hs : a.eval s = v) (hx : g.vs[0]? = some (a.eval x)) :
  o.wp P a g.w (fun a' w' => ∃ v', a' = a.put o.dst v' ∧ (ghS w0 D (apS L i news T (fun v' => rowR v' T size (n + 1) (xs ++ news)))).mv g.vs g.w v' w' ∧ gnth 1 v' ⟨g.vs ++ [v'], w'⟩) Q := by
 obtain ⟨vs, w⟩ := g
 obtain ⟨u, rfl⟩ : ∃ u, vs = [u] := List.length_eq_one_iff.1 hl
 obtain ⟨L', ⟨b, hu, rfl⟩, h⟩ := hinv
 have hx' : a.eval x = .slice (some ⟨b, 0, none⟩) 1 1 := by
  have : u = a.eval x := by simpa using hx
  rw [← this, hu]
 obtain ⟨i0, hi, hz0, hz1, hz2⟩ := info_parts hi0
 have hil := get_len hL
 have hL2 : (L ++ [blkR b (.cells news.toArray T)])[i]? = some (rowR v T size n xs) := by rw [List.getElem?_append_left hil]; exact hL
 have hb2 : (L ++ [blkR b (.cells news.toArray T)])[L.length]? = some (blkR b (.cells news.toArray T)) := by simp
 refine wp_next (wp_app s x t ho ht hi hz0 hz1 hz2 hzs hsz hs (h.row i hL2) news hx' (by rw [hnl]; simp) (news_o (h.blk _ hb2)) h1 h63 hbytes (Nat.zero_le _)) ?_
 rintro a'' w' ⟨v', rfl, hown, hu', hnear⟩
 refine ⟨v', rfl, ghS_mv (L := L.set i (rowR v' T size (n + 1) (xs ++ news))) rfl ?_ hu'.size, rfl⟩
 have := (h.rowTo i hL2 hown hu' fun g hg => ?_).take L.length
 ·
  rwa [List.set_append_left _ _ hil, List.take_left' (by simp)] at this
 ·
  rcases hnear with h2 | h2 | ⟨g2, h2, h3⟩
  ·
   rw [h2] at hg; cases hg
  ·
   exact .inl (h2 ▸ hg)
  ·
   rw [h2] at hg; cases hg; exact .inr h3
theorem apS_end {g : GW} (h : (ghS w0 D (apS L i news T R)).inv g.vs g.w) (hl : g.vs.length = 2) : ∃ s v, g.vs = [s, v] ∧ Own w0 D g.w (L.set i (R v)) := by
 obtain ⟨vs, w⟩ := g
 obtain ⟨s, v, rfl⟩ : ∃ s v, vs = [s, v] := by
  match vs, hl with
  | [s, v], _ => exact ⟨s, v, rfl⟩
 obtain ⟨L', h1, h2⟩ := h
 cases h1
 exact ⟨s, v, rfl, h2⟩
end
section
variable {Γ : Ghost} {P : Program} {ops : Array Oper} {chain : List Nat} {a0 : Act} {F : List GPred → Prop} {i : Nat} {o : Oper} {rest : List Oper} {a : Act} {ex : List (Tmp × GPred)}
end
theorem row_cells {w : World} {E sz n : Nat} {g cap : Nat} {xs : List Value} (h : w.ownsRow 0 E sz (.slice (some ⟨g, 0, none⟩) n cap) n xs) : (∀ j u, xs[j]? = some u → w.cell? ⟨g, j, none⟩ = some u) ∧ ∀ j, w.frozen? ⟨g, j, none⟩ = false := by
 obtain ⟨h1, ⟨e, _⟩ | ⟨g', cp, cur, e, _, hh, hcp, _, hs, htk⟩⟩ := h
 ·
  cases e
 ·
  cases e
  refine ⟨fun j u hj => ?_, fun j => by simp [World.frozen?, hh]⟩
  have hjl : j < n * sz := by
   rcases Nat.lt_or_ge j (n * sz) with h | h
   ·
    exact h
   ·
    rw [List.getElem?_eq_none (by omega)] at hj; cases hj
  rw [← htk, List.getElem?_take, if_pos hjl] at hj
  simp [World.cell?, hh]
  simpa using hj
theorem row_some {w : World} {E sz n : Nat} {a : Option Addr} {cap : Nat} {xs : List Value} (h : w.ownsRow 0 E sz (.slice a n cap) n xs) (h0 : 0 < n) : ∃ g, a = some ⟨g, 0, none⟩ := by
 obtain ⟨h1, ⟨e, hn⟩ | ⟨g', cp, cur, e, _⟩⟩ := h
 ·
  omega
 ·
  cases e; exact ⟨g', rfl⟩
theorem row_shape {w : World} {E sz n : Nat} {v : Value} {xs : List Value} (h : w.ownsRow 0 E sz v n xs) : ∃ a cap, v = .slice a n cap := by
 obtain ⟨h1, ⟨e, hn⟩ | ⟨g', cp, cur, e, _⟩⟩ := h
 ·
  exact ⟨none, 0, by rw [e, hn]⟩
 ·
  exact ⟨_, cp, e⟩
theorem Own.rowSet {w0 w : World} {D : Nat → Prop} {L : List Res} (h : Own w0 D w L) (i : Nat) {g n cap E sz : Nat} {xs : List Value} (hi : L[i]? = some (rowR (.slice (some ⟨g, 0, none⟩) n cap) E sz n xs)) (j : Nat) (u : Value) :
  Own w0 D (w.setCell ⟨g, j, none⟩ u) (L.set i (rowR (.slice (some ⟨g, 0, none⟩) n cap) E sz n (xs.set j u))) := by
 obtain ⟨F, h1, h2, h3⟩ := h.step hi
 have hF : F g := (h1.1 g).2 rfl
 refine h3 (R' := rowR (.slice (some ⟨g, 0, none⟩) n cap) E sz n (xs.set j u)) (F' := F) ⟨h1.1, ?_⟩ (fun b hb => .inl hb) (Upd.setCell (p := ⟨g, j, none⟩) (Upd.refl F w) (fun _ => hF) u)
 obtain ⟨r1, ⟨e, _⟩ | ⟨g', cp, cur, e, hg0, hh, hcp, hmx, hs, htk⟩⟩ := h1.2
 ·
  cases e
 ·
  cases e
  refine ⟨by simpa using r1, .inr ⟨g, cap, cur.setIfInBounds j u, rfl, hg0, blk_setc hh j u, hcp, hmx, by simpa using hs, ?_⟩⟩
  rw [Array.toList_setIfInBounds, List.take_set, htk]
def gexOpG (ops : Array Oper) (i : Nat) (o : Oper) (ex : List (Tmp × GPred)) : Bool :=
 lexOp ops i o && (match o.guard with | some (g, _) => (match dstOf ops g with | some d => !(ex.map (·.1)).contains d | none => false) | none => true) && (match o.dst with | some d => !(ex.map (·.1)).contains d | none => false) && ((o.looksAt ops).all fun s => !(ex.map (·.1)).contains s || (lastW ops i s).isSome)
section
variable {Γ : Ghost} {ops : Array Oper} {a0 : Act} {i : Nat} {o : Oper} {a : Act} {ex : List (Tmp × GPred)}
theorem gexOpG_parts (hp : gexOpG ops i o ex = true) : (∀ s ∈ o.looksAt ops, lexAt ops i s = true) ∧ (∀ g b, o.guard = some (g, b) → ∃ d, dstOf ops g = some d ∧ d ∉ ex.map (·.1)) ∧ (∀ d, o.dst = some d → d ∉ ex.map (·.1)) ∧ (∀ s ∈ o.looksAt ops, s ∈ ex.map (·.1) → (lastW ops i s).isSome = true) := by
 simp only [gexOpG, lexOp, Bool.and_eq_true, List.all_eq_true, Bool.or_eq_true, Bool.not_eq_true'] at hp
 obtain ⟨⟨⟨hp1, hp2⟩, hp3⟩, hp4⟩ := hp
 refine ⟨hp1, fun g b hg => ?_, fun d hod => ?_, fun s hs hm => ?_⟩
 ·
  rw [hg] at hp2
  simp only at hp2
  cases hd : dstOf ops g with
  | none => rw [hd] at hp2; cases hp2
  | some d =>
   rw [hd] at hp2
   exact ⟨d, rfl, by simpa using hp2⟩
 ·
  rw [hod] at hp3
  simpa using hp3
 ·
  rcases hp4 s hs with h | h
  ·
   have : (ex.map (·.1)).contains s = true := by simpa using hm
   rw [this] at h; cases h
  ·
   exact h
theorem gexOpG_wanted {G : List GPred} (hrep : GRep Γ ops a0 G a ex) (hi : G.length = i) (hp : gexOpG ops i o ex = true) {a' : Act} {g : GW} (hg : Γ.inv g.vs g.w) (he : genvAll ops a0 G i a' g (o.looksAt ops)) : Region.wanted o (yielded ops a'.tmps) = Region.wanted o (yielded ops a.tmps) := by
 obtain ⟨hp1, hp2, _, _⟩ := gexOpG_parts hp
 unfold Region.wanted
 cases hgd : o.guard with
 | none => rfl
 | some gb =>
  obtain ⟨j, b⟩ := gb
  obtain ⟨d, hd, hx⟩ := hp2 j b hgd
  have hmem : d ∈ o.looksAt ops := by
   unfold Oper.looksAt
   rw [hgd]
   have hb : (ops[j]?).bind (·.dst) = some d := hd
   simp [hb]
  have h1 := (hrep.look hi hg (hp1 d hmem) (genv_mem _ he d hmem)).1 hx
  have := yielded_eval (ops := ops) (tmps := a'.tmps) (tmps' := a.tmps) (d := []) hd h1
  simp only [this]
end
def lgE (i : Nat) (v : Value) : Value := .tuple #[.int .i64 i, v]
def rdE (i : Nat) (e : Value) : Option Value := match e with
 | .tuple ⟨[.int .i64 n, v]⟩ => if n = (i : Int) then some v else none
 | _ => none
def ran (vs : List Value) (i : Nat) : Option Value := vs.findSome? (rdE i)
def updE (st : Nat → Option Value) (i : Nat) (u : Value) : Nat → Option Value := fun j => if j = i then some u else st j
theorem rdE_lg (i j : Nat) (v : Value) : rdE j (lgE i v) = if i = j then some v else none := by
 show (if (i : Int) = (j : Int) then some v else none) = _
 by_cases h : i = j
 ·
  rw [if_pos h, if_pos (by rw [h])]
 ·
  rw [if_neg h, if_neg (by omega)]
theorem ran_log {vs : List Value} {i : Nat} (v : Value) (h : ran vs i = none) : ran (vs ++ [lgE i v]) = updE (ran vs) i v := by
 funext j
 unfold ran updE
 rw [List.findSome?_append]
 have h1 : ([lgE i v] : List Value).findSome? (rdE j) = if i = j then some v else none := by
  rw [List.findSome?_cons, rdE_lg]
  by_cases e : i = j
  ·
   rw [if_pos e]
  ·
   rw [if_neg e]; rfl
 rw [h1]
 by_cases e : j = i
 ·
  subst e
  rw [if_pos rfl, if_pos rfl]
  have h2 : vs.findSome? (rdE j) = none := h
  rw [h2]; rfl
 ·
  rw [if_neg (fun h => e h.symm), if_neg e]
  exact Option.or_none
theorem updE_same {st : Nat → Option Value} {i : Nat} {u : Value} : updE st i u i = some u := if_pos rfl
theorem updE_ne {st : Nat → Option Value} {i j : Nat} {u : Value} (h : j ≠ i) : updE st i u j = st j := if_neg h
def edeps (ops : Array Oper) (E : List Nat) (i : Nat) (st : Nat → Option Value) : Prop := (∀ j ∈ E, Region.waitsFor .any ops i j = true → (st j).isSome = true) ∧ ∀ j ∈ E, Region.waitsFor .any ops j i = true → st j = none
def estepOK (Γ : Ghost) (P : Program) (ops : Array Oper) (E : List Nat) (a0 : Act) (G : List GPred) (i : Nat) (o : Oper) (A : GPred) : Prop :=
 if E.contains i = true then
  ∀ a g, Γ.inv g.vs g.w → a.tmps.size = a0.tmps.size → genvAll ops a0 G i a g (o.looksAt ops) → ran g.vs i = none → edeps ops E i (ran g.vs) →
   if Region.wanted o (yielded ops a.tmps) then o.wp P a g.w (fun a' w' => ∃ v, a' = a.put o.dst v ∧ Γ.mv g.vs g.w (lgE i v) w' ∧ A v ⟨g.vs ++ [lgE i v], w'⟩) (fun _ _ _ => False) else Γ.mv g.vs g.w (lgE i undef) g.w ∧ A undef ⟨g.vs ++ [lgE i undef], g.w⟩
 else gstepOK Γ P ops a0 G i o none A
def gwpE (Γ : Ghost) (P : Program) (ops : Array Oper) (E : List Nat) (a0 : Act) (F : List GPred → Prop) : List Oper → List GPred → Prop
 | [], G => F G
 | o :: rest, G => ∃ A, Γ.lasts A ∧ (o.dst = none → ∀ v g, A v g) ∧ estepOK Γ P ops E a0 G G.length o A ∧ gwpE Γ P ops E a0 F rest (G ++ [A])
structure EInv (Γ : Ghost) (ops : Array Oper) (E : List Nat) (n : Nat) (a0 : Act) (G : List GPred) (listed : Array Bool) (a : Act) (g : GW) : Prop where
 head : HeadInv .any ops n listed
 world : Γ.inv g.vs g.w
 stage : ∀ i ∈ E, (listed.getD i false = true ↔ (ran g.vs i).isSome = true)
 defers : a.defers = a0.defers
 size : a.tmps.size = a0.tmps.size
 done : ∀ j d, j < n → listed.getD j false = true → dstOf ops j = some d → (G.getD j (fun _ _ => True)) (a.eval (.tmp d)) g
 rest : ∀ s, (∀ j, listed.getD j false = true → dstOf ops j ≠ some s) → a.eval (.tmp s) = a0.eval (.tmp s)

section
variable {Γ : Ghost} {P : Program} {ops : Array Oper} {E : List Nat} {n : Nat} {a0 : Act} {G : List GPred} {Q : Exit → Act → World → Prop}

theorem EInv.env {a : Act} {g : GW} {i : Nat} {o : Oper} (hf : HeadN ops n a0.tmps.size) (inv : EInv Γ ops E n a0 G listed a g) (hi : i ∈ Region.ready .any ops listed) (hin : i < n) (ho : ops[i]? = some o) :
  ∀ ss, genvAll ops a0 G i a g ss := by
 obtain ⟨hun, o', ho', hall⟩ := mem_ready.1 hi
 have : o' = o := Option.some.inj (ho'.symm.trans ho)
 subst this
 intro ss
 induction ss with
 | nil => trivial
 | cons s ss ih =>
  refine ⟨?_, ih⟩
  unfold genvAt
  split
  ·
   rename_i j hj
   have hfd := List.find?_some hj
   simp only [Bool.and_eq_true, beq_iff_eq] at hfd
   obtain ⟨e, he, hb, hon⟩ := waits_mem ho hfd.1
   have hlt := hf.back i o' hin ho e he hb
   have hl := hall e he hb
   rw [hon] at hl hlt
   exact inv.done j s (by omega) hl hfd.2
  ·
   split
   ·
    rename_i horig
    refine inv.rest s fun j hl hd => ?_
    have hjs : j < ops.size := by
     rcases Nat.lt_or_ge j ops.size with h | h
     ·
      exact h
     ·
      simp [dstOf, Array.getElem?_eq_none h] at hd
    have h1 := List.all_eq_true.1 horig j (List.mem_range.2 hjs)
    simp only [Bool.or_eq_true, bne_iff_ne, beq_iff_eq] at h1
    rcases h1 with (h1 | h1) | h1
    ·
     exact h1 hd
    ·
     subst h1; rw [getD_both hun] at hl; cases hl
    ·
     obtain ⟨oj, hoj, e, he, hb, hon⟩ := Region.waitsFor_spec h1
     have := inv.head.closed j oj hoj hl e he hb
     rw [hon, getD_both hun] at this; cases this
   ·
    trivial

theorem EInv.next {a : Act} {g g' : GW} {i : Nat} {o : Oper} {v : Value} (hf : HeadN ops n a0.tmps.size) (hG : ∀ j, Γ.lasts (G.getD j (fun _ _ => True))) (inv : EInv Γ ops E n a0 G listed a g) (hi : i ∈ Region.ready .any ops listed) (hin : i < n) (ho : ops[i]? = some o)
  (hw : Γ.step g g') (hJ : Γ.inv g'.vs g'.w) (hst : ∀ j ∈ E, ((listed.setIfInBounds i true).getD j false = true ↔ (ran g'.vs j).isSome = true))
  (hA : (G.getD i (fun _ _ => True)) v g') : EInv Γ ops E n a0 G (listed.setIfInBounds i true) (a.put o.dst v) g' := by
 obtain ⟨hun, _, _, _⟩ := mem_ready.1 hi
 have hil : i < listed.size := by rw [inv.head.size]; exact (Array.getElem?_eq_some_iff.1 ho).1
 cases hod : o.dst with
 | none =>
  have hdi : dstOf ops i = none := by simpa [dstOf, ho] using hod
  refine ⟨inv.head.set hi hin, hJ, hst, inv.defers, inv.size, fun j d' hj hl hd' => ?_, fun s hs => ?_⟩
  ·
   have hji : j ≠ i := fun h => by subst h; rw [hdi] at hd'; cases hd'
   rw [getD_set_ne false (Ne.symm hji)] at hl
   exact hG j _ _ _ inv.world (inv.done j d' hj hl hd') hw
  ·
   refine inv.rest s fun j hl => ?_
   by_cases hji : j = i
   ·
    subst hji; rw [hdi]; exact fun h => by cases h
   ·
    exact hs j (by rw [getD_set_ne false (Ne.symm hji)]; exact hl)
 | some d =>
 have hd : dstOf ops i = some d := by simpa [dstOf, ho] using hod
 obtain ⟨hds, hdn⟩ := hf.dst i d hin hd
 refine ⟨inv.head.set hi hin, hJ, hst, ?_, ?_, fun j d' hj hl hd' => ?_, fun s hs => ?_⟩
 ·
  simpa [Act.put] using inv.defers
 ·
  simpa [Act.put] using inv.size
 ·
  by_cases hji : j = i
  ·
   subst hji
   rw [hd] at hd'
   cases hd'
   rw [eval_put_same (by rw [inv.size]; exact hds)]
   exact hA
  ·
   rw [getD_set_ne false (Ne.symm hji)] at hl
   have hne : d ≠ d' := fun h => by subst h; exact hdn j hj hji hd'
   rw [eval_put_ne hne]
   exact hG j _ _ _ inv.world (inv.done j d' hj hl hd') hw
 ·
  have hne : d ≠ s := fun h => by
   subst h
   exact hs i (by simp [hil]) hd
  rw [eval_put_ne hne]
  refine inv.rest s fun j hl => hs j ?_
  by_cases hji : j = i
  ·
   subst hji; simp [hil]
  ·
   rw [getD_set_ne false (Ne.symm hji)]; exact hl

theorem EInv.stageQ {a : Act} {g : GW} {i : Nat} (inv : EInv Γ ops E n a0 G listed a g) (hc : E.contains i = false) : ∀ j ∈ E, ((listed.setIfInBounds i true).getD j false = true ↔ (ran g.vs j).isSome = true) := by
 intro j hj
 have hji : j ≠ i := fun h => by
  subst h
  have : E.contains j = true := by simpa using hj
  rw [this] at hc; cases hc
 rw [getD_set_ne false (Ne.symm hji)]
 exact inv.stage j hj
theorem EInv.stageC {a : Act} {g : GW} {i : Nat} (inv : EInv Γ ops E n a0 G listed a g) (hi : i ∈ Region.ready .any ops listed) (hc : E.contains i = true) :
  ran g.vs i = none ∧ edeps ops E i (ran g.vs) ∧ ∀ u : Value, ∀ j ∈ E, ((listed.setIfInBounds i true).getD j false = true ↔ (ran (g.vs ++ [lgE i u]) j).isSome = true) := by
 have hiE : i ∈ E := by simpa using hc
 obtain ⟨hun, o, ho, hall⟩ := mem_ready.1 hi
 have hn : ran g.vs i = none := by
  cases hr : ran g.vs i with
  | none => rfl
  | some u =>
   have := (inv.stage i hiE).2 (by rw [hr]; rfl)
   rw [getD_both hun] at this; cases this
 refine ⟨hn, ⟨fun j hj hw => ?_, fun j hj hw => ?_⟩, fun u j hj => ?_⟩
 ·
  obtain ⟨e, he, hb, hon⟩ := waits_mem ho hw
  have := hall e he hb
  rw [hon] at this
  exact (inv.stage j hj).1 this
 ·
  cases hr : ran g.vs j with
  | none => rfl
  | some u =>
   have h1 := (inv.stage j hj).2 (by rw [hr]; rfl)
   obtain ⟨oj, hoj, e, he, hb, hon⟩ := Region.waitsFor_spec hw
   have := inv.head.closed j oj hoj h1 e he hb
   rw [hon, getD_both hun] at this; cases this
 ·
  have hil : i < listed.size := by rw [inv.head.size]; exact (Array.getElem?_eq_some_iff.1 ho).1
  rw [ran_log u hn]
  by_cases hji : j = i
  ·
   subst hji
   rw [updE_same]; simp [hil]
  ·
   rw [getD_set_ne false (Ne.symm hji), updE_ne hji]
   exact inv.stage j hj

theorem gwpAny_specE (hf : HeadN ops n a0.tmps.size) (hcn : ∀ i ∈ E, i < n) (hG : ∀ j, Γ.lasts (G.getD j (fun _ _ => True))) (hstep : ∀ i o, i < n → ops[i]? = some o → estepOK Γ P ops E a0 G i o (G.getD i (fun _ _ => True)))
  (hfin : ∀ a g, Γ.inv g.vs g.w → (∀ i ∈ E, (ran g.vs i).isSome = true) → a.defers = a0.defers → a.tmps.size = a0.tmps.size → (∀ j d, j < n → dstOf ops j = some d → (G.getD j (fun _ _ => True)) (a.eval (.tmp d)) g) →
   (∀ s, (∀ j, j < n → dstOf ops j ≠ some s) → a.eval (.tmp s) = a0.eval (.tmp s)) → wpList P ops Q (ops.toList.drop n) a g.w) :
  ∀ (f : Nat) (listed : Array Bool) (a : Act) (g : GW), unl listed n = f → EInv Γ ops E n a0 G listed a g → wpAny P .any ops Q (f + (ops.size - n)) listed a g.w := by
 intro f
 induction f with
 | zero =>
  intro listed a g hu inv
  have hall := unl_zero hu
  have hl := listed_all inv.head.size hf.le hall inv.head.tail
  have hran : ∀ i ∈ E, (ran g.vs i).isSome = true := fun i hi => (inv.stage i hi).1 (hall i (hcn i hi))
  have hw := hfin a g inv.world hran inv.defers inv.size (fun j d hj hd => inv.done j d hj (hall j hj) hd) (fun s hs => inv.rest s fun j hl' hd => by
   by_cases hj : j < n
   ·
    exact hs j hj hd
   ·
    have hjs : j < ops.size := by
     rcases Nat.lt_or_ge j ops.size with h | h
     ·
      exact h
     ·
      simp [dstOf, Array.getElem?_eq_none h] at hd
    have := inv.head.tail j (by omega) hjs
    rw [getD_both this] at hl'; cases hl')
  have hlen : (ops.toList.drop n).length = ops.size - n := by simp
  rw [Nat.zero_add, ← hlen]
  refine wpAny_of_seq (ops.toList.drop n) n listed a g.w (fun j => by simp [List.getElem?_drop]) ?_ hw
  rw [hlen, hl]
  exact hf.seq
 | succ f ih =>
  intro listed a g hu inv
  obtain ⟨j, hj, hjf, hjb⟩ := unl_pos (listed := listed) (n := n) (by omega)
  have hjs : j < ops.size := by have := hf.le; omega
  have hready : j ∈ Region.ready .any ops listed := by
   refine mem_ready.2 ⟨getD_in (by rw [inv.head.size]; exact hjs) hjf, ops[j], by simp [hjs], fun e he hb => ?_⟩
   exact hjb _ (hf.back j ops[j] hj (by simp [hjs]) e he hb)
  rw [show f + 1 + (ops.size - n) = (f + (ops.size - n)) + 1 by omega]
  refine ⟨fun h0 => (by rw [h0] at hready; cases hready), fun i hi => ?_⟩
  have hin : i < n := by
   rcases Nat.lt_or_ge i n with h | h
   ·
    exact h
   ·
    exfalso
    obtain ⟨_, oi, hoi, _⟩ := mem_ready.1 hi
    have his : i < ops.size := (Array.getElem?_eq_some_iff.1 hoi).1
    rcases hf.tail with ht | ⟨hs, hc⟩
    ·
     omega
    ·
     exact tail_waits hs hc (by omega) inv.head (n - j) j rfl hj (getD_in (by rw [inv.head.size]; exact hjs) hjf) i h hi
  obtain ⟨hun, o, ho, _⟩ := mem_ready.1 hi
  have henv := inv.env hf hi hin ho (o.looksAt ops)
  have hs := hstep i o hin ho
  have hu' : unl (listed.setIfInBounds i true) n = f := by
   have := unl_set hin (by rw [inv.head.size]; exact (Array.getElem?_eq_some_iff.1 ho).1) (getD_both hun)
   omega
  unfold wpOp
  simp only [ho]
  cases hck : E.contains i with
  | false =>
   unfold estepOK at hs
   rw [if_neg (by rw [hck]; decide)] at hs
   have hs := hs a g inv.world inv.size henv
   simp only at hs
   have hstq := inv.stageQ hck
   by_cases hwt : Region.wanted o (yielded ops a.tmps) = true
   ·
    rw [if_pos hwt] at hs ⊢
    refine .inl (upon_mono ?_ (fun _ _ _ h => h.elim) hs)
    rintro a' w' ⟨v, rfl, hb, hA⟩
    exact ih _ _ ⟨g.vs, w'⟩ hu' (inv.next hf hG hi hin ho (.inl ⟨rfl, hb⟩) (Γ.quiet _ _ _ inv.world hb) hstq hA)
   ·
    rw [if_neg hwt] at hs ⊢
    exact ih _ _ g hu' (inv.next hf hG hi hin ho (.inl ⟨rfl, Below.refl _ _⟩) inv.world hstq hs)
  | true =>
   unfold estepOK at hs
   rw [if_pos hck] at hs
   obtain ⟨hk, hdp, hstc⟩ := inv.stageC hi hck
   have hs' := hs a g inv.world inv.size henv hk hdp
   by_cases hwt : Region.wanted o (yielded ops a.tmps) = true
   ·
    rw [if_pos hwt] at hs' ⊢
    refine .inl (upon_mono ?_ (fun _ _ _ h => h.elim) hs')
    rintro a' w' ⟨v, rfl, hb, hA⟩
    exact ih _ _ ⟨g.vs ++ [lgE i v], w'⟩ hu' (inv.next hf hG hi hin ho (.inr ⟨_, rfl, hb⟩) hb.1 (hstc v) hA)
   ·
    rw [if_neg hwt] at hs' ⊢
    exact ih _ _ ⟨g.vs ++ [lgE i undef], g.w⟩ hu' (inv.next hf hG hi hin ho (.inr ⟨_, rfl, hs'.1⟩) hs'.1.1 (hstc undef) hs'.2)
end


theorem gwpE_parts {Γ : Ghost} {P : Program} {ops : Array Oper} {E : List Nat} {a0 : Act} {F : List GPred → Prop} : ∀ (l : List Oper) (G : List GPred), (∀ A ∈ G, Γ.lasts A) → (∀ j, j < l.length → l[j]? = ops[G.length + j]?) →
  gwpE Γ P ops E a0 F l G → ∃ G', F (G ++ G') ∧ G'.length = l.length ∧ (∀ A ∈ G', Γ.lasts A) ∧ (∀ j o, j < l.length → ops[G.length + j]? = some o → o.dst = none → ∀ v g, ((G ++ G').getD (G.length + j) (fun _ _ => True)) v g) ∧ ∀ j o, j < l.length → ops[G.length + j]? = some o → estepOK Γ P ops E a0 ((G ++ G').take (G.length + j)) (G.length + j) o ((G ++ G').getD (G.length + j) (fun _ _ => True))
 | [], G, _, _, h => ⟨[], by simpa [gwpE] using h, rfl, by simp, fun j o hj => by simp at hj, fun j o hj => by simp at hj⟩
 | o :: l, G, hG, hl, h => by
  obtain ⟨A, hA, hno, hs, hr⟩ := h
  obtain ⟨G', hF, hlen, hG', hnn, hst⟩ := gwpE_parts l (G ++ [A]) (fun B hB => by
   rcases List.mem_append.1 hB with h | h
   ·
    exact hG B h
   ·
    simp at h; subst h; exact hA) (fun j hj => by
    have := hl (j + 1) (by simp; omega)
    simpa [Nat.add_assoc, Nat.add_comm 1 j] using this) hr
  refine ⟨A :: G', by simpa using hF, by simp [hlen], fun B hB => ?_, fun j oj hj hoj hd => ?_, fun j oj hj hoj => ?_⟩
  ·
   rcases List.mem_cons.1 hB with h | h
   ·
    subst h; exact hA
   ·
    exact hG' B h
  ·
   cases j with
   | zero =>
    have h0 : some o = ops[G.length]? := by simpa using hl 0 (by simp)
    rw [Nat.add_zero] at hoj ⊢
    rw [← h0] at hoj
    cases hoj
    have := hno hd
    simpa using this
   | succ j =>
    have := hnn j oj (by simpa using hj) (by simpa [Nat.add_assoc, Nat.add_comm 1 j] using hoj) hd
    simpa [Nat.add_assoc, Nat.add_comm 1 j] using this
  ·
   cases j with
   | zero =>
    have h0 : some o = ops[G.length]? := by simpa using hl 0 (by simp)
    rw [Nat.add_zero] at hoj ⊢
    rw [← h0] at hoj
    cases hoj
    simpa using hs
   | succ j =>
    have := hst j oj (by simpa using hj) (by simpa [Nat.add_assoc, Nat.add_comm 1 j] using hoj)
    simpa [Nat.add_assoc, Nat.add_comm 1 j] using this

theorem estep_take {Γ : Ghost} {P : Program} {ops : Array Oper} {E : List Nat} {n size : Nat} (hf : HeadN ops n size) {a0 : Act} {G : List GPred} {i : Nat} {o : Oper} {A : GPred} (ho : ops[i]? = some o) (hin : i < n) (h : estepOK Γ P ops E a0 (G.take i) i o A) : estepOK Γ P ops E a0 G i o A := by
 unfold estepOK at h ⊢
 split at h
 ·
  rename_i hc
  rw [if_pos hc]
  exact fun a g hw hs henv => h a g hw hs (genvAll_takeN hf ho hin _ henv)
 ·
  rename_i hc
  rw [if_neg hc]
  exact fun a g hw hs henv => h a g hw hs (genvAll_takeN hf ho hin _ henv)
theorem wp_region_EN {P : Program} {id : Nat} {Q : Exit → Act → World → Prop} {a : Act} {w : World} {l : List Oper} (Γ : Ghost) (n : Nat) (E : List Nat) (hm : P.follows .mixedOrders = true) (hB : headOKn l.toArray n a.tmps.size = true) (hcn : (E.all fun i => decide (i < n)) = true)
  (hstart : Γ.inv [] w)
  (h : gwpE Γ P l.toArray E a (fun G => ∀ g, Γ.inv g.vs g.w → (∀ i ∈ E, (ran g.vs i).isSome = true) → gfinS (fun vs => wpList P l.toArray Q (l.drop n) (putAll a (l.take n) vs) g.w) g G []) (l.take n) []) : (Code.region id l.toArray true).wp P Q a w := by
 have hf := headN hB
 have hnl : n ≤ l.length := by simpa using hf.le
 have htl : (l.take n).length = n := by simp; omega
 obtain ⟨G, hF, hlen, hG, hnn, hst⟩ := gwpE_parts (l.take n) [] (by simp) (fun j hj => by rw [htl] at hj; simp [hj]) h
 simp only [List.nil_append, List.length_nil, Nat.zero_add] at hF hst hnn
 rw [htl] at hlen hst hnn
 refine wp_region_any hm ?_
 have hstep : ∀ i o, i < n → l.toArray[i]? = some o → estepOK Γ P l.toArray E a G i o (G.getD i (fun _ _ => True)) := by
  intro i o hi ho
  exact estep_take hf ho hi (hst i o hi ho)
 have key := gwpAny_specE (P := P) (Q := Q) (G := G) (Γ := Γ) (a0 := a) hf (fun i hi => by simpa using List.all_eq_true.1 hcn i hi) (glasts_getD hG) hstep (fun a' g hw hvl hd hs hA hR => by
  have hfin := gfinS_go G [] ((List.range n).map fun j => match dstOf l.toArray j with | some d => a'.eval (.tmp d) | none => undef) (by simp [hlen]) (fun j hj => by
   rw [hlen] at hj
   cases hdj : dstOf l.toArray j with
   | some d =>
    have := hA j d hj hdj
    simpa [hj, hdj] using this
   | none =>
    have hjl : j < l.length := by omega
    have := hnn j l[j] hj (by simp [hjl]) (by simpa [dstOf, hjl] using hdj) undef g
    simpa [hj, hdj] using this) (hF g hw hvl)
  have e : putAll a (l.take n) ((List.range n).map fun j => match dstOf l.toArray j with | some d => a'.eval (.tmp d) | none => undef) = a' := by
   have hps := putAll_size (l.take n) ((List.range n).map fun j => match dstOf l.toArray j with | some d => a'.eval (.tmp d) | none => undef) a
   refine act_ext (hps.1.trans hs.symm) (hps.2.trans hd.symm) (fun s hs' => ?_)
   by_cases hex : ∃ j, j < n ∧ dstOf l.toArray j = some s
   ·
    obtain ⟨j, hj, hjd⟩ := hex
    have hjl : j < l.length := by omega
    obtain ⟨hlt, huniq⟩ := hf.dst j s hj hjd
    exact putAll_one (l.take n) _ a s j l[j] _ (by simp [hj, hjl]) (by simp [hj, hjd]) (by simpa [dstOf, hjl] using hjd) hlt (fun k o' hk hne => by
     have hkn : k < n := by
      rcases Nat.lt_or_ge k n with h | h
      ·
       exact h
      ·
       rw [List.getElem?_eq_none (by omega)] at hk; cases hk
     have := huniq k hkn hne
     have hk' : l[k]? = some o' := by simpa [List.getElem?_take, hkn] using hk
     simpa [dstOf, hk'] using this)
   ·
    rw [putAll_none (l.take n) _ a s (fun o ho hd' => hex (by
     obtain ⟨k, hk, rfl⟩ := List.mem_iff_getElem.1 ho
     rw [htl] at hk
     refine ⟨k, hk, ?_⟩
     have hkl : k < l.length := by omega
     simpa [dstOf, hkl] using hd'))]
    exact (hR s (fun j hj hjd => hex ⟨j, hj, hjd⟩)).symm
  rw [List.nil_append, e] at hfin
  simpa using hfin) n (Array.replicate l.toArray.size false) a ⟨[], { w with drawn := w.drawn + 1 }⟩ ?_ ⟨?_, ?_, ?_, rfl, rfl, ?_, fun s _ => rfl⟩
 ·
  rw [show n + (l.toArray.size - n) = l.toArray.size by have := hf.le; omega] at key
  exact key
 ·
  unfold unl
  rw [List.countP_eq_length.2]
  ·
   simp
  ·
   intro j _; simp only [getD_replicate_false]; rfl
 ·
  exact ⟨by simp, fun j oj _ hl => (by rw [getD_replicate_false] at hl; cases hl), fun t _ ht => getD_in (by simpa using ht) (getD_replicate_false _ _)⟩
 ·
  exact Γ.quiet _ _ _ hstart ((Below.refl _ w).drew)
 ·
  intro i _
  rw [getD_replicate_false]
  simp [ran]
 ·
  intro j d _ hl _
  rw [getD_replicate_false] at hl; cases hl

def wpE (Γ : Ghost) (P : Program) (ops : Array Oper) (E : List Nat) (a0 : Act) (F : List GPred → Prop) (i : Nat) (l : List Oper) (a : Act) (ex : List (Tmp × GPred)) : Prop :=
 ∀ G, G.length = i → (∀ j, j < l.length → l[j]? = ops[i + j]?) → (∀ j d, j < i + l.length → dstOf ops j = some d → d < a0.tmps.size ∧ ∀ k, k < i + l.length → k ≠ j → dstOf ops k ≠ some d) → GRep Γ ops a0 G a ex → gwpE Γ P ops E a0 F l G

section
variable {Γ : Ghost} {P : Program} {ops : Array Oper} {E : List Nat} {a0 : Act} {F : List GPred → Prop} {i : Nat} {o : Oper} {rest : List Oper} {a : Act} {ex : List (Tmp × GPred)}
theorem wpE_next {G : List GPred} {d : Tmp} (hod : o.dst = some d) (hG : G.length = i) (hl : ∀ j, j < (o :: rest).length → (o :: rest)[j]? = ops[i + j]?) (hd : ∀ j d, j < i + (o :: rest).length → dstOf ops j = some d → d < a0.tmps.size ∧ ∀ k, k < i + (o :: rest).length → k ≠ j → dstOf ops k ≠ some d) :
  dstOf ops i = some d ∧ d < a0.tmps.size ∧ (∀ k, k < i → dstOf ops k ≠ some d) ∧ ∀ (A : GPred) (a' : Act) (ex' : List (Tmp × GPred)), GRep Γ ops a0 (G ++ [A]) a' ex' → wpE Γ P ops E a0 F (i + 1) rest a' ex' → gwpE Γ P ops E a0 F rest (G ++ [A]) := by
 have ho : ops[i]? = some o := by simpa using (hl 0 (by simp)).symm
 have hdi : dstOf ops i = some d := by simpa [dstOf, ho] using hod
 obtain ⟨hds, huniq⟩ := hd i d (by simp) hdi
 refine ⟨hdi, hds, fun k hk => huniq k (by simp; omega) (by omega), fun A a' ex' hrep hK => ?_⟩
 exact hK (G ++ [A]) (by simp [hG]) (fun j hj => by have := hl (j + 1) (by simp; omega); simpa [Nat.add_assoc, Nat.add_comm 1 j] using this)
  (fun j d' hj hd' => by
   obtain ⟨h2, h3⟩ := hd j d' (by simp; omega) hd'
   exact ⟨h2, fun k hk => h3 k (by simp; omega)⟩) hrep
theorem wpE_want (hp : gplainOp ops i o ex = true) (hc : E.contains i = false) (hv : valOp o = true) (hw : Region.wanted o (yielded ops a.tmps) = true)
  (h : ∀ K : Act → Prop, (∀ a', wpE Γ P ops E a0 F (i + 1) rest a' ex → K a') → o.quiet P a (fun w' => ∃ p : Γ.Wd, w' = p.w) K) : wpE Γ P ops E a0 F i (o :: rest) a ex := by
 intro G hG hl hd hrep
 obtain ⟨v, hq, hK⟩ := h _ (fun _ h => h)
 obtain ⟨d, hod⟩ := gplain_dst hp
 obtain ⟨hdi, hds, huniq, hgo⟩ := wpE_next (Γ := Γ) (P := P) (E := E) (F := F) hod hG hl hd
 have hex := gplain_ex hp hod
 refine ⟨fun u _ => u = v, glasts_const Γ v, (fun h => by rw [hod] at h; cases h), ?_, hgo _ _ _ (hrep.next hG hdi hds huniq hex (fun u g _ h => h)) (by rw [hod] at hK; exact hK)⟩
 rw [hG]
 unfold estepOK
 rw [if_neg (by rw [hc]; decide)]
 intro a' g hg _ he
 simp only
 have hlook := gplain_look hrep hG hp hg he
 have hsel : noSel o = true := by simp only [gplainOp, Bool.and_eq_true] at hp; exact hp.1.1.2
 rw [wanted_same hlook (glook_guard hp), hw, if_pos rfl]
 have h3 := hq g.w ⟨⟨g.vs, g.w, hg⟩, rfl⟩
 unfold Oper.quietAt at h3
 unfold Oper.wp
 rw [look_exec hlook hsel]
 cases hr : (execOp a.eval o).run P g.w with
 | ok n w' =>
  obtain ⟨u, rfl⟩ := valOp_value hv hr
  rw [hr] at h3
  obtain ⟨e1, e2⟩ := h3
  rw [e1, e2]
  exact ⟨_, rfl, Below.refl _ _, rfl⟩
 | halt x w' => rw [hr] at h3; simp only [Oper.quietUpon] at h3

theorem wpE_val (hp : gplainOp ops i o ex = true) (hc : E.contains i = false) (hw : Region.wanted o (yielded ops a.tmps) = true) (v : Value) (hrun : ∀ vs w, Γ.inv vs w → ∃ w', (execOp a.eval o).run P w = .ok (.value v) w' ∧ Below w.heap.size w w')
  (hrest : wpE Γ P ops E a0 F (i + 1) rest (a.put o.dst v) ex) : wpE Γ P ops E a0 F i (o :: rest) a ex := by
 intro G hG hl hd hrep
 obtain ⟨d, hod⟩ := gplain_dst hp
 obtain ⟨hdi, hds, huniq, hgo⟩ := wpE_next (Γ := Γ) (P := P) (E := E) (F := F) hod hG hl hd
 have hex := gplain_ex hp hod
 refine ⟨fun u _ => u = v, glasts_const Γ v, (fun h => by rw [hod] at h; cases h), ?_, hgo _ _ _ (hrep.next hG hdi hds huniq hex (fun u g _ h => h)) (by rw [hod] at hrest; exact hrest)⟩
 rw [hG]
 unfold estepOK
 rw [if_neg (by rw [hc]; decide)]
 intro a' g hg _ he
 simp only
 have hlook := gplain_look hrep hG hp hg he
 have hsel : noSel o = true := by simp only [gplainOp, Bool.and_eq_true] at hp; exact hp.1.1.2
 rw [wanted_same hlook (glook_guard hp), hw, if_pos rfl]
 unfold Oper.wp
 obtain ⟨w', hr, hb⟩ := hrun g.vs g.w hg
 rw [look_exec hlook hsel, hr]
 exact ⟨_, rfl, hb, rfl⟩
theorem wpE_is (hp : gplainOp ops i o ex = true) (hc : E.contains i = false) (hw : Region.wanted o (yielded ops a.tmps) = true) (v : Value) (hrun : ∀ vs w, Γ.inv vs w → (execOp a.eval o).run P w = .ok (.value v) w)
  (hrest : wpE Γ P ops E a0 F (i + 1) rest (a.put o.dst v) ex) : wpE Γ P ops E a0 F i (o :: rest) a ex :=
 wpE_val hp hc hw v (fun vs w h => ⟨w, hrun vs w h, Below.refl _ _⟩) hrest
theorem wpE_eff (hp : gplainOp ops i o ex = true) (hc : E.contains i = true) (hw : Region.wanted o (yielded ops a.tmps) = true) (f : FuncId) (args : Array Value) (v : Value) (hrun : ∀ w, (execOp a.eval o).run P w = .ok (.enter f args) w)
  (hcall : ∀ vs w, Γ.inv vs w → ran vs i = none → edeps ops E i (ran vs) → Calls P f args w fun e w' => e = .returned v ∧ Γ.mv vs w (lgE i v) w') (hrest : wpE Γ P ops E a0 F (i + 1) rest (a.put o.dst v) ex) : wpE Γ P ops E a0 F i (o :: rest) a ex := by
 intro G hG hl hd hrep
 obtain ⟨d, hod⟩ := gplain_dst hp
 obtain ⟨hdi, hds, huniq, hgo⟩ := wpE_next (Γ := Γ) (P := P) (E := E) (F := F) hod hG hl hd
 have hex := gplain_ex hp hod
 refine ⟨fun u _ => u = v, glasts_const Γ v, (fun h => by rw [hod] at h; cases h), ?_, hgo _ _ _ (hrep.next hG hdi hds huniq hex (fun u g _ h => h)) (by rw [hod] at hrest; exact hrest)⟩
 rw [hG]
 unfold estepOK
 rw [if_pos hc]
 intro a' g hg _ he hk hdp
 have hlook := gplain_look hrep hG hp hg he
 have hsel : noSel o = true := by simp only [gplainOp, Bool.and_eq_true] at hp; exact hp.1.1.2
 rw [wanted_same hlook (glook_guard hp), hw, if_pos rfl]
 unfold Oper.wp
 rw [look_exec hlook hsel, hrun g.w]
 refine (hcall g.vs g.w hg hk hdp).mono fun e w' ⟨he', hb⟩ => ?_
 subst he'
 exact ⟨_, rfl, hb, rfl⟩

theorem wpE_effX (A : GPred) (hA : Γ.lasts A) (hp : gexOp ops i o ex = true) (hc : E.contains i = true)
  (hstep : ∀ a' g, Γ.inv g.vs g.w → ran g.vs i = none → edeps ops E i (ran g.vs) → gexEnv ex a a' g (o.looksAt ops) → o.wp P a' g.w (fun a'' w' => ∃ v, a'' = a'.put o.dst v ∧ Γ.mv g.vs g.w (lgE i v) w' ∧ A v ⟨g.vs ++ [lgE i v], w'⟩) (fun _ _ _ => False))
  (hrest : ∀ d, o.dst = some d → wpE Γ P ops E a0 F (i + 1) rest a (ex ++ [(d, A)])) : wpE Γ P ops E a0 F i (o :: rest) a ex := by
 intro G hG hl hd hrep
 obtain ⟨d, hod⟩ := gex_dst hp
 obtain ⟨hdi, hds, huniq, hgo⟩ := wpE_next (Γ := Γ) (P := P) (E := E) (F := F) hod hG hl hd
 obtain ⟨hp1, hp2, hp3, hp4⟩ := gexOp_parts hp
 refine ⟨A, hA, (fun h => by rw [hod] at h; cases h), ?_, hgo _ _ _ (hrep.nextEx hG hdi huniq (hp3 d hod)) (hrest d hod)⟩
 rw [hG]
 unfold estepOK
 rw [if_pos hc]
 intro a' g hg _ he hk hdp
 rw [if_pos (by simp [Region.wanted, hp2])]
 exact hstep a' g hg hk hdp (gexEnv_of hrep hG hg (o.looksAt ops) hp1 hp4 he)
theorem wpE_store (hlx : lexOp ops i o = true) (hgd : o.guard = none) (hod : o.dst = none) (hlk : ((o.looksAt ops).all fun s => !(ex.map (·.1)).contains s || (lastW ops i s).isSome) = true) (hc : E.contains i = true)
  (hstep : ∀ a' g, Γ.inv g.vs g.w → ran g.vs i = none → edeps ops E i (ran g.vs) → gexEnv ex a a' g (o.looksAt ops) → o.wp P a' g.w (fun a'' w' => ∃ v, a'' = a' ∧ Γ.mv g.vs g.w (lgE i v) w') (fun _ _ _ => False))
  (hrest : wpE Γ P ops E a0 F (i + 1) rest a ex) : wpE Γ P ops E a0 F i (o :: rest) a ex := by
 intro G hG hl hd hrep
 have ho : ops[i]? = some o := by simpa using (hl 0 (by simp)).symm
 have hdi : dstOf ops i = none := by simpa [dstOf, ho] using hod
 refine ⟨fun _ _ => True, fun _ _ _ _ _ _ => trivial, fun _ _ _ => trivial, ?_, hrest (G ++ [fun _ _ => True]) (by simp [hG]) (fun j hj => by have := hl (j + 1) (by simp; omega); simpa [Nat.add_assoc, Nat.add_comm 1 j] using this)
  (fun j d' hj hd' => by
   obtain ⟨h2, h3⟩ := hd j d' (by simp; omega) hd'
   exact ⟨h2, fun k hk => h3 k (by simp; omega)⟩) (hrep.nextNone hG hdi)⟩
 rw [hG]
 unfold estepOK
 rw [if_pos hc]
 intro a' g hg _ he hk hdp
 rw [if_pos (by simp [Region.wanted, hgd])]
 refine upon_mono (fun a'' w' ⟨v, h1, h2⟩ => ⟨v, by rw [h1, hod]; rfl, h2, trivial⟩) (fun _ _ _ h => h) (hstep a' g hg hk hdp (gexEnv_of hrep hG hg (o.looksAt ops) ?_ ?_ he))
 ·
  simpa only [lexOp, List.all_eq_true] using hlx
 ·
  intro s hs hm
  simp only [List.all_eq_true, Bool.or_eq_true, Bool.not_eq_true'] at hlk
  rcases hlk s hs with h | h
  ·
   have : (ex.map (·.1)).contains s = true := by simpa using hm
   rw [this] at h; cases h
  ·
   exact h
end

theorem wpE_nil {Γ : Ghost} {P : Program} {l : List Oper} {E : List Nat} {n : Nat} {a0 a : Act} {Q : Exit → Act → World → Prop} {ex : List (Tmp × GPred)} (hex : gexOK l.toArray n a0.tmps.size ex = true) (hn : n ≤ l.length)
  (h : ∀ g : GW, Γ.inv g.vs g.w → (∀ i ∈ E, (ran g.vs i).isSome = true) → gexAll g (fun a' => wpList P l.toArray Q (l.drop n) a' g.w) ex a) :
  wpE Γ P l.toArray E a0 (fun G => ∀ g : GW, Γ.inv g.vs g.w → (∀ i ∈ E, (ran g.vs i).isSome = true) → gfinS (fun vs => wpList P l.toArray Q (l.drop n) (putAll a0 (l.take n) vs) g.w) g G []) n [] a ex := by
 intro G hG _ hd hrep g hgi hgl
 refine gfinS_intro G [] fun vs hl hA => ?_
 rw [List.nil_append]
 have htl : (l.take n).length = n := by simp; omega
 have hps := putAll_size (l.take n) vs a0
 have hone : ∀ s j, lastW l.toArray n s = some j → (putAll a0 (l.take n) vs).eval (.tmp s) = vs.getD j undef := by
  intro s j hw'
  obtain ⟨hj, hjd⟩ := lastW_some hw'
  obtain ⟨hd2, hd3⟩ := hd j s (by simpa using hj) hjd
  have hjl : j < l.length := by omega
  refine putAll_one (l.take n) vs a0 s j l[j] _ (by simp [hj, hjl]) ?_ (by simpa [dstOf, hjl] using hjd) hd2 (fun k o' hk hne => ?_)
  ·
   have : j < vs.length := by rw [hl, hG]; exact hj
   simp [this]
  ·
   have hkn : k < n := by
    rcases Nat.lt_or_ge k n with h | h
    ·
     exact h
    ·
     rw [List.getElem?_eq_none (by omega)] at hk; cases hk
   have := hd3 k (by simpa using hkn) hne
   have hk' : l[k]? = some o' := by simpa [List.getElem?_take, hkn] using hk
   simpa [dstOf, hk'] using this
 have hnone : ∀ s, lastW l.toArray n s = none → (putAll a0 (l.take n) vs).eval (.tmp s) = a0.eval (.tmp s) := by
  intro s hw'
  refine putAll_none (l.take n) vs a0 s fun o ho hod => ?_
  obtain ⟨k, hk, rfl⟩ := List.mem_iff_getElem.1 ho
  rw [htl] at hk
  have hkl : k < l.length := by omega
  have := List.find?_eq_none.1 hw' k (List.mem_range.2 hk)
  have hod' : l[k].dst = some s := by simpa using hod
  simp [dstOf, hkl, hod'] at this
 have hgo := gexAll_go (fun d => (putAll a0 (l.take n) vs).eval (.tmp d)) ex a (fun x hx => by
  obtain ⟨d, B⟩ := x
  have h1 := List.all_eq_true.1 hex (d, B) hx
  simp only [Bool.and_eq_true] at h1
  obtain ⟨j, hj⟩ := Option.isSome_iff_exists.1 h1.1
  obtain ⟨hjn, _⟩ := lastW_some hj
  have hg : G[j]? = some (G.getD j (fun _ _ => True)) := by simp [hG, hjn]
  show B ((putAll a0 (l.take n) vs).eval (.tmp d)) g
  rw [hone d j hj]
  exact hrep.exs j d _ (by omega) (by rw [hG]; exact hj) hg B hx _ _ hgi (hA j (by omega))) (h g hgi hgl)
 have hf := gfoldl_put (fun d => (putAll a0 (l.take n) vs).eval (.tmp d)) ex a
 have e : ex.foldl (fun a x => a.put (some x.1) ((putAll a0 (l.take n) vs).eval (.tmp x.1))) a = putAll a0 (l.take n) vs := by
  refine act_ext (hf.1.trans (hrep.size.trans hps.1.symm)) (hf.2.1.trans (hrep.defers.trans hps.2.symm)) (fun s hs => ?_)
  rw [hf.1] at hs
  rw [hf.2.2 s hs]
  by_cases hm : s ∈ ex.map (·.1)
  ·
   rw [if_pos hm]
  ·
   rw [if_neg hm]
   cases hlw : lastW l.toArray n s with
   | none => rw [hnone s hlw]; exact hrep.untouched s (by rw [hG]; exact hlw)
   | some j =>
    obtain ⟨hjn, _⟩ := lastW_some hlw
    have hg : G[j]? = some (G.getD j (fun _ _ => True)) := by simp [hG, hjn]
    rw [hone s j hlw]
    exact (hrep.eqs j s _ (by omega) (by rw [hG]; exact hlw) hg hm _ _ hgi (hA j (by omega))).symm
 rw [e] at hgo
 exact hgo

theorem wp_region_E {P : Program} {id : Nat} {Q : Exit → Act → World → Prop} {a : Act} {w : World} {l : List Oper} (Γ : Ghost) (n : Nat) (E : List Nat) (hm : P.follows .mixedOrders = true) (hB : headOKn l.toArray n a.tmps.size = true) (hcn : (E.all fun i => decide (i < n)) = true)
  (hstart : Γ.inv [] w)
  (h : wpE Γ P l.toArray E a (fun G => ∀ g : GW, Γ.inv g.vs g.w → (∀ i ∈ E, (ran g.vs i).isSome = true) → gfinS (fun vs => wpList P l.toArray Q (l.drop n) (putAll a (l.take n) vs) g.w) g G []) 0 (l.take n) a []) : (Code.region id l.toArray true).wp P Q a w := by
 have hf := headN hB
 have hnl : n ≤ l.length := by simpa using hf.le
 have htl : (l.take n).length = n := by simp; omega
 refine wp_region_EN Γ n E hm hB hcn hstart (h [] rfl (fun j hj => by rw [htl] at hj; simp [hj]) (fun j d hj hd => by
  rw [htl, Nat.zero_add] at hj
  obtain ⟨h2, h3⟩ := hf.dst j d hj hd
  exact ⟨h2, fun k hk => h3 k (by rw [htl, Nat.zero_add] at hk; exact hk)⟩) ⟨fun j d A hj => by simp at hj, fun j d A hj => by simp at hj, fun _ _ => rfl, rfl, rfl⟩)

def ghE (w0 : World) (D : Nat → Prop) (Pl : (Nat → Option Value) → List Res) : Ghost where
 inv := fun vs w => Own w0 D w (Pl (ran vs))
 own := fun _ _ => True
 quiet := fun vs w w' h hb => h.stay hb
def geff (i : Nat) : GPred := fun v g => ran g.vs i = some v
theorem geff_lasts (Γ : Ghost) (i : Nat) : Γ.lasts (geff i) := by
 rintro v g g' _ h hs
 have h' : g.vs.findSome? (rdE i) = some v := h
 rcases hs with ⟨h1, _⟩ | ⟨u, h1, _⟩
 ·
  show ran g'.vs i = some v
  rw [h1]; exact h
 ·
  show g'.vs.findSome? (rdE i) = some v
  rw [h1, List.findSome?_append, h']; rfl
def ptrR (v : Value) (o : Obj) : Res := exR fun b : Nat => factR (v = .pointer (some ⟨b, 0, none⟩)) (blkR b o)
section
variable {w0 w w' : World} {D : Nat → Prop} {Pl : (Nat → Option Value) → List Res} {vs : List Value} {i : Nat} {v : Value}
theorem ghE_mv (hn : ran vs i = none) (h : Own w0 D w' (Pl (updE (ran vs) i v))) (hs : w.heap.size ≤ w'.heap.size) : (ghE w0 D Pl).mv vs w (lgE i v) w' :=
 ⟨by show Own w0 D w' (Pl (ran (vs ++ [lgE i v]))); rw [ran_log v hn]; exact h, hs, fun b _ hn => (hn trivial).elim, fun b _ => .inl trivial⟩
theorem ghE_alloc {L : List Res} {k : Nat} (o : Obj) (h : (ghE w0 D Pl).inv vs w) (hn : ran vs i = none) (hP : Pl (ran vs) = L) (hk : L[k]? = some (sepR [])) (hP' : Pl (updE (ran vs) i (.pointer (some ⟨w.heap.size, 0, none⟩))) = L.set k (ptrR (.pointer (some ⟨w.heap.size, 0, none⟩)) o)) :
  (ghE w0 D Pl).mv vs w (lgE i (.pointer (some ⟨w.heap.size, 0, none⟩))) (w.alloc o) := by
 have h0 : Own w0 D w L := hP ▸ h
 refine ghE_mv hn ?_ (by simp)
 rw [hP']
 obtain ⟨F, hF, _, hst⟩ := h0.step hk
 refine hst (R' := ptrR (.pointer (some ⟨w.heap.size, 0, none⟩)) o) (F' := fun b => b = w.heap.size) ⟨w.heap.size, rfl, fun _ => Iff.rfl, by show (w.heap.push o)[w.heap.size]? = _; simp⟩ (fun b hb => .inr (Nat.le_of_eq hb.symm)) (Upd.of_below (below_one w o))
theorem Own.ptr {L : List Res} {k : Nat} {o : Obj} (h : Own w0 D w L) (hk : L[k]? = some (ptrR v o)) : ∃ b, v = .pointer (some ⟨b, 0, none⟩) ∧ Own w0 D w (L.set k (blkR b o)) := by
 obtain ⟨F, ⟨b, e, hF⟩, _, hst⟩ := h.step hk
 exact ⟨b, e, hst (R' := blkR b o) (F' := F) hF (fun b hb => .inl hb) (Upd.refl _ _)⟩
theorem Own.toPtr {L : List Res} {k b : Nat} {o : Obj} (h : Own w0 D w L) (hk : L[k]? = some (blkR b o)) : Own w0 D w (L.set k (ptrR (.pointer (some ⟨b, 0, none⟩)) o)) := by
 obtain ⟨F, hF, _, hst⟩ := h.step hk
 exact hst (R' := ptrR (.pointer (some ⟨b, 0, none⟩)) o) (F' := F) ⟨b, rfl, hF⟩ (fun b hb => .inl hb) (Upd.refl _ _)
def atV (o : Option Value) (A : Res) (B : Value → Res) : Res := match o with
 | none => A
 | some u => B u
def alE (o1 o2 : Option Value) (z f : Obj) : Res := match o1 with
 | none => sepR []
 | some p => match o2 with
  | none => ptrR p z
  | some _ => ptrR p f
theorem ghE_one {P : Program} {f : FuncId} {args : Array Value} {u : Value} {k : Nat} {R R' : Res} (h : (ghE w0 D Pl).inv vs w) (hn : ran vs i = none) (hk : (Pl (ran vs))[k]? = some R) (hP' : Pl (updE (ran vs) i u) = (Pl (ran vs)).set k R') (hc : ∀ D', Own w D' w [R] → Calls P f args w (OPost w D' [R'] u w)) :
  Calls P f args w fun e w' => e = .returned u ∧ (ghE w0 D Pl).mv vs w (lgE i u) w' :=
 (o_one h hk hc).mono fun e w' ⟨h1, h2, h3⟩ => ⟨h1, ghE_mv hn (by rw [hP']; exact h2) h3⟩
theorem Own.fillB {L : List Res} {k b : Nat} {old cs : Array Value} {t : TypeId} (h : Own w0 D w L) (hk : L[k]? = some (blkR b (.cells old t))) : Own w0 D (w.setRow b cs) (L.set k (blkR b (.cells cs t))) := by
 obtain ⟨F, hF, _, hst⟩ := h.step hk
 refine hst (R' := blkR b (.cells cs t)) (F' := F) ⟨hF.1, setRow_heap w b old cs t (0, 0) hF.2⟩ (fun b hb => .inl hb) ?_
 exact ⟨rfl, rfl, rfl, by simp [World.setRow], fun c _ hc => setRow_other w b c cs fun e => hc ((hF.1 c).2 e)⟩
theorem ghE_fill {P : Program} {o : Oper} {a : Act} {k : Nat} {ty t : TypeId} {x y : Operand} {old cells : Array Value} {p : Value} (ho : o.op = .store ty x y) (hod : o.dst = none) (hx : a.eval x = p) (hy : a.eval y = .agg cells) (h : (ghE w0 D Pl).inv vs w) (hn : ran vs i = none) (hk : (Pl (ran vs))[k]? = some (ptrR p (.cells old t))) (hP' : Pl (updE (ran vs) i undef) = (Pl (ran vs)).set k (ptrR p (.cells cells t)))
  (hi : (P.info? ty).map (·.size) = some cells.size) (hold : old.size = cells.size) (h1 : cells.all (·.oneCell') = true) : o.wp P a w (fun a'' w' => ∃ v, a'' = a ∧ (ghE w0 D Pl).mv vs w (lgE i v) w') (fun _ _ _ => False) := by
 obtain ⟨b, rfl, hO⟩ := Own.ptr h hk
 have hkl := get_len hk
 have hk2 : ((Pl (ran vs)).set k (blkR b (.cells old t)))[k]? = some (blkR b (.cells old t)) := by rw [List.getElem?_set_self hkl]
 refine wp_store_row ty x y ho b cells hx hy t old (hO.blk k hk2) hi hold h1 ⟨undef, by rw [hod]; rfl, ghE_mv hn ?_ (by simp [World.setRow])⟩
 have h2 := (hO.fillB (cs := cells) hk2).toPtr (k := k) (b := b) (o := .cells cells t) (by rw [List.getElem?_set_self (by simpa using hkl)])
 rw [hP']
 simpa using h2
theorem ghE_put {P : Program} {o : Oper} {a : Act} {k b : Nat} {ty t : TypeId} {x y : Operand} {old cells : Array Value} (ho : o.op = .store ty x y) (hod : o.dst = none) (hx : a.eval x = .pointer (some ⟨b, 0, none⟩)) (hy : a.eval y = .agg cells) (h : (ghE w0 D Pl).inv vs w) (hn : ran vs i = none) (hk : (Pl (ran vs))[k]? = some (blkR b (.cells old t))) (hP' : Pl (updE (ran vs) i undef) = (Pl (ran vs)).set k (blkR b (.cells cells t)))
  (hi : (P.info? ty).map (·.size) = some cells.size) (hold : old.size = cells.size) (h1 : cells.all (·.oneCell') = true) : o.wp P a w (fun a'' w' => ∃ v, a'' = a ∧ (ghE w0 D Pl).mv vs w (lgE i v) w') (fun _ _ _ => False) :=
 wp_store_row ty x y ho b cells hx hy t old (Own.blk h k hk) hi hold h1 ⟨undef, by rw [hod]; rfl, ghE_mv hn (by rw [hP']; exact Own.fillB h hk) (by simp [World.setRow])⟩
theorem Own.empE {L : List Res} (h : Own w0 D w L) : Own w0 D w (L ++ [sepR []]) := Own.rot (L := [sepR []]) (Own.shutC (Rs := []) h)
theorem ghE_mk {k j : Nat} {z f : Obj} (h : (ghE w0 D Pl).inv vs w) (hn : ran vs i = none) (hj : ran vs j = none) (hk : (Pl (ran vs))[k]? = some (alE (ran vs i) (ran vs j) z f)) (hP' : Pl (updE (ran vs) i (.pointer (some ⟨w.heap.size, 0, none⟩))) = (Pl (ran vs)).set k (alE (some (.pointer (some ⟨w.heap.size, 0, none⟩))) (ran vs j) z f)) :
  (ghE w0 D Pl).mv vs w (lgE i (.pointer (some ⟨w.heap.size, 0, none⟩))) (w.alloc z) :=
 ghE_alloc z h hn rfl (by rw [hk, hn]; rfl) (by rw [hP', hj]; rfl)
theorem ghE_fi {P : Program} {o : Oper} {a : Act} {k i0 : Nat} {ty t : TypeId} {x y : Operand} {old cells : Array Value} {p : Value} (ho : o.op = .store ty x y) (hod : o.dst = none) (hx : a.eval x = p) (hy : a.eval y = .agg cells) (h : (ghE w0 D Pl).inv vs w) (hn : ran vs i = none) (hp : ran vs i0 = some p)
  (hk : (Pl (ran vs))[k]? = some (alE (ran vs i0) (ran vs i) (.cells old t) (.cells cells t))) (hP' : Pl (updE (ran vs) i undef) = (Pl (ran vs)).set k (alE (ran vs i0) (some undef) (.cells old t) (.cells cells t)))
  (hi : (P.info? ty).map (·.size) = some cells.size) (hold : old.size = cells.size) (h1 : cells.all (·.oneCell') = true) : o.wp P a w (fun a'' w' => ∃ v, a'' = a ∧ (ghE w0 D Pl).mv vs w (lgE i v) w') (fun _ _ _ => False) :=
 ghE_fill ho hod hx hy h hn (by rw [hk, hn, hp]; rfl) (by rw [hP', hp]; rfl) hi hold h1
theorem ghE_co {P : Program} {f : FuncId} {args : Array Value} {u : Value} {k : Nat} {R : Res} {B : Value → Res} (h : (ghE w0 D Pl).inv vs w) (hn : ran vs i = none) (hk : (Pl (ran vs))[k]? = some (atV (ran vs i) R B)) (hP' : Pl (updE (ran vs) i u) = (Pl (ran vs)).set k (B u)) (hc : ∀ D', Own w D' w [R] → Calls P f args w (OPost w D' [B u] u w)) :
  Calls P f args w fun e w' => e = .returned u ∧ (ghE w0 D Pl).mv vs w (lgE i u) w' :=
 ghE_one h hn (by rw [hk, hn]; rfl) hP' hc
theorem ghE_pu {P : Program} {o : Oper} {a : Act} {k b : Nat} {ty t : TypeId} {x y : Operand} {old cells : Array Value} (ho : o.op = .store ty x y) (hod : o.dst = none) (hx : a.eval x = .pointer (some ⟨b, 0, none⟩)) (hy : a.eval y = .agg cells) (h : (ghE w0 D Pl).inv vs w) (hn : ran vs i = none) (hk : (Pl (ran vs))[k]? = some (atV (ran vs i) (blkR b (.cells old t)) (fun _ => blkR b (.cells cells t)))) (hP' : Pl (updE (ran vs) i undef) = (Pl (ran vs)).set k (blkR b (.cells cells t)))
  (hi : (P.info? ty).map (·.size) = some cells.size) (hold : old.size = cells.size) (h1 : cells.all (·.oneCell') = true) : o.wp P a w (fun a'' w' => ∃ v, a'' = a ∧ (ghE w0 D Pl).mv vs w (lgE i v) w') (fun _ _ _ => False) :=
 ghE_put ho hod hx hy h hn (by rw [hk, hn]; rfl) hP' hi hold h1
def litR (v : Value) (m : Nat) (o : Obj) : Res := exR fun b : Nat => factR (v = .slice (some ⟨b, 0, none⟩) m m) (blkR b o)
def liE (o : Option Value) (m : Nat) (z : Obj) : Res := match o with
 | none => sepR []
 | some v => litR v m z
theorem ghE_li {k m : Nat} {z : Obj} (h : (ghE w0 D Pl).inv vs w) (hn : ran vs i = none) (hk : (Pl (ran vs))[k]? = some (liE (ran vs i) m z)) (hP' : Pl (updE (ran vs) i (.slice (some ⟨w.heap.size, 0, none⟩) m m)) = (Pl (ran vs)).set k (liE (some (.slice (some ⟨w.heap.size, 0, none⟩) m m)) m z)) :
  (ghE w0 D Pl).mv vs w (lgE i (.slice (some ⟨w.heap.size, 0, none⟩) m m)) (w.alloc z) := by
 refine ghE_mv hn ?_ (by simp)
 rw [hP']
 have hk' : (Pl (ran vs))[k]? = some (sepR []) := by rw [hk, hn]; rfl
 obtain ⟨F, hF, _, hst⟩ := Own.step h hk'
 exact hst (R' := litR (.slice (some ⟨w.heap.size, 0, none⟩) m m) m z) (F' := fun b => b = w.heap.size) ⟨w.heap.size, rfl, fun _ => Iff.rfl, by show (w.heap.push z)[w.heap.size]? = _; simp⟩ (fun b hb => .inr (Nat.le_of_eq hb.symm)) (Upd.of_below (below_one w z))
theorem Own.lit {L : List Res} {k m : Nat} {o : Obj} (h : Own w0 D w L) (hk : L[k]? = some (litR v m o)) : ∃ b, v = .slice (some ⟨b, 0, none⟩) m m ∧ Own w0 D w (L.set k (blkR b o)) := by
 obtain ⟨F, ⟨b, e, hF⟩, _, hst⟩ := h.step hk
 exact ⟨b, e, hst (R' := blkR b o) (F' := F) hF (fun b hb => .inl hb) (Upd.refl _ _)⟩
theorem ghE_app {P : Program} {o : Oper} {a : Act} {k k2 i2 : Nat} (s x : Operand) (t : TypeId) (ho : o.op = .call { callee := .builtin .append, args := #[s, x], argTypes := #[t, t] })
  {T : TypeId} {z : Value} {size bytes m : Nat} {news : List Value} (ht : P.underlying t = some (.slice T)) (hi0 : (P.info? T).map (fun i => (i.zero, i.size, i.bytes)) = some (some z, size, bytes)) (hzs : z.cells.size = size) (hsz : 0 < size)
  {v0 : Value} {n : Nat} {xs : List Value} (h : (ghE w0 D Pl).inv vs w) (hn : ran vs i = none) (hk : (Pl (ran vs))[k]? = some (atV (ran vs i) (rowR v0 T size n xs) (fun u => rowR u T size (n + m) (xs ++ news)))) (hs : a.eval s = v0)
  (h2 : ran vs i2 = some (a.eval x)) (hk2 : (Pl (ran vs))[k2]? = some (liE (ran vs i2) m (.cells news.toArray T))) (hP' : ∀ u, Pl (updE (ran vs) i u) = (Pl (ran vs)).set k (rowR u T size (n + m) (xs ++ news)))
  (hl : news.length = m * size) (h1 : ∀ u ∈ news, u.oneCell' = true) (h63 : n + m ≤ maxLen) (hbytes : (n + m) * bytes ≤ 140737488355328) :
  o.wp P a w (fun a' w' => ∃ v', a' = a.put o.dst v' ∧ (ghE w0 D Pl).mv vs w (lgE i v') w' ∧ ran (vs ++ [lgE i v']) i = some v') (fun _ _ _ => False) := by
 obtain ⟨i0, hi, hz0, hz1, hz2⟩ := info_parts hi0
 rw [h2] at hk2
 rw [hn] at hk
 obtain ⟨F2, ⟨b, e, hF2⟩, _, _⟩ := Own.step h hk2
 refine wp_next (wp_app s x t ho ht hi hz0 hz1 hz2 hzs hsz hs (Own.row h k hk) news e hl (news_o hF2.2) h1 h63 hbytes (Nat.zero_le _)) ?_
 rintro a'' w' ⟨v', rfl, hown, hu', hnear⟩
 refine ⟨v', rfl, ghE_mv hn ?_ hu'.size, by rw [ran_log _ hn, updE_same]⟩
 rw [hP']
 refine Own.rowTo h k hk hown hu' fun g hg => ?_
 rcases hnear with h2 | h2 | ⟨g2, h2, h3⟩
 ·
  rw [h2] at hg; cases hg
 ·
  exact .inl (h2 ▸ hg)
 ·
  rw [h2] at hg; cases hg; exact .inr h3
theorem ghE_cell {b : Nat} {c : Array Value} {t : TypeId} (k : Nat) (hP : ∀ st, (Pl st)[k]? = some (blkR b (.cells c t))) (j : Nat) {u : Value} (hj : c[j]? = some u) (p : (ghE w0 D Pl).Wd) : p.w.cell? ⟨b, j, none⟩ = some u := Own.cell p.h k (hP _) j hj
theorem ghE_all {R : World → Prop} (h : ∀ st w, Own w0 D w (Pl st) → R w) : ∀ vs w, (ghE w0 D Pl).inv vs w → R w := fun vs w hi => h _ w hi
end
end Go.Proofs.YtbolfkojebbejaaGreatDoor
