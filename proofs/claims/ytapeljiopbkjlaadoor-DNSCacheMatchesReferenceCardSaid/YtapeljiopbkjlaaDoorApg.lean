/- A region that draws and whose chain is a row of appends to one row, which is the last thing owned; the others are only read. No program in sight. -/
import Derived.Test.YtapeljiopbkjlaaDoorApf
import Derived.Test.YtapeljiopbkjlaaDoorRset
import Derived.Test.YtapeljiopbkjlaaDoorRegC
namespace Go.Proofs.YtapeljiopbkjlaaDoor
open Go.RowKit Go.Sort
set_option linter.unusedVariables false
set_option maxRecDepth 100000

theorem run_append_none {P : Program} {w : World} (base : Nat) (t ty e : TypeId) (i : TypeInfo) (size : Nat) (ht : P.underlying t = some (.slice e)) (hi : P.info? e = some i)
    (v : Value) (n : Nat) (xs : List Value) (hown : w.ownsRow base e size v n xs) (a : Option Addr) (c : Nat) :
    (Builtin.append_ #[t, t] ty #[v, .slice a 0 c]).run P w = .ok v w := by
  rcases hown.2 with ⟨rfl, rfl⟩ | ⟨g, cap, cur, rfl, _, _, hnc, _⟩
  · cases a <;> simp [Builtin.append_, run_underlying ht, sizeOf, typeInfo, hi, Builtin.lenOf, Builtin.firstCells, loadCells, loadCellsFrom]
  · cases a <;> simp [Builtin.append_, run_underlying ht, sizeOf, typeInfo, hi, Builtin.lenOf, Builtin.firstCells, hnc, storeCells, loadCells, loadCellsFrom]

def ghA (w0 : World) (D : Nat → Prop) (L : List Res) (E : TypeId) (sz : Nat) (v0 : Value) (st : List (Nat × List Value)) : Ghost where
  inv := fun vs w => ∃ p, st[vs.length]? = some p ∧ Own w0 D w (L ++ [rowR (vs.getLastD v0) E sz p.1 p.2])
  own := fun vs b => (vs.getLastD v0).ownBlock = some b
  quiet := fun vs w w' ⟨p, h1, h2⟩ hb => ⟨p, h1, h2.stay hb⟩
section
variable {w0 w : World} {D : Nat → Prop} {L : List Res} {E : TypeId} {sz : Nat} {v0 : Value} {st : List (Nat × List Value)}
theorem ghA_start {n : Nat} {xs : List Value} {st : List (Nat × List Value)} (h : Own w0 D w (L ++ [rowR v0 E sz n xs])) : (ghA w0 D L E sz v0 ((n, xs) :: st)).inv [] w := ⟨_, rfl, h⟩
theorem ghA_last {k : Nat} {v : Value} {vs : List Value} {w : World} (h : gnth k v ⟨vs, w⟩) (hl : vs.length = k + 1) : vs.getLastD v0 = v := by
  have h : vs[k]? = some v := h
  rw [List.getLastD_eq_getLast?, List.getLast?_eq_getElem?, hl]
  simp [h]
theorem ghA_at {vs : List Value} (h : (ghA w0 D L E sz v0 st).inv vs w) (k : Nat) (hk : vs.length = k) {n : Nat} {xs : List Value} (hp : st[k]? = some (n, xs)) : Own w0 D w (L ++ [rowR (vs.getLastD v0) E sz n xs]) := by
  obtain ⟨p, h1, h2⟩ := h
  rw [hk, hp] at h1
  cases h1
  exact h2
theorem ghA_rest {vs : List Value} (h : (ghA w0 D L E sz v0 st).inv vs w) : Own w0 D w L := by
  obtain ⟨p, h1, h2⟩ := h
  have := h2.take L.length
  rwa [List.take_left' rfl] at this
theorem ghA_cell (i : Nat) {b : Nat} {c : Array Value} {t : TypeId} (hi : L[i]? = some (blkR b (.cells c t))) (j : Nat) {u : Value} (hj : c[j]? = some u) (p : (ghA w0 D L E sz v0 st).Wd) : p.w.cell? ⟨b, j, none⟩ = some u :=
  (ghA_rest p.h).cell i hi j hj
theorem ghA_lt {vs : List Value} (h : (ghA w0 D L E sz v0 st).inv vs w) : ∀ b, (ghA w0 D L E sz v0 st).own vs b → b < w.heap.size := by
  intro b hb
  obtain ⟨p, h1, h2⟩ := h
  obtain ⟨F, hF, _⟩ := h2.step (i := L.length) (R := rowR (vs.getLastD v0) E sz p.1 p.2) (by simp)
  exact (rowR (vs.getLastD v0) E sz p.1 p.2).bound hF b ((hF.1 b).2 hb)
theorem last_snoc (vs : List Value) (v v0 : Value) : (vs ++ [v]).getLastD v0 = v := by simp [List.getLastD_eq_getLast?]
theorem last_none {vs : List Value} {v v0 : Value} (h : vs.length = 0) (hs : v = v0) : v = vs.getLastD v0 := by
  obtain rfl : vs = [] := List.eq_nil_of_length_eq_zero h
  exact hs
/-- What may be appended: m elements that read as news. -/
def Reads (w : World) (u : Value) (m : Nat) (news : List Value) : Prop := ∃ ad c, u = .slice ad m c ∧ (m = 0 ∨ ∃ d, ad = some d ∧ ∀ j x, news[j]? = some x → w.cell? (Addr.add d j) = some x)
theorem reads_blk {w : World} {b m c : Nat} {l : List Value} {t : TypeId} (h : w.heap[b]? = some (.cells l.toArray t)) : Reads w (.slice (some ⟨b, 0, none⟩) m c) m l := ⟨_, _, rfl, .inr ⟨_, rfl, news_o h⟩⟩
theorem addr_add (b o j : Nat) : (⟨b, o, none⟩ : Addr).add j = ⟨b, o + j, none⟩ := by
  unfold Addr.add
  split
  · rename_i h; have : j = 0 := by simpa using h
    subst this; rfl
  · simp
/-- A part of a row that is owned: its elements from i on, m of them. -/
theorem reads_row {w : World} {sz n : Nat} {g cap : Nat} {xs : List Value} (h : w.ownsRow 0 E sz (.slice (some ⟨g, 0, none⟩) n cap) n xs) (i m c : Nat) : Reads w (.slice (some ⟨g, i * sz, none⟩) m c) m ((xs.drop (i * sz)).take (m * sz)) := by
  refine ⟨_, _, rfl, .inr ⟨_, rfl, fun j x hj => ?_⟩⟩
  rw [addr_add]
  refine (row_cells h).1 _ _ ?_
  rw [List.getElem?_take] at hj
  split at hj
  · rwa [List.getElem?_drop] at hj
  · cases hj
theorem ghA_app {P : Program} {o : Oper} {a : Act} {g : GW} {Q : Exit → Act → World → Prop} (k : Nat) (s x : Operand) (t : TypeId) (ho : o.op = .call { callee := .builtin .append, args := #[s, x], argTypes := #[t, t] })
    {z : Value} {bytes : Nat} (ht : P.underlying t = some (.slice E)) (hi0 : (P.info? E).map (fun i => (i.zero, i.size, i.bytes)) = some (some z, sz, bytes)) (hzs : z.cells.size = sz) (hsz : 0 < sz)
    {n m : Nat} {xs news : List Value} (hp : st[k]? = some (n, xs)) (hp' : st[k + 1]? = some (n + m, xs ++ news)) (hl : news.length = m * sz) (h1 : ∀ u ∈ news, u.oneCell' = true) (h63 : n + m ≤ maxLen) (hbytes : (n + m) * bytes ≤ 140737488355328)
    (hinv : (ghA w0 D L E sz v0 st).inv g.vs g.w) (hk : g.vs.length = k) (hs : a.eval s = g.vs.getLastD v0) (hx : Reads g.w (a.eval x) m news) :
    o.wp P a g.w (fun a' w' => ∃ v', a' = a.put o.dst v' ∧ (ghA w0 D L E sz v0 st).mv g.vs g.w v' w' ∧ gnth k v' ⟨g.vs ++ [v'], w'⟩) Q := by
  obtain ⟨vs, w⟩ := g
  have h := ghA_at hinv k hk hp
  obtain ⟨i0, hi, hz0, hz1, hz2⟩ := info_parts hi0
  obtain ⟨ad, c, hu, hrd⟩ := hx
  have hg : ∀ v' w', gnth k v' ⟨vs ++ [v'], w'⟩ := fun v' w' => by
    have hk : vs.length = k := hk
    show (vs ++ [v'])[k]? = some v'
    subst hk; simp
  have hrow := h.row (v := vs.getLastD v0) (E := E) (sz := sz) (n := n) (xs := xs) L.length (by simp)
  have hlen : (vs ++ [undef]).length = k + 1 := by simp; exact hk
  by_cases hm : m = 0
  · subst hm
    obtain rfl : news = [] := List.eq_nil_of_length_eq_zero (by simpa using hl)
    have hrun := run_append_none (P := P) (w := w) 0 t o.type E i0 sz ht hi _ _ _ hrow ad c
    refine wp_append_run ho hs hu hrun ⟨_, rfl, ⟨⟨(n, xs), by rw [List.length_append]; show st[vs.length + 1]? = _; rw [show vs.length = k from hk, hp']; simp, ?_⟩, Nat.le_refl _, fun b _ _ => rfl, fun b hb => .inl ?_⟩, hg _ _⟩
    · rw [last_snoc]; exact h
    · have hb : ((vs ++ [vs.getLastD v0]).getLastD v0).ownBlock = some b := hb
      rw [last_snoc] at hb; exact hb
  · obtain ⟨d, rfl, hcells⟩ := hrd.resolve_left hm
    refine wp_next (wp_app s x t ho ht hi hz0 hz1 hz2 hzs hsz hs hrow news hu hl hcells h1 h63 hbytes (Nat.zero_le _)) ?_
    rintro a'' w' ⟨v', rfl, hown, hu', hnear⟩
    have hnb : ∀ b, v'.ownBlock = some b → (vs.getLastD v0).ownBlock = some b ∨ w.heap.size ≤ b := fun b hb => by
      rcases hnear with h2 | h2 | ⟨g2, h2, h3⟩
      · rw [h2] at hb; cases hb
      · exact .inl (h2 ▸ hb)
      · rw [h2] at hb; cases hb; exact .inr h3
    have hO := h.rowTo (v := vs.getLastD v0) (E := E) (sz := sz) (n := n) (xs := xs) L.length (by simp) hown hu' hnb
    have e : (L ++ [rowR (vs.getLastD v0) E sz n xs]).set L.length (rowR v' E sz (n + m) (xs ++ news)) = L ++ [rowR v' E sz (n + m) (xs ++ news)] := by simp
    rw [e] at hO
    refine ⟨v', rfl, ⟨⟨(n + m, xs ++ news), by rw [List.length_append]; show st[vs.length + 1]? = _; rw [show vs.length = k from hk, hp'], by rw [last_snoc]; exact hO⟩, hu'.size, fun b hb hn => hu'.block b hb hn, fun b hb => ?_⟩, hg _ _⟩
    have hb : ((vs ++ [v']).getLastD v0).ownBlock = some b := hb
    rw [last_snoc] at hb
    exact hnb b hb
/-- The elements of a row from lo on: what the slice expression yields, whatever the world. -/
theorem row_from {P : Program} (t : TypeId) (ht : P.underlying t = some (.slice (P.elem t))) (hz : ∀ w, (sizeOf (P.elem t)).run P w = .ok sz w) {v : Value} {n : Nat} {xs0 : List Value} {w0 : World} (h0 : w0.ownsRow 0 E sz v n xs0) (lo : Nat) (hlo : lo ≤ n) :
    ∃ u, (∀ w, (Instr.sliceAt t v (some (.int .i64 lo)) none none).run P w = .ok u w) ∧ ∀ w xs, w.ownsRow 0 E sz v n xs → Reads w u (n - lo) (xs.drop (lo * sz)) := by
  obtain ⟨a, cap, rfl⟩ := row_shape h0
  refine ⟨sliced a lo n cap sz, fun w => ?_, fun w xs h => ?_⟩
  · rw [run_sliceAt_slice (h := ht), run_slice_l (ht := ht) (h0 := by omega) (h1 := by omega), hz]
    simp
  · refine ⟨_, _, rfl, ?_⟩
    by_cases hn : n - lo = 0
    · exact .inl hn
    · obtain ⟨g, rfl⟩ := row_some h (by omega)
      have hcap : n ≤ cap := by
        obtain ⟨_, ⟨e, _⟩ | ⟨g', cp, cur, e, _, _, hcp, _⟩⟩ := h
        · cases e
        · cases e; exact hcp
      refine .inr ⟨⟨g, lo * sz, none⟩, by rw [if_neg (by omega)]; simp [addr_add], fun j x hj => ?_⟩
      rw [addr_add]
      exact (row_cells h).1 _ _ (by rwa [List.getElem?_drop] at hj)
/-- The first hi elements of a row. -/
theorem row_upto {P : Program} (t : TypeId) (ht : P.underlying t = some (.slice (P.elem t))) (hz : ∀ w, (sizeOf (P.elem t)).run P w = .ok sz w) {v : Value} {n : Nat} {xs0 : List Value} {w0 : World} (h0 : w0.ownsRow 0 E sz v n xs0) (hi : Nat) (hhi : hi ≤ n) :
    ∃ u, (∀ w, (Instr.sliceAt t v none (some (.int .i64 hi)) none).run P w = .ok u w) ∧ ∀ w xs, w.ownsRow 0 E sz v n xs → Reads w u hi (xs.take (hi * sz)) := by
  obtain ⟨a, cap, rfl⟩ := row_shape h0
  have hcap : n ≤ cap := by
    obtain ⟨_, ⟨e, e2⟩ | ⟨g', cp, cur, e, _, _, hcp, _⟩⟩ := h0
    · cases e; omega
    · cases e; exact hcp
  refine ⟨sliced a 0 hi cap sz, fun w => ?_, fun w xs h => ?_⟩
  · rw [run_sliceAt_slice (h := ht), run_slice_h (ht := ht) (h0 := by omega) (h2 := by omega), hz]
    simp
  · refine ⟨if cap = 0 then a else a.map (·.add 0), cap, by simp [sliced], ?_⟩
    by_cases hn : hi = 0
    · exact .inl hn
    · obtain ⟨g, rfl⟩ := row_some h (by omega)
      refine .inr ⟨⟨g, 0, none⟩, by rw [if_neg (by omega)]; simp [addr_add], fun j x hj => ?_⟩
      rw [addr_add, Nat.zero_add]
      refine (row_cells h).1 _ _ ?_
      rw [List.getElem?_take] at hj
      split at hj
      · exact hj
      · cases hj
/-- The chain begins with an empty slice literal. -/
theorem ghA_lit {vs : List Value} {xs : List Value} {n : Nat} (h : (ghA w0 D L E sz v0 ((n, xs) :: (0, []) :: st)).inv vs w) (hk : vs.length = 0) : (ghA w0 D L E sz v0 ((n, xs) :: (0, []) :: st)).mv vs w (.slice (some ⟨w.heap.size, 0, none⟩) 0 0) (w.alloc (.cells #[] E)) := by
  obtain rfl : vs = [] := List.eq_nil_of_length_eq_zero hk
  have hO := ghA_rest h
  have hp := hO.push (R := rowR (.slice (some ⟨w.heap.size, 0, none⟩) 0 0) E sz 0 []) (F := fun b => b = w.heap.size) (w' := w.alloc (.cells #[] E)) ⟨fun b => ⟨fun e => by rw [e]; rfl, fun e => by simpa [Value.ownBlock] using e.symm⟩, by simp, .inr ⟨w.heap.size, 0, #[], rfl, Nat.zero_le _, by show (w.heap.push (.cells #[] E))[w.heap.size]? = _; simp, Nat.le_refl _, Nat.zero_le _, by simp, by simp⟩⟩ (fun b hb => by rw [hb]; exact Nat.le_refl _) (below_one w _)
  refine ⟨⟨(0, []), rfl, hp⟩, (by simp), fun b hb _ => (below_one w (.cells #[] E)).block b hb, fun b hb => .inr ?_⟩
  have hb : Value.ownBlock (.slice (some ⟨w.heap.size, 0, none⟩) 0 0) = some b := hb
  simp [Value.ownBlock] at hb
  omega
end

end Go.Proofs.YtapeljiopbkjlaaDoor
