/- A region that draws and appends one struct literal to a row that is owned: the literal's block and the append are the chain. No program in sight. -/
import Derived.Test.YtockaipodnapjaaGreatDoorOwnP
namespace Go.Proofs.YtockaipodnapjaaGreatDoor
open Go.RowKit Go.Sort
set_option linter.unusedVariables false
set_option maxRecDepth 100000

/-- A region whose chain has yielded vs: S vs L tells what is owned then. -/
def ghS (w0 : World) (D : Nat → Prop) (S : List Value → List Res → Prop) : Ghost where
  inv := fun vs w => ∃ L, S vs L ∧ Own w0 D w L
  own := fun _ _ => True
  quiet := fun vs w w' ⟨L, h1, h2⟩ hb => ⟨L, h1, h2.stay hb⟩
theorem ghS_mv {w0 w w' : World} {D : Nat → Prop} {S : List Value → List Res → Prop} {vs : List Value} {u : Value} {L : List Res} (hS : S (vs ++ [u]) L) (h : Own w0 D w' L) (hs : w.heap.size ≤ w'.heap.size) : (ghS w0 D S).mv vs w u w' :=
  ⟨⟨L, hS, h⟩, hs, fun b _ hn => (hn trivial).elim, fun b _ => .inl trivial⟩
/-- The stages of an append of one literal to the thing in place i. -/
def apS (L : List Res) (i : Nat) (news : List Value) (T : TypeId) (R : Value → Res) : List Value → List Res → Prop
  | [], L' => L' = L
  | [s], L' => ∃ b, s = .slice (some ⟨b, 0, none⟩) 1 1 ∧ L' = L ++ [blkR b (.cells news.toArray T)]
  | [_, v], L' => L' = L.set i (R v)
  | _, _ => False
section
variable {w0 w : World} {D : Nat → Prop} {L : List Res} {i : Nat} {news : List Value} {T : TypeId} {R : Value → Res}
theorem apS_start (h : Own w0 D w L) : (ghS w0 D (apS L i news T R)).inv [] w := ⟨L, rfl, h⟩
theorem apS_cell (k : Nat) {b : Nat} {c : Array Value} {t : TypeId} (hk : L[k]? = some (blkR b (.cells c t))) (hki : k ≠ i) (j : Nat) {u : Value} (hj : c[j]? = some u) (p : (ghS w0 D (apS L i news T R)).Wd) : p.w.cell? ⟨b, j, none⟩ = some u := by
  obtain ⟨vs, w, L', h1, h2⟩ := p
  refine h2.cell (t := t) (c := c) k ?_ j hj
  have hkl := get_len hk
  match vs, h1 with
  | [], h1 => cases h1; exact hk
  | [s], ⟨b, _, h1⟩ => rw [h1, List.getElem?_append_left hkl]; exact hk
  | [s, v], h1 => cases h1; rw [List.getElem?_set_ne (Ne.symm hki)]; exact hk
theorem apS_build {vs : List Value} (h : (ghS w0 D (apS L i news T R)).inv vs w) (hl : vs.length = 0) : (ghS w0 D (apS L i news T R)).mv vs w (.slice (some ⟨w.heap.size, 0, none⟩) 1 1) (w.alloc (.cells news.toArray T)) := by
  obtain rfl : vs = [] := List.eq_nil_of_length_eq_zero hl
  obtain ⟨L', h1, h2⟩ := h
  cases h1
  exact ghS_mv (L := L ++ [blkR w.heap.size (.cells news.toArray T)]) ⟨_, rfl, rfl⟩ (h2.alloc _) (by simp)
theorem apS_app {P : Program} {o : Oper} {a : Act} {g : GW} {Q : Exit → Act → World → Prop} (s x : Operand) (t : TypeId) (ho : o.op = .call { callee := .builtin .append, args := #[s, x], argTypes := #[t, t] })
    {z : Value} {size bytes : Nat} (ht : P.underlying t = some (.slice T)) (hi0 : (P.info? T).map (fun i => (i.zero, i.size, i.bytes)) = some (some z, size, bytes)) (hzs : z.cells.size = size) (hsz : 0 < size)
    {v : Value} {n : Nat} {xs : List Value} (hL : L[i]? = some (rowR v T size n xs)) (hnl : news.length = size) (h1 : ∀ u ∈ news, u.oneCell' = true) (h63 : n + 1 ≤ maxLen) (hbytes : (n + 1) * bytes ≤ 140737488355328)
    (hinv : (ghS w0 D (apS L i news T (fun v' => rowR v' T size (n + 1) (xs ++ news)))).inv g.vs g.w) (hl : g.vs.length = 1) (hs : a.eval s = v) (hx : g.vs[0]? = some (a.eval x)) :
    o.wp P a g.w (fun a' w' => ∃ v', a' = a.put o.dst v' ∧ (ghS w0 D (apS L i news T (fun v' => rowR v' T size (n + 1) (xs ++ news)))).mv g.vs g.w v' w' ∧ gnth 1 v' ⟨g.vs ++ [v'], w'⟩) Q := by
  obtain ⟨vs, w⟩ := g
  obtain ⟨u, rfl⟩ : ∃ u, vs = [u] := List.length_eq_one_iff.1 hl
  obtain ⟨L', ⟨b, hu, rfl⟩, h⟩ := hinv
  have hx' : a.eval x = .slice (some ⟨b, 0, none⟩) 1 1 := by
    have : u = a.eval x := by simpa using hx
    rw [← this, hu]
  obtain ⟨i0, hi, hz0, hz1, hz2⟩ := info_parts hi0
  have hil := get_len hL
  have hL2 : (L ++ [blkR b (.cells news.toArray T)])[i]? = some (rowR v T size n xs) := by rw [List.getElem?_append_left hil]; exact hL
  have hb2 : (L ++ [blkR b (.cells news.toArray T)])[L.length]? = some (blkR b (.cells news.toArray T)) := by simp
  refine wp_next (wp_app s x t ho ht hi hz0 hz1 hz2 hzs hsz hs (h.row i hL2) news hx' (by rw [hnl]; simp) (news_o (h.blk _ hb2)) h1 h63 hbytes (Nat.zero_le _)) ?_
  rintro a'' w' ⟨v', rfl, hown, hu', hnear⟩
  refine ⟨v', rfl, ghS_mv (L := L.set i (rowR v' T size (n + 1) (xs ++ news))) rfl ?_ hu'.size, rfl⟩
  have := (h.rowTo i hL2 hown hu' fun g hg => ?_).take L.length
  · rwa [List.set_append_left _ _ hil, List.take_left' (by simp)] at this
  · rcases hnear with h2 | h2 | ⟨g2, h2, h3⟩
    · rw [h2] at hg; cases hg
    · exact .inl (h2 ▸ hg)
    · rw [h2] at hg; cases hg; exact .inr h3
theorem apS_end {g : GW} (h : (ghS w0 D (apS L i news T R)).inv g.vs g.w) (hl : g.vs.length = 2) : ∃ s v, g.vs = [s, v] ∧ Own w0 D g.w (L.set i (R v)) := by
  obtain ⟨vs, w⟩ := g
  obtain ⟨s, v, rfl⟩ : ∃ s v, vs = [s, v] := by
    match vs, hl with
    | [s, v], _ => exact ⟨s, v, rfl⟩
  obtain ⟨L', h1, h2⟩ := h
  cases h1
  exact ⟨s, v, rfl, h2⟩
end

end Go.Proofs.YtockaipodnapjaaGreatDoor
