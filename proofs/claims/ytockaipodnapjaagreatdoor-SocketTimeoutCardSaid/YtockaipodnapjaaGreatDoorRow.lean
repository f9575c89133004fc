/- Appends as single operations of a region: onto an empty slice without room, and onto a row that the call owns. No program in sight. -/
import Derived.Test.YtockaipodnapjaaGreatDoorRegH
import Derived.ArgAppend
import Derived.Laws.AppendOwn
namespace Go.Proofs.YtockaipodnapjaaGreatDoor
open Go.RowKit Go.Sort
set_option linter.unusedVariables false
set_option maxRecDepth 100000

/-- The append of up to k elements may write into block b. -/
def spare (v : Value) (k b : Nat) : Prop := ∃ n c, v = .slice (some ⟨b, 0, none⟩) n c ∧ k ≤ c

theorem below_of_grown {w w' : World} (h : w.grownBy w' none) : Below w.heap.size w w' := ⟨h.os, h.tape, h.output, h.size, fun k hk => h.block k hk (by simp)⟩

theorem wp_append_run {P : Program} {o : Oper} {a : Act} {w w' : World} {s x : Operand} {t : TypeId} {v u v' : Value} {K : Act → World → Prop} {Q : Exit → Act → World → Prop} (ho : o.op = .call { callee := .builtin .append, args := #[s, x], argTypes := #[t, t] })
    (hs : a.eval s = v) (hx : a.eval x = u) (hrun : (Builtin.append_ #[t, t] o.type #[v, u]).run P w = .ok v' w') (hK : K (a.put o.dst v') w') : o.wp P a w K Q := by
  unfold Oper.wp execOp
  simp only [ho, resolve, invoke, builtin, Sem.run_bind, Sem.run_pure, Result.andThen_ok, List.map_toArray, List.map_cons, List.map_nil, hs, hx, hrun]
  exact hK

section
variable {P : Program} {o : Oper} {a : Act} {w : World} {Q : Exit → Act → World → Prop}
/-- Onto an empty slice without room. -/
theorem app_first (s x : Operand) (t : TypeId) (ho : o.op = .call { callee := .builtin .append, args := #[s, x], argTypes := #[t, t] })
    {e : TypeId} {i : TypeInfo} {z : Value} {size bytes : Nat} (ht : P.underlying t = some (.slice e)) (hi : P.info? e = some i) (hz : i.zero = some z) (hsize : i.size = size) (hby : i.bytes = bytes) (hzs : z.cells.size = size) (hsz : 0 < size)
    {g : Nat} (hs : a.eval s = .slice (some ⟨g, 0, none⟩) 0 0) {ad : Addr} {m c : Nat} (news : List Value) (hx : a.eval x = .slice (some ad) m c) (hl : news.length = m * size) (hnews : ∀ j u, news[j]? = some u → w.cell? (ad.add j) = some u)
    (hm : 0 < m) (h63 : m ≤ maxLen) (hbytes : m * bytes ≤ 140737488355328) :
    o.wp P a w (fun a' w' => ∃ v', a' = a.put o.dst v' ∧ w'.ownsRow w.heap.size e size v' m news ∧ Below w.heap.size w w') Q := by
  obtain ⟨v', w', hrun, r1, r2⟩ := run_append_arg_grows (P := P) w t o.type e i z size bytes ht hi hz hsize hby hzs hsz ⟨g, 0, none⟩ 0 0 [] (by simp) (fun j u hj => by simp at hj) ad m c news hl hnews (by omega) (by omega) (by simpa using hbytes)
  refine wp_append_run ho hs hx hrun ⟨v', rfl, ?_, below_of_grown r2⟩
  simpa using r1

theorem ownsRow_base {w : World} {base base' : Nat} {e : TypeId} {size : Nat} {v : Value} {n : Nat} {xs : List Value} (h : w.ownsRow base e size v n xs) (hb : base' ≤ base) : w.ownsRow base' e size v n xs := by
  obtain ⟨h1, h2⟩ := h
  refine ⟨h1, ?_⟩
  rcases h2 with h2 | ⟨g, cap, cur, hv, hg, r⟩
  · exact .inl h2
  · exact .inr ⟨g, cap, cur, hv, by omega, r⟩

/-- Onto a row that the call owns. -/
theorem app_more (s x : Operand) (t : TypeId) (ho : o.op = .call { callee := .builtin .append, args := #[s, x], argTypes := #[t, t] })
    {e : TypeId} {i : TypeInfo} {z : Value} {size bytes : Nat} (ht : P.underlying t = some (.slice e)) (hi : P.info? e = some i) (hz : i.zero = some z) (hsize : i.size = size) (hby : i.bytes = bytes) (hzs : z.cells.size = size) (hsz : 0 < size)
    {base : Nat} {v : Value} {n : Nat} {xs : List Value} (hs : a.eval s = v) (hown : w.ownsRow base e size v n xs) {ad : Addr} {m c : Nat} (news : List Value) (hx : a.eval x = .slice (some ad) m c) (hl : news.length = m * size) (hnews : ∀ j u, news[j]? = some u → w.cell? (ad.add j) = some u) (h1 : ∀ u ∈ news, u.oneCell' = true)
    (h63 : n + m ≤ maxLen) (hbytes : (n + m) * bytes ≤ 140737488355328) (hbase : base ≤ w.heap.size) :
    o.wp P a w (fun a' w' => ∃ v', a' = a.put o.dst v' ∧ w'.ownsRow base e size v' (n + m) (xs ++ news) ∧ Below base w w' ∧ (∀ b, b < w.heap.size → ¬ spare v (n + m) b → w'.heap[b]? = w.heap[b]?)) Q := by
  obtain ⟨v', w', hrun, r1, r2, _⟩ := run_append_own (P := P) w base t o.type e i z size bytes ht hi hz hsize hby hzs hsz v n xs hown ad m c news hl hnews h1 h63 hbytes hbase
  have hold := hown.2
  rcases hold with ⟨rfl, hn⟩ | ⟨g, cap, cur, rfl, hg, hcur, hncap, hcm, hsz', htk⟩
  · refine wp_append_run ho hs hx hrun ⟨v', rfl, r1, (below_of_grown r2).mono hbase, fun b hb _ => ?_⟩
    exact r2.block b hb (by simp [Value.ownBlock])
  · by_cases hroom : n + m ≤ cap
    · refine wp_append_run ho hs hx hrun ⟨v', rfl, r1, ?_, fun b hb hns => ?_⟩
      · refine (Below.refl base w).grown r2 hbase (fun k e => ?_)
        simp [Value.ownBlock] at e; omega
      · refine r2.block b hb (fun e => hns ?_)
        simp [Value.ownBlock] at e
        subst e
        exact ⟨n, cap, rfl, hroom⟩
    · obtain ⟨v', w', hrun, r1, r2⟩ := run_append_arg_grows (P := P) w t o.type e i z size bytes ht hi hz hsize hby hzs hsz ⟨g, 0, none⟩ n cap xs hown.1 (fun j u hj => by
        have hjl : j < n * size := by
          rcases Nat.lt_or_ge j (n * size) with h | h
          · exact h
          · rw [List.getElem?_eq_none (by rw [hown.1]; exact h)] at hj; cases hj
        have ea : (⟨g, 0, none⟩ : Addr).add j = ⟨g, j, none⟩ := by
          unfold Addr.add
          split
          · rename_i h; have : j = 0 := by simpa using h
            subst this; rfl
          · simp
        rw [ea]
        rw [← htk, List.getElem?_take, if_pos hjl] at hj
        simpa [World.cell?, hcur] using hj) ad m c news hl hnews (by omega) h63 hbytes
      refine wp_append_run ho hs hx hrun ⟨v', rfl, ownsRow_base r1 hbase, (below_of_grown r2).mono hbase, fun b hb _ => ?_⟩
      exact r2.block b hb (by simp)
end

theorem wp_next {P : Program} {o : Oper} {a : Act} {w : World} {K1 K2 : Act → World → Prop} {Q : Exit → Act → World → Prop} (h : o.wp P a w K1 Q) (hk : ∀ a' w', K1 a' w' → K2 a' w') : o.wp P a w K2 Q := upon_mono hk (fun _ _ _ h => h) h

/-- A new block that nobody writes to. -/
def gblk (Γ : Ghost) (B : Nat) (V : Nat → Value) (o : Obj) : GPred := fun v g => ∃ b, v = V b ∧ B ≤ b ∧ g.w.heap[b]? = some o ∧ ¬ Γ.own g.vs b
theorem gblk_lasts (Γ : Ghost) (B : Nat) (V : Nat → Value) (o : Obj) : Γ.lasts (gblk Γ B V o) := by
  rintro v g g' hJ ⟨b, rfl, hB, hb, ho⟩ hs
  have hlt : b < g.w.heap.size := (Array.getElem?_eq_some_iff.1 hb).1
  rcases hs with ⟨h1, h2⟩ | ⟨u, h1, h2⟩
  · exact ⟨b, rfl, hB, (h2.block b hlt).trans hb, by rw [h1]; exact ho⟩
  · refine ⟨b, rfl, hB, (h2.2.2.1 b hlt ho).trans hb, fun h => ?_⟩
    rw [h1] at h
    rcases h2.2.2.2 b h with h | h
    · exact ho h
    · omega
theorem gblk_new (Γ : Ghost) {B : Nat} {V : Nat → Value} {o : Obj} {g : GW} (hno : ∀ b, Γ.own g.vs b → b < g.w.heap.size) (hB : B ≤ g.w.heap.size) : gblk Γ B V o (V g.w.heap.size) ⟨g.vs, g.w.alloc o⟩ := by
  refine ⟨g.w.heap.size, rfl, hB, ?_, fun h => ?_⟩
  · show (g.w.heap.push o)[g.w.heap.size]? = some o
    simp
  · have := hno _ h; omega
/-- The value that the k-th operation of the chain has yielded. -/
def gnth (k : Nat) : GPred := fun v g => g.vs[k]? = some v
theorem gnth_lasts (Γ : Ghost) (k : Nat) : Γ.lasts (gnth k) := by
  rintro v g g' _ h hs
  have hlt : k < g.vs.length := by
    rcases Nat.lt_or_ge k g.vs.length with h' | h'
    · exact h'
    · unfold gnth at h; rw [List.getElem?_eq_none h'] at h; cases h
  rcases hs with ⟨h1, _⟩ | ⟨u, h1, _⟩
  · unfold gnth; rw [h1]; exact h
  · unfold gnth; rw [h1, List.getElem?_append_left hlt]; exact h
/-- A value made of the k-th one's. -/
def gfun (k : Nat) (f : Value → Value) : GPred := fun v g => ∃ u, g.vs[k]? = some u ∧ v = f u
theorem gfun_lasts (Γ : Ghost) (k : Nat) (f : Value → Value) : Γ.lasts (gfun k f) := by
  rintro v g g' hJ ⟨u, hu, rfl⟩ hs
  exact ⟨u, gnth_lasts Γ k u g g' hJ hu hs, rfl⟩

end Go.Proofs.YtockaipodnapjaaGreatDoor
