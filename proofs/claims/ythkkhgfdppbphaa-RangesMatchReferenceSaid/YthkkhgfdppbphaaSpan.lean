/- Spans in memory: slices that read as lists of spans, rows that a call owns. -/
import Derived.Test.YthkkhgfdppbphaaRow
import Derived.Test.YthkkhgfdppbphaaSpanT
import Derived.Test.YthkkhgfdppbphaaProg
namespace Go.Proofs.Ythkkhgfdppbphaa
open Go.RowKit Go.Sort
set_option linter.unusedVariables false

def spAt (l : List Sp) (i : Nat) : Sp := l.getD i ⟨0, 0⟩
theorem spAt_eq (l : List Sp) (i : Nat) (h : i < l.length) : spAt l i = l[i] := by simp [spAt, h]
def SpCells (w : World) (b o : Nat) (x : Sp) : Prop := w.cell? ⟨b, o, none⟩ = some (.int .i64 x.fr) ∧ w.cell? ⟨b, o + 1, none⟩ = some (.int .i64 x.to)
/-- A slice value that reads as a list of spans. -/
def RdS (w : World) (v : Value) (l : List Sp) : Prop :=
  ∃ a cap, v = .slice a l.length cap ∧ l.length ≤ cap ∧ l.length ≤ 100000 ∧ (l.length ≠ 0 → ∃ b o, a = some ⟨b, o, none⟩ ∧ ∀ i, i < l.length → SpCells w b (o + i * 2) (spAt l i))
abbrev spV (x : Sp) : Value := .agg #[.int .i64 x.fr, .int .i64 x.to]
def spc (x : Sp) : List Value := [.int .i64 x.fr, .int .i64 x.to]
def spcs (l : List Sp) : List Value := l.flatMap spc
theorem spcs_app (l r : List Sp) : spcs (l ++ r) = spcs l ++ spcs r := by simp [spcs]
theorem spcs_one (x : Sp) : spcs [x] = spc x := by simp [spcs]
theorem spcs_len (l : List Sp) : (spcs l).length = l.length * 2 := by
  induction l with
  | nil => rfl
  | cons a l ih => simp only [spcs, List.flatMap_cons, List.length_append] at ih ⊢; rw [ih]; simp [spc]; omega
theorem spcs_get (l : List Sp) (i : Nat) (h : i < l.length) (j : Nat) (hj : j < 2) : (spcs l)[i * 2 + j]? = (spc l[i])[j]? := by
  induction l generalizing i with
  | nil => simp at h
  | cons a l ih =>
    cases i with
    | zero =>
      simp only [spcs, List.flatMap_cons, Nat.zero_mul, Nat.zero_add, List.getElem_cons_zero]
      rw [List.getElem?_append_left (by simp [spc]; exact hj)]
    | succ i =>
      simp only [spcs, List.flatMap_cons, List.getElem_cons_succ] at ih ⊢
      rw [List.getElem?_append_right (by simp [spc]; omega), show (i + 1) * 2 + j - (spc a).length = i * 2 + j by simp [spc]; omega]
      exact ih i (by simpa using h)
theorem spc_oc (x : Sp) : ∀ u ∈ spc x, u.oneCell' = true := by
  intro u hu; simp [spc] at hu; rcases hu with h | h <;> (subst h; rfl)
theorem spcs_oc (l : List Sp) : ∀ u ∈ spcs l, u.oneCell' = true := by
  intro u hu
  obtain ⟨r, _, hr⟩ := List.mem_flatMap.1 hu
  exact spc_oc r u hr

theorem SpCells.stay {w w' : World} {b o : Nat} {x : Sp} (hb : Below w.heap.size w w') (h : SpCells w b o x) : SpCells w' b o x := ⟨keep hb h.1, keep hb h.2⟩
theorem SpCells.block {w w' : World} {b o : Nat} {x : Sp} (hb : w'.heap[b]? = w.heap[b]?) (h : SpCells w b o x) : SpCells w' b o x :=
  ⟨(World.cell?_of_block hb).trans h.1, (World.cell?_of_block hb).trans h.2⟩
theorem SpCells.lt {w : World} {b o : Nat} {x : Sp} (h : SpCells w b o x) : b < w.heap.size := block_lt_of_cell h.1
theorem RdS.stay {w w' : World} {v : Value} {l : List Sp} (hb : Below w.heap.size w w') (h : RdS w v l) : RdS w' v l := by
  obtain ⟨a, cap, rfl, h1, h2, h3⟩ := h
  refine ⟨a, cap, rfl, h1, h2, fun hn => ?_⟩
  obtain ⟨b, o, rfl, hc⟩ := h3 hn
  exact ⟨b, o, rfl, fun i hi => (hc i hi).stay hb⟩
/-- It reads the same while the blocks of the old world, but for one that is another, stay. -/
theorem RdS.grown {w w' : World} {v : Value} {l : List Sp} {row : Option Nat} (h : RdS w v l) (hg : w.grownBy w' row) (hr : ∀ a n c, v = .slice (some a) n c → n ≠ 0 → row ≠ some a.block) : RdS w' v l := by
  obtain ⟨a, cap, rfl, h1, h2, h3⟩ := h
  refine ⟨a, cap, rfl, h1, h2, fun hn => ?_⟩
  obtain ⟨b, o, rfl, hc⟩ := h3 hn
  exact ⟨b, o, rfl, fun i hi => (hc i hi).block (hg.block b (hc i hi).lt (Ne.symm (hr _ _ _ rfl hn)))⟩
theorem RdS_nil (w : World) : RdS w (.slice none 0 0) [] := ⟨none, 0, rfl, Nat.le_refl _, by simp, fun h => absurd rfl h⟩
theorem RdS.news {w : World} {a : Option Addr} {n c : Nat} {l : List Sp} (h : RdS w (.slice a n c) l) (h0 : l.length ≠ 0) : ∃ b o, a = some ⟨b, o, none⟩ ∧ ∀ j u, (spcs l)[j]? = some u → w.cell? ((⟨b, o, none⟩ : Addr).add j) = some u := by
  obtain ⟨a', c', e, h1, h2, h3⟩ := h
  cases e
  obtain ⟨b, o, rfl, hc⟩ := h3 h0
  refine ⟨b, o, rfl, fun j u hj => ?_⟩
  have ea : (⟨b, o, none⟩ : Addr).add j = ⟨b, o + j, none⟩ := by
    unfold Addr.add
    split
    · rename_i h; have : j = 0 := by simpa using h
      subst this; rfl
    · rfl
  rw [ea]
  have hjl : j < l.length * 2 := by
    rcases Nat.lt_or_ge j (l.length * 2) with h | h
    · exact h
    · rw [List.getElem?_eq_none (by rw [spcs_len]; exact h)] at hj; cases hj
  have hi : j / 2 < l.length := by omega
  obtain ⟨c0, c1⟩ := hc (j / 2) hi
  rw [show j = j / 2 * 2 + j % 2 by omega, spcs_get l (j / 2) hi (j % 2) (by omega), ← spAt_eq l _ hi] at hj
  have h2 : j % 2 = 0 ∨ j % 2 = 1 := by omega
  rcases h2 with h | h
  · rw [h] at hj; simp [spc] at hj; subst hj; rw [show o + j = o + j / 2 * 2 by omega]; exact c0
  · rw [h] at hj; simp [spc] at hj; subst hj; rw [show o + j = o + j / 2 * 2 + 1 by omega]; exact c1

abbrev Owns (w : World) (base : Nat) (v : Value) (l : List Sp) : Prop := w.ownsRow base 24 2 v l.length (spcs l)
theorem Owns.rd {w : World} {base : Nat} {v : Value} {l : List Sp} (h : Owns w base v l) (hl : l.length ≤ 100000) : RdS w v l := by
  obtain ⟨h1, h2⟩ := h
  rcases h2 with ⟨rfl, hn⟩ | ⟨g, cap, cur, rfl, hg, hc, hcap, _, hsz, htk⟩
  · rw [show l = [] from List.eq_nil_of_length_eq_zero hn]
    exact RdS_nil w
  · refine ⟨some ⟨g, 0, none⟩, cap, rfl, hcap, hl, fun _ => ⟨g, 0, rfl, fun i hi => ?_⟩⟩
    have key : ∀ j, j < 2 → w.cell? ⟨g, 0 + i * 2 + j, none⟩ = (spc (spAt l i))[j]? := by
      intro j hj
      rw [spAt_eq l i hi, ← spcs_get l i hi j hj, ← htk, List.getElem?_take, if_pos (by have := Nat.mul_le_mul_right 2 hi; omega)]
      simp [World.cell?, hc]
    exact ⟨by simpa [spc] using key 0 (by omega), by simpa [spc] using key 1 (by omega)⟩
theorem Owns.slice {w : World} {base : Nat} {v : Value} {l : List Sp} (h : Owns w base v l) : ∃ a c, v = .slice a l.length c := by
  rcases h.2 with ⟨e, hn⟩ | ⟨g, c, _, e, _⟩
  · exact ⟨none, 0, by rw [e, hn]⟩
  · exact ⟨_, _, e⟩
theorem Owns.lt {w : World} {base : Nat} {v : Value} {l : List Sp} (h : Owns w base v l) {g : Nat} (hg : v.ownBlock = some g) : g < w.heap.size ∧ base ≤ g := by
  rcases h.2 with ⟨rfl, hn⟩ | ⟨g', c, _, rfl, hb, hc, _⟩
  · cases hg
  · cases hg; exact ⟨(Array.getElem?_eq_some_iff.1 hc).1, hb⟩
theorem ownsRow_stay {w w' : World} {base : Nat} {e : TypeId} {size : Nat} {v : Value} {n : Nat} {xs : List Value} (hb : Below w.heap.size w w') (h : w.ownsRow base e size v n xs) : w'.ownsRow base e size v n xs := by
  obtain ⟨h1, h2⟩ := h
  refine ⟨h1, ?_⟩
  rcases h2 with h2 | ⟨g, cap, cur, hv, hg, hh, r⟩
  · exact .inl h2
  · exact .inr ⟨g, cap, cur, hv, hg, (hb.block g (Array.getElem?_eq_some_iff.1 hh).1).trans hh, r⟩

theorem infoS : (Try.prog.info? 24).map (fun i => (i.zero, i.size, i.bytes)) = some (some (.agg #[.int .i64 0, .int .i64 0]), 2, 16) := by kernel_rfl
theorem run_bsS1 (x0 x1 : Int) (w : World) : (Instr.buildSlice 22 1 #[(0, .agg #[.int .i64 x0, .int .i64 x1])]).run Try.prog w = .ok (.slice (some ⟨w.heap.size, 0, none⟩) 1 1) (w.alloc (.cells #[.int .i64 x0, .int .i64 x1] 24)) := by kernel_rfl
theorem run_bsS2 (x0 x1 y0 y1 : Int) (w : World) : (Instr.buildSlice 22 2 #[(0, .agg #[.int .i64 x0, .int .i64 x1]), (1, .agg #[.int .i64 y0, .int .i64 y1])]).run Try.prog w = .ok (.slice (some ⟨w.heap.size, 0, none⟩) 2 2) (w.alloc (.cells #[.int .i64 x0, .int .i64 x1, .int .i64 y0, .int .i64 y1] 24)) := by kernel_rfl
theorem news2 (w : World) (x : Sp) (t : TypeId) : ∀ j u, (spc x)[j]? = some u → (w.alloc (.cells #[.int .i64 x.fr, .int .i64 x.to] t)).cell? ((⟨w.heap.size, 0, none⟩ : Addr).add j) = some u := by
  intro j u hj
  have hj4 : j < 2 := by
    rcases Nat.lt_or_ge j 2 with h | h
    · exact h
    · rw [List.getElem?_eq_none (by simp [spc]; omega)] at hj; cases hj
  obtain rfl | rfl : j = 0 ∨ j = 1 := by omega
  all_goals (simp [spc] at hj; subst hj; simp [Addr.add])
theorem RdS_block {w : World} {b : Nat} {t : TypeId} {l : List Sp} (h : w.heap[b]? = some (.cells (spcs l).toArray t)) (hl : l.length ≤ 100000) : RdS w (.slice (some ⟨b, 0, none⟩) l.length l.length) l := by
  refine ⟨_, _, rfl, Nat.le_refl _, hl, fun _ => ⟨b, 0, rfl, fun i hi => ?_⟩⟩
  have key : ∀ j, j < 2 → w.cell? ⟨b, 0 + i * 2 + j, none⟩ = (spc (spAt l i))[j]? := by
    intro j hj
    rw [spAt_eq l i hi, ← spcs_get l i hi j hj]
    simp [World.cell?, h]
  exact ⟨by simpa [spc] using key 0 (by omega), by simpa [spc] using key 1 (by omega)⟩

/-- Where an append may leave its row: in its own block, or in a new one. -/
def near (w : World) (v v' : Value) : Prop := v'.ownBlock = none ∨ v'.ownBlock = v.ownBlock ∨ ∃ g, v'.ownBlock = some g ∧ w.heap.size ≤ g
theorem near.refl (w : World) (v : Value) : near w v v := .inr (.inl rfl)
theorem near.trans {w w1 : World} {v v1 v2 : Value} (hs : w.heap.size ≤ w1.heap.size) (h1 : near w v v1) (h2 : near w1 v1 v2) : near w v v2 := by
  rcases h2 with h | h | ⟨g, h, hg⟩
  · exact .inl h
  · rcases h1 with h' | h' | ⟨g, h', hg⟩
    · exact .inl (h.trans h')
    · exact .inr (.inl (h.trans h'))
    · exact .inr (.inr ⟨g, h.trans h', hg⟩)
  · exact .inr (.inr ⟨g, h, by omega⟩)

/-- Append, with all that is known behind it. -/
theorem run_append_near {P : Program} (w : World) (base : Nat) (t ty e : TypeId) (i : TypeInfo) (z : Value) (size bytes : Nat) (ht : P.underlying t = some (.slice e)) (hi : P.info? e = some i) (hz : i.zero = some z)
    (hsize : i.size = size) (hby : i.bytes = bytes) (hzs : z.cells.size = size) (hsz : 0 < size) (v : Value) (n : Nat) (xs : List Value) (hown : w.ownsRow base e size v n xs)
    (ad : Addr) (m c : Nat) (news : List Value) (hl : news.length = m * size) (hnews : ∀ j u, news[j]? = some u → w.cell? (ad.add j) = some u) (h1 : ∀ u ∈ news, u.oneCell' = true)
    (h63 : n + m ≤ maxLen) (hbytes : (n + m) * bytes ≤ 140737488355328) (hbase : base ≤ w.heap.size) :
    ∃ v' w', (Builtin.append_ #[t, t] ty #[v, .slice (some ad) m c]).run P w = .ok v' w' ∧ w'.ownsRow base e size v' (n + m) (xs ++ news) ∧ w.grownBy w' v.ownBlock ∧ near w v v' := by
  obtain ⟨v', w', hrun, r1, r2, _⟩ := run_append_own (P := P) w base t ty e i z size bytes ht hi hz hsize hby hzs hsz v n xs hown ad m c news hl hnews h1 h63 hbytes hbase
  have hold := hown.2
  rcases hold with ⟨rfl, hn⟩ | ⟨g, cap, cur, rfl, hg, hcur, hncap, hcm, hsz', htk⟩
  · subst hn
    obtain rfl : xs = [] := List.eq_nil_of_length_eq_zero (by simpa using hown.1)
    obtain ⟨v2, w2, hrun2, s1, s2, _⟩ := run_append_own (P := P) w w.heap.size t ty e i z size bytes ht hi hz hsize hby hzs hsz (.slice none 0 0) 0 [] (World.ownsRow_nil w _ e size) ad m c news hl hnews h1 h63 hbytes (Nat.le_refl _)
    rw [hrun] at hrun2
    cases hrun2
    refine ⟨_, _, hrun, r1, r2, ?_⟩
    rcases s1.2 with ⟨e', _⟩ | ⟨g, _, _, e', hg, _⟩
    · exact .inl (by rw [e']; rfl)
    · exact .inr (.inr ⟨g, by rw [e']; rfl, hg⟩)
  · by_cases hroom : n + m ≤ cap
    · subst hsize
      have hrun2 := run_append_room_cells (P := P) w t ty e i ht hi g 0 n cap ad m c news hl hnews h1 hroom (fun j hj => by
        have : n * i.size + j < cur.size := by
          rw [hsz']
          have := Nat.mul_le_mul_right i.size hroom
          rw [Nat.add_mul] at this
          omega
        simp [World.cell?, hcur, this]) (fun j hj => by simp [World.frozen?, hcur])
      rw [hrun] at hrun2
      cases hrun2
      exact ⟨_, _, hrun, r1, r2, .inr (.inl rfl)⟩
    · have hcells : ∀ j u, xs[j]? = some u → w.cell? ((⟨g, 0, none⟩ : Addr).add j) = some u := fun j u hj => by
        have hjl : j < n * size := by
          rcases Nat.lt_or_ge j (n * size) with h | h
          · exact h
          · rw [List.getElem?_eq_none (by rw [hown.1]; exact h)] at hj; cases hj
        have ea : (⟨g, 0, none⟩ : Addr).add j = ⟨g, j, none⟩ := by
          unfold Addr.add
          split
          · rename_i h; have : j = 0 := by simpa using h
            subst this; rfl
          · simp
        rw [ea]
        rw [← htk, List.getElem?_take, if_pos hjl] at hj
        simpa [World.cell?, hcur] using hj
      obtain ⟨v2, w2, hrun2, s1, s2⟩ := run_append_arg_grows (P := P) w t ty e i z size bytes ht hi hz hsize hby hzs hsz ⟨g, 0, none⟩ n cap xs hown.1 hcells ad m c news hl hnews (by omega) h63 hbytes
      rw [hrun] at hrun2
      cases hrun2
      refine ⟨_, _, hrun, r1, r2, ?_⟩
      rcases s1.2 with ⟨e', _⟩ | ⟨g, _, _, e', hg, _⟩
      · exact .inl (by rw [e']; rfl)
      · exact .inr (.inr ⟨g, by rw [e']; rfl, hg⟩)

/-- An append of spans to a row of spans that the call owns. -/
theorem wpList_appS {ops : Array Oper} {rest : List Oper} {o : Oper} {a : Act} {w : World} {Q : Exit → Act → World → Prop} (hgd : o.guard = none) (s x : Operand)
    (ho : o.op = .call { callee := .builtin .append, args := #[s, x], argTypes := #[22, 22] }) {base : Nat} {v : Value} {l : List Sp} (hs : a.eval s = v) (hown : Owns w base v l)
    {ad : Addr} {m c : Nat} (ps : List Sp) (hx : a.eval x = .slice (some ad) m c) (hm : m = ps.length) (hnews : ∀ j u, (spcs ps)[j]? = some u → w.cell? (ad.add j) = some u) (hlen : l.length + m ≤ 1000000) (hbase : base ≤ w.heap.size)
    (h : ∀ v' w', Owns w' base v' (l ++ ps) → w.grownBy w' v.ownBlock → near w v v' → wpList Try.prog ops Q rest (a.put o.dst v') w') : wpList Try.prog ops Q (o :: rest) a w := by
  obtain ⟨i0, hi, hz0, hz1, hz2⟩ := info_parts infoS
  subst hm
  obtain ⟨v', w', hrun, r1, r2, r3⟩ := run_append_near (P := Try.prog) w base 22 o.type 24 i0 _ 2 16 Try.underlying22 hi hz0 hz1 hz2 rfl (by decide) v l.length (spcs l) hown ad ps.length c (spcs ps) (spcs_len ps) hnews (spcs_oc ps) (by unfold maxLen; omega) (by omega) hbase
  refine wpList_plain hgd fun K hK => ?_
  refine wp_append_run ho hs hx hrun (hK _ _ (h v' w' ?_ r2 r3))
  show w'.ownsRow base 24 2 v' (l ++ ps).length (spcs (l ++ ps))
  rw [spcs_app, List.length_append]
  exact r1

end Go.Proofs.Ythkkhgfdppbphaa
