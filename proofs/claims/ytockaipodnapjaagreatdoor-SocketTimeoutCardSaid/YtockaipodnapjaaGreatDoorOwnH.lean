/- Calls that change what is owned, and drawn regions of such calls. No program in sight. -/
import Derived.Test.YtockaipodnapjaaGreatDoorOwn
import Derived.Test.YtockaipodnapjaaGreatDoorVal
import Derived.Test.YtockaipodnapjaaGreatDoorApp
namespace Go.Proofs.YtockaipodnapjaaGreatDoor
open Go.RowKit
set_option linter.unusedVariables false
set_option maxRecDepth 100000

/-- A call hands back v, and leaves what is owned as L. -/
def OPost (w0 : World) (D : Nat → Prop) (L : List Res) (v : Value) (w : World) (e : Ending) (w' : World) : Prop := e = .returned v ∧ Own w0 D w' L ∧ w.heap.size ≤ w'.heap.size
section
variable {P : Program} {f : FuncId} {args : Array Value} {w0 w : World} {D : Nat → Prop} {v : Value} {L : List Res}
theorem o_still (h : Own w0 D w L) (hc : Calls P f args w fun e w' => e = .returned v ∧ Below w.heap.size w w') : Calls P f args w (OPost w0 D L v w) :=
  hc.mono fun e w' ⟨he, hb⟩ => ⟨he, h.stay hb, hb.size⟩
theorem o_same (h : Own w0 D w L) (hc : Calls P f args w fun e w' => e = .returned v ∧ w = w') : Calls P f args w (OPost w0 D L v w) :=
  hc.mono fun e w' ⟨he, hb⟩ => ⟨he, hb ▸ h, by rw [hb]; exact Nat.le_refl _⟩
/-- A call that hands back v, with the thing in place i changed to R'. -/
theorem o_step {i : Nat} {R R' : Res} (h : Own w0 D w L) (hi : L[i]? = some R)
    (hc : ∀ F, R.P w F → Calls P f args w fun e w' => e = .returned v ∧ ∃ F', R'.P w' F' ∧ (∀ b, F' b → F b ∨ w.heap.size ≤ b) ∧ Upd F w w') : Calls P f args w (OPost w0 D (L.set i R') v w) := by
  obtain ⟨F, h1, _, h3⟩ := h.step hi
  exact (hc F h1).mono fun e w' ⟨he, F', hR, hF, hu⟩ => ⟨he, h3 hR hF hu, hu.size⟩
/-- The same over what the callee owns: the one thing that it gets. -/
theorem o_one {i : Nat} {R R' : Res} (h : Own w0 D w L) (hi : L[i]? = some R)
    (hc : ∀ D, Own w D w [R] → Calls P f args w (OPost w D [R'] v w)) : Calls P f args w (OPost w0 D (L.set i R') v w) :=
  o_step h hi fun F hF => (hc F (Own.one hF)).mono fun e w' ⟨he, ho, _⟩ => by
    obtain ⟨F', h1, h2, _⟩ := ho.step (i := 0) rfl
    exact ⟨he, F', h1, h2, ho.upd⟩
/-- A call that only looks at one thing. -/
theorem o_read {i : Nat} {R : Res} (h : Own w0 D w L) (hi : L[i]? = some R)
    (hc : ∀ F, R.P w F → Calls P f args w fun e w' => e = .returned v ∧ Below w.heap.size w w') : Calls P f args w (OPost w0 D L v w) := by
  obtain ⟨F, h1, _, _⟩ := h.step hi
  exact o_still h (hc F h1)
/-- Two things. -/
theorem o_two {i j : Nat} {R1 R2 R1' R2' : Res} (h : Own w0 D w L) (hi : L[i]? = some R1) (hj : L[j]? = some R2) (hij : i ≠ j)
    (hc : ∀ D, Own w D w [R1, R2] → Calls P f args w (OPost w D [R1', R2'] v w)) : Calls P f args w (OPost w0 D ((L.set i R1').set j R2') v w) := by
  have h' := h
  obtain ⟨hu0, Fs, h2, h3⟩ := h
  obtain ⟨hR1, hD1⟩ := h2 i R1 hi
  obtain ⟨hR2, hD2⟩ := h2 j R2 hj
  refine (hc _ (Own.two hR1 hR2 (h3 i j (get_len hi) (get_len hj) hij))).mono fun e w' ⟨he, ho, hs⟩ => ⟨he, ?_, hs⟩
  obtain ⟨hu, Gs, g2, g3⟩ := ho
  obtain ⟨k1, k2⟩ := g2 0 R1' rfl
  obtain ⟨m1, m2⟩ := g2 1 R2' rfl
  have hlen : ((L.set i R1').set j R2').length = L.length := by simp
  have hdis : ∀ k, k < L.length → k ≠ i → k ≠ j → ∀ n, n < 2 → ∀ b, Gs n b → ¬ Fs k b := fun k hk hki hkj n hn b hb hf => by
    have : Fs i b ∨ Fs j b ∨ w.heap.size ≤ b := by
      obtain rfl | rfl : n = 0 ∨ n = 1 := by omega
      · rcases k2 b hb with (h | h) | h
        · exact .inl h
        · exact .inr (.inl h)
        · exact .inr (.inr h)
      · rcases m2 b hb with (h | h) | h
        · exact .inl h
        · exact .inr (.inl h)
        · exact .inr (.inr h)
    rcases this with h | h | h
    · exact h3 i k (get_len hi) hk (Ne.symm hki) b h hf
    · exact h3 j k (get_len hj) hk (Ne.symm hkj) b h hf
    · have := (L[k]).bound (h2 k L[k] (List.getElem?_eq_getElem hk)).1 b hf
      omega
  have hDD : ∀ b, (Fs i b ∨ Fs j b) ∨ w.heap.size ≤ b → D b ∨ w0.heap.size ≤ b := fun b h => by
    rcases h with (h | h) | h
    · exact hD1 b h
    · exact hD2 b h
    · exact .inr (Nat.le_trans hu0.size h)
  refine ⟨hu0.then hu (fun b hb hf => ((hDD b (.inl hf)).elim id (fun h => by omega))), fun k => if k = i then Gs 0 else if k = j then Gs 1 else Fs k, fun k Q hk => ?_, fun k n hk hn hkn b => ?_⟩
  · dsimp only
    by_cases e2 : k = j
    · rw [if_neg (fun e => hij (e.symm.trans e2)), if_pos e2]
      rw [e2, List.getElem?_set_self (by simpa using get_len hj)] at hk
      cases hk
      exact ⟨m1, fun b hb => hDD b (m2 b hb)⟩
    · rw [List.getElem?_set_ne (Ne.symm e2)] at hk
      by_cases e1 : k = i
      · rw [if_pos e1]
        rw [e1, List.getElem?_set_self (get_len hi)] at hk
        cases hk
        exact ⟨k1, fun b hb => hDD b (k2 b hb)⟩
      · rw [if_neg e1, if_neg e2]
        rw [List.getElem?_set_ne (Ne.symm e1)] at hk
        exact ⟨Q.move (h2 k Q hk).1 hu (fun b hb hn => hn.elim (h3 k i (get_len hk) (get_len hi) e1 b hb) (h3 k j (get_len hk) (get_len hj) e2 b hb)), (h2 k Q hk).2⟩
  · rw [hlen] at hk hn
    dsimp only
    by_cases a1 : k = i
    · rw [if_pos a1]
      by_cases b1 : n = i
      · exact absurd (a1.trans b1.symm) hkn
      · rw [if_neg b1]
        by_cases b2 : n = j
        · rw [if_pos b2]; exact g3 0 1 (by simp) (by simp) (by decide) b
        · rw [if_neg b2]; exact hdis n hn b1 b2 0 (by decide) b
    · rw [if_neg a1]
      by_cases a2 : k = j
      · rw [if_pos a2]
        by_cases b1 : n = i
        · rw [if_pos b1]; exact g3 1 0 (by simp) (by simp) (by decide) b
        · rw [if_neg b1]
          by_cases b2 : n = j
          · exact absurd (a2.trans b2.symm) hkn
          · rw [if_neg b2]; exact hdis n hn b1 b2 1 (by decide) b
      · rw [if_neg a2]
        by_cases b1 : n = i
        · rw [if_pos b1]; exact fun x y => hdis k hk a1 a2 0 (by decide) b y x
        · rw [if_neg b1]
          by_cases b2 : n = j
          · rw [if_pos b2]; exact fun x y => hdis k hk a1 a2 1 (by decide) b y x
          · rw [if_neg b2]; exact h3 k n hk hn hkn b
end

/-- A region whose chain takes what is owned through the stages Ls. -/
def ghO (w0 : World) (D : Nat → Prop) (Ls : List (List Res)) : Ghost where
  inv := fun vs w => ∃ L, Ls[vs.length]? = some L ∧ Own w0 D w L
  own := fun _ _ => True
  quiet := fun vs w w' ⟨L, h1, h2⟩ hb => ⟨L, h1, h2.stay hb⟩
theorem ghO_start {D : Nat → Prop} {w0 w : World} {L : List Res} {Ls : List (List Res)} (h : Own w0 D w L) : (ghO w0 D (L :: Ls)).inv [] w := ⟨L, rfl, h⟩
theorem ghO_at {D : Nat → Prop} {w0 w : World} {vs : List Value} {Ls : List (List Res)} (h : (ghO w0 D Ls).inv vs w) (k : Nat) (hk : vs.length = k) {L : List Res} (hL : Ls[k]? = some L) : Own w0 D w L := by
  obtain ⟨L', h1, h2⟩ := h
  rw [hk, hL] at h1
  cases h1; exact h2
theorem ghO_mv {D : Nat → Prop} {w0 w w' : World} {vs : List Value} {u : Value} {Ls : List (List Res)} {L' : List Res} (k : Nat) (hk : vs.length = k) (hL : Ls[k + 1]? = some L') (h : Own w0 D w' L') (hs : w.heap.size ≤ w'.heap.size) : (ghO w0 D Ls).mv vs w u w' :=
  ⟨⟨L', by rw [List.length_append, hk]; exact hL, h⟩, hs, fun b _ hn => (hn trivial).elim, fun b _ => .inl trivial⟩
theorem ghO_cell {D : Nat → Prop} {w0 : World} {Ls : List (List Res)} (i : Nat) {b : Nat} {c : Array Value} {t : TypeId} (hi : ∀ L ∈ Ls, L[i]? = some (blkR b (.cells c t))) (j : Nat) {u : Value} (hj : c[j]? = some u) (p : (ghO w0 D Ls).Wd) : p.w.cell? ⟨b, j, none⟩ = some u := by
  obtain ⟨L, h1, h2⟩ := p.h
  exact h2.cell i (hi L (List.mem_of_getElem? h1)) j hj
theorem ghO_old {D : Nat → Prop} {w0 : World} {Ls : List (List Res)} {a : Addr} {u : Value} (h : w0.cell? a = some u) (hD : ¬ D a.block) (p : (ghO w0 D Ls).Wd) : p.w.cell? a = some u := by
  obtain ⟨L, h1, h2⟩ := p.h
  exact h2.upd.keep hD h
/-- A call of the chain. -/
theorem ghO_call {D : Nat → Prop} {P : Program} {f : FuncId} {args : Array Value} {w0 w : World} {vs : List Value} {v : Value} {Ls : List (List Res)} {L L' : List Res} (k : Nat) (hinv : (ghO w0 D Ls).inv vs w) (hk : vs.length = k) (hL : Ls[k]? = some L) (hL' : Ls[k + 1]? = some L')
    (hc : Own w0 D w L → Calls P f args w (OPost w0 D L' v w)) : Calls P f args w fun e w' => e = .returned v ∧ (ghO w0 D Ls).mv vs w v w' :=
  (hc (ghO_at hinv k hk hL)).mono fun e w' ⟨he, ho, hs⟩ => ⟨he, ghO_mv k hk hL' ho hs⟩
/-- A call outside the chain. -/
theorem ghO_quiet {P : Program} {f : FuncId} {args : Array Value} {w : World} {v : Value} (hc : Calls P f args w fun e w' => e = .returned v ∧ w = w') : Calls P f args w fun e w' => e = .returned v ∧ Below w.heap.size w w' :=
  hc.mono fun e w' ⟨he, hb⟩ => ⟨he, hb ▸ Below.refl _ _⟩

theorem news_o {w : World} {b : Nat} {l : List Value} {t : TypeId} (h : w.heap[b]? = some (.cells l.toArray t)) : ∀ j u, l[j]? = some u → w.cell? ((⟨b, 0, none⟩ : Addr).add j) = some u := by
  intro j u hj
  have ea : (⟨b, 0, none⟩ : Addr).add j = ⟨b, j, none⟩ := by
    unfold Addr.add
    split
    · rename_i h; have : j = 0 := by simpa using h
      subst this; rfl
    · simp
  rw [ea]
  simp [World.cell?, h, hj]
/-- An append to a row that is owned, of new elements that lie in a block that is owned. -/
theorem wpList_appO {P : Program} {ops : Array Oper} {rest : List Oper} {o : Oper} {a : Act} {w0 w : World} {D : Nat → Prop} {L : List Res} {Q : Exit → Act → World → Prop} (hgd : o.guard = none) (s x : Operand) (t : TypeId) (ho : o.op = .call { callee := .builtin .append, args := #[s, x], argTypes := #[t, t] })
    {e : TypeId} {z : Value} {size bytes : Nat} (ht : P.underlying t = some (.slice e)) (hi : (P.info? e).map (fun i => (i.zero, i.size, i.bytes)) = some (some z, size, bytes)) (hzs : z.cells.size = size) (hsz : 0 < size)
    (h : Own w0 D w L) (i : Nat) {v : Value} {n : Nat} {xs : List Value} (hL : L[i]? = some (rowR v e size n xs)) (hs : a.eval s = v) (j : Nat) {b : Nat} (m c : Nat) (news : List Value) {t' : TypeId} (hb : L[j]? = some (blkR b (.cells news.toArray t'))) (hx : a.eval x = .slice (some ⟨b, 0, none⟩) m c)
    (hl : news.length = m * size) (h1 : ∀ u ∈ news, u.oneCell' = true) (h63 : n + m ≤ maxLen) (hbytes : (n + m) * bytes ≤ 140737488355328)
    (hk : ∀ v' w', Own w0 D w' (L.set i (rowR v' e size (n + m) (xs ++ news))) → wpList P ops Q rest (a.put o.dst v') w') : wpList P ops Q (o :: rest) a w := by
  obtain ⟨i0, hi, hz0, hz1, hz2⟩ := info_parts hi
  refine wpList_app hgd s x t ho ht hi hz0 hz1 hz2 hzs hsz hs (h.row i hL) news hx hl (news_o (h.blk j hb)) h1 h63 hbytes (Nat.zero_le _) fun v' w' hown hu hnear => hk v' w' (h.rowTo i hL hown hu fun g hg => ?_)
  rcases hnear with h2 | h2 | ⟨g2, h2, h3⟩
  · rw [h2] at hg; cases hg
  · exact .inl (h2 ▸ hg)
  · rw [h2] at hg; cases hg; exact .inr h3

end Go.Proofs.YtockaipodnapjaaGreatDoor
