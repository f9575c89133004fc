/- Calls that change what is owned, and drawn regions of such calls. No program in sight. -/
import Derived.Test.YtockaipodnapjaaGreatDoorOwn
import Derived.Test.YtockaipodnapjaaGreatDoorVal
import Derived.Test.YtockaipodnapjaaGreatDoorApp
namespace Go.Proofs.YtockaipodnapjaaGreatDoor
open Go.RowKit
set_option linter.unusedVariables false
set_option maxRecDepth 100000
def OPost (w0 : World) (D : Nat → Prop) (L : List Res) (v : Value) (w : World) (e : Ending) (w' : World) : Prop := e = .returned v ∧ Own w0 D w' L ∧ w.heap.size ≤ w'.heap.size
section
variable {P : Program} {f : FuncId} {args : Array Value} {w0 w : World} {D : Nat → Prop} {v : Value} {L : List Res}
theorem o_still (h : Own w0 D w L) (hc : Calls P f args w fun e w' => e = .returned v ∧ Below w.heap.size w w') : Calls P f args w (OPost w0 D L v w) :=
  hc.mono fun e w' ⟨he, hb⟩ => ⟨he, h.stay hb, hb.size⟩
theorem o_step {i : Nat} {R R' : Res} (h : Own w0 D w L) (hi : L[i]? = some R)
    (hc : ∀ F, R.P w F → Calls P f args w fun e w' => e = .returned v ∧ ∃ F', R'.P w' F' ∧ (∀ b, F' b → F b ∨ w.heap.size ≤ b) ∧ Upd F w w') : Calls P f args w (OPost w0 D (L.set i R') v w) := by
  obtain ⟨F, h1, _, h3⟩ := h.step hi
  exact (hc F h1).mono fun e w' ⟨he, F', hR, hF, hu⟩ => ⟨he, h3 hR hF hu, hu.size⟩
theorem o_one {i : Nat} {R R' : Res} (h : Own w0 D w L) (hi : L[i]? = some R)
    (hc : ∀ D, Own w D w [R] → Calls P f args w (OPost w D [R'] v w)) : Calls P f args w (OPost w0 D (L.set i R') v w) :=
  o_step h hi fun F hF => (hc F (Own.one hF)).mono fun e w' ⟨he, ho, _⟩ => by
    obtain ⟨F', h1, h2, _⟩ := ho.step (i := 0) rfl
    exact ⟨he, F', h1, h2, ho.upd⟩
end
theorem news_o {w : World} {b : Nat} {l : List Value} {t : TypeId} (h : w.heap[b]? = some (.cells l.toArray t)) : ∀ j u, l[j]? = some u → w.cell? ((⟨b, 0, none⟩ : Addr).add j) = some u := by
  intro j u hj
  have ea : (⟨b, 0, none⟩ : Addr).add j = ⟨b, j, none⟩ := by
    unfold Addr.add
    split
    · rename_i h; have : j = 0 := by simpa using h
      subst this; rfl
    · simp
  rw [ea]
  simp [World.cell?, h, hj]
theorem wpList_appO {P : Program} {ops : Array Oper} {rest : List Oper} {o : Oper} {a : Act} {w0 w : World} {D : Nat → Prop} {L : List Res} {Q : Exit → Act → World → Prop} (hgd : o.guard = none) (s x : Operand) (t : TypeId) (ho : o.op = .call { callee := .builtin .append, args := #[s, x], argTypes := #[t, t] })
    {e : TypeId} {z : Value} {size bytes : Nat} (ht : P.underlying t = some (.slice e)) (hi : (P.info? e).map (fun i => (i.zero, i.size, i.bytes)) = some (some z, size, bytes)) (hzs : z.cells.size = size) (hsz : 0 < size)
    (h : Own w0 D w L) (i : Nat) {v : Value} {n : Nat} {xs : List Value} (hL : L[i]? = some (rowR v e size n xs)) (hs : a.eval s = v) (j : Nat) {b : Nat} (m c : Nat) (news : List Value) {t' : TypeId} (hb : L[j]? = some (blkR b (.cells news.toArray t'))) (hx : a.eval x = .slice (some ⟨b, 0, none⟩) m c)
    (hl : news.length = m * size) (h1 : ∀ u ∈ news, u.oneCell' = true) (h63 : n + m ≤ maxLen) (hbytes : (n + m) * bytes ≤ 140737488355328)
    (hk : ∀ v' w', Own w0 D w' (L.set i (rowR v' e size (n + m) (xs ++ news))) → wpList P ops Q rest (a.put o.dst v') w') : wpList P ops Q (o :: rest) a w := by
  obtain ⟨i0, hi, hz0, hz1, hz2⟩ := info_parts hi
  refine wpList_app hgd s x t ho ht hi hz0 hz1 hz2 hzs hsz hs (h.row i hL) news hx hl (news_o (h.blk j hb)) h1 h63 hbytes (Nat.zero_le _) fun v' w' hown hu hnear => hk v' w' (h.rowTo i hL hown hu fun g hg => ?_)
  rcases hnear with h2 | h2 | ⟨g2, h2, h3⟩
  · rw [h2] at hg; cases hg
  · exact .inl (h2 ▸ hg)
  · rw [h2] at hg; cases hg; exact .inr h3
end Go.Proofs.YtockaipodnapjaaGreatDoor
