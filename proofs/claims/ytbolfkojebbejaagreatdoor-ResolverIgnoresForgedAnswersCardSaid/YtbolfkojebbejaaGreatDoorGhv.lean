/- A drawn region of which one operation is a call that changes what is owned and hands back a value. -/
import Derived.Test.YtbolfkojebbejaaGreatDoorBo
import Derived.Test.YtbolfkojebbejaaGreatDoorRrs
import Derived.Test.YtbolfkojebbejaaGreatDoorBb
set_option linter.unusedVariables false
set_option maxRecDepth 100000
set_option maxHeartbeats 32000000
namespace Go.Proofs.YtbolfkojebbejaaGreatDoor
open Go.RowKit Go.Sort

def ghV (w0 : World) (D : Nat → Prop) (L0 : List Res) (f : Value → List Res) : Ghost where
 inv := fun vs w => (vs = [] ∧ Own w0 D w L0) ∨ ∃ u, vs = [u] ∧ Own w0 D w (f u)
 own := fun _ _ => True
 quiet := fun vs w w' h hb => h.elim (fun ⟨a, b⟩ => .inl ⟨a, b.stay hb⟩) fun ⟨u, a, b⟩ => .inr ⟨u, a, b.stay hb⟩
section
variable {w0 w : World} {D : Nat → Prop} {L0 : List Res} {f : Value → List Res}
theorem ghV_start (h : Own w0 D w L0) : (ghV w0 D L0 f).inv [] w := .inl ⟨rfl, h⟩
theorem ghV_all {P : World → Prop} (h0 : ∀ w, Own w0 D w L0 → P w) (h1 : ∀ u w, Own w0 D w (f u) → P w) : ∀ vs w, (ghV w0 D L0 f).inv vs w → P w := by
 rintro vs w (⟨_, h⟩ | ⟨u, _, h⟩)
 ·
  exact h0 w h
 ·
  exact h1 u w h
theorem ghV_cell (i : Nat) {b : Nat} {c : Array Value} {t : TypeId} (hi : L0[i]? = some (blkR b (.cells c t))) (hf : ∀ u, (f u)[i]? = some (blkR b (.cells c t))) (j : Nat) {u : Value} (hj : c[j]? = some u) (p : (ghV w0 D L0 f).Wd) : p.w.cell? ⟨b, j, none⟩ = some u := by
 rcases p.h with ⟨_, h⟩ | ⟨u, _, h⟩
 ·
  exact h.cell i hi j hj
 ·
  exact h.cell i (hf u) j hj
theorem ghV_at {v : Value} (h : (ghV w0 D L0 f).inv [v] w) : Own w0 D w (f v) := by
 rcases h with ⟨h, _⟩ | ⟨u, h, h2⟩
 ·
  cases h
 ·
  cases h; exact h2
theorem ghV_row {vs : List Value} {u : Value} {E : TypeId} {sz n : Nat} {xs : Value → List Value} (h : (ghV w0 D L0 f).inv vs w) (i : Nat) (hi : ∀ u, (f u)[i]? = some (rowR u E sz n (xs u))) (hu : vs[0]? = some u) : ∃ a c, u = .slice a n c := by
 rcases h with ⟨rfl, _⟩ | ⟨v, rfl, h2⟩
 ·
  cases hu
 ·
  cases hu; exact row_shape (h2.row i (hi u))
theorem ghV_call {P : Program} {fn : FuncId} {args : Array Value} (h : (ghV w0 D L0 f).inv [] w) (hc : ∀ D', Own w D' w L0 → Calls P fn args w (VPost w D' w f)) : Calls P fn args w fun e w' => ∃ u, e = .returned u ∧ (ghV w0 D L0 f).mv [] w u w' := by
 have h0 : Own w0 D w L0 := by
  rcases h with ⟨_, h⟩ | ⟨u, h, _⟩
  ·
   exact h
  ·
   cases h
 obtain ⟨DA, DB, s1, s2, s3, s4, s5, s6⟩ := Own.split (A := []) h0
 refine (hc DB s2).mono ?_
 rintro e w'' ⟨u, rfl, ho, hs⟩
 exact ⟨u, rfl, ⟨.inr ⟨u, rfl, s6 w'' _ ho⟩, hs, fun b _ hn => (hn trivial).elim, fun b _ => .inl trivial⟩⟩
theorem ghO_all {Ls : List (List Res)} {P : World → Prop} (h : ∀ L ∈ Ls, ∀ w, Own w0 D w L → P w) : ∀ vs w, (ghO w0 D Ls).inv vs w → P w := by
 rintro vs w ⟨L, h1, h2⟩
 exact h L (List.mem_of_getElem? h1) w h2
theorem ghO_all2 {LA LB : List Res} {P : World → Prop} (h0 : ∀ w, Own w0 D w LA → P w) (h1 : ∀ w, Own w0 D w LB → P w) : ∀ vs w, (ghO w0 D [LA, LB]).inv vs w → P w := ghO_all fun L hL w h => by
 rcases List.mem_cons.1 hL with rfl | hL
 ·
  exact h0 w h
 ·
  obtain rfl := List.mem_singleton.1 hL
  exact h1 w h
end

section
variable {Γ : Ghost} {P : Program} {ops : Array Oper} {chain : List Nat} {a0 : Act} {F : List GPred → Prop} {i : Nat} {o : Oper} {rest : List Oper} {a : Act} {ex : List (Tmp × GPred)}
theorem wpH_knownG (v : Value) (hp : gexOpG ops i o ex = true) (hc : chainIx chain i = none) (hw : Region.wanted o (yielded ops a.tmps) = true)
  (hstep : ∀ a' g, Γ.inv g.vs g.w → gexEnv ex a a' g (o.looksAt ops) → o.wp P a' g.w (fun a'' w' => a'' = a'.put o.dst v ∧ Below g.w.heap.size g.w w') (fun _ _ _ => False))
  (hrest : wpH Γ P ops chain a0 F (i + 1) rest (a.put o.dst v) ex) : wpH Γ P ops chain a0 F i (o :: rest) a ex := by
 intro G hG hl hd hrep
 obtain ⟨d, hod, hdi, hds, huniq, hgo⟩ := wpH_next (Γ := Γ) (P := P) (chain := chain) (F := F) hG hl hd
 obtain ⟨hp1, hp2, hp3, hp4⟩ := gexOpG_parts hp
 refine ⟨fun u _ => u = v, glasts_const Γ v, ?_, hgo _ _ _ (hrep.next hG hdi hds huniq (hp3 d hod) (fun u g _ h => h)) (by rw [hod] at hrest; exact hrest)⟩
 rw [hG]
 intro a' g hg _ he
 rw [hc]
 simp only
 rw [gexOpG_wanted hrep hG hp hg he, hw, if_pos rfl]
 exact upon_mono (fun a'' w' h => ⟨v, h.1, h.2, rfl⟩) (fun _ _ _ h => h) (hstep a' g hg (gexEnv_of hrep hG hg (o.looksAt ops) hp1 hp4 he))
theorem wpH_chainG (k : Nat) (A : GPred) (hA : Γ.lasts A) (hp : gexOpG ops i o ex = true) (hc : chainIx chain i = some k) (hw : Region.wanted o (yielded ops a.tmps) = true)
  (hstep : ∀ a' g, Γ.inv g.vs g.w → g.vs.length = k → gexEnv ex a a' g (o.looksAt ops) → o.wp P a' g.w (fun a'' w' => ∃ v, a'' = a'.put o.dst v ∧ Γ.mv g.vs g.w v w' ∧ A v ⟨g.vs ++ [v], w'⟩) (fun _ _ _ => False))
  (hrest : ∀ d, o.dst = some d → wpH Γ P ops chain a0 F (i + 1) rest a (ex ++ [(d, A)])) : wpH Γ P ops chain a0 F i (o :: rest) a ex := by
 intro G hG hl hd hrep
 obtain ⟨d, hod, hdi, hds, huniq, hgo⟩ := wpH_next (Γ := Γ) (P := P) (chain := chain) (F := F) hG hl hd
 obtain ⟨hp1, hp2, hp3, hp4⟩ := gexOpG_parts hp
 refine ⟨A, hA, ?_, hgo _ _ _ (hrep.nextEx hG hdi huniq (hp3 d hod)) (hrest d hod)⟩
 rw [hG]
 intro a' g hg _ he
 rw [hc]
 simp only
 intro hk
 rw [gexOpG_wanted hrep hG hp hg he, hw, if_pos rfl]
 exact hstep a' g hg hk (gexEnv_of hrep hG hg (o.looksAt ops) hp1 hp4 he)
end

end Go.Proofs.YtbolfkojebbejaaGreatDoor
