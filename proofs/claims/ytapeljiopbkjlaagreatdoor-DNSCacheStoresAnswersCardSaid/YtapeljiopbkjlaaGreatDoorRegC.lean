/- An operation of the chain that only hands on a known value. No program in sight. -/
import Derived.Test.YtapeljiopbkjlaaGreatDoorOwnH
namespace Go.Proofs.YtapeljiopbkjlaaGreatDoor
open Go.RowKit
set_option linter.unusedVariables false
set_option maxRecDepth 100000
section
variable {Γ : Ghost} {P : Program} {ops : Array Oper} {chain : List Nat} {a0 : Act} {F : List GPred → Prop} {i : Nat} {o : Oper} {rest : List Oper} {a : Act} {ex : List (Tmp × GPred)}
theorem wpH_isC (k : Nat) (hp : gplainOp ops i o ex = true) (hc : chainIx chain i = some k) (hw : Region.wanted o (yielded ops a.tmps) = true) (v : Value) (hrun : ∀ w, (execOp a.eval o).run P w = .ok (.value v) w)
    (hmv : ∀ vs w, Γ.inv vs w → vs.length = k → Γ.mv vs w v w) (hrest : wpH Γ P ops chain a0 F (i + 1) rest (a.put o.dst v) ex) : wpH Γ P ops chain a0 F i (o :: rest) a ex := by
  intro G hG hl hd hrep
  obtain ⟨d, hod, hdi, hds, huniq, hgo⟩ := wpH_next (Γ := Γ) (P := P) (chain := chain) (F := F) hG hl hd
  have hex := gplain_ex hp hod
  refine ⟨fun u _ => u = v, glasts_const Γ v, ?_, hgo _ _ _ (hrep.next hG hdi hds huniq hex (fun u g _ h => h)) (by rw [hod] at hrest; exact hrest)⟩
  rw [hG]
  intro a' g hg _ he
  rw [hc]
  simp only
  intro hk
  have hlook := gplain_look hrep hG hp hg he
  have hsel : noSel o = true := by simp only [gplainOp, Bool.and_eq_true] at hp; exact hp.1.1.2
  rw [wanted_same hlook (glook_guard hp), hw, if_pos rfl]
  unfold Oper.wp
  rw [look_exec hlook hsel, hrun g.w]
  exact ⟨_, rfl, hmv g.vs g.w hg hk, rfl⟩
end
theorem ghO_same {D : Nat → Prop} {w0 w : World} {vs : List Value} {v : Value} {Ls : List (List Res)} {L : List Res} (k : Nat) (h : (ghO w0 D Ls).inv vs w) (hk : vs.length = k) (hL : Ls[k]? = some L) (hL' : Ls[k + 1]? = some L) : (ghO w0 D Ls).mv vs w v w :=
  ghO_mv k hk hL' (ghO_at h k hk hL) (Nat.le_refl _)

end Go.Proofs.YtapeljiopbkjlaaGreatDoor
