/- Steps of drawn regions for an operation whose run is known outright. No program in sight. -/
import Derived.Test.YthdnonoheochhaaGreatDoorRegion2
import Derived.Test.YthdnonoheochhaaGreatDoorRegH
namespace Go.Proofs.YthdnonoheochhaaGreatDoor
open Go.RowKit Go.Sort
section
variable {P : Program} {ops : Array Oper} {w0 : World} {a0 : Act} {F : List Pred → Prop} {i : Nat} {o : Oper} {rest : List Oper} {a : Act} {ex : List (Tmp × Pred)}
theorem wpR_val (hp : plainOp ops i o ex = true) (hw : Region.wanted o (yielded ops a.tmps) = true) (v : Value) (hrun : ∀ w, Below w0.heap.size w0 w → ∃ w', (execOp a.eval o).run P w = .ok (.value v) w' ∧ Below w.heap.size w w')
    (hrest : wpR P ops w0 a0 F (i + 1) rest (a.put o.dst v) ex) : wpR P ops w0 a0 F i (o :: rest) a ex := by
  intro G hG hl hd hrep
  have ho : ops[i]? = some o := by simpa using (hl 0 (by simp)).symm
  obtain ⟨d, hdi, hds, huniq⟩ := hd i (by simp)
  have hod : o.dst = some d := by simpa [dstOf, ho] using hdi
  have hex : d ∉ ex.map (·.1) := by
    simp only [plainOp, Bool.and_eq_true] at hp
    have := hp.2
    rw [hod] at this
    simpa using this
  refine ⟨fun u _ => u = v, fun _ _ _ h _ => h, fun a' w hw0 _ he => ?_, ?_⟩
  · rw [hG] at he
    have hlook := plain_look hrep hG hp he
    have hsel : noSel o = true := by simp only [plainOp, Bool.and_eq_true] at hp; exact hp.1.1.2
    rw [wanted_same hlook (look_guard hp), hw, if_pos rfl]
    unfold Oper.wp
    obtain ⟨w', hr, hb⟩ := hrun w hw0
    rw [look_exec hlook hsel, hr]
    exact ⟨_, rfl, hb, rfl⟩
  · exact hrest (G ++ [fun u _ => u = v]) (by simp [hG]) (fun j hj => by have := hl (j + 1) (by simp; omega); simpa [Nat.add_assoc, Nat.add_comm 1 j] using this)
      (fun j hj => by
        obtain ⟨d', h1, h2, h3⟩ := hd j (by simp; omega)
        exact ⟨d', h1, h2, fun k hk => h3 k (by simp; omega)⟩)
      (by rw [hod]; exact hrep.next hG hdi hds (fun k hk => huniq k (by simp; omega) (by omega)) hex (fun u w h => h))
theorem wpR_is (hp : plainOp ops i o ex = true) (hw : Region.wanted o (yielded ops a.tmps) = true) (v : Value) (hrun : ∀ w, Below w0.heap.size w0 w → (execOp a.eval o).run P w = .ok (.value v) w)
    (hrest : wpR P ops w0 a0 F (i + 1) rest (a.put o.dst v) ex) : wpR P ops w0 a0 F i (o :: rest) a ex :=
  wpR_val hp hw v (fun w h => ⟨w, hrun w h, Below.refl _ _⟩) hrest
end
section
variable {Γ : Ghost} {P : Program} {ops : Array Oper} {chain : List Nat} {a0 : Act} {F : List GPred → Prop} {i : Nat} {o : Oper} {rest : List Oper} {a : Act} {ex : List (Tmp × GPred)}
end
end Go.Proofs.YthdnonoheochhaaGreatDoor
