/- Steps of a drawn region under a guard: an operation with a property of its value, or with a known value, behind a guard that is known. -/
import Derived.Test.YtockaipodnapjaaGreatDoorRegion2
namespace Go.Proofs.YtockaipodnapjaaGreatDoor
open Go.RowKit Go.Sort
set_option linter.unusedVariables false
set_option maxRecDepth 100000

def guardPlain (ops : Array Oper) (o : Oper) (ex : List (Tmp × Pred)) : Bool := match o.guard with
  | some (g, _) => (match dstOf ops g with | some s => !(ex.map (·.1)).contains s | none => false)
  | none => true
def exOpG (ops : Array Oper) (i : Nat) (o : Oper) (ex : List (Tmp × Pred)) : Bool :=
  lexOp ops i o && guardPlain ops o ex && (match o.dst with | some d => !(ex.map (·.1)).contains d | none => false) && ((o.looksAt ops).all fun s => !(ex.map (·.1)).contains s || (lastW ops i s).isSome)

section
variable {P : Program} {ops : Array Oper} {w0 : World} {a0 : Act} {F : List Pred → Prop} {i : Nat} {o : Oper} {rest : List Oper} {a : Act} {ex : List (Tmp × Pred)}
theorem wanted_g {G : List Pred} (hrep : Rep ops a0 G a ex) (hi : G.length = i) (hl : ∀ s ∈ o.looksAt ops, lexAt ops i s = true) (hg : guardPlain ops o ex = true) {a' : Act} {w : World} (he : envAll ops a0 G i a' w (o.looksAt ops)) :
    Region.wanted o (yielded ops a'.tmps) = Region.wanted o (yielded ops a.tmps) := by
  unfold Region.wanted
  unfold guardPlain at hg
  cases hgd : o.guard with
  | none => rfl
  | some gb =>
    obtain ⟨g, b⟩ := gb
    rw [hgd] at hg
    simp only at hg
    cases hs : dstOf ops g with
    | none => rw [hs] at hg; cases hg
    | some s =>
      rw [hs] at hg
      have hmem : s ∈ o.looksAt ops := by
        unfold Oper.looksAt
        rw [hgd]
        have hb : (ops[g]?).bind (·.dst) = some s := hs
        simp [hb]
      have h1 := (hrep.look hi (hl s hmem) (env_mem _ he s hmem)).1 (by simpa using hg)
      have := yielded_eval (ops := ops) (tmps := a'.tmps) (tmps' := a.tmps) (d := []) hs h1
      simp only [this]

theorem wpR_exG (A : Pred) (hA : Lasts A) (hp : exOpG ops i o ex = true) (hw : Region.wanted o (yielded ops a.tmps) = true)
    (hstep : ∀ a' w, Below w0.heap.size w0 w → exEnv ex a a' w (o.looksAt ops) → o.wp P a' w (fun a'' w' => ∃ v, a'' = a'.put o.dst v ∧ Below w.heap.size w w' ∧ A v w') (fun _ _ _ => False))
    (hrest : ∀ d, o.dst = some d → wpR P ops w0 a0 F (i + 1) rest a (ex ++ [(d, A)])) : wpR P ops w0 a0 F i (o :: rest) a ex := by
  intro G hG hl hd hrep
  have ho : ops[i]? = some o := by simpa using (hl 0 (by simp)).symm
  obtain ⟨d, hdi, hds, huniq⟩ := hd i (by simp)
  have hod : o.dst = some d := by simpa [dstOf, ho] using hdi
  simp only [exOpG, lexOp, Bool.and_eq_true, List.all_eq_true, Bool.or_eq_true, Bool.not_eq_true'] at hp
  obtain ⟨⟨⟨hp1, hp2⟩, hp3⟩, hp4⟩ := hp
  have hex : d ∉ ex.map (·.1) := by
    rw [hod] at hp3
    simpa using hp3
  refine ⟨A, hA, fun a' w hw0 _ he => ?_, ?_⟩
  · rw [hG] at he
    have henv := exEnv_of hrep hG (o.looksAt ops) hp1 (fun s hs hm => by
      rcases hp4 s hs with h | h
      · have : (ex.map (·.1)).contains s = true := by simpa using hm
        rw [this] at h; cases h
      · exact h) he
    rw [wanted_g hrep hG hp1 hp2 he, hw, if_pos rfl]
    exact hstep a' w hw0 henv
  · exact hrest d hod (G ++ [A]) (by simp [hG]) (fun j hj => by have := hl (j + 1) (by simp; omega); simpa [Nat.add_assoc, Nat.add_comm 1 j] using this)
      (fun j hj => by
        obtain ⟨d', h1, h2, h3⟩ := hd j (by simp; omega)
        exact ⟨d', h1, h2, fun k hk => h3 k (by simp; omega)⟩)
      (hrep.nextEx hG hdi (fun k hk => huniq k (by simp; omega) (by omega)) hex)

theorem wpR_knownG (v : Value) (hp : exOpG ops i o ex = true) (hw : Region.wanted o (yielded ops a.tmps) = true)
    (hstep : ∀ a' w, Below w0.heap.size w0 w → exEnv ex a a' w (o.looksAt ops) → o.wp P a' w (fun a'' w' => a'' = a'.put o.dst v ∧ Below w.heap.size w w') (fun _ _ _ => False))
    (hrest : wpR P ops w0 a0 F (i + 1) rest (a.put o.dst v) ex) : wpR P ops w0 a0 F i (o :: rest) a ex := by
  intro G hG hl hd hrep
  have ho : ops[i]? = some o := by simpa using (hl 0 (by simp)).symm
  obtain ⟨d, hdi, hds, huniq⟩ := hd i (by simp)
  have hod : o.dst = some d := by simpa [dstOf, ho] using hdi
  simp only [exOpG, lexOp, Bool.and_eq_true, List.all_eq_true, Bool.or_eq_true, Bool.not_eq_true'] at hp
  obtain ⟨⟨⟨hp1, hp2⟩, hp3⟩, hp4⟩ := hp
  have hex : d ∉ ex.map (·.1) := by
    rw [hod] at hp3
    simpa using hp3
  refine ⟨fun u _ => u = v, fun _ _ _ h _ => h, fun a' w hw0 _ he => ?_, ?_⟩
  · rw [hG] at he
    have henv := exEnv_of hrep hG (o.looksAt ops) hp1 (fun s hs hm => by
      rcases hp4 s hs with h | h
      · have : (ex.map (·.1)).contains s = true := by simpa using hm
        rw [this] at h; cases h
      · exact h) he
    rw [wanted_g hrep hG hp1 hp2 he, hw, if_pos rfl]
    exact upon_mono (fun a'' w' h => ⟨v, h.1, h.2, rfl⟩) (fun _ _ _ h => h) (hstep a' w hw0 henv)
  · exact hrest (G ++ [fun u _ => u = v]) (by simp [hG]) (fun j hj => by have := hl (j + 1) (by simp; omega); simpa [Nat.add_assoc, Nat.add_comm 1 j] using this)
      (fun j hj => by
        obtain ⟨d', h1, h2, h3⟩ := hd j (by simp; omega)
        exact ⟨d', h1, h2, fun k hk => h3 k (by simp; omega)⟩)
      (by rw [hod]; exact hrep.next hG hdi hds (fun k hk => huniq k (by simp; omega) (by omega)) hex (fun u w h => h))
end
end Go.Proofs.YtockaipodnapjaaGreatDoor
