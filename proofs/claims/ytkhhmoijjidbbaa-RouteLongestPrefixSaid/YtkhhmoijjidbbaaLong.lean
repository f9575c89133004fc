/- The law RouteLongestPrefix: the plain part. -/
import Derived.Test.YtkhhmoijjidbbaaPlainB
namespace Go.Proofs.Ytkhhmoijjidbbaa
open Go.RowKit Go.Sort

def mxF (x y : Int) : Int := max x y
theorem run_mx (x y : Int) (w : World) : (Builtin.max_ #[3, 3] 3 #[.int .i64 x, .int .i64 y]).run Try.prog w = .ok (.int .i64 (mxF x y)) w := by
  have e : mxF x y = if x < y then y else x := by unfold mxF; split <;> omega
  rw [e]
  by_cases h : x < y
  · simp [h, Builtin.max_, Builtin.max2, go_sem]
  · simp [h, Builtin.max_, Builtin.max2, go_sem]

/-- B is the longest prefix among the first k candidates; -1 if there is none. -/
def Top (fs : List If) (rs : List Rt) (a : Int) (k : Nat) (B : Int) : Prop :=
  -1 ≤ B ∧ B ≤ 32 ∧ (∀ j, j < k → isCand fs rs a j = true → netB fs rs j ≤ B) ∧ (B = -1 ∨ ∃ j, j < k ∧ isCand fs rs a j = true ∧ netB fs rs j = B)

theorem con_b32 {a b x : Int} (h : conB a b x = true) : 0 ≤ b ∧ b ≤ 32 := by
  simp [conB, vpB] at h
  omega

theorem top_zero (fs : List If) (rs : List Rt) (a : Int) : Top fs rs a 0 (-1) := ⟨by omega, by omega, fun j hj => by omega, .inl rfl⟩
theorem top_no {fs : List If} {rs : List Rt} {a : Int} {k : Nat} {B : Int} (h : Top fs rs a k B) (hc : isCand fs rs a k = false) : Top fs rs a (k + 1) B := by
  obtain ⟨h1, h2, h3, h4⟩ := h
  refine ⟨h1, h2, fun j hj hc' => ?_, ?_⟩
  · by_cases e : j = k
    · subst e; rw [hc] at hc'; cases hc'
    · exact h3 j (by omega) hc'
  · rcases h4 with h | ⟨j, hj, h5⟩
    · exact .inl h
    · exact .inr ⟨j, by omega, h5⟩
theorem top_yes {fs : List If} {rs : List Rt} {a : Int} {k : Nat} {B : Int} (h : Top fs rs a k B) (hc : isCand fs rs a k = true) : Top fs rs a (k + 1) (mxF B (netB fs rs k)) := by
  obtain ⟨h1, h2, h3, h4⟩ := h
  have hb := con_b32 hc
  unfold mxF
  refine ⟨by omega, by omega, fun j hj hc' => ?_, ?_⟩
  · by_cases e : j = k
    · subst e; omega
    · have := h3 j (by omega) hc'; omega
  · by_cases hm : B ≤ netB fs rs k
    · exact .inr ⟨k, by omega, hc, by omega⟩
    · rcases h4 with h | ⟨j, hj, h5, h6⟩
      · omega
      · exact .inr ⟨j, by omega, h5, by omega⟩

def okR (r : Rt) (B a face next : Int) : Bool := (r.nb == B) && (conB r.na r.nb a && ((r.face == face) && ((r.via == next) || ((r.via == 0) && (next == a)))))

theorem long_plain (n : Nat) (x : Nat → Fr) (m : Nat) (y : Nat → Rr) (a B : Int) (fs : List If) (hfs : fs = facesF n x) (rs : List Rt) (hrs : rs = routesF fs m y) (hu : 1 ≤ a ∧ a ≤ 4294967294)
    (hT : Top fs rs a (fs.length + rs.length) B) (face next e : Int) (hl : look fs rs a = (face, next, e)) :
    (B < 0 → e = 91) ∧ (0 ≤ B → e = 0 ∧ ∃ k : Nat, face = k ∧ k < fs.length ∧ (next = a ∨ conB (ifAt fs k).na (ifAt fs k).nb next = true) ∧
      (((ifAt fs k).nb = B ∧ next = a ∧ conB (ifAt fs k).na (ifAt fs k).nb a = true) ∨ ∃ j, j < rs.length ∧ okR (rtAt rs j) B a face next = true)) := by
  have hchk : chkB fs rs = true := by subst hfs hrs; exact routes_chk n x m y
  have huni : uniB a = true := by simp [uniB]; omega
  obtain ⟨t1, t2, t3, t4⟩ := hT
  simp only [look, hchk, huni, if_true] at hl
  cases hp : pickOf fs rs a with
  | none =>
    rw [hp] at hl
    simp at hl
    refine ⟨fun _ => hl.2.2.symm, fun h => ?_⟩
    rcases t4 with h' | ⟨j, hj, hc, _⟩
    · omega
    · rw [pickOf_none hp j hj] at hc; cases hc
  | some k =>
    rw [hp] at hl
    simp only at hl
    obtain ⟨p1, p2, p3⟩ := pickOf_some hp
    have hk0 := t3 k p1 p2
    have hkb := con_b32 p2
    have hB : netB fs rs k = B := by
      rcases t4 with h' | ⟨j, hj, hc, hjB⟩
      · omega
      · have := p3 j hj hc
        omega
    refine ⟨fun h => by omega, fun _ => ?_⟩
    by_cases hk : k < fs.length
    · rw [if_pos hk] at hl
      simp only [Prod.mk.injEq] at hl
      obtain ⟨rfl, rfl, rfl⟩ := hl
      simp only [isCand, netA, netB, if_pos hk] at p2 hB
      exact ⟨rfl, k, rfl, hk, .inl rfl, .inl ⟨hB, rfl, p2⟩⟩
    · rw [if_neg hk] at hl
      simp only [Prod.mk.injEq] at hl
      obtain ⟨h1, h2, h3⟩ := hl
      simp only [isCand, netA, netB, if_neg hk] at p2 hB
      have hj : k - fs.length < rs.length := by omega
      have hv : vrB fs (rtAt rs (k - fs.length)) = true := by
        subst hfs hrs
        rw [routes_at _ _ _ _ hj]
        exact mkRoute_valid n x (y _)
      have hj' : ∃ j, j < rs.length ∧ rtAt rs j = rtAt rs (k - fs.length) := ⟨_, hj, rfl⟩
      generalize rtAt rs (k - fs.length) = r at *
      obtain ⟨j, hj1, hj2⟩ := hj'
      simp only [vrB, Bool.and_eq_true, decide_eq_true_eq, Bool.or_eq_true] at hv
      obtain ⟨_, ⟨hf1, hf2⟩, hv3⟩ := hv
      refine ⟨h3.symm, r.face.toNat, by omega, by omega, ?_, .inr ⟨j, hj1, ?_⟩⟩
      · by_cases hz : r.via = 0
        · rw [if_pos hz] at h2; exact .inl h2.symm
        · rw [if_neg hz] at h2
          rcases hv3 with h | ⟨_, _, h⟩
          · exact absurd h hz
          · exact .inr (h2 ▸ h)
      · rw [hj2]
        rw [hB] at p2
        simp only [okR, hB, p2, h1, beq_self_eq_true, Bool.true_and]
        by_cases hz : r.via = 0
        · rw [if_pos hz] at h2; simp [hz, h2.symm]
        · rw [if_neg hz] at h2; simp [h2]

end Go.Proofs.Ytkhhmoijjidbbaa
