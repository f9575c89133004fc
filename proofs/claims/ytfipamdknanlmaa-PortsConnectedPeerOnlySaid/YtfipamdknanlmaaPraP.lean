/- The plain law of PortsReleaseAll. -/
import Derived.Test.YtfipamdknanlmaaPbuP
import Derived.Test.YtfipamdknanlmaaPdo
namespace Go.Proofs.Ytfipamdknanlmaa
open Go.RowKit Go.Sort
set_option linter.unusedVariables false

/-- The entries of the socket k have port 7, and no others have. -/
structure RA (k : Int) (B : List (Bk × Int)) (J : List (Ck × Int)) : Prop where
  nB : (keys B).Nodup
  nJ : (keys J).Nodup
  b7 : ∀ x ∈ B, x.2 = k ↔ x.1.po = 7
  j7 : ∀ x ∈ J, x.2 = k ↔ x.1.po = 7
  bs : ∀ x ∈ B, x.2 < 6
  js : ∀ x ∈ J, x.2 < 6
theorem RA.nil (k : Int) : RA k [] [] := ⟨by simp [keys], by simp [keys], (fun x h => by cases h), (fun x h => by cases h), (fun x h => by cases h), (fun x h => by cases h)⟩
theorem look_rel_same {κ : Type} [DecidableEq κ] {x : κ} {k : Int} {m : List (κ × Int)} (hn : (keys m).Nodup) (h : ∀ y ∈ m, y.1 = x → y.2 ≠ k) : look x (rel k m) = look x m := by
  rw [look_rel hn]
  cases hl : look x m with
  | none => rfl
  | some t => rw [Option.bind_some, if_neg (h _ (look_mem hl) rfl)]
theorem RA.lookB {k : Int} {B : List (Bk × Int)} {J : List (Ck × Int)} (h : RA k B J) {x : Bk} (hx : x.po ≠ 7) : look x (rel k B) = look x B :=
  look_rel_same h.nB fun y hy e hk => hx (by rw [← e]; exact (h.b7 y hy).1 hk)
theorem RA.lookJ {k : Int} {B : List (Bk × Int)} {J : List (Ck × Int)} (h : RA k B J) {x : Ck} (hx : x.po ≠ 7) : look x (rel k J) = look x J :=
  look_rel_same h.nJ fun y hy e hk => hx (by rw [← e]; exact (h.j7 y hy).1 hk)
theorem rel_len {κ : Type} (k : Int) (m : List (κ × Int)) : (rel k m).length ≤ m.length := List.length_filter_le _ _
theorem rel_app_ne {κ : Type} [DecidableEq κ] {k s : Int} (m : List (κ × Int)) (x : κ) (h : s ≠ k) : rel k (m ++ [(x, s)]) = rel k m ++ [(x, s)] := by simp [rel, List.filter_append, h]
theorem rel_app_eq {κ : Type} [DecidableEq κ] {k : Int} (m : List (κ × Int)) (x : κ) : rel k (m ++ [(x, k)]) = rel k m := by simp [rel, List.filter_append]
theorem RA.addB {k s : Int} {B : List (Bk × Int)} {J : List (Ck × Int)} (h : RA k B J) {x : Bk} (hx : (look x B).isSome = false) (h7 : s = k ↔ x.po = 7) (hs : s < 6) : RA k (B ++ [(x, s)]) J :=
  ⟨keys_app h.nB (look_none.1 (by simpa using hx)), h.nJ, fun y hy => by
    rcases List.mem_append.1 hy with hy | hy
    · exact h.b7 y hy
    · simp only [List.mem_singleton] at hy; subst hy; exact h7, h.j7, fun y hy => by
    rcases List.mem_append.1 hy with hy | hy
    · exact h.bs y hy
    · simp only [List.mem_singleton] at hy; subst hy; exact hs, h.js⟩
theorem RA.addJ {k s : Int} {B : List (Bk × Int)} {J : List (Ck × Int)} (h : RA k B J) {x : Ck} (hx : (look x J).isSome = false) (h7 : s = k ↔ x.po = 7) (hs : s < 6) : RA k B (J ++ [(x, s)]) :=
  ⟨h.nB, keys_app h.nJ (look_none.1 (by simpa using hx)), h.b7, fun y hy => by
    rcases List.mem_append.1 hy with hy | hy
    · exact h.j7 y hy
    · simp only [List.mem_singleton] at hy; subst hy; exact h7, h.bs, fun y hy => by
    rcases List.mem_append.1 hy with hy | hy
    · exact h.js y hy
    · simp only [List.mem_singleton] at hy; subst hy; exact hs⟩
theorem bindE_zero {st : PSt} {pr po s : Int} (h : bindE st pr po s = 0) : (look ⟨pr, po⟩ st.B).isSome = false := by
  unfold bindE at h
  split at h
  · split at h
    · simp at h
    · rename_i hx; simp only [Bool.or_eq_true, not_or, Bool.not_eq_true] at hx; exact hx.1
  · simp at h
theorem connE_zero {st : PSt} {s po th tp : Int} (h : connE st s po th tp = 0) : (look ⟨po, th, tp⟩ st.J).isSome = false := by
  unfold connE at h
  split at h
  · split at h
    · simp at h
    · rename_i hx; simpa using hx
  · simp at h
def RAStep (k : Int) (B : List (Bk × Int)) (J : List (Ck × Int)) (st' : PSt) (B' : List (Bk × Int)) (J' : List (Ck × Int)) : Prop := st' = ⟨0, 0, B', J'⟩ ∧ RA k B' J' ∧ B'.length ≤ B.length + 1 ∧ J'.length ≤ J.length + 1
theorem ra_bind {k : Int} {B : List (Bk × Int)} {J : List (Ck × Int)} (h : RA k B J) (hk : k < 6) (pr : Int) : ∃ B', RAStep k B J (bindS ⟨0, 0, B, J⟩ pr 7 k) B' J ∧ rel k B' = rel k B := by
  unfold bindS
  split
  · rename_i he
    exact ⟨B ++ [(⟨pr, 7⟩, k)], ⟨rfl, h.addB (bindE_zero he) (by simp) hk, by simp, by omega⟩, rel_app_eq _ _⟩
  · exact ⟨B, ⟨rfl, h, by omega, by omega⟩, rfl⟩
theorem ra_conn {k : Int} {B : List (Bk × Int)} {J : List (Ck × Int)} (h : RA k B J) (hk : k < 6) (th tp : Int) : ∃ J', RAStep k B J (connS ⟨0, 0, B, J⟩ k 7 th tp) B J' ∧ rel k J' = rel k J := by
  unfold connS
  split
  · rename_i he
    exact ⟨J ++ [(⟨7, th, tp⟩, k)], ⟨rfl, h.addJ (connE_zero he) (by simp) hk, by omega, by simp⟩, rel_app_eq _ _⟩
  · exact ⟨J, ⟨rfl, h, by omega, by omega⟩, rfl⟩
theorem ra_do {k : Int} {B : List (Bk × Int)} {J : List (Ck × Int)} (h : RA k B J) {c : Cl} (hk : c.so ≠ k) (h7 : c.po ≠ 7) (hs : c.so < 6) :
    ∃ e B' J', doE ⟨0, 0, B, J⟩ c = e ∧ doE ⟨0, 0, rel k B, rel k J⟩ c = e ∧ RAStep k B J (doS ⟨0, 0, B, J⟩ c) B' J' ∧ doS ⟨0, 0, rel k B, rel k J⟩ c = ⟨0, 0, rel k B', rel k J'⟩ := by
  have eJ : connE ⟨0, 0, rel k B, rel k J⟩ c.so c.po c.th c.ot = connE ⟨0, 0, B, J⟩ c.so c.po c.th c.ot := by
    unfold connE; rw [show (⟨0, 0, rel k B, rel k J⟩ : PSt).J = rel k J from rfl, h.lookJ (x := ⟨c.po, c.th, c.ot⟩) h7]
  have eB : bindE ⟨0, 0, rel k B, rel k J⟩ (protoF c) c.po c.so = bindE ⟨0, 0, B, J⟩ (protoF c) c.po c.so := by
    unfold bindE bindOf
    rw [show (⟨0, 0, rel k B, rel k J⟩ : PSt).B = rel k B from rfl, h.lookB (x := ⟨protoF c, c.po⟩) h7, held_rel, if_neg hk]
  unfold doE doS
  by_cases h2 : c.kd % 5 = 2
  · simp only [if_pos h2]
    refine ⟨_, B, (if connE ⟨0, 0, B, J⟩ c.so c.po c.th c.ot = 0 then J ++ [(⟨c.po, c.th, c.ot⟩, c.so)] else J), rfl, eJ, ?_⟩
    · unfold connS
      rw [eJ]
      split
      · rename_i he
        exact ⟨⟨rfl, h.addJ (connE_zero he) (by simp [hk, h7]) hs, by omega, by simp⟩, by simp only [rel_app_ne J _ hk]; rfl⟩
      · exact ⟨⟨rfl, h, by omega, by omega⟩, rfl⟩
  · simp only [if_neg h2]
    refine ⟨_, (if bindE ⟨0, 0, B, J⟩ (protoF c) c.po c.so = 0 then B ++ [(⟨protoF c, c.po⟩, c.so)] else B), J, rfl, eB, ?_⟩
    · unfold bindS
      rw [eB]
      split
      · rename_i he
        exact ⟨⟨rfl, h.addB (bindE_zero he) (by simp [hk, h7]) hs, by simp, by omega⟩, by simp only [rel_app_ne B _ hk]; rfl⟩
      · exact ⟨⟨rfl, h, by omega, by omega⟩, rfl⟩
theorem rel_no7 {k : Int} {B : List (Bk × Int)} {J : List (Ck × Int)} (h : RA k B J) {x : Bk} (hx : x.po = 7) : look x (rel k B) = none := by
  rw [look_rel h.nB]
  cases hl : look x B with
  | none => rfl
  | some t => rw [Option.bind_some, if_pos ((h.b7 _ (look_mem hl)).2 hx)]
theorem rel_no7J {k : Int} {B : List (Bk × Int)} {J : List (Ck × Int)} (h : RA k B J) {x : Ck} (hx : x.po = 7) : look x (rel k J) = none := by
  rw [look_rel h.nJ]
  cases hl : look x J with
  | none => rfl
  | some t => rw [Option.bind_some, if_pos ((h.j7 _ (look_mem hl)).2 hx)]
theorem ra_look {k : Int} {B : List (Bk × Int)} {J : List (Ck × Int)} (h : RA k B J) (n th tp : Int) : ∃ a b, lookF ⟨0, 0, rel k B, rel k J⟩ 6 n th tp = (a, b) ∧ (n = 7 → b = false) := by
  refine ⟨_, _, rfl, fun e => ?_⟩
  subst e
  simp only [if_pos, rel_no7J h (x := ⟨7, th, tp⟩) rfl, rel_no7 h (x := ⟨6, 7⟩) rfl]
theorem ra_end1 {k : Int} {B : List (Bk × Int)} {J : List (Ck × Int)} (h : RA k B J) : bindE ⟨0, 0, rel k B, rel k J⟩ 6 7 99 = 0 ∧ bindS ⟨0, 0, rel k B, rel k J⟩ 6 7 99 = ⟨0, 0, rel k B ++ [(⟨6, 7⟩, 99)], rel k J⟩ := by
  have e : heldOf (rel k B) 99 = [] := by
    unfold heldOf
    rw [List.map_eq_nil_iff, List.filter_eq_nil_iff]
    intro y hy
    have := h.bs y (List.mem_filter.1 hy).1
    simp; omega
  have e0 : bindE ⟨0, 0, rel k B, rel k J⟩ 6 7 99 = 0 := by
    unfold bindE bindOf
    simp only [rel_no7 h (x := ⟨6, 7⟩) rfl, e]
    decide
  exact ⟨e0, by unfold bindS; rw [if_pos e0]; rfl⟩
theorem ra_end2 {k : Int} {B B2 : List (Bk × Int)} {J : List (Ck × Int)} (h : RA k B J) : connE ⟨0, 0, B2, rel k J⟩ 98 7 100 900 = 0 := by
  unfold connE
  simp only [rel_no7J h (x := ⟨7, 100, 900⟩) rfl]
  decide
theorem tabP_ne7 (i : Int) : tabP i ≠ 7 := by
  unfold tabP
  obtain ⟨n, hn⟩ : ∃ n, i.toNat = n := ⟨_, rfl⟩
  rw [hn]
  rcases Nat.lt_or_ge n 8 with h | h
  · obtain rfl | rfl | rfl | rfl | rfl | rfl | rfl | rfl : n = 0 ∨ n = 1 ∨ n = 2 ∨ n = 3 ∨ n = 4 ∨ n = 5 ∨ n = 6 ∨ n = 7 := by omega
    all_goals decide
  · rw [List.getD_eq_getElem?_getD, List.getElem?_eq_none (by simpa using h)]; decide

end Go.Proofs.Ytfipamdknanlmaa
