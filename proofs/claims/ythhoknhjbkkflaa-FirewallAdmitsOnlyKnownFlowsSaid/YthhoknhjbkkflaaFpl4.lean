/- FirewallAdmitsOnlyKnownFlows without the program: every entry of the table is a flow that has passed, with its time. -/
import Derived.Test.YthhoknhjbkkflaaFpl2
namespace Go.Proofs.Ythhoknhjbkkflaa
open Go.RowKit
set_option linter.unusedVariables false

def ixTo (ky : FK) (fl : List Fl) : Nat → Int
  | 0 => -1
  | j + 1 => match fl[j]? with
    | some x => if keyF x = ky then (j : Int) else ixTo ky fl j
    | none => ixTo ky fl j
theorem ixTo_yes {ky : FK} {fl : List Fl} {j : Nat} {x : Fl} (hx : fl[j]? = some x) (h : keyF x = ky) : ixTo ky fl (j + 1) = j := by simp [ixTo, hx, h]
theorem ixTo_no {ky : FK} {fl : List Fl} {j : Nat} {x : Fl} (hx : fl[j]? = some x) (h : keyF x ≠ ky) : ixTo ky fl (j + 1) = ixTo ky fl j := by simp [ixTo, hx, h]
theorem ixTo_spec (ky : FK) (fl : List Fl) : ∀ n : Nat, (ixTo ky fl n = -1 ∧ ∀ j : Nat, j < n → (fl[j]?).map keyF ≠ some ky) ∨ ∃ j : Nat, j < n ∧ ixTo ky fl n = j ∧ (fl[j]?).map keyF = some ky
  | 0 => .inl ⟨rfl, fun j hj => by omega⟩
  | n + 1 => by
    have ih := ixTo_spec ky fl n
    cases hx : fl[n]? with
    | none =>
      simp only [ixTo, hx]
      rcases ih with ⟨h1, h2⟩ | ⟨j, h0, h1, h2⟩
      · refine .inl ⟨h1, fun j hj => ?_⟩
        by_cases e : j = n
        · rw [e, hx]; simp
        · exact h2 j (by omega)
      · exact .inr ⟨j, by omega, h1, h2⟩
    | some x =>
      simp only [ixTo, hx]
      by_cases hk : keyF x = ky
      · rw [if_pos hk]
        exact .inr ⟨n, by omega, rfl, by rw [hx]; simp [hk]⟩
      · rw [if_neg hk]
        rcases ih with ⟨h1, h2⟩ | ⟨j, h0, h1, h2⟩
        · refine .inl ⟨h1, fun j hj => ?_⟩
          by_cases e : j = n
          · rw [e, hx]; simpa using hk
          · exact h2 j (by omega)
        · exact .inr ⟨j, by omega, h1, h2⟩
structure KnI (rl : List Rl) (fl : List Fl) (la : List Int) (nw : Int) (k : Nat) (st : FSt) : Prop where
  fw : FW nw k st
  rl : st.rl = rl
  len : st.m.length ≤ k
  ll : la.length = fl.length
  fk : fl.length ≤ k
  tm : ∀ x ∈ la, 0 ≤ x ∧ x ≤ nw
  nd : (fl.map keyF).Nodup
  tab : ∀ k u, (k, u) ∈ st.m → ∃ j : Nat, (fl[j]?).map keyF = some k ∧ la[j]? = some u.la
theorem kn_start {rl : List Rl} (hl : rl.length ≤ 1000) : KnI rl [] [] 0 0 ⟨rl, [], 0⟩ :=
  ⟨fw_start hl, rfl, Nat.le_refl _, rfl, Nat.le_refl _, by simp, by simp, by simp⟩
theorem pass_la {st st' : FSt} {now : Int} {x : Fl} {inn : Bool} {T N : Int} (h : FW T N st) (hp : PassR st now x inn true st') {u : Us} (hu : (keyF x, u) ∈ st'.m) : u.la = now := by
  have hn := nodup_exp (now := now) h.nd
  rcases hp with ⟨_, h1, _⟩ | ⟨hv, u', hu', _, rfl⟩ | ⟨_, _, _, h1, _⟩ | ⟨_, h1, _, _, _, rfl⟩ | ⟨hv, hu', _, _, _, m1, hm, rfl⟩
  · cases h1
  · rcases (mem_set hn).1 hu with ⟨_, rfl⟩ | ⟨h2, _⟩
    · rfl
    · exact absurd rfl h2
  · cases h1
  · rw [getU_none] at h1
    exact absurd (List.mem_map_of_mem (f := fun x : FK × Us => x.1) hu) h1
  · obtain ⟨r1, _⟩ := room_facts hm hn (Nat.le_trans (expF_len _ _) h.len)
    rcases (mem_set r1).1 hu with ⟨_, rfl⟩ | ⟨h2, _⟩
    · rfl
    · exact absurd rfl h2
theorem get_uniq {fl : List Fl} (h : (fl.map keyF).Nodup) {i j : Nat} {k : FK} (hi : (fl[i]?).map keyF = some k) (hj : (fl[j]?).map keyF = some k) : i = j := by
  rw [← List.getElem?_map] at hi hj
  obtain ⟨l1, e1⟩ := List.getElem?_eq_some_iff.1 hi
  obtain ⟨l2, e2⟩ := List.getElem?_eq_some_iff.1 hj
  have hp := List.pairwise_iff_getElem.1 h
  rcases Nat.lt_trichotomy i j with h3 | h3 | h3
  · exact absurd (e1.trans e2.symm) (hp i j l1 l2 h3)
  · exact h3
  · exact absurd (e2.trans e1.symm) (hp j i l2 l1 h3)
section
variable {rl : List Rl} {fl : List Fl} {la : List Int} {nw now : Int} {k : Nat} {st st' : FSt} {y : Fl} {inn r : Bool}
theorem kn_in (h : KnI rl fl la nw k st) (hrl : ∀ r ∈ rl, r.inn = true → r.ps = false) (hp : PassR st now y true true st') : ∃ (j : Nat) (l : Int), ixTo (keyF y) fl fl.length = j ∧ j < fl.length ∧ la[j]? = some l ∧ now - l ≤ 400 ∧ l ≤ nw ∧ 0 ≤ l := by
  rcases hp with ⟨_, h1, _⟩ | ⟨hv, u, hu, _, _⟩ | ⟨_, _, _, h1, _⟩ | ⟨_, _, h3, _⟩ | ⟨_, _, h3, _⟩
  · cases h1
  · obtain ⟨hm, ho⟩ := mem_exp.1 (getU_mem hu)
    rw [old_f] at ho
    obtain ⟨j, hj, hl⟩ := h.tab _ _ hm
    have htm := h.tm _ (List.mem_of_getElem? hl)
    rcases ixTo_spec (keyF y) fl fl.length with ⟨_, h2⟩ | ⟨i, h0, h1, h2⟩
    · have : j < fl.length := by
        rcases Nat.lt_or_ge j fl.length with h | h
        · exact h
        · rw [List.getElem?_eq_none h] at hj; cases hj
      exact absurd hj (h2 j this)
    · have e := get_uniq h.nd h2 hj
      subst e
      exact ⟨i, u.la, h1, h0, hl, by omega, htm.2, htm.1⟩
  · cases h1
  · rw [h.rl, admit_in hrl] at h3; cases h3
  · rw [h.rl, admit_in hrl] at h3; cases h3
theorem kn_no (h : KnI rl fl la nw k st) (hT : nw ≤ now) (h0 : 0 ≤ now) (hp : PassR st now y inn false st') : KnI rl fl la now (k + 1) st' := by
  have hst : st' = { st with m := expF now st.m } := by
    rcases hp with ⟨_, _, h3⟩ | ⟨_, _, _, h1, _⟩ | ⟨_, _, _, _, h3⟩ | ⟨_, _, _, h1, _⟩ | ⟨_, _, _, h1, _⟩
    · exact h3
    · cases h1
    · exact h3
    · cases h1
    · cases h1
  obtain ⟨h1, h2⟩ := pass_fw h.fw hT h0 hp
  refine ⟨by simpa using h1, by rw [h2.rl, h.rl], by have := h2.len; have := h.len; omega, h.ll, by have := h.fk; omega, fun x hx => by have := h.tm x hx; omega, h.nd, fun k' u hu => ?_⟩
  rw [hst] at hu
  exact h.tab _ _ (mem_exp.1 hu).1
theorem kn_new (h : KnI rl fl la nw k st) (hT : nw ≤ now) (h0 : 0 ≤ now) (hk : ixTo (keyF y) fl fl.length < 0) (hp : PassR st now y inn true st') : KnI rl (fl ++ [y]) (la ++ [now]) now (k + 1) st' := by
  obtain ⟨h1, h2⟩ := pass_fw h.fw hT h0 hp
  have hno : ∀ j : Nat, j < fl.length → (fl[j]?).map keyF ≠ some (keyF y) := by
    rcases ixTo_spec (keyF y) fl fl.length with ⟨_, h2⟩ | ⟨i, _, h1, _⟩
    · exact h2
    · omega
  have hll := h.ll
  refine ⟨by simpa using h1, by rw [h2.rl, h.rl], by have := h2.len; have := h.len; omega, by simp [hll], by have := h.fk; simp; omega, fun x hx => ?_, ?_, fun k' u hu => ?_⟩
  · rcases List.mem_append.1 hx with hx | hx
    · have := h.tm x hx; omega
    · simp at hx; omega
  · rw [List.map_append, List.nodup_append]
    refine ⟨h.nd, by simp, fun a ha b hb => ?_⟩
    simp at hb
    subst hb
    intro e
    subst e
    obtain ⟨j, hj⟩ := List.mem_iff_getElem?.1 ha
    have hjl := (List.getElem?_eq_some_iff.1 hj).1
    rw [List.getElem?_map] at hj
    exact hno j (by simpa using hjl) hj
  · rcases h2.old _ _ hu with h3 | ⟨h3, h4⟩
    · by_cases e : k' = keyF y
      · subst e
        have := pass_la h.fw hp hu
        exact ⟨fl.length, by simp, by rw [this, ← hll]; simp⟩
      · obtain ⟨j, hj, hl⟩ := h.tab _ _ (mem_exp.1 h3).1
        have hjl : j < fl.length := by
          rcases Nat.lt_or_ge j fl.length with h | h
          · exact h
          · rw [List.getElem?_eq_none h] at hj; cases hj
        exact ⟨j, by rw [List.getElem?_append_left hjl]; exact hj, by rw [List.getElem?_append_left (by omega)]; exact hl⟩
    · subst h3
      exact ⟨fl.length, by simp, by rw [h4, ← hll]; simp⟩
theorem kn_set (h : KnI rl fl la nw k st) (hT : nw ≤ now) (h0 : 0 ≤ now) {j : Nat} (hk : ixTo (keyF y) fl fl.length = j) (hp : PassR st now y inn true st') : KnI rl fl (la.set j now) now (k + 1) st' := by
  obtain ⟨h1, h2⟩ := pass_fw h.fw hT h0 hp
  obtain ⟨hjl, hj⟩ : j < fl.length ∧ (fl[j]?).map keyF = some (keyF y) := by
    rcases ixTo_spec (keyF y) fl fl.length with ⟨h1, _⟩ | ⟨i, h0, h1, h2⟩
    · omega
    · have : i = j := by omega
      subst this; exact ⟨h0, h2⟩
  have hll := h.ll
  refine ⟨by simpa using h1, by rw [h2.rl, h.rl], by have := h2.len; have := h.len; omega, by simpa using hll, by have := h.fk; omega, fun x hx => ?_, h.nd, fun k' u hu => ?_⟩
  · rcases List.mem_or_eq_of_mem_set hx with hx | hx
    · have := h.tm x hx; omega
    · omega
  · by_cases e : k' = keyF y
    · subst e
      have := pass_la h.fw hp hu
      exact ⟨j, hj, by rw [this, List.getElem?_set_self (by omega)]⟩
    · rcases h2.old _ _ hu with h3 | ⟨h3, h4⟩
      · obtain ⟨i, hi, hl⟩ := h.tab _ _ (mem_exp.1 h3).1
        have hij : i ≠ j := fun e2 => by subst e2; rw [hj] at hi; cases hi; exact e rfl
        exact ⟨i, hi, by rw [List.getElem?_set_ne (Ne.symm hij)]; exact hl⟩
      · exact absurd h3 e
end

end Go.Proofs.Ythhoknhjbkkflaa
