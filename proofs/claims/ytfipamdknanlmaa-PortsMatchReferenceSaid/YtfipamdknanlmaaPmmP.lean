/- The plain law of PortsMatchReference: what the reference answers is what the program answers. -/
import Derived.Test.YtfipamdknanlmaaPraP
import Derived.Test.YtfipamdknanlmaaPrf5
namespace Go.Proofs.Ytfipamdknanlmaa
open Go.RowKit Go.Sort
set_option linter.unusedVariables false

structure PSI (st : PSt) : Prop where
  nB : (keys st.B).Nodup
  nJ : (keys st.J).Nodup
  vB : ∀ x ∈ st.B, vpr x.1.pr = true
  sd : i64B st.seed
  gv : 0 ≤ st.given
theorem psi_new {sd : Int} (h : i64B sd) : PSI ⟨sd, 0, [], []⟩ := ⟨by simp [keys], by simp [keys], (fun x h => by cases h), h, Int.le_refl _⟩

theorem any_key {κ : Type} [DecidableEq κ] (k : κ) : ∀ m : List (κ × Int), (m.any fun x => decide (x.1 = k)) = (look k m).isSome
  | [] => rfl
  | x :: m => by
    simp only [List.any_cons, look, any_key k m]
    by_cases h : k = x.1
    · rw [if_pos h, decide_eq_true h.symm]; rfl
    · rw [if_neg h, decide_eq_false (fun e => h e.symm)]; rfl
theorem any_own {κ : Type} (s : Int) (m : List (κ × Int)) : (m.any fun x => x.2 == s) = decide (heldOf m s ≠ []) := by
  rw [Bool.eq_iff_iff]
  simp only [List.any_eq_true, beq_iff_eq, decide_eq_true_eq, heldOf, ne_eq, List.map_eq_nil_iff, List.filter_eq_nil_iff]
  constructor
  · rintro ⟨x, hx, e⟩ h; exact h x hx e
  · intro h
    exact Decidable.byContradiction fun hn => h fun x hx e => hn ⟨x, hx, e⟩
theorem bk_ext (x : Bk) (a b : Int) : x = ⟨a, b⟩ ↔ x.pr = a ∧ x.po = b := by cases x; simp
theorem ck_ext (x : Ck) (a b c : Int) : x = ⟨a, b, c⟩ ↔ x.po = a ∧ x.th = b ∧ x.tp = c := by cases x; simp
theorem vpr_ne {n : Int} (h : vpr n = true) : n ≠ 0 := by rintro rfl; simp [vpr] at h
theorem boundF_eq {st : PSt} (h : PSI st) (pr po s : Int) : boundF st pr po s = ((look ⟨pr, po⟩ st.B).isSome || (bindOf st.B s != ⟨0, 0⟩)) := by
  rw [bindOf_ne (fun x hx => vpr_ne (h.vB x hx)), ← any_own, ← any_key, boundF]
  generalize st.B = B
  induction B with
  | nil => rfl
  | cons x B ih =>
    simp only [List.any_cons, ih]
    have : decide (x.1 = (⟨pr, po⟩ : Bk)) = (x.1.pr == pr && x.1.po == po) := by
      rw [Bool.eq_iff_iff]; simp [bk_ext]
    rw [this]
    cases (x.1.pr == pr && x.1.po == po) <;> cases (x.2 == s) <;> simp
theorem any_pJ {m : List (Ck × Int)} (po th tp : Int) : m.any (pJ po th tp) = (look ⟨po, th, tp⟩ m).isSome := by
  rw [← any_key]
  congr 1
  funext x
  rw [Bool.eq_iff_iff]; simp [pJ, ck_ext, and_assoc]
theorem rbind_eq {st : PSt} (h : PSI st) (pr po s : Int) : rbindE st pr po s = bindE st pr po s := by unfold rbindE bindE; rw [boundF_eq h]
theorem rbindS_eq {st : PSt} (h : PSI st) (pr po s : Int) : rbindS st pr po s = bindS st pr po s := by unfold rbindS bindS; rw [rbind_eq h]
theorem rconn_eq {st : PSt} (s po th tp : Int) : rconnE st s po th tp = connE st s po th tp := by unfold rconnE connE; rw [any_pJ]
theorem rconnS_eq {st : PSt} (s po th tp : Int) : rconnS st s po th tp = connS st s po th tp := by unfold rconnS connS; rw [rconn_eq]
theorem joinedF_eq {st : PSt} (po : Int) : joinedF st po = decide (0 < cntP st.J po) := by
  unfold joinedF cntP
  rw [Bool.eq_iff_iff]
  simp only [List.any_eq_true, beq_iff_eq, decide_eq_true_eq]
  constructor
  · rintro ⟨x, hx, e⟩
    have := List.length_pos_of_mem (List.mem_filter (p := fun x : Ck × Int => decide (x.1.po = po)).2 ⟨hx, show decide (x.1.po = po) = true by simpa using e⟩)
    omega
  · intro h
    obtain ⟨x, hx⟩ := List.exists_mem_of_length_pos (l := st.J.filter fun x => decide (x.1.po = po)) (by omega)
    obtain ⟨h1, h2⟩ := List.mem_filter.1 hx
    exact ⟨x, h1, by simpa using h2⟩
theorem rany_eq {st : PSt} (h : PSI st) (pr s : Int) : ranyR st pr s = anyR st pr s := by
  unfold ranyR anyR
  cases hv : vpr pr with
  | false => rfl
  | true =>
    rw [bindOf_ne (fun x hx => vpr_ne (h.vB x hx)), ← any_own]
    cases hs : st.B.any (fun x => x.2 == s) with
    | true => rfl
    | false =>
      have : rfirst st pr s = firstP st pr := by
        unfold rfirst firstP
        congr 2
        funext i
        have hb : boundF st pr (anyP st i) s = (look ⟨pr, anyP st i⟩ st.B).isSome := by
          rw [boundF_eq h, bindOf_ne (fun x hx => vpr_ne (h.vB x hx)), ← any_own, hs, Bool.or_false]
        unfold rfree freeP
        rw [hb, joinedF_eq]
        have h67 : decide (pr = 17) = !decide (pr = 6) := by
          have : pr = 6 ∨ pr = 17 := by simpa [vpr] using hv
          rcases this with rfl | rfl <;> decide
        rw [h67]
        cases decide (pr = 6) <;> simp
      rw [this]
      rfl
theorem find_look {κ : Type} [DecidableEq κ] (k : κ) : ∀ m : List (κ × Int), (m.find? fun x => decide (x.1 = k)).map (·.2) = look k m
  | [] => rfl
  | x :: m => by
    simp only [List.find?, look]
    by_cases h : k = x.1
    · rw [if_pos h, decide_eq_true h.symm]; rfl
    · rw [if_neg h, decide_eq_false (fun e => h e.symm)]; exact find_look k m
theorem find_and {κ : Type} [DecidableEq κ] (k : κ) (g : Int → Bool) : ∀ {m : List (κ × Int)}, (keys m).Nodup → (m.find? fun x => decide (x.1 = k) && g x.2).map (·.2) = match look k m with
    | none => none
    | some s => if g s then some s else none
  | [], _ => rfl
  | x :: m, hn => by
    simp only [keys, List.map_cons, List.nodup_cons] at hn
    simp only [List.find?, look]
    by_cases h : k = x.1
    · rw [if_pos h, decide_eq_true h.symm, Bool.true_and]
      cases hg : g x.2 with
      | true => simp [hg]
      | false =>
        have hl : look k m = none := look_none.2 (by rw [h]; exact hn.1)
        have := find_and k g hn.2
        rw [hl] at this
        simpa [hg] using this
    · rw [if_neg h, decide_eq_false (fun e => h e.symm), Bool.false_and]
      exact find_and k g hn.2
theorem rlook_eq {st : PSt} (h : PSI st) (pr po th tp : Int) : rlookF st pr po th tp = lookF st pr po th tp := by
  have e1 : (st.J.find? (pJ po th tp)).map (·.2) = look ⟨po, th, tp⟩ st.J := by
    rw [← find_look]
    congr 2
    funext x
    rw [Bool.eq_iff_iff]; simp [pJ, ck_ext, and_assoc]
  have e2 : (st.B.find? (pB st pr po)).map (·.2) = match look ⟨pr, po⟩ st.B with
      | none => none
      | some s => if aloneF st s then some s else none := by
    rw [← find_and _ _ h.nB]
    congr 2
    funext x
    rw [Bool.eq_iff_iff]; simp [pB, bk_ext]
  have e3 : rlook2 st pr po = match look ⟨pr, po⟩ st.B with
      | none => (0, false)
      | some s => if heldOf st.J s = [] then (s, true) else (0, false) := by
    have ea : ∀ s, aloneF st s = decide (heldOf st.J s = []) := fun s => by
      unfold aloneF; rw [any_own]; simp
    unfold rlook2
    cases hf : st.B.find? (pB st pr po) with
    | none =>
      rw [hf] at e2
      cases hl : look ⟨pr, po⟩ st.B with
      | none => rfl
      | some s =>
        rw [hl] at e2
        simp only [Option.map_none, ea] at e2
        by_cases hh : heldOf st.J s = []
        · simp [hh] at e2
        · simp [hh]
    | some x =>
      rw [hf] at e2
      cases hl : look ⟨pr, po⟩ st.B with
      | none => rw [hl] at e2; simp at e2
      | some s =>
        rw [hl] at e2
        simp only [Option.map_some, ea] at e2
        by_cases hh : heldOf st.J s = []
        · simp only [hh, decide_true, if_true, Option.some.injEq] at e2; simp [hh, e2]
        · simp [hh] at e2
  unfold rlookF lookF
  by_cases h6 : pr = 6
  · simp only [if_pos h6]
    cases hf : st.J.find? (pJ po th tp) with
    | none => rw [hf] at e1; rw [← e1]; exact e3
    | some x => rw [hf] at e1; rw [← e1]; rfl
  · simp only [if_neg h6]; exact e3

theorem psi_bind {st : PSt} (h : PSI st) (pr po s : Int) : PSI (bindS st pr po s) := by
  unfold bindS
  split
  · rename_i he
    refine ⟨keys_app h.nB (look_none.1 (by simpa using bindE_zero he)), h.nJ, fun x hx => ?_, h.sd, h.gv⟩
    rcases List.mem_append.1 hx with hx | hx
    · exact h.vB x hx
    · simp only [List.mem_singleton] at hx
      subst hx
      unfold bindE at he
      split at he
      · rename_i hv; simp only [Bool.and_eq_true] at hv; exact hv.1
      · simp at he
  · exact h
theorem psi_conn {st : PSt} (h : PSI st) (s po th tp : Int) : PSI (connS st s po th tp) := by
  unfold connS
  split
  · rename_i he
    exact ⟨h.nB, keys_app h.nJ (look_none.1 (by simpa using connE_zero he)), h.vB, h.sd, h.gv⟩
  · exact h
theorem psi_rel {st : PSt} (h : PSI st) (s : Int) : PSI (relS st s) := ⟨keys_filter _ h.nB, keys_filter _ h.nJ, fun x hx => h.vB x (List.mem_filter.1 hx).1, h.sd, h.gv⟩
theorem firstP_free {st : PSt} {pr po : Int} (h : firstP st pr = some po) : freeP st pr po = true := by
  unfold firstP at h
  cases hf : (List.range 64).find? fun i => freeP st pr (anyP st (i : Nat)) with
  | none => rw [hf] at h; cases h
  | some i => rw [hf] at h; cases h; exact List.find?_some (p := fun i : Nat => freeP st pr (anyP st (i : Nat))) hf
theorem psi_any {st : PSt} (h : PSI st) (pr s : Int) : PSI (anyR st pr s).2.2 := by
  unfold anyR
  split
  · rename_i hv
    split
    · exact h
    · cases hf : firstP st pr with
      | none => exact h
      | some po =>
        have hfr := firstP_free hf
        have : (look ⟨pr, po⟩ st.B).isSome = false := by
          unfold freeP at hfr
          simp only [Bool.and_eq_true, Bool.not_eq_true'] at hfr
          exact hfr.1
        refine ⟨keys_app h.nB (look_none.1 (by simpa using this)), h.nJ, fun x hx => ?_, h.sd, by have := h.gv; show 0 ≤ st.given + 1; omega⟩
        rcases List.mem_append.1 hx with hx | hx
        · exact h.vB x hx
        · simp only [List.mem_singleton] at hx
          subst hx; exact hv
  · exact h

/-- What a told call leaves. -/
def toldS (st : PSt) (c : Cl) (pr : Int) : PSt :=
  if c.kd % 5 = 0 then bindS st pr c.po c.so else if c.kd % 5 = 1 then (anyR st pr c.so).2.2 else if c.kd % 5 = 2 then connS st c.so c.po c.th c.ot else if c.kd % 5 = 3 then relS st c.so else st
theorem psi_told {st : PSt} (h : PSI st) (c : Cl) (pr : Int) : PSI (toldS st c pr) := by
  unfold toldS
  split
  · exact psi_bind h _ _ _
  · split
    · exact psi_any h _ _
    · split
      · exact psi_conn h _ _ _ _
      · split
        · exact psi_rel h _
        · exact h
/-- How great a Ports may be after n calls. -/
def Few (st : PSt) (n : Nat) : Prop := st.B.length ≤ n ∧ st.J.length ≤ n ∧ st.given ≤ n
theorem few_told {st : PSt} {n : Nat} (h : Few st n) (c : Cl) (pr : Int) : Few (toldS st c pr) (n + 1) := by
  obtain ⟨h1, h2, h3⟩ := h
  have hB : ∀ pr po s, Few (bindS st pr po s) (n + 1) := fun pr po s => by
    unfold bindS; split
    · exact ⟨by show (st.B ++ _).length ≤ _; simp; omega, by show st.J.length ≤ _; omega, by show st.given ≤ _; omega⟩
    · exact ⟨by omega, by omega, by omega⟩
  have hz : Few st (n + 1) := ⟨by omega, by omega, by omega⟩
  unfold toldS
  split
  · exact hB _ _ _
  · split
    · unfold anyR
      split
      · split
        · exact hz
        · cases firstP st pr with
          | none => exact hz
          | some po => exact ⟨by show (st.B ++ _).length ≤ _; simp; omega, by show st.J.length ≤ _; omega, by show st.given + 1 ≤ _; omega⟩
      · exact hz
    · split
      · unfold connS; split
        · exact ⟨by show st.B.length ≤ _; omega, by show (st.J ++ _).length ≤ _; simp; omega, by show st.given ≤ _; omega⟩
        · exact hz
      · split
        · exact ⟨Nat.le_trans (rel_len _ _) (by omega), Nat.le_trans (rel_len _ _) (by omega), by show st.given ≤ _; omega⟩
        · exact hz
theorem told_four {st : PSt} {c : Cl} (h : c.kd = 4) (pr : Int) : toldS st c pr = st := by unfold toldS; rw [h]; rfl

end Go.Proofs.Ytfipamdknanlmaa
