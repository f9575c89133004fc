/- The plain laws of the counts, of removing and adding, of the integers one by one, and of the translation. -/
import Derived.Test.YthkkhgfdppbphaaLwC
namespace Go.Proofs.Ythkkhgfdppbphaa
open Go.RowKit Go.Sort Go.Shelf
set_option linter.unusedVariables false

theorem can_cnt : ∀ {l : List Sp} {e M : Int}, canF e l = true → e ≤ M → (∀ x ∈ l, x.to ≤ M) → 0 ≤ cntL l ∧ cntL l ≤ M - e
  | [], e, M, _, he, _ => by simp [cntL]; omega
  | x :: l, e, M, h, he, hM => by
    rw [canF_cons, okS_iff] at h
    have h1 := hM x (List.mem_cons_self ..)
    have := can_cnt h.2 h1 (fun y hy => hM y (List.mem_cons_of_mem _ hy))
    simp only [cntL]; omega
theorem Inv.cnt_bd {l : List Sp} (h : Inv l) : 0 ≤ Proofs.Ythkkhgfdppbphaa.cntF l ∧ Proofs.Ythkkhgfdppbphaa.cntF l ≤ 73 := by
  rw [h.cntF]
  have := can_cnt (M := 72) h.1 (by decide) (fun x hx => (h.sok hx).2.2)
  omega

theorem plain_counts {l : List Sp} {s : Sp} (h : Inv l) (hs : Sok s) :
    cntF (gapF l s) + (cntF l - cntF (remF l s)) = s.to - s.fr ∧ cntF (addF l s) = cntF l + s.to - s.fr - (cntF l - cntF (remF l s)) := by
  rw [(h.gap hs).cntF, h.cntF, (h.rem hs).cntF, (h.add hs).cntF, h.gapF hs, h.remF hs, h.addF hs, cnt_gap h.1, cnt_rem h.1 hs.2.1, cnt_add h.1 hs.2.1]
  obtain ⟨s0, s1⟩ := s
  obtain ⟨h1, h2, h3⟩ := hs
  simp only at *
  omega

def remAll : List Sp → List Sp → List Sp
  | a, [] => a
  | a, x :: h => remAll (remF a x) h
theorem remAll_take (a h : List Sp) (k : Nat) (hk : k < h.length) : remAll a (h.take (k + 1)) = remF (remAll a (h.take k)) (spAt h k) := by
  induction h generalizing a k with
  | nil => simp at hk
  | cons x h ih =>
    cases k with
    | zero => simp [remAll, spAt]
    | succ k => simp only [List.take_succ_cons, remAll]; rw [ih _ _ (by simpa using hk)]; simp [spAt]
theorem Inv.remAll : ∀ {h a : List Sp}, Inv a → (∀ x ∈ h, Sok x) → Inv (Proofs.Ythkkhgfdppbphaa.remAll a h) ∧ ∀ n, mem (Proofs.Ythkkhgfdppbphaa.remAll a h) n ↔ mem a n ∧ ¬ mem h n
  | [], a, ha, _ => ⟨ha, fun n => by simp [Proofs.Ythkkhgfdppbphaa.remAll, mem_nil]⟩
  | x :: h, a, ha, hx => by
    have hx0 := hx x (List.mem_cons_self ..)
    obtain ⟨h1, h2⟩ := Inv.remAll (ha.rem hx0) (fun y hy => hx y (List.mem_cons_of_mem _ hy))
    refine ⟨h1, fun n => ?_⟩
    show mem (Proofs.Ythkkhgfdppbphaa.remAll (Proofs.Ythkkhgfdppbphaa.remF a x) h) n ↔ _
    rw [h2 n, ha.rem_mem hx0, mem_cons]
    constructor
    · rintro ⟨⟨p, q⟩, r⟩; exact ⟨p, fun o => o.elim q r⟩
    · rintro ⟨p, q⟩; exact ⟨⟨p, fun o => q (.inl o)⟩, fun o => q (.inr o)⟩

theorem plain_undo {l : List Sp} {s : Sp} (h : Inv l) (hs : Sok s) : remAll (addF l s) (gapF l s) = l ∧ addF (remF l s) s = addF l s := by
  have i1 := h.add hs
  have ig := h.gap hs
  have ir := h.rem hs
  obtain ⟨j1, j2⟩ := i1.remAll (h := gapF l s) (fun x hx => ig.sok hx)
  refine ⟨j1.ext h fun n => ?_, (ir.add hs).ext i1 fun n => ?_⟩
  · rw [j2, h.add_mem hs, h.gap_mem hs]
    constructor
    · rintro ⟨p | p, q⟩
      · exact p
      · exact Classical.byContradiction fun r => q ⟨p, r⟩
    · intro p; exact ⟨.inl p, fun q => q.2 p⟩
  · rw [ir.add_mem hs, h.rem_mem hs, h.add_mem hs]
    constructor
    · rintro (⟨p, _⟩ | p)
      · exact .inl p
      · exact .inr p
    · rintro (p | p)
      · rcases Classical.em (isIn s n) with q | q
        · exact .inr q
        · exact .inl ⟨p, q⟩
      · exact .inr p

/-- An integer of the span. -/
def ownB (s : Sp) (n : Int) : Bool := decide (s.fr ≤ n) && decide (n < s.to)
theorem ownB_iff {s : Sp} {n : Int} : ownB s n = true ↔ isIn s n := by simp [ownB, isIn]
theorem has_add {l : List Sp} {s : Sp} (h : Inv l) (hs : Sok s) (n : Int) : hasB (addF l s) n = (hasB l n || ownB s n) := by
  rw [Bool.eq_iff_iff, hasB_iff, Bool.or_eq_true, hasB_iff, ownB_iff, h.add_mem hs]
theorem has_rem {l : List Sp} {s : Sp} (h : Inv l) (hs : Sok s) (n : Int) : hasB (remF l s) n = (hasB l n && !ownB s n) := by
  rw [Bool.eq_iff_iff, hasB_iff, Bool.and_eq_true, hasB_iff, Bool.not_eq_true', ← Bool.not_eq_true, ownB_iff, h.rem_mem hs]
theorem has_gap {l : List Sp} {s : Sp} (h : Inv l) (hs : Sok s) (n : Int) : hasB (gapF l s) n = (ownB s n && !hasB l n) := by
  rw [Bool.eq_iff_iff, hasB_iff, Bool.and_eq_true, ownB_iff, Bool.not_eq_true', ← Bool.not_eq_true, hasB_iff, h.gap_mem hs]
def allB (l : List Sp) (s : Sp) (k : Nat) : Bool := (List.range k).all fun i => !ownB s (i : Int) || hasB l (i : Int)
theorem allB_succ (l : List Sp) (s : Sp) (k : Nat) : allB l s (k + 1) = (allB l s k && (!ownB s (k : Int) || hasB l (k : Int))) := by
  simp [allB, List.range_succ]
theorem allB_iff {l : List Sp} {s : Sp} (hs : Sok s) : allB l s 80 = true ↔ ∀ n, isIn s n → mem l n := by
  simp only [allB, List.all_eq_true, List.mem_range, Bool.or_eq_true, Bool.not_eq_true', ← Bool.not_eq_true, ownB_iff, hasB_iff]
  constructor
  · intro h n hn
    obtain ⟨h1, h2, h3⟩ := hs
    have hb : 0 ≤ n ∧ n < 80 := by unfold isIn at hn; omega
    have := h n.toNat (by omega)
    rw [Int.toNat_of_nonneg hb.1] at this
    exact this.resolve_left fun o => o hn
  · intro h i _
    rcases Classical.em (isIn s (i : Int)) with q | q
    · exact .inr (h _ q)
    · exact .inl q
theorem plain_all {l : List Sp} {s : Sp} (h : Inv l) (hs : Sok s) : conF l s = allB l s 80 ∧ decide ((gapF l s).length = 0) = allB l s 80 := by
  constructor
  · rw [Bool.eq_iff_iff, h.con_iff hs, allB_iff hs]
  · rw [Bool.eq_iff_iff, allB_iff hs, decide_eq_true_eq]
    constructor
    · intro h0 n hn
      refine Classical.byContradiction fun hm => ?_
      have := (h.gap_mem hs n).2 ⟨hn, hm⟩
      rw [List.length_eq_zero_iff.1 h0] at this
      exact mem_nil n this
    · intro ha
      cases hg : gapF l s with
      | nil => rfl
      | cons x r =>
        have hx := (h.gap hs).sok (x := x) (by rw [hg]; exact List.mem_cons_self ..)
        have hm : mem (gapF l s) x.fr := by rw [hg]; exact ⟨x, List.mem_cons_self .., by have := hx.2.1; unfold isIn; omega⟩
        have := (h.gap_mem hs x.fr).1 hm
        exact absurd (ha _ this.1) this.2

end Go.Proofs.Ythkkhgfdppbphaa
