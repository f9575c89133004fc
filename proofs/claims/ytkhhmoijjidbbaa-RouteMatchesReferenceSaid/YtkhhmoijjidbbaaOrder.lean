/- The law RouteOrderIndependent: the plain part: a list of routes with distinct networks, in any order, gives the same lookup. -/
import Derived.Test.YtkhhmoijjidbbaaPlainB
namespace Go.Proofs.Ytkhhmoijjidbbaa
open Go.RowKit Go.Sort

/-- The first of the longest. -/
theorem best_first (fs : List If) (rs : List Rt) : ∀ (l : List Nat) (t : Option Nat), (∀ y, t = some y → ∀ x ∈ l, y < x) → l.Pairwise (· < ·) → ∀ k, l.foldl (fun t x => bstep fs rs t x) t = some k →
    (t = some k ∨ k ∈ l) ∧ (∀ j, (t = some j ∨ j ∈ l) → netB fs rs j ≤ netB fs rs k) ∧ (∀ j, (t = some j ∨ j ∈ l) → j < k → netB fs rs j < netB fs rs k)
  | [], t, _, _, k, h => by
    simp at h
    subst h
    refine ⟨.inl rfl, fun j hj => ?_, fun j hj hlt => ?_⟩
    · rcases hj with h | h
      · cases h; omega
      · cases h
    · rcases hj with h | h
      · cases h; omega
      · cases h
  | x :: l, t, ht, hs, k, h => by
    simp only [List.foldl_cons] at h
    have hs' := List.pairwise_cons.1 hs
    cases t with
    | none =>
      have ih := best_first fs rs l (some x) (fun y hy z hz => by cases hy; exact hs'.1 z hz) hs'.2 k (by simpa [bstep] using h)
      refine ⟨.inr ?_, fun j hj => ih.2.1 j ?_, fun j hj => ih.2.2 j ?_⟩
      · rcases ih.1 with h | h
        · cases h; exact List.mem_cons_self ..
        · exact List.mem_cons_of_mem _ h
      all_goals
        rcases hj with h | h
        · cases h
        · rcases List.mem_cons.1 h with h | h
          · exact .inl (by rw [h])
          · exact .inr h
    | some y =>
      have hyx := ht y rfl x (List.mem_cons_self ..)
      by_cases hb : netB fs rs x > netB fs rs y
      · have ih := best_first fs rs l (some x) (fun y hy z hz => by cases hy; exact hs'.1 z hz) hs'.2 k (by simpa [bstep, hb] using h)
        have hxk := ih.2.1 x (.inl rfl)
        refine ⟨.inr ?_, fun j hj => ?_, fun j hj hlt => ?_⟩
        · rcases ih.1 with h | h
          · cases h; exact List.mem_cons_self ..
          · exact List.mem_cons_of_mem _ h
        · rcases hj with h | h
          · cases h; omega
          · rcases List.mem_cons.1 h with h | h
            · exact ih.2.1 j (.inl (by rw [h]))
            · exact ih.2.1 j (.inr h)
        · rcases hj with h | h
          · cases h; omega
          · rcases List.mem_cons.1 h with h | h
            · exact ih.2.2 j (.inl (by rw [h])) hlt
            · exact ih.2.2 j (.inr h) hlt
      · have ih := best_first fs rs l (some y) (fun y' hy z hz => by cases hy; exact ht y rfl z (List.mem_cons_of_mem _ hz)) hs'.2 k (by simpa [bstep, hb] using h)
        have hyk := ih.2.1 y (.inl rfl)
        refine ⟨?_, fun j hj => ?_, fun j hj hlt => ?_⟩
        · rcases ih.1 with h | h
          · exact .inl h
          · exact .inr (List.mem_cons_of_mem _ h)
        · rcases hj with h | h
          · exact ih.2.1 j (.inl h)
          · rcases List.mem_cons.1 h with h | h
            · subst h; omega
            · exact ih.2.1 j (.inr h)
        · rcases hj with h | h
          · exact ih.2.2 j (.inl h) hlt
          · rcases List.mem_cons.1 h with h | h
            · subst h
              have := ih.2.2 y (.inl rfl) (by omega)
              omega
            · exact ih.2.2 j (.inr h) hlt

def Pick (fs : List If) (rs : List Rt) (to : Int) (k : Nat) : Prop :=
  k < fs.length + rs.length ∧ isCand fs rs to k = true ∧ (∀ j, j < fs.length + rs.length → isCand fs rs to j = true → netB fs rs j ≤ netB fs rs k) ∧ (∀ j, j < k → isCand fs rs to j = true → netB fs rs j < netB fs rs k)

theorem pick_of {fs : List If} {rs : List Rt} {to : Int} {k : Nat} (h : pickOf fs rs to = some k) : Pick fs rs to k := by
  obtain ⟨h1, h2, h3⟩ := pickOf_some h
  refine ⟨h1, h2, h3, fun j hj hc => ?_⟩
  rw [pickOf_eq] at h
  have hs : ((List.range (fs.length + rs.length)).filter (fun i => isCand fs rs to i)).Pairwise (· < ·) := List.Pairwise.filter _ List.pairwise_lt_range
  exact (best_first fs rs _ none (fun y hy => by cases hy) hs k h).2.2 j (.inr (List.mem_filter.2 ⟨List.mem_range.2 (by omega), hc⟩)) hj

theorem pick_uniq {fs : List If} {rs : List Rt} {to : Int} {k : Nat} (h : Pick fs rs to k) : pickOf fs rs to = some k := by
  cases hp : pickOf fs rs to with
  | none => have := pickOf_none hp k h.1; rw [h.2.1] at this; cases this
  | some k' =>
    have h' := pick_of hp
    rcases Nat.lt_trichotomy k k' with hl | rfl | hl
    · have a := h'.2.2.2 k hl h.2.1
      have b := h.2.2.1 k' h'.1 h'.2.1
      omega
    · rfl
    · have a := h.2.2.2 k' hl h'.2.1
      have b := h'.2.2.1 k h.1 h.2.1
      omega

theorem con_same {a1 a2 b x : Int} (h1 : conB a1 b x = true) (h2 : conB a2 b x = true) : a1 = a2 := by
  simp only [conB, Bool.and_eq_true, decide_eq_true_eq] at h1 h2
  obtain ⟨_, _, _, _, m1⟩ := vpB_parts h1.1
  obtain ⟨_, _, _, _, m2⟩ := vpB_parts h2.1
  have e1 := Int.mul_ediv_add_emod a1 ((2:Int) ^ (32 - b).toNat)
  have e2 := Int.mul_ediv_add_emod a2 ((2:Int) ^ (32 - b).toNat)
  rw [← h1.2.2] at e1
  rw [← h2.2.2] at e2
  omega

def sameNet (r s : Rt) : Prop := r.na = s.na ∧ r.nb = s.nb
instance (r s : Rt) : Decidable (sameNet r s) := by unfold sameNet; infer_instance

theorem cand_fc {fs : List If} {rs : List Rt} {to : Int} {j : Nat} (h : j < fs.length) : isCand fs rs to j = conB (ifAt fs j).na (ifAt fs j).nb to := by
  simp [isCand, netA, netB, h]
theorem net_f {fs : List If} {rs : List Rt} {j : Nat} (h : j < fs.length) : netB fs rs j = (ifAt fs j).nb := by
  simp [netB, h]
theorem cand_rc {fs : List If} {rs : List Rt} {to : Int} {j : Nat} : isCand fs rs to (fs.length + j) = conB (rtAt rs j).na (rtAt rs j).nb to := by
  have h : ¬ fs.length + j < fs.length := by omega
  simp [isCand, netA, netB, h]
theorem net_r {fs : List If} {rs : List Rt} {j : Nat} : netB fs rs (fs.length + j) = (rtAt rs j).nb := by
  have h : ¬ fs.length + j < fs.length := by omega
  simp [netB, h]

theorem look_sub (fs : List If) (rs rs' : List Rt) (to : Int) (hc : chkB fs rs = true) (hc' : chkB fs rs' = true)
    (hsub : ∀ j, j < rs'.length → ∃ i, i < rs.length ∧ rtAt rs i = rtAt rs' j)
    (hdis : ∀ i j, i < j → j < rs'.length → ¬ sameNet (rtAt rs' i) (rtAt rs' j))
    (hfirst : ∀ m, m < rs.length → (∀ j, j < m → ¬ sameNet (rtAt rs j) (rtAt rs m)) → ∃ m', m' < rs'.length ∧ rtAt rs' m' = rtAt rs m) : look fs rs' to = look fs rs to := by
  unfold look
  rw [hc, hc']
  cases hu : uniB to with
  | false => rfl
  | true =>
    cases hp : pickOf fs rs to with
    | none =>
      have hn : pickOf fs rs' to = none := by
        cases hp' : pickOf fs rs' to with
        | none => rfl
        | some k =>
          obtain ⟨q1, q2, _, _⟩ := pick_of hp'
          exfalso
          by_cases hk : k < fs.length
          · have := pickOf_none hp k (by omega)
            rw [cand_fc hk] at this q2
            rw [q2] at this; cases this
          · obtain ⟨m, rfl⟩ : ∃ m, k = fs.length + m := ⟨k - fs.length, by omega⟩
            obtain ⟨i, hi, hie⟩ := hsub m (by omega)
            have := pickOf_none hp (fs.length + i) (by omega)
            rw [cand_rc] at this q2
            rw [hie, q2] at this; cases this
      rw [hn]
    | some k =>
      obtain ⟨p1, p2, p3, p4⟩ := pick_of hp
      have hmax : ∀ j, j < fs.length + rs'.length → isCand fs rs' to j = true → netB fs rs' j ≤ netB fs rs k := by
        intro j hj hcj
        by_cases hjl : j < fs.length
        · rw [cand_fc hjl] at hcj
          rw [net_f hjl]
          have := p3 j (by omega) (by rw [cand_fc hjl]; exact hcj)
          rw [net_f hjl] at this
          exact this
        · obtain ⟨m, rfl⟩ : ∃ m, j = fs.length + m := ⟨j - fs.length, by omega⟩
          obtain ⟨i, hi, hie⟩ := hsub m (by omega)
          rw [cand_rc] at hcj
          rw [net_r, ← hie]
          have := p3 (fs.length + i) (by omega) (by rw [cand_rc, hie]; exact hcj)
          rw [net_r] at this
          exact this
      by_cases hk : k < fs.length
      · have hP : Pick fs rs' to k := by
          refine ⟨by omega, by rw [cand_fc hk] at p2 ⊢; exact p2, fun j hj hcj => ?_, fun j hj hcj => ?_⟩
          · have := hmax j hj hcj
            rw [net_f hk] at this ⊢
            exact this
          · have hjl : j < fs.length := by omega
            have := p4 j hj (by rw [cand_fc hjl] at hcj ⊢; exact hcj)
            rw [net_f hk, net_f hjl] at this ⊢
            exact this
        rw [pick_uniq hP]
        simp [hk]
      · obtain ⟨m, rfl⟩ : ∃ m, k = fs.length + m := ⟨k - fs.length, by omega⟩
        rw [cand_rc] at p2
        obtain ⟨m', hm', hme⟩ := hfirst m (by omega) (fun j hj hs => by
          have := p4 (fs.length + j) (by omega) (by rw [cand_rc, hs.1, hs.2]; exact p2)
          rw [net_r, net_r, hs.2] at this
          omega)
        have hP : Pick fs rs' to (fs.length + m') := by
          refine ⟨by omega, by rw [cand_rc, hme]; exact p2, fun j hj hcj => ?_, fun j hj hcj => ?_⟩
          · have := hmax j hj hcj
            rw [net_r] at this ⊢
            rw [hme]; exact this
          · by_cases hjl : j < fs.length
            · have := p4 j (by omega) (by rw [cand_fc hjl] at hcj ⊢; exact hcj)
              rw [net_f hjl, net_r] at this ⊢
              rw [hme]; exact this
            · obtain ⟨i, rfl⟩ : ∃ i, j = fs.length + i := ⟨j - fs.length, by omega⟩
              have h1 := hmax (fs.length + i) (by omega) hcj
              rw [cand_rc] at hcj
              rw [net_r] at h1 ⊢
              rw [net_r] at h1 ⊢
              rw [hme]
              refine Int.lt_iff_le_and_ne.2 ⟨h1, fun he => hdis i m' (by omega) hm' ?_⟩
              rw [hme]
              refine ⟨?_, he⟩
              rw [he] at hcj
              exact con_same hcj p2
        rw [pick_uniq hP]
        have hk' : ¬ fs.length + m' < fs.length := by omega
        simp only [hk, hk', if_false, Nat.add_sub_cancel_left, hme]

/-- The routes whose network has not come before. -/
def uqTo (rs : List Rt) : Nat → List Rt
  | 0 => []
  | k + 1 => if (uqTo rs k).any (fun r => decide (sameNet r (rtAt rs k))) = true then uqTo rs k else uqTo rs k ++ [rtAt rs k]

theorem uq_len (rs : List Rt) (k : Nat) : (uqTo rs k).length ≤ k := by
  induction k with
  | zero => simp [uqTo]
  | succ k ih =>
    unfold uqTo
    split
    · omega
    · simp; omega
theorem uq_sub (rs : List Rt) (k : Nat) : ∀ r ∈ uqTo rs k, ∃ i, i < k ∧ rtAt rs i = r := by
  induction k with
  | zero => intro r h; simp [uqTo] at h
  | succ k ih =>
    intro r h
    unfold uqTo at h
    split at h
    · obtain ⟨i, hi, e⟩ := ih r h; exact ⟨i, by omega, e⟩
    · rcases List.mem_append.1 h with h | h
      · obtain ⟨i, hi, e⟩ := ih r h; exact ⟨i, by omega, e⟩
      · simp at h; exact ⟨k, by omega, h.symm⟩
theorem uq_dis (rs : List Rt) (k : Nat) : (uqTo rs k).Pairwise (fun r s => ¬ sameNet r s) := by
  induction k with
  | zero => simp [uqTo]
  | succ k ih =>
    unfold uqTo
    split
    · exact ih
    · rename_i h
      rw [List.pairwise_append]
      refine ⟨ih, by simp, fun a ha b hb => ?_⟩
      simp at hb
      subst hb
      intro hs
      exact h (List.any_eq_true.2 ⟨a, ha, by simpa using hs⟩)
theorem uq_first (rs : List Rt) (k : Nat) : ∀ m, m < k → (∀ j, j < m → ¬ sameNet (rtAt rs j) (rtAt rs m)) → rtAt rs m ∈ uqTo rs k := by
  induction k with
  | zero => intro m h; omega
  | succ k ih =>
    intro m hm hno
    unfold uqTo
    by_cases hk : m = k
    · subst hk
      rw [if_neg]
      · simp
      · intro h
        obtain ⟨a, ha, hs⟩ := List.any_eq_true.1 h
        obtain ⟨i, hi, rfl⟩ := uq_sub rs m a ha
        exact hno i hi (by simpa using hs)
    · have := ih m (by omega) hno
      split
      · exact this
      · exact List.mem_append_left _ this

theorem order_plain (n : Nat) (x : Nat → Fr) (m : Nat) (y : Nat → Rr) (fs : List If) (hfs : fs = facesF n x) (rs : List Rt) (hrs : rs = routesF fs m y) (to : Int) :
    look fs (uqTo rs rs.length) to = look fs rs to ∧ look fs (uqTo rs rs.length).reverse to = look fs rs to := by
  subst hfs
  have hv : ∀ i, i < rs.length → vrB (facesF n x) (rtAt rs i) = true := fun i hi => by subst hrs; rw [routes_at _ _ _ _ hi]; exact mkRoute_valid n x (y i)
  have hr8 : rs.length ≤ 8 := by subst hrs; exact routes_len _ _ _
  have hul := uq_len rs rs.length
  have hmem : ∀ r ∈ uqTo rs rs.length, vrB (facesF n x) r = true := fun r hr => by
    obtain ⟨i, hi, rfl⟩ := uq_sub rs _ r hr
    exact hv i hi
  have hat : ∀ (l : List Rt) j, j < l.length → rtAt l j ∈ l := fun l j hj => by rw [rtAt_eq _ _ hj]; exact List.getElem_mem _
  have hcr := faces_chk n x rs (by omega) hv
  have hdis := uq_dis rs rs.length
  refine ⟨look_sub _ rs _ to hcr (faces_chk n x _ (by omega) (fun i hi => hmem _ (hat _ _ hi))) (fun j hj => uq_sub rs _ _ (hat _ _ hj)) (fun i j hij hj => ?_) (fun q hq hno => ?_),
    look_sub _ rs _ to hcr (faces_chk n x _ (by simp; omega) (fun i hi => hmem _ (List.mem_reverse.1 (hat _ _ hi)))) (fun j hj => uq_sub rs _ _ (List.mem_reverse.1 (hat _ _ hj))) (fun i j hij hj => ?_) (fun q hq hno => ?_)⟩
  · rw [rtAt_eq _ _ hj, rtAt_eq _ _ (by omega)]
    exact List.pairwise_iff_getElem.1 hdis i j (by omega) hj hij
  · obtain ⟨i, hi, e⟩ := List.mem_iff_getElem.1 (uq_first rs _ q hq hno)
    exact ⟨i, hi, by rw [rtAt_eq _ _ hi, e]⟩
  · rw [rtAt_eq _ _ hj, rtAt_eq _ _ (by omega)]
    have h := List.pairwise_iff_getElem.1 (List.pairwise_reverse.2 (hdis.imp fun h => (show ¬ sameNet _ _ from fun hs => h ⟨hs.1.symm, hs.2.symm⟩))) i j (by omega) hj hij
    exact h
  · obtain ⟨i, hi, e⟩ := List.mem_iff_getElem.1 (List.mem_reverse.2 (uq_first rs _ q hq hno))
    exact ⟨i, hi, by rw [rtAt_eq _ _ hi, e]⟩

end Go.Proofs.Ytkhhmoijjidbbaa
