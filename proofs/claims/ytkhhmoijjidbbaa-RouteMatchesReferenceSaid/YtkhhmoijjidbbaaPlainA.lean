/- Plain facts on routing: what the lookup picks, and that the generated interfaces are valid. No walk here. -/
import Derived.Test.YtkhhmoijjidbbaaLawE
namespace Go.Proofs.Ytkhhmoijjidbbaa

theorem mem_cands {fs : List If} {rs : List Rt} {to : Int} {N : Nat} (x : Fin N) : x ∈ candsTo fs rs to N N ↔ isCand fs rs to x.1 = true := by
  unfold candsTo
  rw [List.take_of_length_le (by simp), List.mem_filter]
  simp

theorem best_fold (fs : List If) (rs : List Rt) {N : Nat} : ∀ (l : List (Fin N)) (t : Option Nat),
    (∀ y, l.foldl (fun t x => bstep fs rs t x.1) t = some y → (t = some y ∨ ∃ x ∈ l, x.1 = y) ∧ (∀ z, t = some z → netB fs rs z ≤ netB fs rs y) ∧ ∀ x ∈ l, netB fs rs x.1 ≤ netB fs rs y) ∧
    (l.foldl (fun t x => bstep fs rs t x.1) t = none → t = none ∧ l = [])
  | [], t => ⟨fun y h => ⟨.inl h, fun z hz => by rw [hz] at h; cases h; exact Int.le_refl _, fun x hx => by cases hx⟩, fun h => ⟨h, rfl⟩⟩
  | a :: l, t => by
    have ih := best_fold fs rs l (bstep fs rs t a.1)
    have hb : ∃ z, bstep fs rs t a.1 = some z := by
      cases t with
      | none => exact ⟨_, rfl⟩
      | some y => simp only [bstep]; split <;> exact ⟨_, rfl⟩
    refine ⟨fun y h => ?_, fun h => ?_⟩
    · obtain ⟨h1, h2, h3⟩ := ih.1 y h
      have hstep : ∀ z, bstep fs rs t a.1 = some z → (t = some z ∨ a.1 = z) ∧ netB fs rs a.1 ≤ netB fs rs z ∧ ∀ u, t = some u → netB fs rs u ≤ netB fs rs z := by
        intro z hz
        cases t with
        | none => simp [bstep] at hz; subst hz; exact ⟨.inr rfl, Int.le_refl _, fun u hu => by cases hu⟩
        | some t0 =>
          simp only [bstep] at hz
          split at hz
          · cases hz; exact ⟨.inr rfl, Int.le_refl _, fun u hu => by cases hu; omega⟩
          · cases hz; exact ⟨.inl rfl, by omega, fun u hu => by cases hu; exact Int.le_refl _⟩
      obtain ⟨z, hz⟩ := hb
      obtain ⟨g1, g2, g3⟩ := hstep z hz
      have hzy := h2 z hz
      refine ⟨?_, fun u hu => Int.le_trans (g3 u hu) hzy, fun x hx => ?_⟩
      · rcases h1 with h1 | ⟨x, hx, rfl⟩
        · rw [hz] at h1; cases h1
          rcases g1 with g1 | g1
          · exact .inl g1
          · exact .inr ⟨a, List.mem_cons_self .., g1⟩
        · exact .inr ⟨x, List.mem_cons_of_mem _ hx, rfl⟩
      · rcases List.mem_cons.1 hx with rfl | hx
        · exact Int.le_trans g2 hzy
        · exact h3 x hx
    · obtain ⟨z, hz⟩ := hb
      have := (ih.2 h).1
      rw [hz] at this; cases this

/-- The pick is a network that contains the destination, and no longer one does. -/
theorem pickOf_some {fs : List If} {rs : List Rt} {to : Int} {k : Nat} (h : pickOf fs rs to = some k) : k < fs.length + rs.length ∧ isCand fs rs to k = true ∧ ∀ j, j < fs.length + rs.length → isCand fs rs to j = true → netB fs rs j ≤ netB fs rs k := by
  obtain ⟨h1, _, h3⟩ := (best_fold fs rs (candsTo fs rs to (fs.length + rs.length) (fs.length + rs.length)) none).1 k h
  refine ⟨pickOf_lt h, ?_, fun j hj hc => h3 ⟨j, hj⟩ ((mem_cands _).2 hc)⟩
  rcases h1 with h1 | ⟨x, hx, rfl⟩
  · cases h1
  · exact (mem_cands x).1 hx
theorem pickOf_none {fs : List If} {rs : List Rt} {to : Int} (h : pickOf fs rs to = none) (j : Nat) (hj : j < fs.length + rs.length) : isCand fs rs to j = false := by
  have := ((best_fold fs rs (candsTo fs rs to (fs.length + rs.length) (fs.length + rs.length)) none).2 h).2
  cases hc : isCand fs rs to j with
  | false => rfl
  | true =>
    have hm : (⟨j, hj⟩ : Fin (fs.length + rs.length)) ∈ candsTo fs rs to (fs.length + rs.length) (fs.length + rs.length) := (mem_cands _).2 hc
    rw [this] at hm; cases hm

theorem nt_facts (a b : Int) (ha : 0 ≤ a) (hb : 0 ≤ b ∧ b ≤ 32) : 0 ≤ nt a b ∧ nt a b ≤ a ∧ nt a b % (2:Int) ^ (32 - b).toNat = 0 ∧ nt a b / (2:Int) ^ (32 - b).toNat = a / (2:Int) ^ (32 - b).toNat := by
  have hp := pow_bd b hb.1 hb.2
  unfold nt
  generalize (2:Int) ^ (32 - b).toNat = m at *
  have h1 : 0 ≤ a / m := Int.ediv_nonneg ha (by omega)
  exact ⟨Int.mul_nonneg h1 (by omega), Int.ediv_mul_le a (by omega), Int.mul_emod_left _ _, Int.mul_ediv_cancel _ (by omega)⟩

theorem vp_nt (a b : Int) (ha : 0 ≤ a) (ha' : a ≤ 4294967295) (hb : 0 ≤ b ∧ b ≤ 32) : vpB (nt a b) b = true := by
  obtain ⟨h1, h2, h3, _⟩ := nt_facts a b ha hb
  simp only [vpB, validB, decide_eq_true_eq]
  exact ⟨⟨h1, by omega⟩, hb.1, hb.2, h3⟩
theorem con_nt (a b x : Int) (ha : 0 ≤ a) (ha' : a ≤ 4294967295) (hb : 0 ≤ b ∧ b ≤ 32) (hx : 0 ≤ x ∧ x ≤ 4294967295) (h : x / (2:Int) ^ (32 - b).toNat = a / (2:Int) ^ (32 - b).toNat) : conB (nt a b) b x = true := by
  obtain ⟨_, _, _, h4⟩ := nt_facts a b ha hb
  simp only [conB, vp_nt a b ha ha' hb, Bool.true_and, Bool.and_eq_true, validB, decide_eq_true_eq]
  exact ⟨hx, by rw [h4]; exact h⟩

theorem mkFace_valid (i : Nat) (hi : i < 4) (x : Fr) : viB (mkFace i x) = true := by
  have h1 := pk_bd x.addr 100 (by omega)
  have h2 := pk_bd x.mtu 957 (by omega)
  have h3 := faceA_bd i hi x
  have h4 := bitsF_bd (pk x.bits 5)
  simp only [viB, mkFace, Bool.and_eq_true, uniB]
  exact ⟨decide_eq_true (by omega), decide_eq_true (by omega), vp_nt _ _ (by omega) (by omega) (by omega), con_nt _ _ _ (by omega) (by omega) (by omega) (by omega) rfl, decide_eq_true (by omega)⟩

theorem faceA_inj (i j : Nat) (hi : i < 4) (hj : j < 4) (x y : Fr) (h : faceA i x = faceA j y) : i = j := by
  have h1 := pk_bd (x.addr.tdiv 64) 4 (by omega)
  have h2 := pk_bd (x.addr.tdiv 16) 4 (by omega)
  have h3 := pk_bd x.addr 15 (by omega)
  have g1 := pk_bd (y.addr.tdiv 64) 4 (by omega)
  have g2 := pk_bd (y.addr.tdiv 16) 4 (by omega)
  have g3 := pk_bd y.addr 15 (by omega)
  unfold faceA at h
  omega

theorem facesF_len (n : Nat) (x : Nat → Fr) : 1 ≤ (facesF n x).length ∧ (facesF n x).length ≤ 4 := by
  unfold facesF
  split
  · simp
  · rw [facesTo_len]; omega
theorem facesTo_at (x : Nat → Fr) (k i : Nat) (h : i < k) : ifAt (facesTo x k) i = mkFace i (x i) := by
  rw [ifAt_eq _ _ (by rw [facesTo_len]; exact h)]; simp [facesTo]
theorem locB_false (fs : List If) (x : Int) (h : ∀ j, j < fs.length → (ifAt fs j).addr ≠ x) : locB fs x = false := by simp [locB, loc_none fs x h]

/-- Every generated interface is good; each address is its own. -/
theorem faces_good (n : Nat) (x : Nat → Fr) (i : Nat) (hi : i < (facesF n x).length) : viB (ifAt (facesF n x) i) = true ∧ ∀ j, j < (facesF n x).length → (ifAt (facesF n x) j).addr = (ifAt (facesF n x) i).addr → j = i := by
  unfold facesF at hi ⊢
  split
  · rename_i hn
    rw [if_pos hn] at hi
    simp at hi
    subst hi
    refine ⟨by decide +kernel, fun j hj _ => by simp at hj; exact hj⟩
  · rename_i hn
    rw [if_neg hn, facesTo_len] at hi
    rw [facesTo_len, facesTo_at x _ i hi]
    refine ⟨mkFace_valid i (by omega) _, fun j hj h => ?_⟩
    rw [facesTo_at x _ j hj] at h
    exact faceA_inj j i (by omega) (by omega) (x j) (x i) h

theorem take_at (fs : List If) (i j : Nat) (h : j < i) (hi : i ≤ fs.length) : ifAt (fs.take i) j = ifAt fs j := by
  rw [ifAt_eq _ _ (by simp; omega), ifAt_eq _ _ (by omega)]; simp

theorem faces_goodFace (n : Nat) (x : Nat → Fr) (i : Nat) (hi : i < (facesF n x).length) : goodFace (facesF n x) i = true := by
  obtain ⟨h1, h2⟩ := faces_good n x i hi
  have h3 : locB ((facesF n x).take i) (ifAt (facesF n x) i).addr = false := locB_false _ _ fun j hj he => by
    have hj' : j < i := by simp at hj; omega
    rw [take_at _ _ _ hj' (by omega)] at he
    have := h2 j (by omega) he
    omega
  simp [goodFace, h1, h3]

theorem faces_chk (n : Nat) (x : Nat → Fr) (rs : List Rt) (hr : rs.length ≤ 16) (h : ∀ i, i < rs.length → vrB (facesF n x) (rtAt rs i) = true) : chkB (facesF n x) rs = true := by
  have hl := facesF_len n x
  simp only [chkB, Bool.and_eq_true, decide_eq_true_eq]
  exact ⟨⟨hl.1, hl.2, hr⟩, fun i hi => faces_goodFace n x i hi, h⟩

theorem faces_local (n : Nat) (x : Nat → Fr) (i : Nat) (hi : i < (facesF n x).length) : locI (facesF n x) (ifAt (facesF n x) i).addr = i ∧ locB (facesF n x) (ifAt (facesF n x) i).addr = true := by
  obtain ⟨_, h2⟩ := faces_good n x i hi
  have := loc_found (facesF n x) (ifAt (facesF n x) i).addr i hi (fun j hj he => by have := h2 j (by omega) he; omega) rfl
  simp [locI, locB, this]

end Go.Proofs.Ytkhhmoijjidbbaa
