/- Plain facts on routing with routes: the generated routes are valid; a route that does not contain the destination changes nothing. No walk here. -/
import Derived.Test.YtkhhmoijjidbbaaOnLink
import Derived.Test.YtkhhmoijjidbbaaLawG
namespace Go.Proofs.Ytkhhmoijjidbbaa

def bestN (fs : List If) (rs : List Rt) (l : List Nat) : Option Nat := l.foldl (fun t x => bstep fs rs t x) none
theorem candsTo_vals (fs : List If) (rs : List Rt) (to : Int) (N : Nat) : ∀ k, k ≤ N → (candsTo fs rs to N k).map (·.1) = (List.range k).filter (fun i => isCand fs rs to i) := by
  intro k hk
  induction k with
  | zero => simp [candsTo]
  | succ k ih =>
    rw [List.range_succ, List.filter_append, ← ih (by omega)]
    cases hc : isCand fs rs to k with
    | true => rw [candsTo_yes fs rs to N k (by omega) hc]; simp [hc]
    | false => rw [candsTo_no fs rs to N k (by omega) hc]; simp [hc]
theorem bestOf_vals (fs : List If) (rs : List Rt) {N : Nat} (l : List (Fin N)) : bestOf fs rs l = bestN fs rs (l.map (·.1)) := by
  unfold bestOf bestN
  rw [List.foldl_map]
theorem pickOf_eq (fs : List If) (rs : List Rt) (to : Int) : pickOf fs rs to = bestN fs rs ((List.range (fs.length + rs.length)).filter (fun i => isCand fs rs to i)) := by
  unfold pickOf
  rw [bestOf_vals, candsTo_vals _ _ _ _ _ (Nat.le_refl _)]

theorem bestN_congr (fs fs' : List If) (rs rs' : List Rt) : ∀ (l : List Nat) (t : Option Nat), (∀ i ∈ l, netB fs rs i = netB fs' rs' i) → (∀ i, t = some i → netB fs rs i = netB fs' rs' i) →
    l.foldl (fun t x => bstep fs rs t x) t = l.foldl (fun t x => bstep fs' rs' t x) t
  | [], _, _, _ => rfl
  | a :: l, t, h, ht => by
    have hb : bstep fs rs t a = bstep fs' rs' t a := by
      cases t with
      | none => rfl
      | some y => simp only [bstep, h a (List.mem_cons_self ..), ht y rfl]
    simp only [List.foldl_cons]
    rw [hb]
    refine bestN_congr fs fs' rs rs' l _ (fun i hi => h i (List.mem_cons_of_mem _ hi)) (fun i hi => ?_)
    cases t with
    | none => simp [bstep] at hi; subst hi; exact h a (List.mem_cons_self ..)
    | some y =>
      simp only [bstep] at hi
      split at hi
      · cases hi; exact h a (List.mem_cons_self ..)
      · exact ht i hi

theorem rtAt_left (rs : List Rt) (r : Rt) (i : Nat) (h : i < rs.length) : rtAt (rs ++ [r]) i = rtAt rs i := by
  rw [rtAt_eq _ _ (by simp; omega), rtAt_eq _ _ h, List.getElem_append_left h]
theorem rtAt_last (rs : List Rt) (r : Rt) : rtAt (rs ++ [r]) rs.length = r := by
  rw [rtAt_eq _ _ (by simp)]; simp

theorem net_left (fs : List If) (rs : List Rt) (r : Rt) (i : Nat) (h : i < fs.length + rs.length) : netA fs (rs ++ [r]) i = netA fs rs i ∧ netB fs (rs ++ [r]) i = netB fs rs i := by
  unfold netA netB
  by_cases hi : i < fs.length
  · simp [hi]
  · simp only [hi, if_false]
    rw [rtAt_left rs r _ (by omega)]
    exact ⟨rfl, rfl⟩

/-- One route more that does not contain the destination: the pick is the same. -/
theorem pickOf_more (fs : List If) (rs : List Rt) (r : Rt) (to : Int) (h : conB r.na r.nb to = false) : pickOf fs (rs ++ [r]) to = pickOf fs rs to := by
  rw [pickOf_eq, pickOf_eq]
  have hlen : fs.length + (rs ++ [r]).length = fs.length + rs.length + 1 := by simp; omega
  rw [hlen, List.range_succ, List.filter_append]
  have hlast : isCand fs (rs ++ [r]) to (fs.length + rs.length) = false := by
    unfold isCand netA netB
    rw [if_neg (by omega), if_neg (by omega), show fs.length + rs.length - fs.length = rs.length by omega, rtAt_last]
    exact h
  have e1 : (List.range (fs.length + rs.length)).filter (fun i => isCand fs (rs ++ [r]) to i) = (List.range (fs.length + rs.length)).filter (fun i => isCand fs rs to i) := by
    apply List.filter_congr
    intro i hi
    have := net_left fs rs r i (List.mem_range.1 hi)
    unfold isCand
    rw [this.1, this.2]
  rw [e1]
  rw [show ([fs.length + rs.length] : List Nat).filter (fun i => isCand fs (rs ++ [r]) to i) = [] by simp [hlast], List.append_nil]
  unfold bestN
  exact bestN_congr fs fs (rs ++ [r]) rs _ none (fun i hi => (net_left fs rs r i (List.mem_range.1 (List.mem_filter.1 hi).1)).2) (fun i hi => by cases hi)

theorem look_more (fs : List If) (rs : List Rt) (r : Rt) (to : Int) (h : conB r.na r.nb to = false) (h1 : chkB fs rs = true) (h2 : chkB fs (rs ++ [r]) = true) : look fs (rs ++ [r]) to = look fs rs to := by
  unfold look
  rw [h1, h2, pickOf_more fs rs r to h]
  cases hu : uniB to with
  | false => rfl
  | true =>
    cases hp : pickOf fs rs to with
    | none => rfl
    | some k =>
      have hk := pickOf_lt hp
      simp only
      by_cases hlt : k < fs.length
      · simp [hlt]
      · rw [rtAt_left rs r (k - fs.length) (by omega)]

theorem mn_le (b vi : Int) (h1 : 8 ≤ b) (h2 : b ≤ 28) : 0 ≤ pk vi ((2:Int) ^ (mnF 8 (32 - b)).toNat) ∧ pk vi ((2:Int) ^ (mnF 8 (32 - b)).toNat) < (2:Int) ^ (32 - b).toNat := by
  have hp := mn_pow b h1 h2
  have h := pk_bd vi ((2:Int) ^ (mnF 8 (32 - b)).toNat) (by omega)
  have hb := mn_bd b h1 h2
  have hle : (mnF 8 (32 - b)).toNat ≤ (32 - b).toNat := by unfold mnF; omega
  have h6 : 2 ^ (mnF 8 (32 - b)).toNat ≤ 2 ^ (32 - b).toNat := Nat.pow_le_pow_right (by decide) hle
  have h7 : ((2 ^ (32 - b).toNat : Nat) : Int) = (2:Int) ^ (32 - b).toNat := by simp
  have h8 : ((2 ^ (mnF 8 (32 - b)).toNat : Nat) : Int) = (2:Int) ^ (mnF 8 (32 - b)).toNat := by simp
  omega

/-- Every generated route is valid. -/
theorem mkRoute_valid (n : Nat) (x : Nat → Fr) (y : Rr) : vrB (facesF n x) (mkRoute (facesF n x) y) = true := by
  have hl := facesF_len n x
  have hf := pk_bd y.face (facesF n x).length (by omega)
  obtain ⟨fc, hfc⟩ := Int.eq_ofNat_of_zero_le hf.1
  have hfl : fc < (facesF n x).length := by omega
  obtain ⟨b1, b2, b3, b4⟩ := faces_bd n x fc hfl
  obtain ⟨_, hv, _⟩ := viB_parts (faces_good n x fc hfl).1
  have hra := rtA_bd y
  have hrb := rbF_bd (pk y.bits 8)
  have hvp := vp_nt (rtA y) (rbF (pk y.bits 8)) (by omega) (by omega) hrb
  have hm := mn_le (ifAt (facesF n x) fc).nb y.via b1 b2
  have hpw : (2:Int) ^ (32 - (ifAt (facesF n x) fc).nb).toNat ≤ 16777216 := by
    have h5 : (32 - (ifAt (facesF n x) fc).nb).toNat ≤ 24 := by omega
    have h6 : 2 ^ (32 - (ifAt (facesF n x) fc).nb).toNat ≤ 2 ^ 24 := Nat.pow_le_pow_right (by decide) h5
    have h7 : ((2 ^ (32 - (ifAt (facesF n x) fc).nb).toNat : Nat) : Int) = (2:Int) ^ (32 - (ifAt (facesF n x) fc).nb).toNat := by simp
    omega
  have hvn : viaN (facesF n x) y = (ifAt (facesF n x) fc).na + pk y.via ((2:Int) ^ (mnF 8 (32 - (ifAt (facesF n x) fc).nb)).toNat) := by
    unfold viaN rtFace; rw [hfc, Int.toNat_natCast]
  have hcon := con_add _ _ _ hv hm.1 hm.2 (by omega)
  rw [← hvn] at hcon
  have hvu : uniB (viaN (facesF n x) y) = true := by rw [hvn]; simp only [uniB]; exact decide_eq_true (by omega)
  have hvr : vrB (facesF n x) (mkRoute (facesF n x) y) = (decide (rtVia (facesF n x) y = 0) || (!locB (facesF n x) (rtVia (facesF n x) y) && (uniB (rtVia (facesF n x) y) && conB (ifAt (facesF n x) fc).na (ifAt (facesF n x) fc).nb (rtVia (facesF n x) y)))) := by
    simp only [vrB, mkRoute, hvp, Bool.true_and, rtFace, hfc, Int.toNat_natCast]
    rw [decide_eq_true (show 0 ≤ (fc : Int) ∧ (fc : Int) < ((facesF n x).length : Int) by omega), Bool.true_and]
  rw [hvr]
  by_cases hc : y.via.tmod 3 ≠ 0 ∧ locB (facesF n x) (viaN (facesF n x) y) = false
  · have e : rtVia (facesF n x) y = viaN (facesF n x) y := by unfold rtVia; rw [if_pos hc]
    rw [e, hc.2, hvu, hcon]; simp
  · have e : rtVia (facesF n x) y = 0 := by unfold rtVia; rw [if_neg hc]
    rw [e]; simp

theorem routes_at (fs : List If) (n : Nat) (x : Nat → Rr) (i : Nat) (h : i < (routesF fs n x).length) : rtAt (routesF fs n x) i = mkRoute fs (x i) := by
  unfold routesF at h ⊢
  rw [rtAt_eq _ _ h]
  simp [routesTo]
theorem routes_len (fs : List If) (n : Nat) (x : Nat → Rr) : (routesF fs n x).length ≤ 8 := by
  unfold routesF; rw [routesTo_len]; omega
theorem routes_chk (n : Nat) (x : Nat → Fr) (m : Nat) (y : Nat → Rr) : chkB (facesF n x) (routesF (facesF n x) m y) = true :=
  faces_chk n x _ (by have := routes_len (facesF n x) m y; omega) (fun i hi => by rw [routes_at _ _ _ _ hi]; exact mkRoute_valid n x (y i))

end Go.Proofs.Ytkhhmoijjidbbaa
