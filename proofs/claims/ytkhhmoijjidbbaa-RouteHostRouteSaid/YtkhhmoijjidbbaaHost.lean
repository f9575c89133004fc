/- The law RouteHostRoute: the plain law. -/
import Derived.Test.YtkhhmoijjidbbaaPlainB
namespace Go.Proofs.Ytkhhmoijjidbbaa
open Go.RowKit Go.Sort
set_option linter.unusedVariables false

theorem con32 (a b x : Int) (hb : b = 32) (h : conB a b x = true) : x = a := by
  subst hb
  simp only [conB, Bool.and_eq_true, decide_eq_true_eq] at h
  have h2 := h.2.2
  simpa using h2
theorem vp32 (a : Int) (h0 : 0 ≤ a) (h1 : a ≤ 4294967295) : vpB a 32 = true := by
  simp only [vpB, validB, decide_eq_true_eq]
  refine ⟨⟨h0, h1⟩, by omega, by omega, ?_⟩
  simp
theorem con32_self (a : Int) (h0 : 0 ≤ a) (h1 : a ≤ 4294967295) : conB a 32 a = true := by
  simp only [conB, vp32 a h0 h1, Bool.true_and, Bool.and_eq_true, validB, decide_eq_true_eq]
  exact ⟨⟨h0, h1⟩, trivial⟩
theorem nt32 (a : Int) : nt a 32 = a := by unfold nt; simp

def hostV (fs : List If) (v0 : Int) : Int := if locB fs v0 = true ∨ v0 = 0 then 0 else v0

theorem host_plain (n : Nat) (x : Nat → Fr) (m : Nat) (y : Nat → Rr) (k : Nat) (hk : k < (facesF n x).length) (p q : Int) (hp : 0 ≤ p) (hp' : p < 16) (hq : 0 ≤ q) (hq' : q < 1000) (fs : List If) (hfs : fs = facesF n x) :
    let rs := routesF fs m y
    let a := 184549376 + q
    let v := hostV fs ((ifAt fs k).na + p)
    let r : Rt := ⟨a, 32, v, k⟩
    chkB fs rs = true ∧ chkB fs (rs ++ [r]) = true ∧ look fs (rs ++ [r]) a = ((k : Int), (if v = 0 then a else v), 0) ∧ ∀ b, b ≠ a → look fs (rs ++ [r]) b = look fs rs b := by
  subst hfs
  intro rs a v r
  have hl := facesF_len n x
  obtain ⟨b1, b2, b3, b4⟩ := faces_bd n x k hk
  obtain ⟨_, hv, _⟩ := viB_parts (faces_good n x k hk).1
  have hpw : 16 ≤ (2:Int) ^ (32 - (ifAt (facesF n x) k).nb).toNat := by
    have h5 : 4 ≤ (32 - (ifAt (facesF n x) k).nb).toNat := by omega
    have h6 : 2 ^ 4 ≤ 2 ^ (32 - (ifAt (facesF n x) k).nb).toNat := Nat.pow_le_pow_right (by decide) h5
    have h7 : ((2 ^ (32 - (ifAt (facesF n x) k).nb).toNat : Nat) : Int) = (2:Int) ^ (32 - (ifAt (facesF n x) k).nb).toNat := by simp
    omega
  have hcon := con_add _ _ p hv hp (by omega) (by omega)
  have hchk : chkB (facesF n x) rs = true := routes_chk n x m y
  have ha0 : 0 ≤ a ∧ a ≤ 4294967295 := by show 0 ≤ 184549376 + q ∧ 184549376 + q ≤ 4294967295; omega
  have hrl : rs.length ≤ 8 := routes_len (facesF n x) m y
  have hvr : vrB (facesF n x) r = true := by
    simp only [vrB, r, vp32 a ha0.1 ha0.2, Bool.true_and, Int.toNat_natCast]
    rw [decide_eq_true (show 0 ≤ (k : Int) ∧ (k : Int) < ((facesF n x).length : Int) by omega), Bool.true_and]
    by_cases hc : locB (facesF n x) ((ifAt (facesF n x) k).na + p) = true ∨ (ifAt (facesF n x) k).na + p = 0
    · have e : v = 0 := by show hostV _ _ = 0; unfold hostV; rw [if_pos hc]
      simp [e]
    · have e : v = (ifAt (facesF n x) k).na + p := by show hostV _ _ = _; unfold hostV; rw [if_neg hc]
      have hlo : locB (facesF n x) ((ifAt (facesF n x) k).na + p) = false := by
        cases h : locB (facesF n x) ((ifAt (facesF n x) k).na + p) with
        | false => rfl
        | true => exact absurd (.inl h) hc
      have hu : uniB ((ifAt (facesF n x) k).na + p) = true := by simp only [uniB]; exact decide_eq_true (by omega)
      simp [e, hlo, hu, hcon]
  have hchk2 : chkB (facesF n x) (rs ++ [r]) = true := faces_chk n x _ (by simp; omega) (fun i hi => by
    by_cases h : i < rs.length
    · rw [rtAt_left rs r i h]
      have := hchk
      simp only [chkB, Bool.and_eq_true, decide_eq_true_eq] at this
      exact this.2.2 i h
    · have : i = rs.length := by simp at hi; omega
      subst this
      rw [rtAt_last]; exact hvr)
  refine ⟨hchk, hchk2, ?_, fun b hb => ?_⟩
  · have hu : uniB a = true := by simp only [uniB]; exact decide_eq_true (by show 1 ≤ 184549376 + q ∧ 184549376 + q ≤ 4294967294; omega)
    have hlast : isCand (facesF n x) (rs ++ [r]) a ((facesF n x).length + rs.length) = true ∧ netB (facesF n x) (rs ++ [r]) ((facesF n x).length + rs.length) = 32 := by
      unfold isCand netA netB
      rw [if_neg (by omega), if_neg (by omega), show (facesF n x).length + rs.length - (facesF n x).length = rs.length by omega, rtAt_last]
      exact ⟨con32_self a ha0.1 ha0.2, rfl⟩
    cases hpk : pickOf (facesF n x) (rs ++ [r]) a with
    | none => have := pickOf_none hpk ((facesF n x).length + rs.length) (by simp); rw [hlast.1] at this; cases this
    | some kk =>
      obtain ⟨h1, h2, h3⟩ := pickOf_some hpk
      have h4 := h3 _ (by simp) hlast.1
      rw [hlast.2] at h4
      have hkk : kk = (facesF n x).length + rs.length := by
        refine Classical.byContradiction fun hne => ?_
        have hlt : kk < (facesF n x).length + rs.length := by simp at h1; omega
        obtain ⟨e1, e2⟩ := net_left (facesF n x) rs r kk hlt
        rw [e2] at h4
        unfold isCand at h2
        rw [e1, e2] at h2
        by_cases hf : kk < (facesF n x).length
        · have := faces_bd n x kk hf
          simp only [netB, hf, if_true] at h4
          omega
        · have hri : kk - (facesF n x).length < rs.length := by omega
          simp only [netA, netB, hf, if_false] at h2 h4
          rw [routes_at _ _ _ _ hri] at h2 h4
          have hrb := rbF_bd (pk (y (kk - (facesF n x).length)).bits 8)
          have hra := rtA_bd (y (kk - (facesF n x).length))
          simp only [mkRoute] at h2 h4
          have hbits : rbF (pk (y (kk - (facesF n x).length)).bits 8) = 32 := by omega
          have hx := con32 _ _ _ hbits h2
          rw [hbits, nt32] at hx
          have : a = 184549376 + q := rfl
          omega
      subst hkk
      simp only [look, hchk2, hu, hpk, if_true]
      rw [if_neg (by omega), show (facesF n x).length + rs.length - (facesF n x).length = rs.length by omega, rtAt_last]
  · refine look_more _ rs r b ?_ hchk hchk2
    cases hc : conB r.na r.nb b with
    | false => rfl
    | true => exact absurd (con32 _ _ _ rfl hc) hb

end Go.Proofs.Ytkhhmoijjidbbaa
