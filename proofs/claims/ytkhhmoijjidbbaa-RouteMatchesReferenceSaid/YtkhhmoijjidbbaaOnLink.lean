/- The law RouteOnLink returns true for every input: the plain law and the walk. -/
import Derived.Test.YtkhhmoijjidbbaaPlainA
namespace Go.Proofs.Ytkhhmoijjidbbaa
open Go.RowKit Go.Sort
set_option linter.unusedVariables false

theorem faces_bd (n : Nat) (x : Nat → Fr) (i : Nat) (hi : i < (facesF n x).length) : 8 ≤ (ifAt (facesF n x) i).nb ∧ (ifAt (facesF n x) i).nb ≤ 28 ∧ 150000000 ≤ (ifAt (facesF n x) i).na ∧ (ifAt (facesF n x) i).na ≤ 167972160 := by
  have key : ∀ a b : Int, 167772160 ≤ a → a ≤ 167972160 → 8 ≤ b → b ≤ 28 → 150000000 ≤ nt a b ∧ nt a b ≤ 167972160 := by
    intro a b h1 h2 h3 h4
    have hp : (2:Int) ^ (32 - b).toNat ≤ 16777216 := by
      have h5 : (32 - b).toNat ≤ 24 := by omega
      have h6 : 2 ^ (32 - b).toNat ≤ 2 ^ 24 := Nat.pow_le_pow_right (by decide) h5
      have h7 : ((2 ^ (32 - b).toNat : Nat) : Int) = (2:Int) ^ (32 - b).toNat := by simp
      omega
    have hq := pow_bd b (by omega) (by omega)
    unfold nt
    generalize (2:Int) ^ (32 - b).toNat = m at *
    have e := Int.mul_ediv_add_emod a m
    have e2 := Int.emod_lt_of_pos a (show 0 < m by omega)
    have e3 := Int.emod_nonneg a (show m ≠ 0 by omega)
    have e4 : a / m * m = m * (a / m) := Int.mul_comm _ _
    omega
  unfold facesF at hi ⊢
  split
  · rename_i hn
    rw [if_pos hn] at hi
    simp at hi
    subst hi
    have := key 167772160 24 (by omega) (by omega) (by omega) (by omega)
    exact ⟨by decide, by decide, this.1, this.2⟩
  · rename_i hn
    rw [if_neg hn, facesTo_len] at hi
    rw [facesTo_at x _ i hi]
    have h3 := faceA_bd i (by omega) (x i)
    have h4 := bitsF_bd (pk (x i).bits 5)
    have := key (faceA i (x i)) (bitsF (pk (x i).bits 5)) (by omega) (by omega) h4.1 h4.2
    exact ⟨h4.1, h4.2, this.1, this.2⟩

theorem viB_parts {x : If} (h : viB x = true) : uniB x.addr = true ∧ vpB x.na x.nb = true ∧ conB x.na x.nb x.addr = true := by
  simp only [viB, Bool.and_eq_true] at h
  exact ⟨h.2.1, h.2.2.1, h.2.2.2.1⟩

theorem con_add (a b y : Int) (hv : vpB a b = true) (hy : 0 ≤ y) (hy' : y < (2:Int) ^ (32 - b).toNat) (hs : a + y ≤ 4294967295) : conB a b (a + y) = true := by
  obtain ⟨h1, h2, h3, h4, h5⟩ := vpB_parts hv
  have hp := pow_bd b h3 h4
  simp only [conB, hv, Bool.true_and, Bool.and_eq_true, validB, decide_eq_true_eq]
  refine ⟨by omega, ?_⟩
  generalize (2:Int) ^ (32 - b).toNat = m at *
  have e1 := Int.mul_ediv_add_emod a m
  have e2 : a = m * (a / m) := by omega
  rw [e2, Int.mul_comm, Int.add_comm, Int.add_mul_ediv_right _ _ (by omega), Int.mul_ediv_cancel _ (by omega), Int.ediv_eq_zero_of_lt hy hy']
  omega

/-- Without routes: reached directly over an interface whose network is at least as long. -/
theorem onlink_plain (n : Nat) (x : Nat → Fr) (k : Nat) (hk : k < (facesF n x).length) (y : Int) (hy : 0 ≤ y) (hy' : y < (2:Int) ^ (32 - (ifAt (facesF n x) k).nb).toNat) :
    1 ≤ (ifAt (facesF n x) k).na + y ∧ ∃ m, m < (facesF n x).length ∧ look (facesF n x) [] ((ifAt (facesF n x) k).na + y) = ((m : Int), (ifAt (facesF n x) k).na + y, 0) ∧
      conB (ifAt (facesF n x) m).na (ifAt (facesF n x) m).nb ((ifAt (facesF n x) k).na + y) = true ∧ (ifAt (facesF n x) k).nb ≤ (ifAt (facesF n x) m).nb := by
  obtain ⟨b1, b2, b3, b4⟩ := faces_bd n x k hk
  obtain ⟨_, hv, _⟩ := viB_parts (faces_good n x k hk).1
  have hpw : (2:Int) ^ (32 - (ifAt (facesF n x) k).nb).toNat ≤ 16777216 := by
    have h5 : (32 - (ifAt (facesF n x) k).nb).toNat ≤ 24 := by omega
    have h6 : 2 ^ (32 - (ifAt (facesF n x) k).nb).toNat ≤ 2 ^ 24 := Nat.pow_le_pow_right (by decide) h5
    have h7 : ((2 ^ (32 - (ifAt (facesF n x) k).nb).toNat : Nat) : Int) = (2:Int) ^ (32 - (ifAt (facesF n x) k).nb).toNat := by simp
    omega
  have hcon := con_add _ _ y hv hy hy' (by omega)
  refine ⟨by omega, ?_⟩
  have hchk := faces_chk n x [] (by simp) (fun i hi => by simp at hi)
  have huni : uniB ((ifAt (facesF n x) k).na + y) = true := by simp only [uniB]; exact decide_eq_true (by omega)
  have hcand : isCand (facesF n x) [] ((ifAt (facesF n x) k).na + y) k = true := by simp [isCand, netA, netB, hk, hcon]
  cases hp : pickOf (facesF n x) [] ((ifAt (facesF n x) k).na + y) with
  | none => have := pickOf_none hp k (by simpa using hk); rw [hcand] at this; cases this
  | some m =>
    obtain ⟨h1, h2, h3⟩ := pickOf_some hp
    have hm : m < (facesF n x).length := by simpa using h1
    refine ⟨m, hm, by simp [look, hchk, huni, hp, hm], ?_, ?_⟩
    · simpa [isCand, netA, netB, hm] using h2
    · have := h3 k (by simpa using hk) hcand
      simpa [netB, hk, hm] using this

theorem contains_t {a b x : Int} {r : Bool} (h : conB a b x = r) (w : World) :
    Calls Try.prog 21 #[.agg #[.int .i64 a, .int .i64 b], .int .i64 x] w fun e w' => e = .returned (.bool r) ∧ Below w.heap.size w w' := h ▸ contains_any a b x w

set_option maxRecDepth 100000 in
set_option maxHeartbeats 4000000 in
theorem onlink_walk (n : Nat) (x : Nat → Fr) (v : Value) (wh at_ : Int) (w : World) (hF : RdF w v n x) (h1 : i64 wh) (h2 : i64 at_) :
    Calls Try.prog 7 #[v, .int .i64 wh, .int .i64 at_] w fun e w' => e = .returned (.bool true) ∧ Below w.heap.size w w' := by
  obtain ⟨a0, cap0, rfl, hrest⟩ := id hF
  clear hrest
  go_enter Try.func7, Try.ntmps7
  go_wp2_with fail
  refine (sanity_any _).mono ?_
  rintro e w1 ⟨rfl, hb⟩
  go_wp2_with fail
  have hF1 : RdF w1 (.slice a0 n cap0) n x := by
    obtain ⟨a', c', e', g1, g2, g3, g4⟩ := hF
    refine ⟨a', c', e', g1, g2, g3, fun hn => ?_⟩
    obtain ⟨b, o, e'', hc⟩ := g4 hn
    exact ⟨b, o, e'', fun i hi => ⟨keep hb (hc i hi).1, keep hb (hc i hi).2.1, keep hb (hc i hi).2.2⟩⟩
  refine (faces_any n x _ _ hF1).mono ?_
  rintro e w2 ⟨u, rfl, hI, hb2⟩
  replace hb := below_mid hb hb2
  clear hF1 hb2 hF
  have hl := facesF_len n x
  have hgood := Lib.hid (onlink_plain n x)
  have hloc := Lib.hid (faces_local n x)
  have hchk := Lib.hid (show chkE (facesF n x) [] = 0 by
    have := faces_chk n x [] (by simp) (fun i hi => by simp at hi)
    simp [chkE, this])
  have hbd := Lib.hid (faces_bd n x)
  generalize facesF n x = fs at *
  obtain ⟨a, cap, rfl, hcap, _, hp⟩ := id hI
  obtain ⟨b, o, rfl, hc⟩ := hp (by omega)
  have HC := Lib.hid hc
  clear hc hp
  go_wp2_with fail
  refine (pick_any wh fs.length _ h1 (by omega)).mono ?_
  rintro e w3 ⟨rfl, hb3⟩
  have hpk := pk_bd wh fs.length (by omega)
  obtain ⟨k, hk⟩ := Int.eq_ofNat_of_zero_le hpk.1
  rw [hk] at hpk ⊢
  have hkl : k < fs.length := by omega
  replace hb := below_mid hb hb3
  have HC3 := Lib.hid (fun i hi => (HC.out i hi).stay hb3)
  replace hI := hI.stay hb3
  clear hb3 hk
  obtain ⟨bd1, bd2, bd3, bd4⟩ := hbd.out k hkl
  obtain ⟨d0, d1, d2, d3, d4⟩ := HC3.out k hkl
  have hpw := pow_bd (ifAt fs k).nb (by omega) (by omega)
  have hpa := pk_bd at_ ((2:Int) ^ (32 - (ifAt fs k).nb).toNat) (by omega)
  obtain ⟨g1, m, hm, HL, hcon, hbits⟩ := hgood.out k hkl (pk at_ ((2:Int) ^ (32 - (ifAt fs k).nb).toNat)) hpa.1 hpa.2
  have PK := Lib.hid (fun w => pick_any at_ ((2:Int) ^ (32 - (ifAt fs k).nb).toNat) w h2 (by omega))
  have hwr : wrap64 ((2:Int) ^ (32 - (ifAt fs k).nb).toNat) = (2:Int) ^ (32 - (ifAt fs k).nb).toNat := wrap_in _ (by omega) (by omega)
  have hpk2 : pk at_ ((2:Int) ^ (32 - (ifAt fs k).nb).toNat) < 4294967296 := by omega
  have hpk1 := hpa.1
  generalize pk at_ ((2:Int) ^ (32 - (ifAt fs k).nb).toNat) = y at *
  go_wp2_with fail
  have k2 := cell_regrown d2
  have k3 := cell_regrown d3
  refine wp_region_B (by kernel_rfl) (by kernel_rfl) ?_
  repeat (go_big_quiet_step ((go_at_call 11; exact Calls.regrown_of (PK.out _))))
  refine wpQuiet_nil ?_
  intro w4 hb4
  replace hb := below_mid hb hb4
  have HC4 := Lib.hid (fun i hi => (HC3.out i hi).stay hb4)
  replace hI := hI.stay hb4
  replace d1 := keep hb4 d1
  clear k2 k3 hb4 d0 d2 d3 d4 hpa PK hwr hpw hgood hbd
  have HLk := Lib.hid HL
  clear HL
  generalize (ifAt fs k).na + y = aa at *
  go_wp2_with fail
  refine (lookup_r HLk.out _ _ _ hI (RdR_nil _)).mono ?_
  rintro e w5 ⟨rfl, hb5⟩
  replace hb := below_mid hb hb5
  have HC5 := Lib.hid (fun i hi => (HC4.out i hi).stay hb5)
  replace hI := hI.stay hb5
  replace d1 := keep hb5 d1
  clear hb5 HC3 HC4
  go_wp2_with fail
  refine (local_r (hloc.out k hkl).1 (hloc.out k hkl).2 _ _ hI).mono ?_
  rintro e w6 ⟨rfl, hb6⟩
  replace hb := below_mid hb hb6
  have HC6 := Lib.hid (fun i hi => (HC5.out i hi).stay hb6)
  replace hI := hI.stay hb6
  clear hb6 HC5 d1
  obtain ⟨_, _, d2, d3, _⟩ := HC6.out k hkl
  obtain ⟨_, _, m2, m3, _⟩ := HC6.out m hm
  have hdec : decide ((ifAt fs k).nb ≤ (ifAt fs m).nb) = true := decide_eq_true hbits
  have CK := Lib.hid (fun (w' : World) (hb : Below w6.heap.size w6 w') => chk_r hchk.out w' (hI.stay hb) (RdR_nil w'))
  have CN := Lib.hid (fun w => contains_t hcon w)
  clear hchk hcon hloc HC6 HC
  go_wp2_with fail
  have k2 := cell_regrown d2
  have k3 := cell_regrown d3
  have j2 := cell_regrown m2
  have j3 := cell_regrown m3
  refine wp_region_B (by kernel_rfl) (by kernel_rfl) ?_
  repeat (go_big_quiet_step (first | (go_at_call 21; exact Calls.regrown_of (CN.out _)) | (go_at_call 12; exact Calls.regrown_of (CK.out _ (below_regrown _ _ _)))))
  refine wpQuiet_nil ?_
  intro w7 hb7
  replace hb := below_mid hb hb7
  clear k2 k3 j2 j3
  go_wp2
  go_ret
  exact ⟨rfl, hb⟩

end Go.Proofs.Ytkhhmoijjidbbaa
