/- A machine of symbolic values: SocketCloseCompletesCalls, walked. -/
import Derived.Test.YtockaipodnapjaaGreatDoorVz0
import Derived.Test.YtockaipodnapjaaGreatDoorVz1
import Derived.Test.YtockaipodnapjaaGreatDoorVz2
import Derived.Test.YtockaipodnapjaaGreatDoorVz3
import Derived.Test.YtockaipodnapjaaGreatDoorVz4
import Derived.Test.YtockaipodnapjaaGreatDoorVz5
namespace Go.Proofs.YtockaipodnapjaaGreatDoor
open Go Go.RowKit
set_option linter.unusedVariables false
set_option maxRecDepth 100000
section
variable {a b sa sb p : Int}
theorem p_n1 (p1 : 49152 ≤ p) : (!ilt p (Int.ofNat 1)) = true := not_ilt (by show (1 : Int) ≤ p; omega)
theorem p_n2 (p2 : p ≤ 49215) : (!ilt (Int.ofNat 65535) p) = true := not_ilt (by show p ≤ (65535 : Int); omega)
theorem p_n3 (p2 : p ≤ 49215) : (!!ilt (Int.ofNat 65535) p) = false := nnot_ilt (by show p ≤ (65535 : Int); omega)
theorem p_n4 : (!ieq p p) = false := by rw [ieq_t rfl]; rfl
theorem keq_refl (k : Key) : keq k k = true := by rw [keq_dec]; exact decide_eq_true rfl
theorem cn_obs1 (ha : inR a = true) (hb : inR b = true) (s1 : 0 ≤ sa) (s2 : sa < 4294967296) (t1 : 0 ≤ sb) (t2 : sb < 4294967296) (p1 : 49152 ≤ p) (p2 : p ≤ 49215) : okObs (cnL a b sa sb p) := by
  have e0 : Int.tmod 0 64 = 0 := rfl
  have m1 := Int.tmod_nonneg (b := 64) s1
  have m2 := Int.tmod_lt_of_pos (b := 64) sa (by omega)
  have m3 := Int.tmod_nonneg (b := 64) (show 0 ≤ sa.tmod 64 + Int.tmod 0 64 + 64 by omega)
  have m4 := Int.tmod_lt_of_pos (b := 64) (sa.tmod 64 + Int.tmod 0 64 + 64) (by omega)
  have i1 : inR ((sa.tmod 64).add ((0 : Int).tmod 64)) = true := inR_t (by show _ ≤ sa.tmod 64 + Int.tmod 0 64; omega) (by show sa.tmod 64 + Int.tmod 0 64 ≤ _; omega)
  have i2 : inR (((sa.tmod 64).add ((0 : Int).tmod 64)).add 64) = true := inR_t (by show _ ≤ sa.tmod 64 + Int.tmod 0 64 + 64; omega) (by show sa.tmod 64 + Int.tmod 0 64 + 64 ≤ _; omega)
  have i3 : inR (((((sa.tmod 64).add ((0 : Int).tmod 64)).add 64).tmod 64).add 0) = true := inR_t (by show _ ≤ (sa.tmod 64 + Int.tmod 0 64 + 64).tmod 64 + 0; omega) (by show (sa.tmod 64 + Int.tmod 0 64 + 64).tmod 64 + 0 ≤ _; omega)
  have i4 : inR p = true := inR_t (by omega) (by omega)
  have q1 : ilt (Int.ofNat 4294967295) sa = false := ilt_f (by show sa ≤ (4294967295 : Int); omega)
  have q2 : ilt (Int.ofNat 4294967295) sb = false := ilt_f (by show sb ≤ (4294967295 : Int); omega)
  have q3 : ilt sa (Int.ofNat 0) = false := ilt_f s1
  have q4 : ilt sb (Int.ofNat 0) = false := ilt_f t1
  unfold cnL
  repeat' first | exact okO_nil | refine okO_cons ?_ ?_
  all_goals first | rfl | exact p_n1 p1 | exact p_n2 p2 | exact p_n3 p2 | exact p_n4 | exact ieq_t rfl | exact keq_refl _ | exact i1 | exact i2 | exact i3 | exact i4 | exact q1 | exact q2 | exact q3 | exact q4 | (rw [ha]; rfl) | (rw [hb]; rfl) | (rw [p_n1 p1, p_n2 p2]; rfl)
theorem cnT_ok (ha : inR a = true) (hb : inR b = true) (args : List V) : CallOK arS Tryz.prog 11 args (cnT a b (pickF a 4294967296) (pickF b 4294967296) (prt (pickF a 4294967296)) args) := by
  have h1 := pickF_rg a (n := 4294967296) (by decide)
  have h2 := pickF_rg b (n := 4294967296) (by decide)
  have h3 := prt_rg h1.1
  have hr := cn_run a b
  rw [← cn_ren] at hr
  exact ck_ok entrX tblQ_ok (cn_ok_ a b _ _ _) hr (cn_obs1 ha hb h1.1 h1.2 h2.1 h2.2 h3.1 h3.2) args
theorem tblW_ok (ha : inR a = true) (hb : inR b = true) (K : Int) : TblOK arS Tryz.prog (tblW a b (pickF a 4294967296) (pickF b 4294967296) (prt (pickF a 4294967296)) K) :=
  addT_ok (addT_ok (tblC_ok 6 K) (cnT_ok ha hb)) (tickT_ok _ _ _)
end
theorem ccM0_ok {p : Int} (p1 : 49152 ≤ p) (p2 : p ≤ 49215) : okObs (ccM0 p) := by
  unfold ccM0
  (repeat' first | exact okO_nil | refine okO_cons ?_ ?_) <;> first | rfl | exact p_n1 p1 | exact p_n2 p2 | exact p_n3 p2 | exact p_n4 | exact ieq_t rfl | exact keq_refl _ | (rw [p_n1 p1, p_n2 p2]; rfl) | (simp only [p_n1 p1, p_n2 p2, Bool.and_true, Bool.true_and])
theorem ccY0_ok {m p : Int} (p1 : 49152 ≤ p) (p2 : p ≤ 49215) (hm : inR m = true) (hK : ieq (pickF m 6) 0 = true) : okObs (ccY0 m p) := by
  unfold ccY0
  (repeat' first | exact okO_nil | refine okO_cons ?_ ?_) <;> first | rfl | exact p_n1 p1 | exact p_n2 p2 | exact p_n3 p2 | exact p_n4 | exact ieq_t rfl | exact keq_refl _ | (rw [hm, hK]; rfl) | (rw [p_n1 p1, p_n2 p2]; rfl) | (simp only [p_n1 p1, p_n2 p2, Bool.and_true, Bool.true_and])
theorem ccM1_ok {p : Int} (p1 : 49152 ≤ p) (p2 : p ≤ 49215) : okObs (ccM1 p) := by
  unfold ccM1
  (repeat' first | exact okO_nil | refine okO_cons ?_ ?_) <;> first | rfl | exact p_n1 p1 | exact p_n2 p2 | exact p_n3 p2 | exact p_n4 | exact ieq_t rfl | exact keq_refl _ | (rw [p_n1 p1, p_n2 p2]; rfl) | (simp only [p_n1 p1, p_n2 p2, Bool.and_true, Bool.true_and])
theorem ccY1_ok {m p : Int} (p1 : 49152 ≤ p) (p2 : p ≤ 49215) (hm : inR m = true) (hK : ieq (pickF m 6) 1 = true) : okObs (ccY1 m p) := by
  unfold ccY1
  (repeat' first | exact okO_nil | refine okO_cons ?_ ?_) <;> first | rfl | exact p_n1 p1 | exact p_n2 p2 | exact p_n3 p2 | exact p_n4 | exact ieq_t rfl | exact keq_refl _ | (rw [hm, hK]; rfl) | (rw [p_n1 p1, p_n2 p2]; rfl) | (simp only [p_n1 p1, p_n2 p2, Bool.and_true, Bool.true_and])
theorem ccM2_ok {p : Int} (p1 : 49152 ≤ p) (p2 : p ≤ 49215) : okObs (ccM2 p) := by
  unfold ccM2
  (repeat' first | exact okO_nil | refine okO_cons ?_ ?_) <;> first | rfl | exact p_n1 p1 | exact p_n2 p2 | exact p_n3 p2 | exact p_n4 | exact ieq_t rfl | exact keq_refl _ | (rw [p_n1 p1, p_n2 p2]; rfl) | (simp only [p_n1 p1, p_n2 p2, Bool.and_true, Bool.true_and])
theorem ccY2_ok {m p : Int} (p1 : 49152 ≤ p) (p2 : p ≤ 49215) (hm : inR m = true) (hK : ieq (pickF m 6) 2 = true) : okObs (ccY2 m p) := by
  unfold ccY2
  (repeat' first | exact okO_nil | refine okO_cons ?_ ?_) <;> first | rfl | exact p_n1 p1 | exact p_n2 p2 | exact p_n3 p2 | exact p_n4 | exact ieq_t rfl | exact keq_refl _ | (rw [hm, hK]; rfl) | (rw [p_n1 p1, p_n2 p2]; rfl) | (simp only [p_n1 p1, p_n2 p2, Bool.and_true, Bool.true_and])
theorem ccM3_ok {p : Int} (p1 : 49152 ≤ p) (p2 : p ≤ 49215) : okObs (ccM3 p) := by
  unfold ccM3
  (repeat' first | exact okO_nil | refine okO_cons ?_ ?_) <;> first | rfl | exact p_n1 p1 | exact p_n2 p2 | exact p_n3 p2 | exact p_n4 | exact ieq_t rfl | exact keq_refl _ | (rw [p_n1 p1, p_n2 p2]; rfl) | (simp only [p_n1 p1, p_n2 p2, Bool.and_true, Bool.true_and])
theorem ccY3_ok {m p : Int} (p1 : 49152 ≤ p) (p2 : p ≤ 49215) (hm : inR m = true) (hK : ieq (pickF m 6) 3 = true) : okObs (ccY3 m p) := by
  unfold ccY3
  (repeat' first | exact okO_nil | refine okO_cons ?_ ?_) <;> first | rfl | exact p_n1 p1 | exact p_n2 p2 | exact p_n3 p2 | exact p_n4 | exact ieq_t rfl | exact keq_refl _ | (rw [hm, hK]; rfl) | (rw [p_n1 p1, p_n2 p2]; rfl) | (simp only [p_n1 p1, p_n2 p2, Bool.and_true, Bool.true_and])
theorem ccM4_ok {p : Int} (p1 : 49152 ≤ p) (p2 : p ≤ 49215) : okObs (ccM4 p) := by
  unfold ccM4
  (repeat' first | exact okO_nil | refine okO_cons ?_ ?_) <;> first | rfl | exact p_n1 p1 | exact p_n2 p2 | exact p_n3 p2 | exact p_n4 | exact ieq_t rfl | exact keq_refl _ | (rw [p_n1 p1, p_n2 p2]; rfl) | (simp only [p_n1 p1, p_n2 p2, Bool.and_true, Bool.true_and])
theorem ccY4_ok {m p : Int} (p1 : 49152 ≤ p) (p2 : p ≤ 49215) (hm : inR m = true) (hK : ieq (pickF m 6) 4 = true) : okObs (ccY4 m p) := by
  unfold ccY4
  (repeat' first | exact okO_nil | refine okO_cons ?_ ?_) <;> first | rfl | exact p_n1 p1 | exact p_n2 p2 | exact p_n3 p2 | exact p_n4 | exact ieq_t rfl | exact keq_refl _ | (rw [hm, hK]; rfl) | (rw [p_n1 p1, p_n2 p2]; rfl) | (simp only [p_n1 p1, p_n2 p2, Bool.and_true, Bool.true_and])
theorem ccM5_ok {p : Int} (p1 : 49152 ≤ p) (p2 : p ≤ 49215) : okObs (ccM5 p) := by
  unfold ccM5
  (repeat' first | exact okO_nil | refine okO_cons ?_ ?_) <;> first | rfl | exact p_n1 p1 | exact p_n2 p2 | exact p_n3 p2 | exact p_n4 | exact ieq_t rfl | exact keq_refl _ | (rw [p_n1 p1, p_n2 p2]; rfl) | (simp only [p_n1 p1, p_n2 p2, Bool.and_true, Bool.true_and])
theorem ccY5_ok {m p : Int} (p1 : 49152 ≤ p) (p2 : p ≤ 49215) (hm : inR m = true) (hK : ieq (pickF m 6) 5 = true) : okObs (ccY5 m p) := by
  unfold ccY5
  (repeat' first | exact okO_nil | refine okO_cons ?_ ?_) <;> first | rfl | exact p_n1 p1 | exact p_n2 p2 | exact p_n3 p2 | exact p_n4 | exact ieq_t rfl | exact keq_refl _ | (rw [hm, hK]; rfl) | (rw [p_n1 p1, p_n2 p2]; rfl) | (simp only [p_n1 p1, p_n2 p2, Bool.and_true, Bool.true_and])
theorem closeCompletesCalls_w (a b m : Int) (w : World) (hw : Glbs w) (ha : inR a = true) (hb : inR b = true) (hm : inR m = true) : Calls Tryz.prog 8 #[.int .i64 a, .int .i64 b, .int .i64 m] w fun e w' => e = .returned (.bool true) ∧ Below w.heap.size w w' := by
  have h1 := pickF_rg a (n := 4294967296) (by decide)
  have h3 := prt_rg h1.1
  have hm6 := pickF_rg m (n := 6) (by decide)
  have hc : pickF m 6 = 0 ∨ pickF m 6 = 1 ∨ pickF m 6 = 2 ∨ pickF m 6 = 3 ∨ pickF m 6 = 4 ∨ pickF m 6 = 5 := by omega
  rcases hc with h | h | h | h | h | h
  all_goals have hK := ieq_t h
  · exact vm_row2 (args := [.int true .i64 a, .int true .i64 b, .int true .i64 m]) entrX (tblW_ok ha hb 0) rfl rfl (cc_run0 a b m _ _ _) (ccL_ok (ccM0_ok h3.1 h3.2) (okO_app (ccY0_ok h3.1 h3.2 hm hK) (cnE_ok a b))) w hw
  · exact vm_row2 (args := [.int true .i64 a, .int true .i64 b, .int true .i64 m]) entrX (tblW_ok ha hb 1) rfl rfl (cc_run1 a b m _ _ _) (ccL_ok (ccM1_ok h3.1 h3.2) (okO_app (ccY1_ok h3.1 h3.2 hm hK) (cnE_ok a b))) w hw
  · exact vm_row2 (args := [.int true .i64 a, .int true .i64 b, .int true .i64 m]) entrX (tblW_ok ha hb 2) rfl rfl (cc_run2 a b m _ _ _) (ccL_ok (ccM2_ok h3.1 h3.2) (okO_app (ccY2_ok h3.1 h3.2 hm hK) (cnE_ok a b))) w hw
  · exact vm_row2 (args := [.int true .i64 a, .int true .i64 b, .int true .i64 m]) entrX (tblW_ok ha hb 3) rfl rfl (cc_run3 a b m _ _ _) (ccL_ok (ccM3_ok h3.1 h3.2) (okO_app (ccY3_ok h3.1 h3.2 hm hK) (cnE_ok a b))) w hw
  · exact vm_row2 (args := [.int true .i64 a, .int true .i64 b, .int true .i64 m]) entrX (tblW_ok ha hb 4) rfl rfl (cc_run4 a b m _ _ _) (ccL_ok (ccM4_ok h3.1 h3.2) (okO_app (ccY4_ok h3.1 h3.2 hm hK) (cnE_ok a b))) w hw
  · exact vm_row2 (args := [.int true .i64 a, .int true .i64 b, .int true .i64 m]) entrX (tblW_ok ha hb 5) rfl rfl (cc_run5 a b m _ _ _) (ccL_ok (ccM5_ok h3.1 h3.2) (okO_app (ccY5_ok h3.1 h3.2 hm hK) (cnE_ok a b))) w hw
end Go.Proofs.YtockaipodnapjaaGreatDoor

