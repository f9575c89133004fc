/- RangesAddCommutes, walked. -/
import Derived.Test.YthkkhgfdppbphaaLwC
namespace Go.Proofs.Ythkkhgfdppbphaa
open Go.RowKit Go.Sort Go.Shelf
set_option linter.unusedVariables false

set_option maxHeartbeats 4000000 in
theorem comm_walk (n : Nat) (f : Nat → Sp) (v : Value) (y z : Sp) (x0 : World) (hv : RdX x0 v n f) (hy : i64S y) (hz : i64S z) :
    Calls Try.prog 5 #[v, spV y, spV z] x0 fun e w' => e = .returned (.bool true) ∧ Below x0.heap.size x0 w' := by
  have B := Lib.hid (Below.refl x0.heap.size x0)
  have RX := Lib.hid hv
  obtain ⟨av, cv, rfl, _⟩ := hv
  obtain ⟨y0, y1⟩ := y
  obtain ⟨z0, z1⟩ := z
  have HI := Lib.hid (spans_inv f (min n 10))
  have PS := Lib.hid (spans_any n f (.slice av n cv))
  have PY := Lib.hid (fun w => span_any ⟨y0, y1⟩ w hy)
  have PZ := Lib.hid (fun w => span_any ⟨z0, z1⟩ w hz)
  have SY := Lib.hid (spanF_ok ⟨y0, y1⟩)
  have SZ := Lib.hid (spanF_ok ⟨z0, z1⟩)
  clear hy hz
  generalize spanF ⟨y0, y1⟩ = s at *
  generalize spanF ⟨z0, z1⟩ = t at *
  obtain ⟨s0, s1⟩ := s
  obtain ⟨t0, t1⟩ := t
  generalize spansF f (min n 10) = l at *
  obtain ⟨x1, hx1⟩ : ∃ y, x0.alloc (.cells #[.int .i64 y0, .int .i64 y1] 26) = y := ⟨_, rfl⟩
  have hb : Below x0.heap.size x0 x1 := hx1 ▸ bal x0 (.cells #[.int .i64 y0, .int .i64 y1] 26)
  replace RX := Lib.hid (RX.out.stay hb)
  replace B := Lib.hid (below_mid B.out hb)
  clear hb
  have Y0 := Lib.hid (hx1 ▸ (box1 x0 y0 y1 26).1)
  have Y1 := Lib.hid (hx1 ▸ (box1 x0 y0 y1 26).2)
  have pY0 := Y0.out
  have pY1 := Y1.out
  obtain ⟨x2, hx2⟩ : ∃ y, x1.alloc (.cells #[.int .i64 z0, .int .i64 z1] 26) = y := ⟨_, rfl⟩
  have hb : Below x1.heap.size x1 x2 := hx2 ▸ bal x1 (.cells #[.int .i64 z0, .int .i64 z1] 26)
  replace RX := Lib.hid (RX.out.stay hb)
  replace Y0 := Lib.hid (keep hb Y0.out)
  replace Y1 := Lib.hid (keep hb Y1.out)
  replace B := Lib.hid (below_mid B.out hb)
  clear hb
  have Z0 := Lib.hid (hx2 ▸ (box1 x1 z0 z1 26).1)
  have Z1 := Lib.hid (hx2 ▸ (box1 x1 z0 z1 26).2)
  have pZ0 := Z0.out
  have pZ1 := Z1.out
  go_enter Try.func5, Try.ntmps5
  have uY0 := Y0.out
  have uY1 := Y1.out
  have uZ0 := Z0.out
  have uZ1 := Z1.out
  go_wp2_with fail
  clear uY0 uY1 uZ0 uZ1 pY0 pY1 pZ0 pZ1
  refine (sane_any _).mono ?_
  rintro e x3 ⟨rfl, hb⟩
  replace RX := Lib.hid (RX.out.stay hb)
  replace Y0 := Lib.hid (keep hb Y0.out)
  replace Y1 := Lib.hid (keep hb Y1.out)
  replace Z0 := Lib.hid (keep hb Z0.out)
  replace Z1 := Lib.hid (keep hb Z1.out)
  replace B := Lib.hid (below_mid B.out hb)
  clear hb
  have uY0 := Y0.out
  have uY1 := Y1.out
  have uZ0 := Z0.out
  have uZ1 := Z1.out
  go_wp2_with fail
  clear uY0 uY1 uZ0 uZ1
  refine (PS.out _ RX.out).mono ?_
  rintro e x4 ⟨vl, rfl, r0, hb⟩
  replace RX := Lib.hid (RX.out.stay hb)
  replace Y0 := Lib.hid (keep hb Y0.out)
  replace Y1 := Lib.hid (keep hb Y1.out)
  replace Z0 := Lib.hid (keep hb Z0.out)
  replace Z1 := Lib.hid (keep hb Z1.out)
  replace B := Lib.hid (below_mid B.out hb)
  have RL := Lib.hid r0
  clear hb r0
  clear RX
  clear PS
  have uY0 := Y0.out
  have uY1 := Y1.out
  have uZ0 := Z0.out
  have uZ1 := Z1.out
  go_wp2_with fail
  clear uY0 uY1 uZ0 uZ1
  refine (PY.out _).mono ?_
  rintro e x5 ⟨rfl, hb⟩
  replace RL := Lib.hid (RL.out.stay hb)
  replace Y0 := Lib.hid (keep hb Y0.out)
  replace Y1 := Lib.hid (keep hb Y1.out)
  replace Z0 := Lib.hid (keep hb Z0.out)
  replace Z1 := Lib.hid (keep hb Z1.out)
  replace B := Lib.hid (below_mid B.out hb)
  clear hb
  clear PY
  clear Y0
  clear Y1
  obtain ⟨x6, hx6⟩ : ∃ y, x5.alloc (.cells #[.int .i64 s0, .int .i64 s1] 24) = y := ⟨_, rfl⟩
  have hb : Below x5.heap.size x5 x6 := hx6 ▸ bal x5 (.cells #[.int .i64 s0, .int .i64 s1] 24)
  replace RL := Lib.hid (RL.out.stay hb)
  replace Z0 := Lib.hid (keep hb Z0.out)
  replace Z1 := Lib.hid (keep hb Z1.out)
  replace B := Lib.hid (below_mid B.out hb)
  clear hb
  have S0 := Lib.hid (hx6 ▸ (box1 x5 s0 s1 24).1)
  have S1 := Lib.hid (hx6 ▸ (box1 x5 s0 s1 24).2)
  have pS0 := S0.out
  have pS1 := S1.out
  have uZ0 := Z0.out
  have uZ1 := Z1.out
  have uS0 := S0.out
  have uS1 := S1.out
  go_wp2_with fail
  clear uZ0 uZ1 uS0 uS1 pS0 pS1
  refine (PZ.out _).mono ?_
  rintro e x7 ⟨rfl, hb⟩
  replace RL := Lib.hid (RL.out.stay hb)
  replace Z0 := Lib.hid (keep hb Z0.out)
  replace Z1 := Lib.hid (keep hb Z1.out)
  replace S0 := Lib.hid (keep hb S0.out)
  replace S1 := Lib.hid (keep hb S1.out)
  replace B := Lib.hid (below_mid B.out hb)
  clear hb
  clear PZ
  clear Z0
  clear Z1
  obtain ⟨x8, hx8⟩ : ∃ y, x7.alloc (.cells #[.int .i64 t0, .int .i64 t1] 24) = y := ⟨_, rfl⟩
  have hb : Below x7.heap.size x7 x8 := hx8 ▸ bal x7 (.cells #[.int .i64 t0, .int .i64 t1] 24)
  replace RL := Lib.hid (RL.out.stay hb)
  replace S0 := Lib.hid (keep hb S0.out)
  replace S1 := Lib.hid (keep hb S1.out)
  replace B := Lib.hid (below_mid B.out hb)
  clear hb
  have T0 := Lib.hid (hx8 ▸ (box1 x7 t0 t1 24).1)
  have T1 := Lib.hid (hx8 ▸ (box1 x7 t0 t1 24).2)
  have pT0 := T0.out
  have pT1 := T1.out
  have I1 := Lib.hid (HI.out.add SY.out)
  have I2 := Lib.hid (HI.out.add SZ.out)
  have I3 := Lib.hid (I1.out.add SZ.out)
  have HE := Lib.hid (plain_comm HI.out SY.out SZ.out)
  have uS0 := S0.out
  have uS1 := S1.out
  have uT0 := T0.out
  have uT1 := T1.out
  go_wp2
  clear pT0 pT1
  replace uS0 := cell_regrown S0.out
  replace uS1 := cell_regrown S1.out
  replace uT0 := cell_regrown T0.out
  replace uT1 := cell_regrown T1.out
  refine wp_region_R 5 (by kernel_rfl) (by kernel_rfl) ?_
  simp only [List.take, List.drop]
  iterate 2 (refine wpR_want (by kernel_rfl) rfl rfl ?_; intro K hK; go_big_quiet_op; go_big_quiet_on)
  refine wpR_ex (rdP (addF l ⟨s0, s1⟩)) (rdP_lasts _) (by kernel_rfl) (fun a' w' hw' he => ?_) ?_
  · obtain ⟨h20, h21, _⟩ := he
    replace h20 : a'.eval (.tmp 20) = vl := h20
    replace h21 : a'.eval (.tmp 21) = spV ⟨s0, s1⟩ := h21
    refine wp_list (f := 17) (args := #[a'.eval (.tmp 20), a'.eval (.tmp 21)]) (by simp [go_sem, Act.eval]) ?_
    rw [h20, h21]
    exact add_any _ _ _ _ (RL.out.stay hw') (by have := HI.out.len; omega)
  rintro d hd
  cases hd
  simp only [List.nil_append]
  iterate 1 (refine wpR_want (by kernel_rfl) rfl rfl ?_; intro K hK; go_big_quiet_op; go_big_quiet_on)
  refine wpR_ex (rdP (addF (addF l ⟨s0, s1⟩) ⟨t0, t1⟩)) (rdP_lasts _) (by kernel_rfl) (fun a' w' hw' he => ?_) ?_
  · obtain ⟨h22, h23, _⟩ := he
    replace h22 : RdS w' (a'.eval (.tmp 22)) (addF l ⟨s0, s1⟩) := h22
    replace h23 : a'.eval (.tmp 23) = spV ⟨t0, t1⟩ := h23
    refine wp_list (f := 17) (args := #[a'.eval (.tmp 22), a'.eval (.tmp 23)]) (by simp [go_sem, Act.eval]) ?_
    rw [h23]
    exact add_any _ _ _ _ h22 (by have := I1.out.len; omega)
  rintro d hd
  cases hd
  simp only [List.cons_append, List.nil_append]
  refine wpR_nil (by kernel_rfl) (by simp) ?_
  rintro x9 hb
  simp only [exAll]
  rintro u22 g22
  rintro u24 g24
  clear uS0 uS1 uT0 uT1
  replace RL := Lib.hid (RL.out.stay hb)
  replace S0 := Lib.hid (keep hb S0.out)
  replace S1 := Lib.hid (keep hb S1.out)
  replace T0 := Lib.hid (keep hb T0.out)
  replace T1 := Lib.hid (keep hb T1.out)
  replace B := Lib.hid (below_mid B.out hb)
  clear hb
  simp only [Act.put, List.setIfInBounds_toArray, List.set_cons_succ, List.set_cons_zero]
  clear g22
  have RA := Lib.hid (show RdS x9 u24 _ from g24)
  clear g24
  simp only [List.drop]
  have uS0 := S0.out
  have uS1 := S1.out
  have uT0 := T0.out
  have uT1 := T1.out
  go_wp2
  replace uS0 := cell_regrown S0.out
  replace uS1 := cell_regrown S1.out
  replace uT0 := cell_regrown T0.out
  replace uT1 := cell_regrown T1.out
  refine wp_region_R 5 (by kernel_rfl) (by kernel_rfl) ?_
  simp only [List.take, List.drop]
  iterate 2 (refine wpR_want (by kernel_rfl) rfl rfl ?_; intro K hK; go_big_quiet_op; go_big_quiet_on)
  refine wpR_ex (rdP (addF l ⟨t0, t1⟩)) (rdP_lasts _) (by kernel_rfl) (fun a' w' hw' he => ?_) ?_
  · obtain ⟨h25, h26, _⟩ := he
    replace h25 : a'.eval (.tmp 25) = vl := h25
    replace h26 : a'.eval (.tmp 26) = spV ⟨t0, t1⟩ := h26
    refine wp_list (f := 17) (args := #[a'.eval (.tmp 25), a'.eval (.tmp 26)]) (by simp [go_sem, Act.eval]) ?_
    rw [h25, h26]
    exact add_any _ _ _ _ (RL.out.stay hw') (by have := HI.out.len; omega)
  rintro d hd
  cases hd
  simp only [List.nil_append]
  iterate 1 (refine wpR_want (by kernel_rfl) rfl rfl ?_; intro K hK; go_big_quiet_op; go_big_quiet_on)
  refine wpR_ex (rdP (addF (addF l ⟨t0, t1⟩) ⟨s0, s1⟩)) (rdP_lasts _) (by kernel_rfl) (fun a' w' hw' he => ?_) ?_
  · obtain ⟨h27, h28, _⟩ := he
    replace h27 : RdS w' (a'.eval (.tmp 27)) (addF l ⟨t0, t1⟩) := h27
    replace h28 : a'.eval (.tmp 28) = spV ⟨s0, s1⟩ := h28
    refine wp_list (f := 17) (args := #[a'.eval (.tmp 27), a'.eval (.tmp 28)]) (by simp [go_sem, Act.eval]) ?_
    rw [h28]
    exact add_any _ _ _ _ h27 (by have := I2.out.len; omega)
  rintro d hd
  cases hd
  simp only [List.cons_append, List.nil_append]
  refine wpR_nil (by kernel_rfl) (by simp) ?_
  rintro x10 hb
  simp only [exAll]
  rintro u27 g27
  rintro u29 g29
  clear uS0 uS1 uT0 uT1
  replace RL := Lib.hid (RL.out.stay hb)
  replace RA := Lib.hid (RA.out.stay hb)
  replace S0 := Lib.hid (keep hb S0.out)
  replace S1 := Lib.hid (keep hb S1.out)
  replace T0 := Lib.hid (keep hb T0.out)
  replace T1 := Lib.hid (keep hb T1.out)
  replace B := Lib.hid (below_mid B.out hb)
  clear hb
  simp only [Act.put, List.setIfInBounds_toArray, List.set_cons_succ, List.set_cons_zero]
  clear g27
  have RB := Lib.hid (show RdS x10 u29 _ from g29)
  clear g29
  simp only [List.drop]
  generalize addF (addF l ⟨s0, s1⟩) ⟨t0, t1⟩ = la at *
  generalize addF (addF l ⟨t0, t1⟩) ⟨s0, s1⟩ = lb at *
  have uS0 := S0.out
  have uS1 := S1.out
  have uT0 := T0.out
  have uT1 := T1.out
  go_wp2_with fail
  clear uS0 uS1 uT0 uT1
  refine (same_r (decide_eq_true HE.out.1) _ _ _ RA.out RB.out).mono ?_
  rintro e x11 ⟨rfl, hb⟩
  replace RL := Lib.hid (RL.out.stay hb)
  replace RA := Lib.hid (RA.out.stay hb)
  replace RB := Lib.hid (RB.out.stay hb)
  replace S0 := Lib.hid (keep hb S0.out)
  replace S1 := Lib.hid (keep hb S1.out)
  replace T0 := Lib.hid (keep hb T0.out)
  replace T1 := Lib.hid (keep hb T1.out)
  replace B := Lib.hid (below_mid B.out hb)
  clear hb
  have uS0 := S0.out
  have uS1 := S1.out
  have uT0 := T0.out
  have uT1 := T1.out
  go_wp2_with fail
  clear uS0 uS1 uT0 uT1
  refine (add_any la ⟨s0, s1⟩ _ _ RA.out (by have := I3.out.len; omega)).mono ?_
  rintro e x12 ⟨vc, rfl, r0, hb⟩
  replace RL := Lib.hid (RL.out.stay hb)
  replace RA := Lib.hid (RA.out.stay hb)
  replace RB := Lib.hid (RB.out.stay hb)
  replace S0 := Lib.hid (keep hb S0.out)
  replace S1 := Lib.hid (keep hb S1.out)
  replace T0 := Lib.hid (keep hb T0.out)
  replace T1 := Lib.hid (keep hb T1.out)
  replace B := Lib.hid (below_mid B.out hb)
  have RC := Lib.hid r0
  clear hb r0
  have uS0 := S0.out
  have uS1 := S1.out
  have uT0 := T0.out
  have uT1 := T1.out
  go_wp2_with fail
  clear uS0 uS1 uT0 uT1
  refine (same_r (decide_eq_true HE.out.2.1) _ _ _ RC.out RA.out).mono ?_
  rintro e x13 ⟨rfl, hb⟩
  replace RL := Lib.hid (RL.out.stay hb)
  replace RA := Lib.hid (RA.out.stay hb)
  replace RB := Lib.hid (RB.out.stay hb)
  replace RC := Lib.hid (RC.out.stay hb)
  replace S0 := Lib.hid (keep hb S0.out)
  replace S1 := Lib.hid (keep hb S1.out)
  replace T0 := Lib.hid (keep hb T0.out)
  replace T1 := Lib.hid (keep hb T1.out)
  replace B := Lib.hid (below_mid B.out hb)
  clear hb
  have uS0 := S0.out
  have uS1 := S1.out
  have uT0 := T0.out
  have uT1 := T1.out
  go_wp2_with fail
  clear uS0 uS1 uT0 uT1
  refine (contains_r HE.out.2.2.1 _ _ RA.out).mono ?_
  rintro e x14 ⟨rfl, hb⟩
  replace RL := Lib.hid (RL.out.stay hb)
  replace RA := Lib.hid (RA.out.stay hb)
  replace RB := Lib.hid (RB.out.stay hb)
  replace RC := Lib.hid (RC.out.stay hb)
  replace S0 := Lib.hid (keep hb S0.out)
  replace S1 := Lib.hid (keep hb S1.out)
  replace T0 := Lib.hid (keep hb T0.out)
  replace T1 := Lib.hid (keep hb T1.out)
  replace B := Lib.hid (below_mid B.out hb)
  clear hb
  have uS0 := S0.out
  have uS1 := S1.out
  have uT0 := T0.out
  have uT1 := T1.out
  go_wp2_with fail
  clear uS0 uS1 uT0 uT1
  refine (contains_r HE.out.2.2.2 _ _ RA.out).mono ?_
  rintro e x15 ⟨rfl, hb⟩
  replace RL := Lib.hid (RL.out.stay hb)
  replace RA := Lib.hid (RA.out.stay hb)
  replace RB := Lib.hid (RB.out.stay hb)
  replace RC := Lib.hid (RC.out.stay hb)
  replace S0 := Lib.hid (keep hb S0.out)
  replace S1 := Lib.hid (keep hb S1.out)
  replace T0 := Lib.hid (keep hb T0.out)
  replace T1 := Lib.hid (keep hb T1.out)
  replace B := Lib.hid (below_mid B.out hb)
  clear hb
  have uS0 := S0.out
  have uS1 := S1.out
  have uT0 := T0.out
  have uT1 := T1.out
  go_wp2
  clear uS0 uS1 uT0 uT1
  go_ret
  exact ⟨rfl, B.out⟩

end Go.Proofs.Ythkkhgfdppbphaa
