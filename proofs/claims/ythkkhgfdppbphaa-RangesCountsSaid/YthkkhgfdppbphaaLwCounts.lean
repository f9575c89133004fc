/- RangesCounts, walked. -/
import Derived.Test.YthkkhgfdppbphaaLwD
namespace Go.Proofs.Ythkkhgfdppbphaa
open Go.RowKit Go.Sort Go.Shelf
set_option linter.unusedVariables false

set_option maxHeartbeats 4000000 in
theorem counts_walk (n : Nat) (f : Nat → Sp) (v : Value) (y : Sp) (x0 : World) (hv : RdX x0 v n f) (hy : i64S y) :
    Calls Try.prog 7 #[v, spV y] x0 fun e w' => e = .returned (.bool true) ∧ Below x0.heap.size x0 w' := by
  have B := Lib.hid (Below.refl x0.heap.size x0)
  have RX := Lib.hid hv
  obtain ⟨av, cv, rfl, _⟩ := hv
  obtain ⟨y0, y1⟩ := y
  have HI := Lib.hid (spans_inv f (min n 10))
  have PS := Lib.hid (spans_any n f (.slice av n cv))
  have PY := Lib.hid (fun w => span_any ⟨y0, y1⟩ w hy)
  have SY := Lib.hid (spanF_ok ⟨y0, y1⟩)
  clear hy
  generalize spanF ⟨y0, y1⟩ = s at *
  obtain ⟨s0, s1⟩ := s
  generalize spansF f (min n 10) = l at *
  obtain ⟨x1, hx1⟩ : ∃ y, x0.alloc (.cells #[.int .i64 y0, .int .i64 y1] 26) = y := ⟨_, rfl⟩
  have hb : Below x0.heap.size x0 x1 := hx1 ▸ bal x0 (.cells #[.int .i64 y0, .int .i64 y1] 26)
  replace RX := Lib.hid (RX.out.stay hb)
  replace B := Lib.hid (below_mid B.out hb)
  clear hb
  have Y0 := Lib.hid (hx1 ▸ (box1 x0 y0 y1 26).1)
  have Y1 := Lib.hid (hx1 ▸ (box1 x0 y0 y1 26).2)
  have pY0 := Y0.out
  have pY1 := Y1.out
  go_enter Try.func7, Try.ntmps7
  have uY0 := Y0.out
  have uY1 := Y1.out
  go_wp2_with fail
  clear uY0 uY1 pY0 pY1
  refine (sane_any _).mono ?_
  rintro e x2 ⟨rfl, hb⟩
  replace RX := Lib.hid (RX.out.stay hb)
  replace Y0 := Lib.hid (keep hb Y0.out)
  replace Y1 := Lib.hid (keep hb Y1.out)
  replace B := Lib.hid (below_mid B.out hb)
  clear hb
  have uY0 := Y0.out
  have uY1 := Y1.out
  go_wp2_with fail
  clear uY0 uY1
  refine (PS.out _ RX.out).mono ?_
  rintro e x3 ⟨vl, rfl, r0, hb⟩
  replace RX := Lib.hid (RX.out.stay hb)
  replace Y0 := Lib.hid (keep hb Y0.out)
  replace Y1 := Lib.hid (keep hb Y1.out)
  replace B := Lib.hid (below_mid B.out hb)
  have RL := Lib.hid r0
  clear hb r0
  clear RX
  clear PS
  have uY0 := Y0.out
  have uY1 := Y1.out
  go_wp2_with fail
  clear uY0 uY1
  refine (PY.out _).mono ?_
  rintro e x4 ⟨rfl, hb⟩
  replace RL := Lib.hid (RL.out.stay hb)
  replace Y0 := Lib.hid (keep hb Y0.out)
  replace Y1 := Lib.hid (keep hb Y1.out)
  replace B := Lib.hid (below_mid B.out hb)
  clear hb
  clear PY
  clear Y0
  clear Y1
  obtain ⟨x5, hx5⟩ : ∃ y, x4.alloc (.cells #[.int .i64 s0, .int .i64 s1] 24) = y := ⟨_, rfl⟩
  have hb : Below x4.heap.size x4 x5 := hx5 ▸ bal x4 (.cells #[.int .i64 s0, .int .i64 s1] 24)
  replace RL := Lib.hid (RL.out.stay hb)
  replace B := Lib.hid (below_mid B.out hb)
  clear hb
  have S0 := Lib.hid (hx5 ▸ (box1 x4 s0 s1 24).1)
  have S1 := Lib.hid (hx5 ▸ (box1 x4 s0 s1 24).2)
  have pS0 := S0.out
  have pS1 := S1.out
  have IR := Lib.hid (HI.out.rem SY.out)
  have IA := Lib.hid (HI.out.add SY.out)
  have IG := Lib.hid (HI.out.gap SY.out)
  have HC := Lib.hid (plain_counts HI.out SY.out)
  obtain ⟨c1, d1⟩ := HI.out.cnt_bd
  obtain ⟨c2, d2⟩ := IR.out.cnt_bd
  obtain ⟨c3, d3⟩ := IA.out.cnt_bd
  obtain ⟨c4, d4⟩ := IG.out.cnt_bd
  obtain ⟨c5, c6, c7⟩ := SY.out
  have CL := Lib.hid (count_any l)
  have CR := Lib.hid (count_any (remF l ⟨s0, s1⟩))
  have CA := Lib.hid (count_any (addF l ⟨s0, s1⟩))
  have CG := Lib.hid (count_any (gapF l ⟨s0, s1⟩))
  have MA := Lib.hid (add_any l ⟨s0, s1⟩)
  have MR := Lib.hid (remove_any l ⟨s0, s1⟩)
  have MG := Lib.hid (gaps_any l ⟨s0, s1⟩)
  generalize cntF (gapF l ⟨s0, s1⟩) = ng at *
  generalize cntF (addF l ⟨s0, s1⟩) = na at *
  generalize cntF (remF l ⟨s0, s1⟩) = nr at *
  generalize cntF l = nl at *
  generalize gapF l ⟨s0, s1⟩ = lg at *
  generalize addF l ⟨s0, s1⟩ = la at *
  generalize remF l ⟨s0, s1⟩ = lr at *
  simp only at HC c5 c6 c7
  obtain ⟨hc1, hc2⟩ := HC.out
  have e1 : decide (ng + (nl - nr) = s1 - s0) = true := decide_eq_true hc1
  have e2 : decide (na = nl + s1 - s0 - (nl - nr)) = true := decide_eq_true hc2
  have uS0 := S0.out
  have uS1 := S1.out
  go_wp2
  clear pS0 pS1
  replace uS0 := cell_regrown S0.out
  replace uS1 := cell_regrown S1.out
  refine wp_region_R 7 (by kernel_rfl) (by kernel_rfl) ?_
  simp only [List.take, List.drop]
  iterate 1 (refine wpR_want (by kernel_rfl) rfl rfl ?_; intro K hK; go_big_quiet_op; go_big_quiet_on)
  refine wpR_call (by kernel_rfl) rfl 25 #[vl] (.int .i64 nl) (fun w => by simp [go_sem]) (fun w' hw' => CL.out _ _ (RL.out.stay hw')) ?_
  simp only [Act.put, List.setIfInBounds_toArray, List.set_cons_succ, List.set_cons_zero]
  iterate 2 (refine wpR_want (by kernel_rfl) rfl rfl ?_; intro K hK; go_big_quiet_op; go_big_quiet_on)
  refine wpR_ex (rdP lr) (rdP_lasts _) (by kernel_rfl) (fun a' w' hw' he => ?_) ?_
  · obtain ⟨h16, h17, _⟩ := he
    replace h16 : a'.eval (.tmp 16) = vl := h16
    replace h17 : a'.eval (.tmp 17) = spV ⟨s0, s1⟩ := h17
    refine wp_list (f := 19) (args := #[a'.eval (.tmp 16), a'.eval (.tmp 17)]) (by simp [go_sem, Act.eval]) ?_
    rw [h16, h17]
    exact MR.out _ _ (RL.out.stay hw') (by have := HI.out.len; omega)
  rintro d hd
  cases hd
  simp only [List.nil_append]
  refine wpR_known (.int .i64 nr) (by kernel_rfl) (fun a' w' hw' he => ?_) ?_
  · obtain ⟨h18, _⟩ := he
    replace h18 : RdS w' (a'.eval (.tmp 18)) lr := h18
    refine wp_val (f := 25) (args := #[a'.eval (.tmp 18)]) (by simp [go_sem, Act.eval]) ?_
    exact CR.out _ _ h18
  simp only [Act.put, List.setIfInBounds_toArray, List.set_cons_succ, List.set_cons_zero]
  iterate 1 (refine wpR_want (by kernel_rfl) rfl rfl ?_; intro K hK; go_big_quiet_op; go_big_quiet_on)
  refine wpR_nil (by kernel_rfl) (by simp) ?_
  rintro x6 hb
  simp only [exAll]
  rintro u18 g18
  clear uS0 uS1
  replace RL := Lib.hid (RL.out.stay hb)
  replace S0 := Lib.hid (keep hb S0.out)
  replace S1 := Lib.hid (keep hb S1.out)
  replace B := Lib.hid (below_mid B.out hb)
  clear hb
  simp only [Act.put, List.setIfInBounds_toArray, List.set_cons_succ, List.set_cons_zero]
  clear g18
  simp only [List.drop]
  have uS0 := S0.out
  have uS1 := S1.out
  go_wp2
  replace uS0 := cell_regrown S0.out
  replace uS1 := cell_regrown S1.out
  refine wp_region_R 32 (by kernel_rfl) (by kernel_rfl) ?_
  simp only [List.take, List.drop]
  iterate 4 (refine wpR_want (by kernel_rfl) rfl rfl ?_; intro K hK; go_big_quiet_op; go_big_quiet_on)
  refine wpR_exG (rdP lg) (rdP_lasts _) (by kernel_rfl) rfl (fun a' w' hw' he => ?_) ?_
  · obtain ⟨h23, h24, _, _⟩ := he
    replace h23 : a'.eval (.tmp 23) = vl := h23
    replace h24 : a'.eval (.tmp 24) = spV ⟨s0, s1⟩ := h24
    refine wp_list (f := 23) (args := #[a'.eval (.tmp 23), a'.eval (.tmp 24)]) (by simp [go_sem, Act.eval]) ?_
    rw [h23, h24]
    exact MG.out _ _ (RL.out.stay hw') (by have := HI.out.len; omega)
  rintro d hd
  cases hd
  simp only [List.nil_append]
  refine wpR_knownG (.int .i64 ng) (by kernel_rfl) rfl (fun a' w' hw' he => ?_) ?_
  · obtain ⟨h25, _, _⟩ := he
    replace h25 : RdS w' (a'.eval (.tmp 25)) lg := h25
    refine wp_val (f := 25) (args := #[a'.eval (.tmp 25)]) (by simp [go_sem, Act.eval]) ?_
    exact CG.out _ _ h25
  simp only [Act.put, List.setIfInBounds_toArray, List.set_cons_succ, List.set_cons_zero]
  iterate 12 (refine wpR_want (by kernel_rfl) rfl rfl ?_; intro K hK; go_big_quiet_op; go_big_quiet_on)
  refine wpR_exG (rdP la) (rdP_lasts _) (by kernel_rfl) rfl (fun a' w' hw' he => ?_) ?_
  · obtain ⟨h37, h38, _, _⟩ := he
    replace h37 : a'.eval (.tmp 37) = vl := h37
    replace h38 : a'.eval (.tmp 38) = spV ⟨s0, s1⟩ := h38
    refine wp_list (f := 17) (args := #[a'.eval (.tmp 37), a'.eval (.tmp 38)]) (by simp [go_sem, Act.eval]) ?_
    rw [h37, h38]
    exact MA.out _ _ (RL.out.stay hw') (by have := HI.out.len; omega)
  rintro d hd
  cases hd
  simp only [List.cons_append, List.nil_append]
  refine wpR_knownG (.int .i64 na) (by kernel_rfl) rfl (fun a' w' hw' he => ?_) ?_
  · obtain ⟨h39, _, _⟩ := he
    replace h39 : RdS w' (a'.eval (.tmp 39)) la := h39
    refine wp_val (f := 25) (args := #[a'.eval (.tmp 39)]) (by simp [go_sem, Act.eval]) ?_
    exact CA.out _ _ h39
  simp only [Act.put, List.setIfInBounds_toArray, List.set_cons_succ, List.set_cons_zero]
  iterate 1 (refine wpR_want (by kernel_rfl) rfl rfl ?_; intro K hK; go_big_quiet_op; go_big_quiet_on)
  refine wpR_call (by kernel_rfl) rfl 25 #[vl] (.int .i64 nl) (fun w => by simp [go_sem]) (fun w' hw' => CL.out _ _ (RL.out.stay hw')) ?_
  simp only [Act.put, List.setIfInBounds_toArray, List.set_cons_succ, List.set_cons_zero]
  iterate 10 (refine wpR_want (by kernel_rfl) rfl rfl ?_; intro K hK; go_big_quiet_op; go_big_quiet_on)
  refine wpR_nil (by kernel_rfl) (by simp) ?_
  rintro x7 hb
  simp only [exAll]
  rintro u25 g25
  rintro u39 g39
  clear uS0 uS1
  replace RL := Lib.hid (RL.out.stay hb)
  replace S0 := Lib.hid (keep hb S0.out)
  replace S1 := Lib.hid (keep hb S1.out)
  replace B := Lib.hid (below_mid B.out hb)
  clear hb
  simp only [Act.put, List.setIfInBounds_toArray, List.set_cons_succ, List.set_cons_zero]
  clear g25
  clear g39
  simp only [List.drop]
  have uS0 := S0.out
  have uS1 := S1.out
  go_wp2
  clear uS0 uS1
  go_ret
  exact ⟨rfl, B.out⟩

end Go.Proofs.Ythkkhgfdppbphaa
