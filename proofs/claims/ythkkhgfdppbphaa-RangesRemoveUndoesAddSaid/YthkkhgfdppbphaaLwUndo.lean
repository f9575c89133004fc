/- RangesRemoveUndoesAdd, walked. -/
import Derived.Test.YthkkhgfdppbphaaLwD
namespace Go.Proofs.Ythkkhgfdppbphaa
open Go.RowKit Go.Sort Go.Shelf
set_option linter.unusedVariables false

set_option maxHeartbeats 4000000 in
theorem undo_walk (n : Nat) (f : Nat → Sp) (v : Value) (y : Sp) (x0 : World) (hv : RdX x0 v n f) (hy : i64S y) :
    Calls Try.prog 6 #[v, spV y] x0 fun e w' => e = .returned (.bool true) ∧ Below x0.heap.size x0 w' := by
  have B := Lib.hid (Below.refl x0.heap.size x0)
  have RX := Lib.hid hv
  obtain ⟨av, cv, rfl, _⟩ := hv
  obtain ⟨y0, y1⟩ := y
  have HI := Lib.hid (spans_inv f (min n 10))
  have PS := Lib.hid (spans_any n f (.slice av n cv))
  have PY := Lib.hid (fun w => span_any ⟨y0, y1⟩ w hy)
  have SY := Lib.hid (spanF_ok ⟨y0, y1⟩)
  clear hy
  generalize spanF ⟨y0, y1⟩ = s at *
  obtain ⟨s0, s1⟩ := s
  generalize spansF f (min n 10) = l at *
  obtain ⟨x1, hx1⟩ : ∃ y, x0.alloc (.cells #[.int .i64 y0, .int .i64 y1] 26) = y := ⟨_, rfl⟩
  have hb : Below x0.heap.size x0 x1 := hx1 ▸ bal x0 (.cells #[.int .i64 y0, .int .i64 y1] 26)
  replace RX := Lib.hid (RX.out.stay hb)
  replace B := Lib.hid (below_mid B.out hb)
  clear hb
  have Y0 := Lib.hid (hx1 ▸ (box1 x0 y0 y1 26).1)
  have Y1 := Lib.hid (hx1 ▸ (box1 x0 y0 y1 26).2)
  have pY0 := Y0.out
  have pY1 := Y1.out
  go_enter Try.func6, Try.ntmps6
  have uY0 := Y0.out
  have uY1 := Y1.out
  go_wp2_with fail
  clear uY0 uY1 pY0 pY1
  refine (sane_any _).mono ?_
  rintro e x2 ⟨rfl, hb⟩
  replace RX := Lib.hid (RX.out.stay hb)
  replace Y0 := Lib.hid (keep hb Y0.out)
  replace Y1 := Lib.hid (keep hb Y1.out)
  replace B := Lib.hid (below_mid B.out hb)
  clear hb
  have uY0 := Y0.out
  have uY1 := Y1.out
  go_wp2_with fail
  clear uY0 uY1
  refine (PS.out _ RX.out).mono ?_
  rintro e x3 ⟨vl, rfl, r0, hb⟩
  replace RX := Lib.hid (RX.out.stay hb)
  replace Y0 := Lib.hid (keep hb Y0.out)
  replace Y1 := Lib.hid (keep hb Y1.out)
  replace B := Lib.hid (below_mid B.out hb)
  have RL := Lib.hid r0
  clear hb r0
  clear RX
  clear PS
  have uY0 := Y0.out
  have uY1 := Y1.out
  go_wp2_with fail
  clear uY0 uY1
  refine (PY.out _).mono ?_
  rintro e x4 ⟨rfl, hb⟩
  replace RL := Lib.hid (RL.out.stay hb)
  replace Y0 := Lib.hid (keep hb Y0.out)
  replace Y1 := Lib.hid (keep hb Y1.out)
  replace B := Lib.hid (below_mid B.out hb)
  clear hb
  clear PY
  clear Y0
  clear Y1
  obtain ⟨x5, hx5⟩ : ∃ y, x4.alloc (.cells #[.int .i64 s0, .int .i64 s1] 24) = y := ⟨_, rfl⟩
  have hb : Below x4.heap.size x4 x5 := hx5 ▸ bal x4 (.cells #[.int .i64 s0, .int .i64 s1] 24)
  replace RL := Lib.hid (RL.out.stay hb)
  replace B := Lib.hid (below_mid B.out hb)
  clear hb
  have S0 := Lib.hid (hx5 ▸ (box1 x4 s0 s1 24).1)
  have S1 := Lib.hid (hx5 ▸ (box1 x4 s0 s1 24).2)
  have pS0 := S0.out
  have pS1 := S1.out
  have IR := Lib.hid (HI.out.rem SY.out)
  have IA := Lib.hid (HI.out.add SY.out)
  have IG := Lib.hid (HI.out.gap SY.out)
  have HC := Lib.hid (plain_undo HI.out SY.out)
  have AR := Lib.hid (add_any (remF l ⟨s0, s1⟩) ⟨s0, s1⟩)
  have MA := Lib.hid (add_any l ⟨s0, s1⟩)
  have MR := Lib.hid (remove_any l ⟨s0, s1⟩)
  have MG := Lib.hid (gaps_any l ⟨s0, s1⟩)
  generalize gapF l ⟨s0, s1⟩ = lg at *
  generalize addF (remF l ⟨s0, s1⟩) ⟨s0, s1⟩ = ld at *
  generalize addF l ⟨s0, s1⟩ = la at *
  generalize remF l ⟨s0, s1⟩ = lr at *
  have uS0 := S0.out
  have uS1 := S1.out
  go_wp2_with fail
  clear uS0 uS1 pS0 pS1
  refine (MG.out _ _ RL.out (by have := HI.out.len; omega)).mono ?_
  rintro e x6 ⟨vg, rfl, r0, hb⟩
  replace RL := Lib.hid (RL.out.stay hb)
  replace S0 := Lib.hid (keep hb S0.out)
  replace S1 := Lib.hid (keep hb S1.out)
  replace B := Lib.hid (below_mid B.out hb)
  have RG := Lib.hid r0
  clear hb r0
  have uS0 := S0.out
  have uS1 := S1.out
  go_wp2_with fail
  clear uS0 uS1
  refine (MA.out _ _ RL.out (by have := HI.out.len; omega)).mono ?_
  rintro e x7 ⟨va, rfl, r0, hb⟩
  replace RL := Lib.hid (RL.out.stay hb)
  replace RG := Lib.hid (RG.out.stay hb)
  replace S0 := Lib.hid (keep hb S0.out)
  replace S1 := Lib.hid (keep hb S1.out)
  replace B := Lib.hid (below_mid B.out hb)
  have RA := Lib.hid r0
  clear hb r0
  obtain ⟨ag, cg, rfl, hcg, hlg, hpg⟩ := RG.out
  have HPG := Lib.hid hpg
  clear hpg
  have uS0 := S0.out
  have uS1 := S1.out
  go_wp2
  clear uS0 uS1
  go_loopw [9, 10] (fun a i wr => ∃ k : Nat, k ≤ lg.length ∧ i = .int .i64 k ∧ RdS wr a (remAll la (lg.take k)) ∧ Below x7.heap.size x7 wr) (fun _ i _ => lg.length - (intOf i).toNat)
  case atStart => exact ⟨0, Nat.zero_le _, rfl, by simpa [remAll] using RA.out, Below.refl _ _⟩
  case round =>
    obtain ⟨k, hk, rfl, hro, hb⟩ := hrel
    have HRO := Lib.hid hro
    clear hro
    have hil := Lib.hid ((IA.out.remAll (h := lg.take k) (fun x hx => IG.out.sok (List.mem_of_mem_take hx))).1.len)
    by_cases hlt : k < lg.length
    · obtain ⟨b, o, rfl, hcc⟩ := HPG.out (by omega)
      obtain ⟨z0, z1⟩ := (hcc k hlt).stay hb
      have hkc : k ≤ cg := by omega
      have HE := Lib.hid (remAll_take la lg k hlt)
      clear hcc
      generalize spAt lg k = x at *
      obtain ⟨xf, xt⟩ := x
      simp only at z0 z1
      generalize remAll la (lg.take k) = gk at *
      have hil2 := hil.out
      go_wp2_with fail
      refine (remove_any gk ⟨xf, xt⟩ _ _ HRO.out (by omega)).mono ?_
      rintro e w4 ⟨v4, rfl, hr4, hb4⟩
      replace hb := below_mid hb hb4
      have HR4 := Lib.hid hr4
      clear hr4 hb4 z0 z1
      go_wp2
      go_roundw
      case rel => exact ⟨k + 1, by omega, by go_num, by rw [HE.out]; exact HR4.out, hb⟩
      case measure => simp [intOf]; omega
    · have HE := Lib.hid (show remAll la (lg.take k) = l by rw [List.take_of_length_le (by omega)]; exact HC.out.1)
      rw [HE.out] at HRO
      clear HE
      replace RL := Lib.hid (RL.out.stay hb)
      replace RG := Lib.hid (RG.out.stay hb)
      replace RA := Lib.hid (RA.out.stay hb)
      replace S0 := Lib.hid (keep hb S0.out)
      replace S1 := Lib.hid (keep hb S1.out)
      replace B := Lib.hid (below_mid B.out hb)
      clear hb
      replace RA := HRO
      clear HRO
      have uS0 := S0.out
      have uS1 := S1.out
      go_wp2
      replace uS0 := cell_regrown S0.out
      replace uS1 := cell_regrown S1.out
      refine wp_region_R 5 (by kernel_rfl) (by kernel_rfl) ?_
      simp only [List.take, List.drop]
      iterate 2 (refine wpR_want (by kernel_rfl) rfl rfl ?_; intro K hK; go_big_quiet_op; go_big_quiet_on)
      refine wpR_ex (rdP lr) (rdP_lasts _) (by kernel_rfl) (fun a' w' hw' he => ?_) ?_
      · obtain ⟨h35, h36, _⟩ := he
        replace h35 : a'.eval (.tmp 35) = vl := h35
        replace h36 : a'.eval (.tmp 36) = spV ⟨s0, s1⟩ := h36
        refine wp_list (f := 19) (args := #[a'.eval (.tmp 35), a'.eval (.tmp 36)]) (by simp [go_sem, Act.eval]) ?_
        rw [h35, h36]
        exact MR.out _ _ (RL.out.stay hw') (by have := HI.out.len; omega)
      rintro d hd
      cases hd
      simp only [List.nil_append]
      iterate 1 (refine wpR_want (by kernel_rfl) rfl rfl ?_; intro K hK; go_big_quiet_op; go_big_quiet_on)
      refine wpR_ex (rdP ld) (rdP_lasts _) (by kernel_rfl) (fun a' w' hw' he => ?_) ?_
      · obtain ⟨h37, h38, _⟩ := he
        replace h37 : RdS w' (a'.eval (.tmp 37)) lr := h37
        replace h38 : a'.eval (.tmp 38) = spV ⟨s0, s1⟩ := h38
        refine wp_list (f := 17) (args := #[a'.eval (.tmp 37), a'.eval (.tmp 38)]) (by simp [go_sem, Act.eval]) ?_
        rw [h38]
        exact AR.out _ _ h37 (by have := IR.out.len; omega)
      rintro d hd
      cases hd
      simp only [List.cons_append, List.nil_append]
      refine wpR_nil (by kernel_rfl) (by simp) ?_
      rintro x8 hb
      simp only [exAll]
      rintro u37 g37
      rintro u39 g39
      clear uS0 uS1
      replace RL := Lib.hid (RL.out.stay hb)
      replace RG := Lib.hid (RG.out.stay hb)
      replace RA := Lib.hid (RA.out.stay hb)
      replace S0 := Lib.hid (keep hb S0.out)
      replace S1 := Lib.hid (keep hb S1.out)
      replace B := Lib.hid (below_mid B.out hb)
      clear hb
      simp only [Act.put, List.setIfInBounds_toArray, List.set_cons_succ, List.set_cons_zero]
      clear g37
      have RD := Lib.hid (show RdS x8 u39 _ from g39)
      clear g39
      simp only [List.drop]
      have uS0 := S0.out
      have uS1 := S1.out
      go_wp2_with fail
      clear uS0 uS1
      refine (same_r (decide_eq_true rfl) _ _ _ RA.out RL.out).mono ?_
      rintro e x9 ⟨rfl, hb⟩
      replace RL := Lib.hid (RL.out.stay hb)
      replace RG := Lib.hid (RG.out.stay hb)
      replace RA := Lib.hid (RA.out.stay hb)
      replace RD := Lib.hid (RD.out.stay hb)
      replace S0 := Lib.hid (keep hb S0.out)
      replace S1 := Lib.hid (keep hb S1.out)
      replace B := Lib.hid (below_mid B.out hb)
      clear hb
      have uS0 := S0.out
      have uS1 := S1.out
      go_wp2_with fail
      clear uS0 uS1
      refine (MA.out _ _ RL.out (by have := HI.out.len; omega)).mono ?_
      rintro e x10 ⟨vb, rfl, r0, hb⟩
      replace RL := Lib.hid (RL.out.stay hb)
      replace RG := Lib.hid (RG.out.stay hb)
      replace RA := Lib.hid (RA.out.stay hb)
      replace RD := Lib.hid (RD.out.stay hb)
      replace S0 := Lib.hid (keep hb S0.out)
      replace S1 := Lib.hid (keep hb S1.out)
      replace B := Lib.hid (below_mid B.out hb)
      have RB := Lib.hid r0
      clear hb r0
      have uS0 := S0.out
      have uS1 := S1.out
      go_wp2_with fail
      clear uS0 uS1
      refine (same_r (decide_eq_true HC.out.2) _ _ _ RD.out RB.out).mono ?_
      rintro e x11 ⟨rfl, hb⟩
      replace RL := Lib.hid (RL.out.stay hb)
      replace RG := Lib.hid (RG.out.stay hb)
      replace RA := Lib.hid (RA.out.stay hb)
      replace RD := Lib.hid (RD.out.stay hb)
      replace RB := Lib.hid (RB.out.stay hb)
      replace S0 := Lib.hid (keep hb S0.out)
      replace S1 := Lib.hid (keep hb S1.out)
      replace B := Lib.hid (below_mid B.out hb)
      clear hb
      have uS0 := S0.out
      have uS1 := S1.out
      go_wp2
      clear uS0 uS1
      go_ret
      exact ⟨rfl, B.out⟩

end Go.Proofs.Ythkkhgfdppbphaa
