/- RangesTranslation, walked. -/
import Derived.Test.YthkkhgfdppbphaaLwE
namespace Go.Proofs.Ythkkhgfdppbphaa
open Go.RowKit Go.Sort Go.Shelf
set_option linter.unusedVariables false

set_option maxRecDepth 100000 in
set_option maxHeartbeats 4000000 in
theorem trans_walk (n : Nat) (f : Nat → Sp) (v : Value) (y : Sp) (far : Int) (x0 : World) (hv : RdX x0 v n f) (hy : i64S y) (hfar : -9223372036854775808 ≤ far ∧ far ≤ 9223372036854775807) :
    Calls Try.prog 8 #[v, spV y, .int .i64 far] x0 fun e w' => e = .returned (.bool true) ∧ Below x0.heap.size x0 w' := by
  have B := Lib.hid (Below.refl x0.heap.size x0)
  have RX := Lib.hid hv
  obtain ⟨av, cv, rfl, _⟩ := hv
  obtain ⟨y0, y1⟩ := y
  have HI := Lib.hid (spans_inv f (min n 10))
  have PS := Lib.hid (spans_any n f (.slice av n cv))
  have PY := Lib.hid (fun w => span_any ⟨y0, y1⟩ w hy)
  have SY := Lib.hid (spanF_ok ⟨y0, y1⟩)
  clear hy
  generalize spanF ⟨y0, y1⟩ = s at *
  obtain ⟨s0, s1⟩ := s
  generalize spansF f (min n 10) = l at *
  have PF := Lib.hid (fun w => pick_any far 1099511627676 w hfar (by decide))
  obtain ⟨hd0, hd1⟩ := pk_bd far 1099511627676 (by decide)
  clear hfar
  generalize pk far 1099511627676 = d at *
  obtain ⟨x1, hx1⟩ : ∃ y, x0.alloc (.cells #[.int .i64 y0, .int .i64 y1] 26) = y := ⟨_, rfl⟩
  have hb : Below x0.heap.size x0 x1 := hx1 ▸ bal x0 (.cells #[.int .i64 y0, .int .i64 y1] 26)
  replace RX := Lib.hid (RX.out.stay hb)
  replace B := Lib.hid (below_mid B.out hb)
  clear hb
  have Y0 := Lib.hid (hx1 ▸ (box1 x0 y0 y1 26).1)
  have Y1 := Lib.hid (hx1 ▸ (box1 x0 y0 y1 26).2)
  have pY0 := Y0.out
  have pY1 := Y1.out
  go_enter Try.func8, Try.ntmps8
  have uY0 := Y0.out
  have uY1 := Y1.out
  go_wp2_with fail
  clear uY0 uY1 pY0 pY1
  refine (sane_any _).mono ?_
  rintro e x2 ⟨rfl, hb⟩
  replace RX := Lib.hid (RX.out.stay hb)
  replace Y0 := Lib.hid (keep hb Y0.out)
  replace Y1 := Lib.hid (keep hb Y1.out)
  replace B := Lib.hid (below_mid B.out hb)
  clear hb
  have uY0 := Y0.out
  have uY1 := Y1.out
  go_wp2_with fail
  clear uY0 uY1
  refine (PS.out _ RX.out).mono ?_
  rintro e x3 ⟨vl, rfl, r0, hb⟩
  replace RX := Lib.hid (RX.out.stay hb)
  replace Y0 := Lib.hid (keep hb Y0.out)
  replace Y1 := Lib.hid (keep hb Y1.out)
  replace B := Lib.hid (below_mid B.out hb)
  have RL := Lib.hid r0
  clear hb r0
  clear RX
  clear PS
  have uY0 := Y0.out
  have uY1 := Y1.out
  go_wp2_with fail
  clear uY0 uY1
  refine (PY.out _).mono ?_
  rintro e x4 ⟨rfl, hb⟩
  replace RL := Lib.hid (RL.out.stay hb)
  replace Y0 := Lib.hid (keep hb Y0.out)
  replace Y1 := Lib.hid (keep hb Y1.out)
  replace B := Lib.hid (below_mid B.out hb)
  clear hb
  clear PY
  clear Y0
  clear Y1
  obtain ⟨x5, hx5⟩ : ∃ y, x4.alloc (.cells #[.int .i64 s0, .int .i64 s1] 24) = y := ⟨_, rfl⟩
  have hb : Below x4.heap.size x4 x5 := hx5 ▸ bal x4 (.cells #[.int .i64 s0, .int .i64 s1] 24)
  replace RL := Lib.hid (RL.out.stay hb)
  replace B := Lib.hid (below_mid B.out hb)
  clear hb
  have S0 := Lib.hid (hx5 ▸ (box1 x4 s0 s1 24).1)
  have S1 := Lib.hid (hx5 ▸ (box1 x4 s0 s1 24).2)
  have pS0 := S0.out
  have pS1 := S1.out
  have uS0 := S0.out
  have uS1 := S1.out
  go_wp2_with fail
  clear uS0 uS1 pS0 pS1
  refine (PF.out _).mono ?_
  rintro e x6 ⟨rfl, hb⟩
  replace RL := Lib.hid (RL.out.stay hb)
  replace S0 := Lib.hid (keep hb S0.out)
  replace S1 := Lib.hid (keep hb S1.out)
  replace B := Lib.hid (below_mid B.out hb)
  clear hb
  clear PF
  have HC := Lib.hid (plain_trans HI.out SY.out hd0 hd1)
  have IA := Lib.hid (HI.out.add SY.out)
  have HSH := Lib.hid (show sh d ⟨s0, s1⟩ = ⟨s0 + d, s1 + d⟩ from rfl)
  rw [HSH.out] at HC
  clear HSH
  have MA := Lib.hid (add_any l ⟨s0, s1⟩)
  have MB := Lib.hid (add_any (l.map (sh d)) ⟨s0 + d, s1 + d⟩)
  have MC := Lib.hid (contains_any l ⟨s0, s1⟩)
  have MD := Lib.hid (contains_any (l.map (sh d)) ⟨s0 + d, s1 + d⟩)
  have MG := Lib.hid (gaps_any l ⟨s0, s1⟩)
  have MH := Lib.hid (gaps_any (l.map (sh d)) ⟨s0 + d, s1 + d⟩)
  have CL := Lib.hid (count_any l)
  have CM := Lib.hid (count_any (l.map (sh d)))
  rw [HC.out.1] at MB
  rw [HC.out.2.1] at MD
  rw [HC.out.2.2.1] at CM
  obtain ⟨c5, c6, c7⟩ := SY.out
  simp only at c5 c6 c7
  generalize cntF l = nl at *
  generalize conF l ⟨s0, s1⟩ = lc at *
  generalize addF l ⟨s0, s1⟩ = la at *
  obtain ⟨al, cl, rfl, hcl, hll, hpl⟩ := RL.out
  have HPL := Lib.hid hpl
  clear hpl
  have hnl : l.length ≤ 73 := HI.out.len
  have uS0 := S0.out
  have uS1 := S1.out
  go_wp2
  clear uS0 uS1
  go_loopw [10, 11] (fun m i wr => ∃ k : Nat, k ≤ l.length ∧ i = .int .i64 k ∧ Owns wr x6.heap.size m ((l.take k).map (sh d)) ∧ Below x6.heap.size x6 wr) (fun _ i _ => l.length - (intOf i).toNat)
  case atStart => exact ⟨0, Nat.zero_le _, rfl, ⟨rfl, .inl ⟨rfl, rfl⟩⟩, Below.refl _ _⟩
  case round =>
    obtain ⟨k, hk, rfl, hown, hb⟩ := hrel
    by_cases hlt : k < l.length
    · obtain ⟨b, o, rfl, hcc⟩ := HPL.out (by omega)
      obtain ⟨z0, z1⟩ := (hcc k hlt).stay hb
      have hkc : k ≤ cl := by omega
      have HT := Lib.hid (take_sh d l k hlt)
      have hsk := HI.out.sok (x := spAt l k) (by rw [spAt_eq l k hlt]; exact List.getElem_mem _)
      clear hcc
      generalize spAt l k = x at *
      obtain ⟨xf, xt⟩ := x
      obtain ⟨q1, q2, q3⟩ := hsk
      simp only at z0 z1 q1 q2 q3
      obtain ⟨lk, hlk⟩ : ∃ lk, (l.take k).map (sh d) = lk := ⟨_, rfl⟩
      have hlk2 : lk.length ≤ 100 := by rw [← hlk]; simp; omega
      rw [hlk] at hown HT
      have HLK := Lib.hid hlk
      clear hlk
      have HW := Lib.hid hown
      obtain ⟨ao, co, rfl⟩ := hown.slice
      have HB := Lib.hid hb
      clear hown hb
      go_wp2
      replace z0 := cell_regrown z0
      replace z1 := cell_regrown z1
      refine wp_region_R 17 (by kernel_rfl) (by kernel_rfl) ?_
      simp only [List.take, List.drop]
      iterate 16 (refine wpR_want (by kernel_rfl) rfl rfl ?_; intro K hK; go_big_quiet_op; go_big_quiet_on)
      refine wpR_ex (rdP [⟨xf + d, xt + d⟩]) (rdP_lasts _) (by kernel_rfl) (fun a' w' hw' he => ?_) (fun d hd => ?_)
      · obtain ⟨h44, _⟩ := he
        have h44' : a'.eval (.tmp 44) = .agg #[.int .i64 (xf + d), .int .i64 (xt + d)] := h44
        refine wp_of_value (v := .slice (some ⟨w'.heap.size, 0, none⟩) 1 1) (w' := w'.alloc (.cells #[.int .i64 (xf + d), .int .i64 (xt + d)] 24)) (run_v_ok ?_) ⟨_, rfl, (Below.refl _ _).alloc (Nat.le_refl _) _, RdS_one' w' (xf + d) (xt + d)⟩
        simp only [List.map_toArray, List.map_cons, List.map_nil, h44']
        exact run_bsS1 _ _ _
      cases hd
      simp only [List.nil_append]
      refine wpR_nil (by kernel_rfl) (by simp) ?_
      rintro w5 hb5
      simp only [exAll]
      rintro u45 g45
      clear z0 z1
      replace HW := Lib.hid (ownsRow_stay hb5 HW.out)
      replace HB := Lib.hid (below_mid HB.out hb5)
      clear hb5
      obtain ⟨a45, c45, rfl, _⟩ := id (show RdS w5 u45 _ from g45)
      obtain ⟨b45, o45, rfl, hnews⟩ := RdS.news g45 (by simp)
      simp only [Act.put, List.setIfInBounds_toArray, List.set_cons_succ, List.set_cons_zero, List.drop]
      refine wpList_appS rfl (.tmp 29) (.tmp 45) rfl rfl HW.out [⟨xf + d, xt + d⟩] rfl rfl hnews (by simp; omega) HB.out.size ?_
      intro v' w' hown' hg' hn'
      have HB3 := Lib.hid (HB.out.trans (below_of hg' HB.out.size (fun g e => (Owns.lt (v := .slice ao lk.length co) HW.out e).2)))
      have HW3 := Lib.hid hown'
      clear hown' hg' hn'
      go_wp2
      go_roundw
      case rel => exact ⟨k + 1, by omega, by go_num, by rw [HT.out]; exact HW3.out, HB3.out⟩
      case measure => simp [intOf]; omega
    · have HE := Lib.hid (show (l.take k).map (sh d) = l.map (sh d) by rw [List.take_of_length_le (by omega)])
      rw [HE.out] at hown
      clear HE
      have RM := Lib.hid (hown.rd (by simp; omega))
      obtain ⟨am, cm, rfl⟩ := hown.slice
      clear hown
      replace RL := Lib.hid (RL.out.stay hb)
      replace S0 := Lib.hid (keep hb S0.out)
      replace S1 := Lib.hid (keep hb S1.out)
      replace B := Lib.hid (below_mid B.out hb)
      clear hb
      simp only [List.length_map] at RM ⊢
      generalize gapF l ⟨s0, s1⟩ = lg at *
      generalize gapF (l.map (sh d)) ⟨s0 + d, s1 + d⟩ = lh at *
      have HG := Lib.hid HC.out.2.2.2
      clear HC
      obtain ⟨lm, hlm⟩ : ∃ lm, l.map (sh d) = lm := ⟨_, rfl⟩
      have hlm2 : lm.length ≤ 100 := by rw [← hlm]; simp; omega
      rw [hlm] at RM MB MD MH CM
      clear hlm HPL
      have pS0 := S0.out
      have pS1 := S1.out
      obtain ⟨x7, hx7⟩ : ∃ y, wr.alloc (.cells #[.int .i64 (s0 + d), .int .i64 (s1 + d)] 24) = y := ⟨_, rfl⟩
      have hb : Below wr.heap.size wr x7 := hx7 ▸ bal wr (.cells #[.int .i64 (s0 + d), .int .i64 (s1 + d)] 24)
      replace RL := Lib.hid (RL.out.stay hb)
      replace RM := Lib.hid (RM.out.stay hb)
      replace S0 := Lib.hid (keep hb S0.out)
      replace S1 := Lib.hid (keep hb S1.out)
      replace B := Lib.hid (below_mid B.out hb)
      clear hb
      have T0 := Lib.hid (hx7 ▸ (box1 wr (s0 + d) (s1 + d) 24).1)
      have T1 := Lib.hid (hx7 ▸ (box1 wr (s0 + d) (s1 + d) 24).2)
      have pT0 := T0.out
      have pT1 := T1.out
      have uS0 := S0.out
      have uS1 := S1.out
      have uT0 := T0.out
      have uT1 := T1.out
      go_wp2_with fail
      clear uS0 uS1 uT0 uT1 pS0 pS1 pT0 pT1
      refine (MA.out _ _ RL.out (by have := HI.out.len; omega)).mono ?_
      rintro e x8 ⟨va, rfl, r0, hb⟩
      replace RL := Lib.hid (RL.out.stay hb)
      replace RM := Lib.hid (RM.out.stay hb)
      replace S0 := Lib.hid (keep hb S0.out)
      replace S1 := Lib.hid (keep hb S1.out)
      replace T0 := Lib.hid (keep hb T0.out)
      replace T1 := Lib.hid (keep hb T1.out)
      replace B := Lib.hid (below_mid B.out hb)
      have RA := Lib.hid r0
      clear hb r0
      have uS0 := S0.out
      have uS1 := S1.out
      have uT0 := T0.out
      have uT1 := T1.out
      go_wp2_with fail
      clear uS0 uS1 uT0 uT1
      refine (MB.out _ _ RM.out (by omega)).mono ?_
      rintro e x9 ⟨vb, rfl, r0, hb⟩
      replace RL := Lib.hid (RL.out.stay hb)
      replace RM := Lib.hid (RM.out.stay hb)
      replace RA := Lib.hid (RA.out.stay hb)
      replace S0 := Lib.hid (keep hb S0.out)
      replace S1 := Lib.hid (keep hb S1.out)
      replace T0 := Lib.hid (keep hb T0.out)
      replace T1 := Lib.hid (keep hb T1.out)
      replace B := Lib.hid (below_mid B.out hb)
      have RB := Lib.hid r0
      clear hb r0
      obtain ⟨aa, ca, rfl, hca, hla, hpa⟩ := RA.out
      obtain ⟨ab, cb, rfl, hcb, hlb, hpb⟩ := RB.out
      simp only [List.length_map] at RB hcb hlb hpb ⊢
      have HPA := Lib.hid hpa
      have HPB := Lib.hid hpb
      clear hpa hpb
      have uS0 := S0.out
      have uS1 := S1.out
      have uT0 := T0.out
      have uT1 := T1.out
      go_wp2
      clear uS0 uS1 uT0 uT1
      go_loopw [15] (fun i wt => ∃ k : Nat, k ≤ la.length ∧ i = .int .i64 k ∧ Below x9.heap.size x9 wt) (fun i _ => la.length - (intOf i).toNat)
      case atStart => exact ⟨0, Nat.zero_le _, rfl, Below.refl _ _⟩
      case round =>
        obtain ⟨k, hk2, rfl, hb⟩ := hrel
        by_cases hlt2 : k < la.length
        · obtain ⟨b1, o1, rfl, hcc⟩ := HPA.out (by omega)
          obtain ⟨z0, z1⟩ := (hcc k hlt2).stay hb
          clear hcc
          obtain ⟨b2, o2, rfl, hcc⟩ := HPB.out (by omega)
          obtain ⟨y0', y1'⟩ := (hcc k hlt2).stay hb
          rw [spAt_sh d la k hlt2] at y0' y1'
          have hka : k ≤ ca := by omega
          have hkb : k ≤ cb := by omega
          have hsk := IA.out.sok (x := spAt la k) (by rw [spAt_eq la k hlt2]; exact List.getElem_mem _)
          clear hcc
          generalize spAt la k = x at *
          obtain ⟨xf, xt⟩ := x
          obtain ⟨q1, q2, q3⟩ := hsk
          simp only at z0 z1 y0' y1' q1 q2 q3
          have HB := Lib.hid hb
          clear hb
          go_wp2
          go_quiet (fail)
          go_wp2
          go_roundw
          case rel => exact ⟨k + 1, by omega, by go_num, HB.out.trans ⟨rfl, rfl, rfl, Nat.le_refl _, fun _ _ => rfl⟩⟩
          case measure => simp [intOf]; omega
        · skip
          replace RL := Lib.hid (RL.out.stay hb)
          replace RM := Lib.hid (RM.out.stay hb)
          replace RA := Lib.hid (RA.out.stay hb)
          replace RB := Lib.hid (RB.out.stay hb)
          replace S0 := Lib.hid (keep hb S0.out)
          replace S1 := Lib.hid (keep hb S1.out)
          replace T0 := Lib.hid (keep hb T0.out)
          replace T1 := Lib.hid (keep hb T1.out)
          replace B := Lib.hid (below_mid B.out hb)
          clear hb
          have uS0 := S0.out
          have uS1 := S1.out
          have uT0 := T0.out
          have uT1 := T1.out
          go_wp2
          replace uS0 := cell_regrown S0.out
          replace uS1 := cell_regrown S1.out
          replace uT0 := cell_regrown T0.out
          replace uT1 := cell_regrown T1.out
          refine wp_region_R 28 (by kernel_rfl) (by kernel_rfl) ?_
          simp only [List.take, List.drop]
          iterate 4 (refine wpR_want (by kernel_rfl) rfl rfl ?_; intro K hK; go_big_quiet_op; go_big_quiet_on)
          refine wpR_call (by kernel_rfl) rfl 21 #[.slice al l.length cl, spV ⟨s0, s1⟩] (.bool lc) (fun w => by simp [go_sem]) (fun w' hw' => MC.out _ _ (RL.out.stay hw')) ?_
          simp only [Act.put, List.setIfInBounds_toArray, List.set_cons_succ, List.set_cons_zero]
          iterate 2 (refine wpR_want (by kernel_rfl) rfl rfl ?_; intro K hK; go_big_quiet_op; go_big_quiet_on)
          refine wpR_call (by kernel_rfl) rfl 21 #[.slice am l.length cm, spV ⟨s0 + d, s1 + d⟩] (.bool lc) (fun w => by simp [go_sem]) (fun w' hw' => MD.out _ _ (RM.out.stay hw')) ?_
          simp only [Act.put, List.setIfInBounds_toArray, List.set_cons_succ, List.set_cons_zero]
          iterate 4 (refine wpR_want (by kernel_rfl) rfl rfl ?_; intro K hK; go_big_quiet_op; go_big_quiet_on)
          refine wpR_call (by kernel_rfl) rfl 25 #[.slice am l.length cm] (.int .i64 nl) (fun w => by simp [go_sem]) (fun w' hw' => CM.out _ _ (RM.out.stay hw')) ?_
          simp only [Act.put, List.setIfInBounds_toArray, List.set_cons_succ, List.set_cons_zero]
          iterate 1 (refine wpR_want (by kernel_rfl) rfl rfl ?_; intro K hK; go_big_quiet_op; go_big_quiet_on)
          refine wpR_call (by kernel_rfl) rfl 25 #[.slice al l.length cl] (.int .i64 nl) (fun w => by simp [go_sem]) (fun w' hw' => CL.out _ _ (RL.out.stay hw')) ?_
          simp only [Act.put, List.setIfInBounds_toArray, List.set_cons_succ, List.set_cons_zero]
          iterate 5 (refine wpR_want (by kernel_rfl) rfl rfl ?_; intro K hK; go_big_quiet_op; go_big_quiet_on)
          refine wpR_exG (rdP lg) (rdP_lasts _) (by kernel_rfl) rfl (fun a' w' hw' he => ?_) ?_
          · obtain ⟨h119, h120, _, _⟩ := he
            replace h119 : a'.eval (.tmp 119) = .slice al l.length cl := h119
            replace h120 : a'.eval (.tmp 120) = spV ⟨s0, s1⟩ := h120
            refine wp_list (f := 23) (args := #[a'.eval (.tmp 119), a'.eval (.tmp 120)]) (by simp [go_sem, Act.eval]) ?_
            rw [h119, h120]
            exact MG.out _ _ (RL.out.stay hw') (by have := HI.out.len; omega)
          rintro d hd
          cases hd
          simp only [List.nil_append]
          refine wpR_knownG (.int .i64 lg.length) (by kernel_rfl) rfl (fun a' w' hw' he => ?_) ?_
          · obtain ⟨h121, _, _⟩ := he
            replace h121 : RdS w' (a'.eval (.tmp 121)) lg := h121
            exact wp_lenS h121 rfl
          simp only [Act.put, List.setIfInBounds_toArray, List.set_cons_succ, List.set_cons_zero]
          iterate 2 (refine wpR_want (by kernel_rfl) rfl rfl ?_; intro K hK; go_big_quiet_op; go_big_quiet_on)
          refine wpR_exG (rdP lh) (rdP_lasts _) (by kernel_rfl) rfl (fun a' w' hw' he => ?_) ?_
          · obtain ⟨h123, h124, _, _⟩ := he
            replace h123 : a'.eval (.tmp 123) = .slice am l.length cm := h123
            replace h124 : a'.eval (.tmp 124) = spV ⟨s0 + d, s1 + d⟩ := h124
            refine wp_list (f := 23) (args := #[a'.eval (.tmp 123), a'.eval (.tmp 124)]) (by simp [go_sem, Act.eval]) ?_
            rw [h123, h124]
            exact MH.out _ _ (RM.out.stay hw') (by omega)
          rintro d hd
          cases hd
          simp only [List.cons_append, List.nil_append]
          refine wpR_knownG (.int .i64 lg.length) (by kernel_rfl) rfl (fun a' w' hw' he => ?_) ?_
          · obtain ⟨h125, _, _⟩ := he
            replace h125 : RdS w' (a'.eval (.tmp 125)) lh := h125
            exact HG.out ▸ wp_lenS h125 rfl
          simp only [Act.put, List.setIfInBounds_toArray, List.set_cons_succ, List.set_cons_zero]
          iterate 2 (refine wpR_want (by kernel_rfl) rfl rfl ?_; intro K hK; go_big_quiet_op; go_big_quiet_on)
          refine wpR_nil (by kernel_rfl) (by simp) ?_
          rintro x10 hb
          simp only [exAll]
          rintro u121 g121
          rintro u125 g125
          clear uS0 uS1 uT0 uT1
          replace RL := Lib.hid (RL.out.stay hb)
          replace RM := Lib.hid (RM.out.stay hb)
          replace RA := Lib.hid (RA.out.stay hb)
          replace RB := Lib.hid (RB.out.stay hb)
          replace S0 := Lib.hid (keep hb S0.out)
          replace S1 := Lib.hid (keep hb S1.out)
          replace T0 := Lib.hid (keep hb T0.out)
          replace T1 := Lib.hid (keep hb T1.out)
          replace B := Lib.hid (below_mid B.out hb)
          clear hb
          simp only [Act.put, List.setIfInBounds_toArray, List.set_cons_succ, List.set_cons_zero]
          clear g121
          clear g125
          simp only [List.drop]
          have uS0 := S0.out
          have uS1 := S1.out
          have uT0 := T0.out
          have uT1 := T1.out
          go_wp2
          clear uS0 uS1 uT0 uT1
          go_ret
          exact ⟨rfl, B.out⟩

end Go.Proofs.Ythkkhgfdppbphaa
