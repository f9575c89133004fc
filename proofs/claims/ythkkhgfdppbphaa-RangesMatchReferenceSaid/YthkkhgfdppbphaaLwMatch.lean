/- RangesMatchReference, walked. -/
import Derived.Test.YthkkhgfdppbphaaLwE
namespace Go.Proofs.Ythkkhgfdppbphaa
open Go.RowKit Go.Sort Go.Shelf
set_option linter.unusedVariables false

attribute [local go_sem ↓] run_mn run_mx
/-- A list that is cut to twenty spans. -/
def cutL (n : Nat) (f : Nat → Sp) : List Sp := (List.range (min n 20)).map f
theorem cutL_len (n : Nat) (f : Nat → Sp) : (cutL n f).length = min n 20 := by simp [cutL]
theorem RdX.cut {w : World} {a : Option Addr} {n c : Nat} {f : Nat → Sp} (h : RdX w (.slice a n c) n f) : RdS w (.slice a (min n 20) c) (cutL n f) := by
  obtain ⟨a', c', e, h1, h2, h3, h4⟩ := h
  cases e
  refine ⟨a, c, by rw [cutL_len], by rw [cutL_len]; omega, by rw [cutL_len]; omega, fun hn => ?_⟩
  rw [cutL_len] at hn
  obtain ⟨b, o, rfl, hc⟩ := h4 (by omega)
  refine ⟨b, o, rfl, fun i hi => ?_⟩
  rw [cutL_len] at hi
  have : spAt (cutL n f) i = f i := by rw [spAt_eq _ i (by rw [cutL_len]; exact hi)]; simp [cutL]
  rw [this]
  exact hc i (by omega)
theorem run_bsL4 (a b c d : Option Addr) (n0 n1 n2 n3 c0 c1 c2 c3 : Nat) (w : World) : (Instr.buildSlice 29 4 #[(0, .slice a n0 c0), (1, .slice b n1 c1), (2, .slice c n2 c2), (3, .slice d n3 c3)]).run Try.prog w = .ok (.slice (some ⟨w.heap.size, 0, none⟩) 4 4) (w.alloc (.cells #[.slice a n0 c0, .slice b n1 c1, .slice c n2 c2, .slice d n3 c3] 22)) := by kernel_rfl
/-- Four lists of spans in one block. -/
def Rows4 (w : World) (b : Nat) : Prop := ∀ k, k < 4 → ∃ v lk, w.cell? ⟨b, k, none⟩ = some v ∧ RdS w v lk ∧ lk.length ≤ 100
theorem Rows4.stay {w w' : World} {b : Nat} (hb : Below w.heap.size w w') (h : Rows4 w b) : Rows4 w' b := by
  intro k hk
  obtain ⟨v, lk, h1, h2, h3⟩ := h k hk
  exact ⟨v, lk, keep hb h1, h2.stay hb, h3⟩
theorem rows4_mk {w : World} {v0 v1 v2 v3 : Value} {l0 l1 l2 l3 : List Sp} (h0 : RdS w v0 l0) (h1 : RdS w v1 l1) (h2 : RdS w v2 l2) (h3 : RdS w v3 l3) (g0 : l0.length ≤ 100) (g1 : l1.length ≤ 100) (g2 : l2.length ≤ 100) (g3 : l3.length ≤ 100) (t : TypeId) :
    Rows4 (w.alloc (.cells #[v0, v1, v2, v3] t)) w.heap.size := by
  have hb : Below w.heap.size w (w.alloc (.cells #[v0, v1, v2, v3] t)) := (Below.refl _ _).alloc (Nat.le_refl _) _
  intro k hk
  obtain rfl | rfl | rfl | rfl : k = 0 ∨ k = 1 ∨ k = 2 ∨ k = 3 := by omega
  · exact ⟨v0, l0, by simp, h0.stay hb, g0⟩
  · exact ⟨v1, l1, by simp, h1.stay hb, g1⟩
  · exact ⟨v2, l2, by simp, h2.stay hb, g2⟩
  · exact ⟨v3, l3, by simp, h3.stay hb, g3⟩

set_option maxRecDepth 100000 in
set_option maxHeartbeats 4000000 in
theorem match_walk (n0 : Nat) (f0 : Nat → Sp) (v0 : Value) (n1 : Nat) (f1 : Nat → Sp) (v1 : Value) (s : Sp) (n : Nat) (f : Nat → Sp) (v : Value) (y : Sp) (x0 : World) (h0 : RdX x0 v0 n0 f0) (h1 : RdX x0 v1 n1 f1) (hs : i64S s) (hv : RdX x0 v n f) (hy : i64S y) :
    Calls Try.prog 3 #[v0, v1, spV s, v, spV y] x0 fun e w' => e = .returned (.bool true) ∧ Below x0.heap.size x0 w' := by
  have B := Lib.hid (Below.refl x0.heap.size x0)
  have RX := Lib.hid hv
  have X0 := Lib.hid h0
  have X1 := Lib.hid h1
  obtain ⟨a0, c0, rfl, hc0, _⟩ := h0
  obtain ⟨a1, c1, rfl, hc1, _⟩ := h1
  obtain ⟨av, cv, rfl, _⟩ := hv
  obtain ⟨y0, y1⟩ := y
  obtain ⟨s0, s1⟩ := s
  have HI := Lib.hid (spans_inv f (min n 10))
  have PS := Lib.hid (spans_any n f (.slice av n cv))
  have PY := Lib.hid (fun w => span_any ⟨y0, y1⟩ w hy)
  clear hy hs
  generalize spanF ⟨y0, y1⟩ = t at *
  obtain ⟨t0, t1⟩ := t
  generalize spansF f (min n 10) = l at *
  have R0 := Lib.hid X0.out.cut
  have R1 := Lib.hid X1.out.cut
  have q0 : (cutL n0 f0).length ≤ 100 := by rw [cutL_len]; omega
  have q1 : (cutL n1 f1).length ≤ 100 := by rw [cutL_len]; omega
  clear X0 X1
  generalize cutL n0 f0 = l0 at *
  generalize cutL n1 f1 = l1 at *
  have e0 : min (n0 : Int) 20 = ((min n0 20 : Nat) : Int) := by omega
  have e1 : min (n1 : Int) 20 = ((min n1 20 : Nat) : Int) := by omega
  have i0 : min n0 20 ≤ c0 := by omega
  have i1 : min n1 20 ≤ c1 := by omega
  generalize min n0 20 = m0 at *
  generalize min n1 20 = m1 at *
  obtain ⟨x1, hx1⟩ : ∃ y, x0.alloc (.cells #[.int .i64 s0, .int .i64 s1] 24) = y := ⟨_, rfl⟩
  have hb : Below x0.heap.size x0 x1 := hx1 ▸ bal x0 (.cells #[.int .i64 s0, .int .i64 s1] 24)
  replace RX := Lib.hid (RX.out.stay hb)
  replace R0 := Lib.hid (R0.out.stay hb)
  replace R1 := Lib.hid (R1.out.stay hb)
  replace B := Lib.hid (below_mid B.out hb)
  clear hb
  have S0 := Lib.hid (hx1 ▸ (box1 x0 s0 s1 24).1)
  have S1 := Lib.hid (hx1 ▸ (box1 x0 s0 s1 24).2)
  have pS0 := S0.out
  have pS1 := S1.out
  obtain ⟨x2, hx2⟩ : ∃ y, x1.alloc (.cells #[.int .i64 y0, .int .i64 y1] 26) = y := ⟨_, rfl⟩
  have hb : Below x1.heap.size x1 x2 := hx2 ▸ bal x1 (.cells #[.int .i64 y0, .int .i64 y1] 26)
  replace RX := Lib.hid (RX.out.stay hb)
  replace R0 := Lib.hid (R0.out.stay hb)
  replace R1 := Lib.hid (R1.out.stay hb)
  replace S0 := Lib.hid (keep hb S0.out)
  replace S1 := Lib.hid (keep hb S1.out)
  replace B := Lib.hid (below_mid B.out hb)
  clear hb
  have Y0 := Lib.hid (hx2 ▸ (box1 x1 y0 y1 26).1)
  have Y1 := Lib.hid (hx2 ▸ (box1 x1 y0 y1 26).2)
  have pY0 := Y0.out
  have pY1 := Y1.out
  go_enter Try.func3, Try.ntmps3
  have uS0 := S0.out
  have uS1 := S1.out
  have uY0 := Y0.out
  have uY1 := Y1.out
  go_wp2_with fail
  clear uS0 uS1 uY0 uY1 pS0 pS1 pY0 pY1
  refine (sane_any _).mono ?_
  rintro e x3 ⟨rfl, hb⟩
  replace RX := Lib.hid (RX.out.stay hb)
  replace R0 := Lib.hid (R0.out.stay hb)
  replace R1 := Lib.hid (R1.out.stay hb)
  replace S0 := Lib.hid (keep hb S0.out)
  replace S1 := Lib.hid (keep hb S1.out)
  replace Y0 := Lib.hid (keep hb Y0.out)
  replace Y1 := Lib.hid (keep hb Y1.out)
  replace B := Lib.hid (below_mid B.out hb)
  clear hb
  have uS0 := S0.out
  have uS1 := S1.out
  have uY0 := Y0.out
  have uY1 := Y1.out
  go_wp2_with fail
  clear uS0 uS1 uY0 uY1
  refine (PS.out _ RX.out).mono ?_
  rintro e x4 ⟨vl, rfl, r0, hb⟩
  replace RX := Lib.hid (RX.out.stay hb)
  replace R0 := Lib.hid (R0.out.stay hb)
  replace R1 := Lib.hid (R1.out.stay hb)
  replace S0 := Lib.hid (keep hb S0.out)
  replace S1 := Lib.hid (keep hb S1.out)
  replace Y0 := Lib.hid (keep hb Y0.out)
  replace Y1 := Lib.hid (keep hb Y1.out)
  replace B := Lib.hid (below_mid B.out hb)
  have RL := Lib.hid r0
  clear hb r0
  clear RX
  clear PS
  obtain ⟨al, cl, rfl, hcl, hll, _⟩ := RL.out
  have hnl : l.length ≤ 100 := by have := HI.out.len; omega
  have rb := run_bsL4
  have RR := Lib.hid (rows4_mk R0.out R1.out RL.out RL.out q0 q1 hnl hnl 22)
  have hb : Below x4.heap.size x4 (x4.alloc (.cells #[.slice a0 m0 c0, .slice a1 m1 c1, .slice al l.length cl, .slice al l.length cl] 22)) := (Below.refl _ _).alloc (Nat.le_refl _) _
  replace R0 := Lib.hid (R0.out.stay hb)
  replace R1 := Lib.hid (R1.out.stay hb)
  replace RL := Lib.hid (RL.out.stay hb)
  replace S0 := Lib.hid (keep hb S0.out)
  replace S1 := Lib.hid (keep hb S1.out)
  replace Y0 := Lib.hid (keep hb Y0.out)
  replace Y1 := Lib.hid (keep hb Y1.out)
  replace B := Lib.hid (below_mid B.out hb)
  clear hb
  have uS0 := S0.out
  have uS1 := S1.out
  have uY0 := Y0.out
  have uY1 := Y1.out
  go_wp2
  clear uS0 uS1 uY0 uY1
  clear rb
  generalize hxx : x4.alloc _ = xx at *
  clear hxx
  clear R1
  clear RL
  go_loopw [13, 15, 16, 36] (fun n _ _ i wr => ∃ k : Nat, k ≤ 4 ∧ i = .int .i64 k ∧ n = .int .i64 k ∧ Below xx.heap.size xx wr) (fun _ _ _ i _ => 4 - (intOf i).toNat)
  case atStart => exact ⟨0, Nat.zero_le _, rfl, rfl, Below.refl _ _⟩
  case round =>
    obtain ⟨k, hk, rfl, rfl, hb⟩ := hrel
    by_cases hlt : k < 4
    · skip
      have BL := Lib.hid hb
      replace R0 := Lib.hid (R0.out.stay hb)
      replace RR := Lib.hid (RR.out.stay hb)
      replace S0 := Lib.hid (keep hb S0.out)
      replace S1 := Lib.hid (keep hb S1.out)
      replace Y0 := Lib.hid (keep hb Y0.out)
      replace Y1 := Lib.hid (keep hb Y1.out)
      replace B := Lib.hid (below_mid B.out hb)
      clear hb
      obtain ⟨v, lk, hcell, hrd, hlk⟩ := RR.out k hlt
      have RK := Lib.hid hrd
      clear hrd
      by_cases h3 : k = 3
      · skip
        obtain rfl : k = 3 := h3
        have pS0 := S0.out
        have pS1 := S1.out
        have B9 := Lib.hid (Below.refl wr.heap.size wr)
        have R0w := R0
        have RRw := RR
        have RKw := RK
        have S0w := S0
        have S1w := S1
        have Y0w := Y0
        have Y1w := Y1
        have Bw := B
        have BLw := BL
        obtain ⟨x5, hx5⟩ : ∃ y, wr.alloc (.cells #[.int .i64 s0, .int .i64 s1] 24) = y := ⟨_, rfl⟩
        have hb : Below wr.heap.size wr x5 := hx5 ▸ bal wr (.cells #[.int .i64 s0, .int .i64 s1] 24)
        replace R0 := Lib.hid (R0.out.stay hb)
        replace RR := Lib.hid (RR.out.stay hb)
        replace RK := Lib.hid (RK.out.stay hb)
        replace S0 := Lib.hid (keep hb S0.out)
        replace S1 := Lib.hid (keep hb S1.out)
        replace Y0 := Lib.hid (keep hb Y0.out)
        replace Y1 := Lib.hid (keep hb Y1.out)
        replace B := Lib.hid (below_mid B.out hb)
        replace BL := Lib.hid (below_mid BL.out hb)
        replace B9 := Lib.hid (below_mid B9.out hb)
        clear hb
        have T0 := Lib.hid (hx5 ▸ (box1 wr s0 s1 24).1)
        have T1 := Lib.hid (hx5 ▸ (box1 wr s0 s1 24).2)
        have pT0 := T0.out
        have pT1 := T1.out
        have Z0 := Lib.hid (show x5.frozen? ⟨wr.heap.size, 0, none⟩ = false by rw [← hx5]; simp [go_sem])
        have Z1 := Lib.hid (show x5.frozen? ⟨wr.heap.size, 1, none⟩ = false by rw [← hx5]; simp [go_sem])
        have hcell' := hcell
        have uS0 := S0.out
        have uS1 := S1.out
        have uY0 := Y0.out
        have uY1 := Y1.out
        have uT0 := T0.out
        have uT1 := T1.out
        go_wp2_with fail
        clear uS0 uS1 uY0 uY1 uT0 uT1 pS0 pS1 pT0 pT1 hcell'
        refine (PY.out _).mono ?_
        rintro e x6 ⟨rfl, hb⟩
        replace Z0 := Lib.hid (frz hb T0.out Z0.out)
        replace Z1 := Lib.hid (frz hb T1.out Z1.out)
        replace R0 := Lib.hid (R0.out.stay hb)
        replace RR := Lib.hid (RR.out.stay hb)
        replace RK := Lib.hid (RK.out.stay hb)
        replace S0 := Lib.hid (keep hb S0.out)
        replace S1 := Lib.hid (keep hb S1.out)
        replace Y0 := Lib.hid (keep hb Y0.out)
        replace Y1 := Lib.hid (keep hb Y1.out)
        replace T0 := Lib.hid (keep hb T0.out)
        replace T1 := Lib.hid (keep hb T1.out)
        replace B := Lib.hid (below_mid B.out hb)
        replace BL := Lib.hid (below_mid BL.out hb)
        replace B9 := Lib.hid (below_mid B9.out hb)
        clear hb
        have uT0 := T0.out
        have uT1 := T1.out
        have uZ0 := Z0.out
        have uZ1 := Z1.out
        have hbz : Below wr.heap.size wr ((x6.setCell ⟨wr.heap.size, 0, none⟩ (.int .i64 t0)).setCell ⟨wr.heap.size, 1, none⟩ (.int .i64 t1)) := (B9.out.setCell (by simp) _).setCell (by simp) _
        have n0 := (set_cell2 (x6.setCell ⟨wr.heap.size, 0, none⟩ (.int .i64 t0)) wr.heap.size 1 0 (.int .i64 t1) (by decide)).trans (set_get1 (v := .int .i64 t0) uT0)
        have n1 := set_get1 (v := .int .i64 t1) ((set_cell2 x6 wr.heap.size 0 1 (.int .i64 t0) (by decide)).trans uT1)
        have N0 := Lib.hid n0
        have N1 := Lib.hid n1
        have HBZ := Lib.hid hbz
        clear n0 n1 hbz
        obtain ⟨x7, hzz⟩ : ∃ y, (x6.setCell ⟨wr.heap.size, 0, none⟩ (.int .i64 t0)).setCell ⟨wr.heap.size, 1, none⟩ (.int .i64 t1) = y := ⟨_, rfl⟩
        rw [hzz] at N0 N1 HBZ
        replace R0 := Lib.hid (R0w.out.stay HBZ.out)
        replace RR := Lib.hid (RRw.out.stay HBZ.out)
        replace RK := Lib.hid (RKw.out.stay HBZ.out)
        replace S0 := Lib.hid (keep HBZ.out S0w.out)
        replace S1 := Lib.hid (keep HBZ.out S1w.out)
        replace Y0 := Lib.hid (keep HBZ.out Y0w.out)
        replace Y1 := Lib.hid (keep HBZ.out Y1w.out)
        replace T0 := N0
        replace T1 := N1
        replace B := Lib.hid (below_mid Bw.out HBZ.out)
        replace BL := Lib.hid (below_mid BLw.out HBZ.out)
        clear B9 Z0 Z1 N0 N1 HBZ R0w RRw RKw S0w S1w Y0w Y1w Bw BLw
        have pT0 := T0.out
        have pT1 := T1.out
        have hlk' := hlk
        have KV := Lib.hid (valid_any lk)
        have KW := Lib.hid (rvalid_any lk)
        have KS := Lib.hid (same_any lk l0)
        have KT := Lib.hid (rsame_any lk l0)
        have KC := Lib.hid (contains_any lk ⟨t0, t1⟩)
        have KD := Lib.hid (rcontains_any lk ⟨t0, t1⟩)
        have KN := Lib.hid (count_any lk)
        have KM := Lib.hid (rcount_any lk)
        generalize canF (-1) lk = bv at *
        generalize decide (lk = l0) = bs at *
        generalize conF lk ⟨t0, t1⟩ = bc at *
        generalize cntF lk = nk at *
        have uS0 := S0.out
        have uS1 := S1.out
        have uY0 := Y0.out
        have uY1 := Y1.out
        have uT0 := T0.out
        have uT1 := T1.out
        go_wp2
        clear uZ0 uZ1 pT0 pT1
        replace uS0 := cell_regrown S0.out
        replace uS1 := cell_regrown S1.out
        replace uY0 := cell_regrown Y0.out
        replace uY1 := cell_regrown Y1.out
        replace uT0 := cell_regrown T0.out
        replace uT1 := cell_regrown T1.out
        refine wp_region_R 34 (by kernel_rfl) (by kernel_rfl) ?_
        simp only [List.take, List.drop]
        iterate 1 (refine wpR_want (by kernel_rfl) rfl rfl ?_; intro K hK; go_big_quiet_op; go_big_quiet_on)
        refine wpR_call (by kernel_rfl) rfl 13 #[v] (.bool bv) (fun w => by simp [go_sem]) (fun w' hw' => KV.out _ _ (RK.out.stay hw')) ?_
        simp only [Act.put, List.setIfInBounds_toArray, List.set_cons_succ, List.set_cons_zero]
        iterate 1 (refine wpR_want (by kernel_rfl) rfl rfl ?_; intro K hK; go_big_quiet_op; go_big_quiet_on)
        refine wpR_call (by kernel_rfl) rfl 14 #[v] (.bool bv) (fun w => by simp [go_sem]) (fun w' hw' => KW.out _ _ (RK.out.stay hw')) ?_
        simp only [Act.put, List.setIfInBounds_toArray, List.set_cons_succ, List.set_cons_zero]
        iterate 4 (refine wpR_want (by kernel_rfl) rfl rfl ?_; intro K hK; go_big_quiet_op; go_big_quiet_on)
        refine wpR_call (by kernel_rfl) rfl 15 #[v, .slice a0 m0 c0] (.bool bs) (fun w => by simp [go_sem]) (fun w' hw' => KS.out _ _ _ (RK.out.stay hw') (R0.out.stay hw')) ?_
        simp only [Act.put, List.setIfInBounds_toArray, List.set_cons_succ, List.set_cons_zero]
        iterate 2 (refine wpR_want (by kernel_rfl) rfl rfl ?_; intro K hK; go_big_quiet_op; go_big_quiet_on)
        refine wpR_call (by kernel_rfl) rfl 16 #[v, .slice a0 m0 c0] (.bool bs) (fun w => by simp [go_sem]) (fun w' hw' => KT.out _ _ _ (RK.out.stay hw') (R0.out.stay hw')) ?_
        simp only [Act.put, List.setIfInBounds_toArray, List.set_cons_succ, List.set_cons_zero]
        iterate 5 (refine wpR_want (by kernel_rfl) rfl rfl ?_; intro K hK; go_big_quiet_op; go_big_quiet_on)
        refine wpR_exG (rdP (addF lk ⟨t0, t1⟩)) (rdP_lasts _) (by kernel_rfl) rfl (fun a' w' hw' he => ?_) ?_
        · obtain ⟨h62, h63, _, _⟩ := he
          replace h62 : a'.eval (.tmp 62) = v := h62
          replace h63 : a'.eval (.tmp 63) = spV ⟨t0, t1⟩ := h63
          refine wp_list (f := 17) (args := #[a'.eval (.tmp 62), a'.eval (.tmp 63)]) (by simp [go_sem, Act.eval]) ?_
          rw [h62, h63]
          exact add_any _ _ _ _ (RK.out.stay hw') (by omega)
        rintro d hd
        cases hd
        simp only [List.nil_append]
        iterate 2 (refine wpR_want (by kernel_rfl) rfl rfl ?_; intro K hK; go_big_quiet_op; go_big_quiet_on)
        refine wpR_exG (rdP (addF lk ⟨t0, t1⟩)) (rdP_lasts _) (by kernel_rfl) rfl (fun a' w' hw' he => ?_) ?_
        · obtain ⟨h65, h66, _, _⟩ := he
          replace h65 : a'.eval (.tmp 65) = v := h65
          replace h66 : a'.eval (.tmp 66) = spV ⟨t0, t1⟩ := h66
          refine wp_list (f := 18) (args := #[a'.eval (.tmp 65), a'.eval (.tmp 66)]) (by simp [go_sem, Act.eval]) ?_
          rw [h65, h66]
          exact radd_any _ _ _ _ (RK.out.stay hw') (by omega)
        rintro d hd
        cases hd
        simp only [List.cons_append, List.nil_append]
        refine wpR_knownG (.bool true) (by kernel_rfl) rfl (fun a' w' hw' he => ?_) ?_
        · obtain ⟨h64, h67, _, _⟩ := he
          replace h64 : RdS w' (a'.eval (.tmp 64)) (addF lk ⟨t0, t1⟩) := h64
          replace h67 : RdS w' (a'.eval (.tmp 67)) (addF lk ⟨t0, t1⟩) := h67
          refine wp_val (f := 16) (args := #[a'.eval (.tmp 64), a'.eval (.tmp 67)]) (by simp [go_sem, Act.eval]) ?_
          exact rsame_r (decide_eq_true rfl) _ _ _ h64 h67
        simp only [Act.put, List.setIfInBounds_toArray, List.set_cons_succ, List.set_cons_zero]
        iterate 5 (refine wpR_want (by kernel_rfl) rfl rfl ?_; intro K hK; go_big_quiet_op; go_big_quiet_on)
        refine wpR_exG (rdP (remF lk ⟨t0, t1⟩)) (rdP_lasts _) (by kernel_rfl) rfl (fun a' w' hw' he => ?_) ?_
        · obtain ⟨h72, h73, _, _⟩ := he
          replace h72 : a'.eval (.tmp 72) = v := h72
          replace h73 : a'.eval (.tmp 73) = spV ⟨t0, t1⟩ := h73
          refine wp_list (f := 19) (args := #[a'.eval (.tmp 72), a'.eval (.tmp 73)]) (by simp [go_sem, Act.eval]) ?_
          rw [h72, h73]
          exact remove_any _ _ _ _ (RK.out.stay hw') (by omega)
        rintro d hd
        cases hd
        simp only [List.cons_append, List.nil_append]
        iterate 2 (refine wpR_want (by kernel_rfl) rfl rfl ?_; intro K hK; go_big_quiet_op; go_big_quiet_on)
        refine wpR_exG (rdP (remF lk ⟨t0, t1⟩)) (rdP_lasts _) (by kernel_rfl) rfl (fun a' w' hw' he => ?_) ?_
        · obtain ⟨h75, h76, _, _⟩ := he
          replace h75 : a'.eval (.tmp 75) = v := h75
          replace h76 : a'.eval (.tmp 76) = spV ⟨t0, t1⟩ := h76
          refine wp_list (f := 20) (args := #[a'.eval (.tmp 75), a'.eval (.tmp 76)]) (by simp [go_sem, Act.eval]) ?_
          rw [h75, h76]
          exact rremove_any _ _ _ _ (RK.out.stay hw') (by omega)
        rintro d hd
        cases hd
        simp only [List.cons_append, List.nil_append]
        refine wpR_knownG (.bool true) (by kernel_rfl) rfl (fun a' w' hw' he => ?_) ?_
        · obtain ⟨h74, h77, _, _⟩ := he
          replace h74 : RdS w' (a'.eval (.tmp 74)) (remF lk ⟨t0, t1⟩) := h74
          replace h77 : RdS w' (a'.eval (.tmp 77)) (remF lk ⟨t0, t1⟩) := h77
          refine wp_val (f := 16) (args := #[a'.eval (.tmp 74), a'.eval (.tmp 77)]) (by simp [go_sem, Act.eval]) ?_
          exact rsame_r (decide_eq_true rfl) _ _ _ h74 h77
        simp only [Act.put, List.setIfInBounds_toArray, List.set_cons_succ, List.set_cons_zero]
        iterate 2 (refine wpR_want (by kernel_rfl) rfl rfl ?_; intro K hK; go_big_quiet_op; go_big_quiet_on)
        refine wpR_nil (by kernel_rfl) (by simp) ?_
        rintro x8 hb
        simp only [exAll]
        rintro u64 g64
        rintro u67 g67
        rintro u74 g74
        rintro u77 g77
        clear uS0 uS1 uY0 uY1 uT0 uT1
        replace R0 := Lib.hid (R0.out.stay hb)
        replace RR := Lib.hid (RR.out.stay hb)
        replace RK := Lib.hid (RK.out.stay hb)
        replace S0 := Lib.hid (keep hb S0.out)
        replace S1 := Lib.hid (keep hb S1.out)
        replace Y0 := Lib.hid (keep hb Y0.out)
        replace Y1 := Lib.hid (keep hb Y1.out)
        replace T0 := Lib.hid (keep hb T0.out)
        replace T1 := Lib.hid (keep hb T1.out)
        replace B := Lib.hid (below_mid B.out hb)
        replace BL := Lib.hid (below_mid BL.out hb)
        clear hb
        simp only [Act.put, List.setIfInBounds_toArray, List.set_cons_succ, List.set_cons_zero]
        clear g64
        clear g67
        clear g74
        clear g77
        simp only [List.drop]
        have uS0 := S0.out
        have uS1 := S1.out
        have uY0 := Y0.out
        have uY1 := Y1.out
        have uT0 := T0.out
        have uT1 := T1.out
        go_wp2
        replace uS0 := cell_regrown S0.out
        replace uS1 := cell_regrown S1.out
        replace uY0 := cell_regrown Y0.out
        replace uY1 := cell_regrown Y1.out
        replace uT0 := cell_regrown T0.out
        replace uT1 := cell_regrown T1.out
        refine wp_region_R 24 (by kernel_rfl) (by kernel_rfl) ?_
        simp only [List.take, List.drop]
        iterate 2 (refine wpR_want (by kernel_rfl) rfl rfl ?_; intro K hK; go_big_quiet_op; go_big_quiet_on)
        refine wpR_call (by kernel_rfl) rfl 21 #[v, spV ⟨t0, t1⟩] (.bool bc) (fun w => by simp [go_sem]) (fun w' hw' => KC.out _ _ (RK.out.stay hw')) ?_
        simp only [Act.put, List.setIfInBounds_toArray, List.set_cons_succ, List.set_cons_zero]
        iterate 2 (refine wpR_want (by kernel_rfl) rfl rfl ?_; intro K hK; go_big_quiet_op; go_big_quiet_on)
        refine wpR_call (by kernel_rfl) rfl 22 #[v, spV ⟨t0, t1⟩] (.bool bc) (fun w => by simp [go_sem]) (fun w' hw' => KD.out _ _ (RK.out.stay hw')) ?_
        simp only [Act.put, List.setIfInBounds_toArray, List.set_cons_succ, List.set_cons_zero]
        iterate 4 (refine wpR_want (by kernel_rfl) rfl rfl ?_; intro K hK; go_big_quiet_op; go_big_quiet_on)
        refine wpR_exG (rdP (gapF lk ⟨t0, t1⟩)) (rdP_lasts _) (by kernel_rfl) rfl (fun a' w' hw' he => ?_) ?_
        · obtain ⟨h89, h90, _, _⟩ := he
          replace h89 : a'.eval (.tmp 89) = v := h89
          replace h90 : a'.eval (.tmp 90) = spV ⟨t0, t1⟩ := h90
          refine wp_list (f := 23) (args := #[a'.eval (.tmp 89), a'.eval (.tmp 90)]) (by simp [go_sem, Act.eval]) ?_
          rw [h89, h90]
          exact gaps_any _ _ _ _ (RK.out.stay hw') (by omega)
        rintro d hd
        cases hd
        simp only [List.nil_append]
        iterate 2 (refine wpR_want (by kernel_rfl) rfl rfl ?_; intro K hK; go_big_quiet_op; go_big_quiet_on)
        refine wpR_exG (rdP (gapF lk ⟨t0, t1⟩)) (rdP_lasts _) (by kernel_rfl) rfl (fun a' w' hw' he => ?_) ?_
        · obtain ⟨h92, h93, _, _⟩ := he
          replace h92 : a'.eval (.tmp 92) = v := h92
          replace h93 : a'.eval (.tmp 93) = spV ⟨t0, t1⟩ := h93
          refine wp_list (f := 24) (args := #[a'.eval (.tmp 92), a'.eval (.tmp 93)]) (by simp [go_sem, Act.eval]) ?_
          rw [h92, h93]
          exact rgaps_any _ _ _ _ (RK.out.stay hw') (by omega)
        rintro d hd
        cases hd
        simp only [List.cons_append, List.nil_append]
        refine wpR_knownG (.bool true) (by kernel_rfl) rfl (fun a' w' hw' he => ?_) ?_
        · obtain ⟨h91, h94, _, _⟩ := he
          replace h91 : RdS w' (a'.eval (.tmp 91)) (gapF lk ⟨t0, t1⟩) := h91
          replace h94 : RdS w' (a'.eval (.tmp 94)) (gapF lk ⟨t0, t1⟩) := h94
          refine wp_val (f := 16) (args := #[a'.eval (.tmp 91), a'.eval (.tmp 94)]) (by simp [go_sem, Act.eval]) ?_
          exact rsame_r (decide_eq_true rfl) _ _ _ h91 h94
        simp only [Act.put, List.setIfInBounds_toArray, List.set_cons_succ, List.set_cons_zero]
        iterate 4 (refine wpR_want (by kernel_rfl) rfl rfl ?_; intro K hK; go_big_quiet_op; go_big_quiet_on)
        refine wpR_call (by kernel_rfl) rfl 25 #[v] (.int .i64 nk) (fun w => by simp [go_sem]) (fun w' hw' => KN.out _ _ (RK.out.stay hw')) ?_
        simp only [Act.put, List.setIfInBounds_toArray, List.set_cons_succ, List.set_cons_zero]
        iterate 1 (refine wpR_want (by kernel_rfl) rfl rfl ?_; intro K hK; go_big_quiet_op; go_big_quiet_on)
        refine wpR_call (by kernel_rfl) rfl 26 #[v] (.int .i64 nk) (fun w => by simp [go_sem]) (fun w' hw' => KM.out _ _ (RK.out.stay hw')) ?_
        simp only [Act.put, List.setIfInBounds_toArray, List.set_cons_succ, List.set_cons_zero]
        iterate 2 (refine wpR_want (by kernel_rfl) rfl rfl ?_; intro K hK; go_big_quiet_op; go_big_quiet_on)
        refine wpR_nil (by kernel_rfl) (by simp) ?_
        rintro x9 hb
        simp only [exAll]
        rintro u91 g91
        rintro u94 g94
        clear uS0 uS1 uY0 uY1 uT0 uT1
        replace R0 := Lib.hid (R0.out.stay hb)
        replace RR := Lib.hid (RR.out.stay hb)
        replace RK := Lib.hid (RK.out.stay hb)
        replace S0 := Lib.hid (keep hb S0.out)
        replace S1 := Lib.hid (keep hb S1.out)
        replace Y0 := Lib.hid (keep hb Y0.out)
        replace Y1 := Lib.hid (keep hb Y1.out)
        replace T0 := Lib.hid (keep hb T0.out)
        replace T1 := Lib.hid (keep hb T1.out)
        replace B := Lib.hid (below_mid B.out hb)
        replace BL := Lib.hid (below_mid BL.out hb)
        clear hb
        simp only [Act.put, List.setIfInBounds_toArray, List.set_cons_succ, List.set_cons_zero]
        clear g91
        clear g94
        simp only [List.drop]
        have uS0 := S0.out
        have uS1 := S1.out
        have uY0 := Y0.out
        have uY1 := Y1.out
        have uT0 := T0.out
        have uT1 := T1.out
        go_wp2
        clear uS0 uS1 uY0 uY1 uT0 uT1
        go_roundw
        case rel => exact ⟨4, by omega, rfl, rfl, BL.out⟩
        case measure => simp [intOf]
      · have h3' : ((k : Int) == 3) = false := by rw [beq_eq_false_iff_ne]; omega
        have pS0 := S0.out
        have pS1 := S1.out
        obtain ⟨x5, hx5⟩ : ∃ y, wr.alloc (.cells #[.int .i64 s0, .int .i64 s1] 24) = y := ⟨_, rfl⟩
        have hb : Below wr.heap.size wr x5 := hx5 ▸ bal wr (.cells #[.int .i64 s0, .int .i64 s1] 24)
        replace R0 := Lib.hid (R0.out.stay hb)
        replace RR := Lib.hid (RR.out.stay hb)
        replace RK := Lib.hid (RK.out.stay hb)
        replace S0 := Lib.hid (keep hb S0.out)
        replace S1 := Lib.hid (keep hb S1.out)
        replace Y0 := Lib.hid (keep hb Y0.out)
        replace Y1 := Lib.hid (keep hb Y1.out)
        replace B := Lib.hid (below_mid B.out hb)
        replace BL := Lib.hid (below_mid BL.out hb)
        clear hb
        have T0 := Lib.hid (hx5 ▸ (box1 wr s0 s1 24).1)
        have T1 := Lib.hid (hx5 ▸ (box1 wr s0 s1 24).2)
        have pT0 := T0.out
        have pT1 := T1.out
        have hcell' := hcell
        have hlk' := hlk
        have KV := Lib.hid (valid_any lk)
        have KW := Lib.hid (rvalid_any lk)
        have KS := Lib.hid (same_any lk l0)
        have KT := Lib.hid (rsame_any lk l0)
        have KC := Lib.hid (contains_any lk ⟨s0, s1⟩)
        have KD := Lib.hid (rcontains_any lk ⟨s0, s1⟩)
        have KN := Lib.hid (count_any lk)
        have KM := Lib.hid (rcount_any lk)
        generalize canF (-1) lk = bv at *
        generalize decide (lk = l0) = bs at *
        generalize conF lk ⟨s0, s1⟩ = bc at *
        generalize cntF lk = nk at *
        have uS0 := S0.out
        have uS1 := S1.out
        have uY0 := Y0.out
        have uY1 := Y1.out
        have uT0 := T0.out
        have uT1 := T1.out
        go_wp2
        clear pS0 pS1 pT0 pT1 hcell hcell'
        replace uS0 := cell_regrown S0.out
        replace uS1 := cell_regrown S1.out
        replace uY0 := cell_regrown Y0.out
        replace uY1 := cell_regrown Y1.out
        replace uT0 := cell_regrown T0.out
        replace uT1 := cell_regrown T1.out
        refine wp_region_R 34 (by kernel_rfl) (by kernel_rfl) ?_
        simp only [List.take, List.drop]
        iterate 1 (refine wpR_want (by kernel_rfl) rfl rfl ?_; intro K hK; go_big_quiet_op; go_big_quiet_on)
        refine wpR_call (by kernel_rfl) rfl 13 #[v] (.bool bv) (fun w => by simp [go_sem]) (fun w' hw' => KV.out _ _ (RK.out.stay hw')) ?_
        simp only [Act.put, List.setIfInBounds_toArray, List.set_cons_succ, List.set_cons_zero]
        iterate 1 (refine wpR_want (by kernel_rfl) rfl rfl ?_; intro K hK; go_big_quiet_op; go_big_quiet_on)
        refine wpR_call (by kernel_rfl) rfl 14 #[v] (.bool bv) (fun w => by simp [go_sem]) (fun w' hw' => KW.out _ _ (RK.out.stay hw')) ?_
        simp only [Act.put, List.setIfInBounds_toArray, List.set_cons_succ, List.set_cons_zero]
        iterate 4 (refine wpR_want (by kernel_rfl) rfl rfl ?_; intro K hK; go_big_quiet_op; go_big_quiet_on)
        refine wpR_call (by kernel_rfl) rfl 15 #[v, .slice a0 m0 c0] (.bool bs) (fun w => by simp [go_sem]) (fun w' hw' => KS.out _ _ _ (RK.out.stay hw') (R0.out.stay hw')) ?_
        simp only [Act.put, List.setIfInBounds_toArray, List.set_cons_succ, List.set_cons_zero]
        iterate 2 (refine wpR_want (by kernel_rfl) rfl rfl ?_; intro K hK; go_big_quiet_op; go_big_quiet_on)
        refine wpR_call (by kernel_rfl) rfl 16 #[v, .slice a0 m0 c0] (.bool bs) (fun w => by simp [go_sem]) (fun w' hw' => KT.out _ _ _ (RK.out.stay hw') (R0.out.stay hw')) ?_
        simp only [Act.put, List.setIfInBounds_toArray, List.set_cons_succ, List.set_cons_zero]
        iterate 5 (refine wpR_want (by kernel_rfl) rfl rfl ?_; intro K hK; go_big_quiet_op; go_big_quiet_on)
        refine wpR_exG (rdP (addF lk ⟨s0, s1⟩)) (rdP_lasts _) (by kernel_rfl) rfl (fun a' w' hw' he => ?_) ?_
        · obtain ⟨h62, h63, _, _⟩ := he
          replace h62 : a'.eval (.tmp 62) = v := h62
          replace h63 : a'.eval (.tmp 63) = spV ⟨s0, s1⟩ := h63
          refine wp_list (f := 17) (args := #[a'.eval (.tmp 62), a'.eval (.tmp 63)]) (by simp [go_sem, Act.eval]) ?_
          rw [h62, h63]
          exact add_any _ _ _ _ (RK.out.stay hw') (by omega)
        rintro d hd
        cases hd
        simp only [List.nil_append]
        iterate 2 (refine wpR_want (by kernel_rfl) rfl rfl ?_; intro K hK; go_big_quiet_op; go_big_quiet_on)
        refine wpR_exG (rdP (addF lk ⟨s0, s1⟩)) (rdP_lasts _) (by kernel_rfl) rfl (fun a' w' hw' he => ?_) ?_
        · obtain ⟨h65, h66, _, _⟩ := he
          replace h65 : a'.eval (.tmp 65) = v := h65
          replace h66 : a'.eval (.tmp 66) = spV ⟨s0, s1⟩ := h66
          refine wp_list (f := 18) (args := #[a'.eval (.tmp 65), a'.eval (.tmp 66)]) (by simp [go_sem, Act.eval]) ?_
          rw [h65, h66]
          exact radd_any _ _ _ _ (RK.out.stay hw') (by omega)
        rintro d hd
        cases hd
        simp only [List.cons_append, List.nil_append]
        refine wpR_knownG (.bool true) (by kernel_rfl) rfl (fun a' w' hw' he => ?_) ?_
        · obtain ⟨h64, h67, _, _⟩ := he
          replace h64 : RdS w' (a'.eval (.tmp 64)) (addF lk ⟨s0, s1⟩) := h64
          replace h67 : RdS w' (a'.eval (.tmp 67)) (addF lk ⟨s0, s1⟩) := h67
          refine wp_val (f := 16) (args := #[a'.eval (.tmp 64), a'.eval (.tmp 67)]) (by simp [go_sem, Act.eval]) ?_
          exact rsame_r (decide_eq_true rfl) _ _ _ h64 h67
        simp only [Act.put, List.setIfInBounds_toArray, List.set_cons_succ, List.set_cons_zero]
        iterate 5 (refine wpR_want (by kernel_rfl) rfl rfl ?_; intro K hK; go_big_quiet_op; go_big_quiet_on)
        refine wpR_exG (rdP (remF lk ⟨s0, s1⟩)) (rdP_lasts _) (by kernel_rfl) rfl (fun a' w' hw' he => ?_) ?_
        · obtain ⟨h72, h73, _, _⟩ := he
          replace h72 : a'.eval (.tmp 72) = v := h72
          replace h73 : a'.eval (.tmp 73) = spV ⟨s0, s1⟩ := h73
          refine wp_list (f := 19) (args := #[a'.eval (.tmp 72), a'.eval (.tmp 73)]) (by simp [go_sem, Act.eval]) ?_
          rw [h72, h73]
          exact remove_any _ _ _ _ (RK.out.stay hw') (by omega)
        rintro d hd
        cases hd
        simp only [List.cons_append, List.nil_append]
        iterate 2 (refine wpR_want (by kernel_rfl) rfl rfl ?_; intro K hK; go_big_quiet_op; go_big_quiet_on)
        refine wpR_exG (rdP (remF lk ⟨s0, s1⟩)) (rdP_lasts _) (by kernel_rfl) rfl (fun a' w' hw' he => ?_) ?_
        · obtain ⟨h75, h76, _, _⟩ := he
          replace h75 : a'.eval (.tmp 75) = v := h75
          replace h76 : a'.eval (.tmp 76) = spV ⟨s0, s1⟩ := h76
          refine wp_list (f := 20) (args := #[a'.eval (.tmp 75), a'.eval (.tmp 76)]) (by simp [go_sem, Act.eval]) ?_
          rw [h75, h76]
          exact rremove_any _ _ _ _ (RK.out.stay hw') (by omega)
        rintro d hd
        cases hd
        simp only [List.cons_append, List.nil_append]
        refine wpR_knownG (.bool true) (by kernel_rfl) rfl (fun a' w' hw' he => ?_) ?_
        · obtain ⟨h74, h77, _, _⟩ := he
          replace h74 : RdS w' (a'.eval (.tmp 74)) (remF lk ⟨s0, s1⟩) := h74
          replace h77 : RdS w' (a'.eval (.tmp 77)) (remF lk ⟨s0, s1⟩) := h77
          refine wp_val (f := 16) (args := #[a'.eval (.tmp 74), a'.eval (.tmp 77)]) (by simp [go_sem, Act.eval]) ?_
          exact rsame_r (decide_eq_true rfl) _ _ _ h74 h77
        simp only [Act.put, List.setIfInBounds_toArray, List.set_cons_succ, List.set_cons_zero]
        iterate 2 (refine wpR_want (by kernel_rfl) rfl rfl ?_; intro K hK; go_big_quiet_op; go_big_quiet_on)
        refine wpR_nil (by kernel_rfl) (by simp) ?_
        rintro x6 hb
        simp only [exAll]
        rintro u64 g64
        rintro u67 g67
        rintro u74 g74
        rintro u77 g77
        clear uS0 uS1 uY0 uY1 uT0 uT1
        replace R0 := Lib.hid (R0.out.stay hb)
        replace RR := Lib.hid (RR.out.stay hb)
        replace RK := Lib.hid (RK.out.stay hb)
        replace S0 := Lib.hid (keep hb S0.out)
        replace S1 := Lib.hid (keep hb S1.out)
        replace Y0 := Lib.hid (keep hb Y0.out)
        replace Y1 := Lib.hid (keep hb Y1.out)
        replace T0 := Lib.hid (keep hb T0.out)
        replace T1 := Lib.hid (keep hb T1.out)
        replace B := Lib.hid (below_mid B.out hb)
        replace BL := Lib.hid (below_mid BL.out hb)
        clear hb
        simp only [Act.put, List.setIfInBounds_toArray, List.set_cons_succ, List.set_cons_zero]
        clear g64
        clear g67
        clear g74
        clear g77
        simp only [List.drop]
        have uS0 := S0.out
        have uS1 := S1.out
        have uY0 := Y0.out
        have uY1 := Y1.out
        have uT0 := T0.out
        have uT1 := T1.out
        go_wp2
        replace uS0 := cell_regrown S0.out
        replace uS1 := cell_regrown S1.out
        replace uY0 := cell_regrown Y0.out
        replace uY1 := cell_regrown Y1.out
        replace uT0 := cell_regrown T0.out
        replace uT1 := cell_regrown T1.out
        refine wp_region_R 24 (by kernel_rfl) (by kernel_rfl) ?_
        simp only [List.take, List.drop]
        iterate 2 (refine wpR_want (by kernel_rfl) rfl rfl ?_; intro K hK; go_big_quiet_op; go_big_quiet_on)
        refine wpR_call (by kernel_rfl) rfl 21 #[v, spV ⟨s0, s1⟩] (.bool bc) (fun w => by simp [go_sem]) (fun w' hw' => KC.out _ _ (RK.out.stay hw')) ?_
        simp only [Act.put, List.setIfInBounds_toArray, List.set_cons_succ, List.set_cons_zero]
        iterate 2 (refine wpR_want (by kernel_rfl) rfl rfl ?_; intro K hK; go_big_quiet_op; go_big_quiet_on)
        refine wpR_call (by kernel_rfl) rfl 22 #[v, spV ⟨s0, s1⟩] (.bool bc) (fun w => by simp [go_sem]) (fun w' hw' => KD.out _ _ (RK.out.stay hw')) ?_
        simp only [Act.put, List.setIfInBounds_toArray, List.set_cons_succ, List.set_cons_zero]
        iterate 4 (refine wpR_want (by kernel_rfl) rfl rfl ?_; intro K hK; go_big_quiet_op; go_big_quiet_on)
        refine wpR_exG (rdP (gapF lk ⟨s0, s1⟩)) (rdP_lasts _) (by kernel_rfl) rfl (fun a' w' hw' he => ?_) ?_
        · obtain ⟨h89, h90, _, _⟩ := he
          replace h89 : a'.eval (.tmp 89) = v := h89
          replace h90 : a'.eval (.tmp 90) = spV ⟨s0, s1⟩ := h90
          refine wp_list (f := 23) (args := #[a'.eval (.tmp 89), a'.eval (.tmp 90)]) (by simp [go_sem, Act.eval]) ?_
          rw [h89, h90]
          exact gaps_any _ _ _ _ (RK.out.stay hw') (by omega)
        rintro d hd
        cases hd
        simp only [List.nil_append]
        iterate 2 (refine wpR_want (by kernel_rfl) rfl rfl ?_; intro K hK; go_big_quiet_op; go_big_quiet_on)
        refine wpR_exG (rdP (gapF lk ⟨s0, s1⟩)) (rdP_lasts _) (by kernel_rfl) rfl (fun a' w' hw' he => ?_) ?_
        · obtain ⟨h92, h93, _, _⟩ := he
          replace h92 : a'.eval (.tmp 92) = v := h92
          replace h93 : a'.eval (.tmp 93) = spV ⟨s0, s1⟩ := h93
          refine wp_list (f := 24) (args := #[a'.eval (.tmp 92), a'.eval (.tmp 93)]) (by simp [go_sem, Act.eval]) ?_
          rw [h92, h93]
          exact rgaps_any _ _ _ _ (RK.out.stay hw') (by omega)
        rintro d hd
        cases hd
        simp only [List.cons_append, List.nil_append]
        refine wpR_knownG (.bool true) (by kernel_rfl) rfl (fun a' w' hw' he => ?_) ?_
        · obtain ⟨h91, h94, _, _⟩ := he
          replace h91 : RdS w' (a'.eval (.tmp 91)) (gapF lk ⟨s0, s1⟩) := h91
          replace h94 : RdS w' (a'.eval (.tmp 94)) (gapF lk ⟨s0, s1⟩) := h94
          refine wp_val (f := 16) (args := #[a'.eval (.tmp 91), a'.eval (.tmp 94)]) (by simp [go_sem, Act.eval]) ?_
          exact rsame_r (decide_eq_true rfl) _ _ _ h91 h94
        simp only [Act.put, List.setIfInBounds_toArray, List.set_cons_succ, List.set_cons_zero]
        iterate 4 (refine wpR_want (by kernel_rfl) rfl rfl ?_; intro K hK; go_big_quiet_op; go_big_quiet_on)
        refine wpR_call (by kernel_rfl) rfl 25 #[v] (.int .i64 nk) (fun w => by simp [go_sem]) (fun w' hw' => KN.out _ _ (RK.out.stay hw')) ?_
        simp only [Act.put, List.setIfInBounds_toArray, List.set_cons_succ, List.set_cons_zero]
        iterate 1 (refine wpR_want (by kernel_rfl) rfl rfl ?_; intro K hK; go_big_quiet_op; go_big_quiet_on)
        refine wpR_call (by kernel_rfl) rfl 26 #[v] (.int .i64 nk) (fun w => by simp [go_sem]) (fun w' hw' => KM.out _ _ (RK.out.stay hw')) ?_
        simp only [Act.put, List.setIfInBounds_toArray, List.set_cons_succ, List.set_cons_zero]
        iterate 2 (refine wpR_want (by kernel_rfl) rfl rfl ?_; intro K hK; go_big_quiet_op; go_big_quiet_on)
        refine wpR_nil (by kernel_rfl) (by simp) ?_
        rintro x7 hb
        simp only [exAll]
        rintro u91 g91
        rintro u94 g94
        clear uS0 uS1 uY0 uY1 uT0 uT1
        replace R0 := Lib.hid (R0.out.stay hb)
        replace RR := Lib.hid (RR.out.stay hb)
        replace RK := Lib.hid (RK.out.stay hb)
        replace S0 := Lib.hid (keep hb S0.out)
        replace S1 := Lib.hid (keep hb S1.out)
        replace Y0 := Lib.hid (keep hb Y0.out)
        replace Y1 := Lib.hid (keep hb Y1.out)
        replace T0 := Lib.hid (keep hb T0.out)
        replace T1 := Lib.hid (keep hb T1.out)
        replace B := Lib.hid (below_mid B.out hb)
        replace BL := Lib.hid (below_mid BL.out hb)
        clear hb
        simp only [Act.put, List.setIfInBounds_toArray, List.set_cons_succ, List.set_cons_zero]
        clear g91
        clear g94
        simp only [List.drop]
        have uS0 := S0.out
        have uS1 := S1.out
        have uY0 := Y0.out
        have uY1 := Y1.out
        have uT0 := T0.out
        have uT1 := T1.out
        go_wp2
        clear uS0 uS1 uY0 uY1 uT0 uT1
        go_roundw
        case rel => exact ⟨k + 1, by omega, by go_num, by go_num, BL.out⟩
        case measure => simp [intOf]; omega
    · obtain rfl : k = 4 := by omega
      replace B := Lib.hid (below_mid B.out hb)
      clear hb
      go_wp2
      go_ret
      exact ⟨rfl, B.out⟩

end Go.Proofs.Ythkkhgfdppbphaa
