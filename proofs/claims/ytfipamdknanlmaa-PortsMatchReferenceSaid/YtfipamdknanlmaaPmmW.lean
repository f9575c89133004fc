/- PortsMatchReference, walked. Printed by wip/tools/gen23x.py. -/
import Derived.Test.YtfipamdknanlmaaPtold
import Derived.Test.YtfipamdknanlmaaOpn23
namespace Go.Proofs.Ytfipamdknanlmaa
open Go.RowKit Go.Sort
set_option linter.unusedVariables false

def RNewO (w0 : World) (D : Nat → Prop) (L : List Res) (seed : Int) (w : World) (e : Ending) (w' : World) : Prop := ∃ q, e = .returned (.pointer (some ⟨q, 0, none⟩)) ∧ Own w0 D w' (L ++ [resQ q ⟨seed, 0, [], []⟩]) ∧ w.heap.size ≤ w'.heap.size
theorem rnew_l {w0 w : World} {D : Nat → Prop} {L : List Res} (seed : Int) (h : Own w0 D w L) : Calls Try.prog 10 #[.int .i64 seed] w (RNewO w0 D L seed w) := rnew_o seed h

set_option maxRecDepth 100000 in
set_option maxHeartbeats 8000000 in
theorem match_walk (len : Nat) (g : Nat → Cl) (v : Value) (sd : Int) (sm : Bool) (od : Int) (w : World) (hv : RdC w v len g) (hsd : i64B sd) :
    Calls Try.prog 3 #[v, .int .i64 sd, .bool sm, .int .i64 od] w fun e w' => e = .returned (.bool true) ∧ Below w.heap.size w w' := by
  obtain ⟨a, cap, rfl, hcap, hlen, hok, hcl⟩ := hv
  have HOK := Lib.hid hok
  have HCL := Lib.hid hcl
  have HSD := Lib.hid hsd
  clear hok hcl hsd
  have HO := Lib.hid (show Own w none0 w [] from Own.nil w none0)
  go_enter Try.func3, Try.ntmps3
  go_wp2_with fail
  refine (examples_o HO.out).mono ?_
  rintro e x1 ⟨rfl, hO, -⟩
  replace HO := Lib.hid (show Own w none0 x1 [] from hO)
  clear hO
  go_wp2_with fail
  refine (new_o sd HO.out).mono ?_
  rintro e x2 ⟨p, rfl, hO, -⟩
  replace HO := Lib.hid (show Own w none0 x2 [resP p ⟨sd, 0, [], []⟩] from hO)
  clear hO
  go_wp2_with fail
  refine (rnew_l sd HO.out).mono ?_
  rintro e x3 ⟨q, rfl, hO, -⟩
  replace HO := Lib.hid (show Own w none0 x3 [resP p ⟨sd, 0, [], []⟩, resQ q ⟨sd, 0, [], []⟩] from hO)
  clear hO
  go_wp2
  go_loopw [12, 13, 14] (fun i _ _ wr => ∃ (kk : Nat) (st : PSt), kk ≤ len ∧ kk ≤ 100 ∧ i = .int .i64 kk ∧ Own w none0 wr [resP p st, resQ q st] ∧ PSI st ∧ Few st kk) (fun i _ _ _ => 100 - (intOf i).toNat)
  case atStart => exact ⟨0, _, Nat.zero_le _, by omega, rfl, HO.out, psi_new HSD.out, ⟨Nat.zero_le _, Nat.zero_le _, Int.le_refl _⟩⟩
  case round =>
    obtain ⟨kk, st, hk, hk100, rfl, hO, hI, hFw⟩ := hrel
    replace HO := Lib.hid hO
    have HI := Lib.hid hI
    have HF := Lib.hid hFw
    clear hO hI hFw
    by_cases hlt : kk < len ∧ kk < 100
    · obtain ⟨hlt1, hlt2⟩ := hlt
      obtain ⟨b, o, rfl, hcc⟩ := HCL.out (by omega)
      have hcc := hcc kk hlt1
      have ok := HOK.out kk hlt1
      have ycell : ∀ j u, j < 6 → (clA (g kk))[j]? = some u → wr.cell? ⟨b, o + kk * 6 + j, none⟩ = some u := fun j u hj hu => keep HO.out.below ((hcc j hj).trans hu)
      generalize g kk = c at *
      obtain ⟨kd, ud, po, so, th, ot⟩ := c
      have y0 : wr.cell? ⟨b, o + kk * 6, none⟩ = some (.int .u8 kd) := ycell 0 _ (by decide) rfl
      have y1 : wr.cell? ⟨b, o + kk * 6 + 1, none⟩ = some (.bool ud) := ycell 1 _ (by decide) rfl
      have y2 : wr.cell? ⟨b, o + kk * 6 + 2, none⟩ = some (.int .i64 po) := ycell 2 _ (by decide) rfl
      have y3 : wr.cell? ⟨b, o + kk * 6 + 3, none⟩ = some (.int .i64 so) := ycell 3 _ (by decide) rfl
      have y4 : wr.cell? ⟨b, o + kk * 6 + 4, none⟩ = some (.int .i64 th) := ycell 4 _ (by decide) rfl
      have y5 : wr.cell? ⟨b, o + kk * 6 + 5, none⟩ = some (.int .i64 ot) := ycell 5 _ (by decide) rfl
      have HOKC := Lib.hid ok
      obtain ⟨hk0, hk1⟩ := ok.kd
      simp only at hk0 hk1
      have HKD := Lib.hid (show 0 ≤ kd ∧ kd ≤ 255 from ⟨hk0, hk1⟩)
      obtain ⟨pv, hpv⟩ : ∃ n, protoF ⟨kd, ud, po, so, th, ot⟩ = n := ⟨_, rfl⟩
      have HPV := Lib.hid hpv
      clear ycell hcc ok hpv
      obtain ⟨x4, hx4⟩ : ∃ y, wr.alloc (.cells #[.int .u8 kd, .bool ud, .int .i64 po, .int .i64 so, .int .i64 th, .int .i64 ot] 29) = y := ⟨_, rfl⟩
      obtain ⟨bx, hbx⟩ : ∃ y, wr.heap.size = y := ⟨_, rfl⟩
      have hO := HO.out.alloc (.cells #[.int .u8 kd, .bool ud, .int .i64 po, .int .i64 so, .int .i64 th, .int .i64 ot] 29)
      rw [hx4, hbx] at hO
      replace HO := Lib.hid (show Own w none0 x4 [resP p st, resQ q st, blkR bx (.cells #[.int .u8 kd, .bool ud, .int .i64 po, .int .i64 so, .int .i64 th, .int .i64 ot] 29)] from hO)
      clear hO
      have z2_0 : x4.cell? ⟨bx, 0, none⟩ = some (.int .u8 kd) := HO.out.cell 2 rfl 0 rfl
      have z2_1 : x4.cell? ⟨bx, 1, none⟩ = some (.bool ud) := HO.out.cell 2 rfl 1 rfl
      have z2_2 : x4.cell? ⟨bx, 2, none⟩ = some (.int .i64 po) := HO.out.cell 2 rfl 2 rfl
      have z2_3 : x4.cell? ⟨bx, 3, none⟩ = some (.int .i64 so) := HO.out.cell 2 rfl 3 rfl
      have z2_4 : x4.cell? ⟨bx, 4, none⟩ = some (.int .i64 th) := HO.out.cell 2 rfl 4 rfl
      have z2_5 : x4.cell? ⟨bx, 5, none⟩ = some (.int .i64 ot) := HO.out.cell 2 rfl 5 rfl
      go_wp2_with fail
      refine (proto_o (c := ⟨kd, ud, po, so, th, ot⟩) HO.out).mono ?_
      rw [HPV.out]
      rintro e x5 ⟨rfl, hO, -⟩
      replace HO := Lib.hid (show Own w none0 x5 [resP p st, resQ q st, blkR bx (.cells #[.int .u8 kd, .bool ud, .int .i64 po, .int .i64 so, .int .i64 th, .int .i64 ot] 29)] from hO)
      clear hO
      clear hx4 hbx z2_0 z2_1 z2_2 z2_3 z2_4 z2_5
      clear y0 y1 y2 y3 y4 y5
      cases sm with
      | false =>
        by_cases h9 : (kk : Int) % 9 = 8
        · have e9 : ((kk : Int) % 9 == 8) = true := by simpa using h9
          clear h9
          obtain ⟨st2, hst2⟩ : ∃ s, toldS st ⟨kd, ud, po, so, th, ot⟩ od = s := ⟨_, rfl⟩
          have HS2 := Lib.hid hst2
          have HI2 := Lib.hid (show PSI st2 by rw [← hst2]; exact psi_told HI.out _ _)
          have HF2 := Lib.hid (show Few st2 (kk + 1) by rw [← hst2]; exact few_told HF.out _ _)
          clear hst2
          have HF3 := Lib.hid (show Few st 100000 from ⟨by have := HF.out.1; omega, by have := HF.out.2.1; omega, by have := HF.out.2.2; omega⟩)
          have HF4 := Lib.hid (show Few st2 100000 from ⟨by have := HF2.out.1; omega, by have := HF2.out.2.1; omega, by have := HF2.out.2.2; omega⟩)
          have z2_0 : x5.cell? ⟨bx, 0, none⟩ = some (.int .u8 kd) := HO.out.cell 2 rfl 0 rfl
          have z2_1 : x5.cell? ⟨bx, 1, none⟩ = some (.bool ud) := HO.out.cell 2 rfl 1 rfl
          have z2_2 : x5.cell? ⟨bx, 2, none⟩ = some (.int .i64 po) := HO.out.cell 2 rfl 2 rfl
          have z2_3 : x5.cell? ⟨bx, 3, none⟩ = some (.int .i64 so) := HO.out.cell 2 rfl 3 rfl
          have z2_4 : x5.cell? ⟨bx, 4, none⟩ = some (.int .i64 th) := HO.out.cell 2 rfl 4 rfl
          have z2_5 : x5.cell? ⟨bx, 5, none⟩ = some (.int .i64 ot) := HO.out.cell 2 rfl 5 rfl
          go_wp2_with fail
          refine (told_o (c := ⟨kd, ud, po, so, th, ot⟩) HO.out 0 1 rfl rfl (by decide) HS2.out HI.out HKD.out HF3.out).mono ?_
          rintro e x6 ⟨rfl, hO, -⟩
          replace HO := Lib.hid (show Own w none0 x6 [resP p st2, resQ q st2, blkR bx (.cells #[.int .u8 kd, .bool ud, .int .i64 po, .int .i64 so, .int .i64 th, .int .i64 ot] 29)] from hO)
          clear hO
          clear z2_0 z2_1 z2_2 z2_3 z2_4 z2_5
          obtain ⟨ln, hln⟩ : ∃ n : Int, (st2.B.length : Int) + st2.J.length = n := ⟨_, rfl⟩
          have HLN := Lib.hid hln
          clear hln
          go_wp2_with fail
          refine (len_o HO.out 0 rfl HLN.out (Nat.le_trans HF4.out.1 (by decide)) (Nat.le_trans HF4.out.2.1 (by decide))).mono ?_
          rintro e x7 ⟨rfl, hO, -⟩
          replace HO := Lib.hid (show Own w none0 x7 [resP p st2, resQ q st2, blkR bx (.cells #[.int .u8 kd, .bool ud, .int .i64 po, .int .i64 so, .int .i64 th, .int .i64 ot] 29)] from hO)
          clear hO
          go_wp2_with fail
          refine (rlen_o HO.out 1 rfl HLN.out (Nat.le_trans HF4.out.1 (by decide)) (Nat.le_trans HF4.out.2.1 (by decide))).mono ?_
          rintro e x8 ⟨rfl, hO, -⟩
          replace HO := Lib.hid (show Own w none0 x8 [resP p st2, resQ q st2, blkR bx (.cells #[.int .u8 kd, .bool ud, .int .i64 po, .int .i64 so, .int .i64 th, .int .i64 ot] 29)] from hO)
          clear hO
          have z2_0 : x8.cell? ⟨bx, 0, none⟩ = some (.int .u8 kd) := HO.out.cell 2 rfl 0 rfl
          have y2_0 : x8.frozen? ⟨bx, 0, none⟩ = false := HO.out.frz 2 rfl 0
          obtain ⟨x9, hx9⟩ : ∃ y, x8.setCell ⟨bx, 0, none⟩ (.int .u8 4) = y := ⟨_, rfl⟩
          have hO := HO.out.setCell 2 rfl 0 (.int .u8 4)
          rw [hx9] at hO
          replace HO := Lib.hid (show Own w none0 x9 [resP p st2, resQ q st2, blkR bx (.cells #[.int .u8 4, .bool ud, .int .i64 po, .int .i64 so, .int .i64 th, .int .i64 ot] 29)] from hO)
          clear hO
          go_wp2
          clear z2_0 y2_0 hx9
          generalize hΓ : ghO w none0 [[resP p st2, resQ q st2, blkR bx (.cells #[.int .u8 4, .bool ud, .int .i64 po, .int .i64 so, .int .i64 th, .int .i64 ot] 29)], [resP p st2, resQ q st2, blkR bx (.cells #[.int .u8 4, .bool ud, .int .i64 po, .int .i64 so, .int .i64 th, .int .i64 ot] 29)]] = Γ
          have HST := Lib.hid (show Γ.inv [] x9 by rw [← hΓ]; exact ghO_start HO.out)
          have g0 : ∀ z : Γ.Wd, z.w.cell? ⟨bx, 0, none⟩ = some (.int .u8 4) := by rw [← hΓ]; exact ghO_cell (c := #[.int .u8 4, .bool ud, .int .i64 po, .int .i64 so, .int .i64 th, .int .i64 ot]) (t := 29) 2 (by simp) 0 rfl
          have g1 : ∀ z : Γ.Wd, z.w.cell? ⟨bx, 1, none⟩ = some (.bool ud) := by rw [← hΓ]; exact ghO_cell (c := #[.int .u8 4, .bool ud, .int .i64 po, .int .i64 so, .int .i64 th, .int .i64 ot]) (t := 29) 2 (by simp) 1 rfl
          have g2 : ∀ z : Γ.Wd, z.w.cell? ⟨bx, 2, none⟩ = some (.int .i64 po) := by rw [← hΓ]; exact ghO_cell (c := #[.int .u8 4, .bool ud, .int .i64 po, .int .i64 so, .int .i64 th, .int .i64 ot]) (t := 29) 2 (by simp) 2 rfl
          have g3 : ∀ z : Γ.Wd, z.w.cell? ⟨bx, 3, none⟩ = some (.int .i64 so) := by rw [← hΓ]; exact ghO_cell (c := #[.int .u8 4, .bool ud, .int .i64 po, .int .i64 so, .int .i64 th, .int .i64 ot]) (t := 29) 2 (by simp) 3 rfl
          have g4 : ∀ z : Γ.Wd, z.w.cell? ⟨bx, 4, none⟩ = some (.int .i64 th) := by rw [← hΓ]; exact ghO_cell (c := #[.int .u8 4, .bool ud, .int .i64 po, .int .i64 so, .int .i64 th, .int .i64 ot]) (t := 29) 2 (by simp) 4 rfl
          have g5 : ∀ z : Γ.Wd, z.w.cell? ⟨bx, 5, none⟩ = some (.int .i64 ot) := by rw [← hΓ]; exact ghO_cell (c := #[.int .u8 4, .bool ud, .int .i64 po, .int .i64 so, .int .i64 th, .int .i64 ot]) (t := 29) 2 (by simp) 5 rfl
          have HΓ := Lib.hid hΓ
          clear hΓ
          have ne : Nonempty Γ.Wd := ⟨⟨[], x9, HST.out⟩⟩
          refine wp_region_H Γ 7 [5] (by kernel_rfl) (by kernel_rfl) (by kernel_rfl) (by kernel_rfl) HST.out ?_
          simp only [List.take, List.drop]
          iterate 4 (first | (refine wpH_want (by kernel_rfl) (by kernel_rfl) rfl rfl ?_; intro K hK; go_big_quiet_op; go_big_quiet_on) | (refine wpH_is (by kernel_rfl) (by kernel_rfl) rfl _ (fun _ w _ => rfl) ?_; simp only [Act.put, List.setIfInBounds_toArray, List.set_cons_succ, List.set_cons_zero]))
          refine wpH_call (by kernel_rfl) (by kernel_rfl) rfl 11 #[clV ⟨4, ud, po, so, th, ot⟩] (.int .i64 (protoF ⟨4, ud, po, so, th, ot⟩)) (fun w => by simp [go_sem]) (fun _ w _ => proto_any _ w) ?_
          simp only [Act.put, List.setIfInBounds_toArray, List.set_cons_succ, List.set_cons_zero]
          refine wpH_chain 0 (by kernel_rfl) (by kernel_rfl) rfl 13 #[.pointer (some ⟨p, 0, none⟩), .pointer (some ⟨q, 0, none⟩), clV ⟨4, ud, po, so, th, ot⟩, .int .i64 (protoF ⟨4, ud, po, so, th, ot⟩)] (.bool true) (fun w => by simp [go_sem]) (fun vs w hg hvs => by
            rw [← HΓ.out] at hg ⊢
            exact ghO_call 0 hg hvs rfl rfl fun ho => told_o (c := ⟨4, ud, po, so, th, ot⟩) ho 0 1 rfl rfl (by decide) (told_four rfl _) HI2.out ⟨by show (0 : Int) ≤ 4; decide, by show (4 : Int) ≤ 255; decide⟩ HF4.out) ?_
          simp only [Act.put, List.setIfInBounds_toArray, List.set_cons_succ, List.set_cons_zero]
          (first | (refine wpH_want (by kernel_rfl) (by kernel_rfl) rfl rfl ?_; intro K hK; go_big_quiet_op; go_big_quiet_on) | (refine wpH_is (by kernel_rfl) (by kernel_rfl) rfl _ (fun _ w _ => rfl) ?_; simp only [Act.put, List.setIfInBounds_toArray, List.set_cons_succ, List.set_cons_zero]))
          refine wpH_nil (by kernel_rfl) (by simp) ?_
          rintro ⟨vs, xz⟩ hg hgl
          rw [← HΓ.out] at hg
          replace HO := Lib.hid (ghO_at hg 1 hgl rfl)
          simp only [gexAll, List.drop]
          clear g0 g1 g2 g3 g4 g5 ne HST hg hgl HΓ
          go_wp2
          go_roundw
          case rel => exact ⟨kk + 1, st2, by omega, by omega, by go_num, HO.out.take 2, HI2.out, HF2.out⟩
          case measure => simp [intOf]; omega
        · have e9 : ((kk : Int) % 9 == 8) = false := by simpa using h9
          clear h9
          obtain ⟨st2, hst2⟩ : ∃ s, toldS st ⟨kd, ud, po, so, th, ot⟩ pv = s := ⟨_, rfl⟩
          have HS2 := Lib.hid hst2
          have HI2 := Lib.hid (show PSI st2 by rw [← hst2]; exact psi_told HI.out _ _)
          have HF2 := Lib.hid (show Few st2 (kk + 1) by rw [← hst2]; exact few_told HF.out _ _)
          clear hst2
          have HF3 := Lib.hid (show Few st 100000 from ⟨by have := HF.out.1; omega, by have := HF.out.2.1; omega, by have := HF.out.2.2; omega⟩)
          have HF4 := Lib.hid (show Few st2 100000 from ⟨by have := HF2.out.1; omega, by have := HF2.out.2.1; omega, by have := HF2.out.2.2; omega⟩)
          have z2_0 : x5.cell? ⟨bx, 0, none⟩ = some (.int .u8 kd) := HO.out.cell 2 rfl 0 rfl
          have z2_1 : x5.cell? ⟨bx, 1, none⟩ = some (.bool ud) := HO.out.cell 2 rfl 1 rfl
          have z2_2 : x5.cell? ⟨bx, 2, none⟩ = some (.int .i64 po) := HO.out.cell 2 rfl 2 rfl
          have z2_3 : x5.cell? ⟨bx, 3, none⟩ = some (.int .i64 so) := HO.out.cell 2 rfl 3 rfl
          have z2_4 : x5.cell? ⟨bx, 4, none⟩ = some (.int .i64 th) := HO.out.cell 2 rfl 4 rfl
          have z2_5 : x5.cell? ⟨bx, 5, none⟩ = some (.int .i64 ot) := HO.out.cell 2 rfl 5 rfl
          go_wp2_with fail
          refine (told_o (c := ⟨kd, ud, po, so, th, ot⟩) HO.out 0 1 rfl rfl (by decide) HS2.out HI.out HKD.out HF3.out).mono ?_
          rintro e x6 ⟨rfl, hO, -⟩
          replace HO := Lib.hid (show Own w none0 x6 [resP p st2, resQ q st2, blkR bx (.cells #[.int .u8 kd, .bool ud, .int .i64 po, .int .i64 so, .int .i64 th, .int .i64 ot] 29)] from hO)
          clear hO
          clear z2_0 z2_1 z2_2 z2_3 z2_4 z2_5
          obtain ⟨ln, hln⟩ : ∃ n : Int, (st2.B.length : Int) + st2.J.length = n := ⟨_, rfl⟩
          have HLN := Lib.hid hln
          clear hln
          go_wp2_with fail
          refine (len_o HO.out 0 rfl HLN.out (Nat.le_trans HF4.out.1 (by decide)) (Nat.le_trans HF4.out.2.1 (by decide))).mono ?_
          rintro e x7 ⟨rfl, hO, -⟩
          replace HO := Lib.hid (show Own w none0 x7 [resP p st2, resQ q st2, blkR bx (.cells #[.int .u8 kd, .bool ud, .int .i64 po, .int .i64 so, .int .i64 th, .int .i64 ot] 29)] from hO)
          clear hO
          go_wp2_with fail
          refine (rlen_o HO.out 1 rfl HLN.out (Nat.le_trans HF4.out.1 (by decide)) (Nat.le_trans HF4.out.2.1 (by decide))).mono ?_
          rintro e x8 ⟨rfl, hO, -⟩
          replace HO := Lib.hid (show Own w none0 x8 [resP p st2, resQ q st2, blkR bx (.cells #[.int .u8 kd, .bool ud, .int .i64 po, .int .i64 so, .int .i64 th, .int .i64 ot] 29)] from hO)
          clear hO
          have z2_0 : x8.cell? ⟨bx, 0, none⟩ = some (.int .u8 kd) := HO.out.cell 2 rfl 0 rfl
          have y2_0 : x8.frozen? ⟨bx, 0, none⟩ = false := HO.out.frz 2 rfl 0
          obtain ⟨x9, hx9⟩ : ∃ y, x8.setCell ⟨bx, 0, none⟩ (.int .u8 4) = y := ⟨_, rfl⟩
          have hO := HO.out.setCell 2 rfl 0 (.int .u8 4)
          rw [hx9] at hO
          replace HO := Lib.hid (show Own w none0 x9 [resP p st2, resQ q st2, blkR bx (.cells #[.int .u8 4, .bool ud, .int .i64 po, .int .i64 so, .int .i64 th, .int .i64 ot] 29)] from hO)
          clear hO
          go_wp2
          clear z2_0 y2_0 hx9
          generalize hΓ : ghO w none0 [[resP p st2, resQ q st2, blkR bx (.cells #[.int .u8 4, .bool ud, .int .i64 po, .int .i64 so, .int .i64 th, .int .i64 ot] 29)], [resP p st2, resQ q st2, blkR bx (.cells #[.int .u8 4, .bool ud, .int .i64 po, .int .i64 so, .int .i64 th, .int .i64 ot] 29)]] = Γ
          have HST := Lib.hid (show Γ.inv [] x9 by rw [← hΓ]; exact ghO_start HO.out)
          have g0 : ∀ z : Γ.Wd, z.w.cell? ⟨bx, 0, none⟩ = some (.int .u8 4) := by rw [← hΓ]; exact ghO_cell (c := #[.int .u8 4, .bool ud, .int .i64 po, .int .i64 so, .int .i64 th, .int .i64 ot]) (t := 29) 2 (by simp) 0 rfl
          have g1 : ∀ z : Γ.Wd, z.w.cell? ⟨bx, 1, none⟩ = some (.bool ud) := by rw [← hΓ]; exact ghO_cell (c := #[.int .u8 4, .bool ud, .int .i64 po, .int .i64 so, .int .i64 th, .int .i64 ot]) (t := 29) 2 (by simp) 1 rfl
          have g2 : ∀ z : Γ.Wd, z.w.cell? ⟨bx, 2, none⟩ = some (.int .i64 po) := by rw [← hΓ]; exact ghO_cell (c := #[.int .u8 4, .bool ud, .int .i64 po, .int .i64 so, .int .i64 th, .int .i64 ot]) (t := 29) 2 (by simp) 2 rfl
          have g3 : ∀ z : Γ.Wd, z.w.cell? ⟨bx, 3, none⟩ = some (.int .i64 so) := by rw [← hΓ]; exact ghO_cell (c := #[.int .u8 4, .bool ud, .int .i64 po, .int .i64 so, .int .i64 th, .int .i64 ot]) (t := 29) 2 (by simp) 3 rfl
          have g4 : ∀ z : Γ.Wd, z.w.cell? ⟨bx, 4, none⟩ = some (.int .i64 th) := by rw [← hΓ]; exact ghO_cell (c := #[.int .u8 4, .bool ud, .int .i64 po, .int .i64 so, .int .i64 th, .int .i64 ot]) (t := 29) 2 (by simp) 4 rfl
          have g5 : ∀ z : Γ.Wd, z.w.cell? ⟨bx, 5, none⟩ = some (.int .i64 ot) := by rw [← hΓ]; exact ghO_cell (c := #[.int .u8 4, .bool ud, .int .i64 po, .int .i64 so, .int .i64 th, .int .i64 ot]) (t := 29) 2 (by simp) 5 rfl
          have HΓ := Lib.hid hΓ
          clear hΓ
          have ne : Nonempty Γ.Wd := ⟨⟨[], x9, HST.out⟩⟩
          refine wp_region_H Γ 7 [5] (by kernel_rfl) (by kernel_rfl) (by kernel_rfl) (by kernel_rfl) HST.out ?_
          simp only [List.take, List.drop]
          iterate 4 (first | (refine wpH_want (by kernel_rfl) (by kernel_rfl) rfl rfl ?_; intro K hK; go_big_quiet_op; go_big_quiet_on) | (refine wpH_is (by kernel_rfl) (by kernel_rfl) rfl _ (fun _ w _ => rfl) ?_; simp only [Act.put, List.setIfInBounds_toArray, List.set_cons_succ, List.set_cons_zero]))
          refine wpH_call (by kernel_rfl) (by kernel_rfl) rfl 11 #[clV ⟨4, ud, po, so, th, ot⟩] (.int .i64 (protoF ⟨4, ud, po, so, th, ot⟩)) (fun w => by simp [go_sem]) (fun _ w _ => proto_any _ w) ?_
          simp only [Act.put, List.setIfInBounds_toArray, List.set_cons_succ, List.set_cons_zero]
          refine wpH_chain 0 (by kernel_rfl) (by kernel_rfl) rfl 13 #[.pointer (some ⟨p, 0, none⟩), .pointer (some ⟨q, 0, none⟩), clV ⟨4, ud, po, so, th, ot⟩, .int .i64 (protoF ⟨4, ud, po, so, th, ot⟩)] (.bool true) (fun w => by simp [go_sem]) (fun vs w hg hvs => by
            rw [← HΓ.out] at hg ⊢
            exact ghO_call 0 hg hvs rfl rfl fun ho => told_o (c := ⟨4, ud, po, so, th, ot⟩) ho 0 1 rfl rfl (by decide) (told_four rfl _) HI2.out ⟨by show (0 : Int) ≤ 4; decide, by show (4 : Int) ≤ 255; decide⟩ HF4.out) ?_
          simp only [Act.put, List.setIfInBounds_toArray, List.set_cons_succ, List.set_cons_zero]
          (first | (refine wpH_want (by kernel_rfl) (by kernel_rfl) rfl rfl ?_; intro K hK; go_big_quiet_op; go_big_quiet_on) | (refine wpH_is (by kernel_rfl) (by kernel_rfl) rfl _ (fun _ w _ => rfl) ?_; simp only [Act.put, List.setIfInBounds_toArray, List.set_cons_succ, List.set_cons_zero]))
          refine wpH_nil (by kernel_rfl) (by simp) ?_
          rintro ⟨vs, xz⟩ hg hgl
          rw [← HΓ.out] at hg
          replace HO := Lib.hid (ghO_at hg 1 hgl rfl)
          simp only [gexAll, List.drop]
          clear g0 g1 g2 g3 g4 g5 ne HST hg hgl HΓ
          go_wp2
          go_roundw
          case rel => exact ⟨kk + 1, st2, by omega, by omega, by go_num, HO.out.take 2, HI2.out, HF2.out⟩
          case measure => simp [intOf]; omega
      | true =>
        have HNC := Lib.hid (show nearC ⟨kd, ud, po, so, th, ot⟩ = ⟨kd, ud, tabP (pk po 8), pk so 6, 100 + pk th 3, 900 + pk ot 3⟩ from rfl)
        generalize pk so 6 = s' at *
        generalize 100 + pk th 3 = th' at *
        generalize 900 + pk ot 3 = ot' at *
        generalize tabP (pk po 8) = po' at *
        have z2_0 : x5.cell? ⟨bx, 0, none⟩ = some (.int .u8 kd) := HO.out.cell 2 rfl 0 rfl
        have z2_1 : x5.cell? ⟨bx, 1, none⟩ = some (.bool ud) := HO.out.cell 2 rfl 1 rfl
        have z2_2 : x5.cell? ⟨bx, 2, none⟩ = some (.int .i64 po) := HO.out.cell 2 rfl 2 rfl
        have z2_3 : x5.cell? ⟨bx, 3, none⟩ = some (.int .i64 so) := HO.out.cell 2 rfl 3 rfl
        have z2_4 : x5.cell? ⟨bx, 4, none⟩ = some (.int .i64 th) := HO.out.cell 2 rfl 4 rfl
        have z2_5 : x5.cell? ⟨bx, 5, none⟩ = some (.int .i64 ot) := HO.out.cell 2 rfl 5 rfl
        go_wp2_with fail
        refine (near_o HO.out HOKC.out).mono ?_
        rw [HNC.out]
        rintro e x6 ⟨rfl, hO, -⟩
        replace HO := Lib.hid (show Own w none0 x6 [resP p st, resQ q st, blkR bx (.cells #[.int .u8 kd, .bool ud, .int .i64 po, .int .i64 so, .int .i64 th, .int .i64 ot] 29)] from hO)
        clear hO
        clear z2_0 z2_1 z2_2 z2_3 z2_4 z2_5
        have z2_0 : x6.cell? ⟨bx, 0, none⟩ = some (.int .u8 kd) := HO.out.cell 2 rfl 0 rfl
        have z2_1 : x6.cell? ⟨bx, 1, none⟩ = some (.bool ud) := HO.out.cell 2 rfl 1 rfl
        have z2_2 : x6.cell? ⟨bx, 2, none⟩ = some (.int .i64 po) := HO.out.cell 2 rfl 2 rfl
        have z2_3 : x6.cell? ⟨bx, 3, none⟩ = some (.int .i64 so) := HO.out.cell 2 rfl 3 rfl
        have z2_4 : x6.cell? ⟨bx, 4, none⟩ = some (.int .i64 th) := HO.out.cell 2 rfl 4 rfl
        have z2_5 : x6.cell? ⟨bx, 5, none⟩ = some (.int .i64 ot) := HO.out.cell 2 rfl 5 rfl
        have y2_0 : x6.frozen? ⟨bx, 0, none⟩ = false := HO.out.frz 2 rfl 0
        have y2_1 : x6.frozen? ⟨bx, 1, none⟩ = false := HO.out.frz 2 rfl 1
        have y2_2 : x6.frozen? ⟨bx, 2, none⟩ = false := HO.out.frz 2 rfl 2
        have y2_3 : x6.frozen? ⟨bx, 3, none⟩ = false := HO.out.frz 2 rfl 3
        have y2_4 : x6.frozen? ⟨bx, 4, none⟩ = false := HO.out.frz 2 rfl 4
        have y2_5 : x6.frozen? ⟨bx, 5, none⟩ = false := HO.out.frz 2 rfl 5
        obtain ⟨x7, hx7⟩ : ∃ y, x6.setCell ⟨bx, 0, none⟩ (.int .u8 kd) = y := ⟨_, rfl⟩
        have hO := HO.out.setCell 2 rfl 0 (.int .u8 kd)
        rw [hx7] at hO
        replace HO := Lib.hid (show Own w none0 x7 [resP p st, resQ q st, blkR bx (.cells #[.int .u8 kd, .bool ud, .int .i64 po, .int .i64 so, .int .i64 th, .int .i64 ot] 29)] from hO)
        clear hO
        have k0_1 : x7.cell? ⟨bx, 1, none⟩ = some (.bool ud) := HO.out.cell 2 rfl 1 rfl
        have l0_1 : x7.frozen? ⟨bx, 1, none⟩ = false := HO.out.frz 2 rfl 1
        have k0_2 : x7.cell? ⟨bx, 2, none⟩ = some (.int .i64 po) := HO.out.cell 2 rfl 2 rfl
        have l0_2 : x7.frozen? ⟨bx, 2, none⟩ = false := HO.out.frz 2 rfl 2
        have k0_3 : x7.cell? ⟨bx, 3, none⟩ = some (.int .i64 so) := HO.out.cell 2 rfl 3 rfl
        have l0_3 : x7.frozen? ⟨bx, 3, none⟩ = false := HO.out.frz 2 rfl 3
        have k0_4 : x7.cell? ⟨bx, 4, none⟩ = some (.int .i64 th) := HO.out.cell 2 rfl 4 rfl
        have l0_4 : x7.frozen? ⟨bx, 4, none⟩ = false := HO.out.frz 2 rfl 4
        have k0_5 : x7.cell? ⟨bx, 5, none⟩ = some (.int .i64 ot) := HO.out.cell 2 rfl 5 rfl
        have l0_5 : x7.frozen? ⟨bx, 5, none⟩ = false := HO.out.frz 2 rfl 5
        obtain ⟨x8, hx8⟩ : ∃ y, x7.setCell ⟨bx, 1, none⟩ (.bool ud) = y := ⟨_, rfl⟩
        have hO := HO.out.setCell 2 rfl 1 (.bool ud)
        rw [hx8] at hO
        replace HO := Lib.hid (show Own w none0 x8 [resP p st, resQ q st, blkR bx (.cells #[.int .u8 kd, .bool ud, .int .i64 po, .int .i64 so, .int .i64 th, .int .i64 ot] 29)] from hO)
        clear hO
        have k1_2 : x8.cell? ⟨bx, 2, none⟩ = some (.int .i64 po) := HO.out.cell 2 rfl 2 rfl
        have l1_2 : x8.frozen? ⟨bx, 2, none⟩ = false := HO.out.frz 2 rfl 2
        have k1_3 : x8.cell? ⟨bx, 3, none⟩ = some (.int .i64 so) := HO.out.cell 2 rfl 3 rfl
        have l1_3 : x8.frozen? ⟨bx, 3, none⟩ = false := HO.out.frz 2 rfl 3
        have k1_4 : x8.cell? ⟨bx, 4, none⟩ = some (.int .i64 th) := HO.out.cell 2 rfl 4 rfl
        have l1_4 : x8.frozen? ⟨bx, 4, none⟩ = false := HO.out.frz 2 rfl 4
        have k1_5 : x8.cell? ⟨bx, 5, none⟩ = some (.int .i64 ot) := HO.out.cell 2 rfl 5 rfl
        have l1_5 : x8.frozen? ⟨bx, 5, none⟩ = false := HO.out.frz 2 rfl 5
        obtain ⟨x9, hx9⟩ : ∃ y, x8.setCell ⟨bx, 2, none⟩ (.int .i64 po') = y := ⟨_, rfl⟩
        have hO := HO.out.setCell 2 rfl 2 (.int .i64 po')
        rw [hx9] at hO
        replace HO := Lib.hid (show Own w none0 x9 [resP p st, resQ q st, blkR bx (.cells #[.int .u8 kd, .bool ud, .int .i64 po', .int .i64 so, .int .i64 th, .int .i64 ot] 29)] from hO)
        clear hO
        have k2_3 : x9.cell? ⟨bx, 3, none⟩ = some (.int .i64 so) := HO.out.cell 2 rfl 3 rfl
        have l2_3 : x9.frozen? ⟨bx, 3, none⟩ = false := HO.out.frz 2 rfl 3
        have k2_4 : x9.cell? ⟨bx, 4, none⟩ = some (.int .i64 th) := HO.out.cell 2 rfl 4 rfl
        have l2_4 : x9.frozen? ⟨bx, 4, none⟩ = false := HO.out.frz 2 rfl 4
        have k2_5 : x9.cell? ⟨bx, 5, none⟩ = some (.int .i64 ot) := HO.out.cell 2 rfl 5 rfl
        have l2_5 : x9.frozen? ⟨bx, 5, none⟩ = false := HO.out.frz 2 rfl 5
        obtain ⟨x10, hx10⟩ : ∃ y, x9.setCell ⟨bx, 3, none⟩ (.int .i64 s') = y := ⟨_, rfl⟩
        have hO := HO.out.setCell 2 rfl 3 (.int .i64 s')
        rw [hx10] at hO
        replace HO := Lib.hid (show Own w none0 x10 [resP p st, resQ q st, blkR bx (.cells #[.int .u8 kd, .bool ud, .int .i64 po', .int .i64 s', .int .i64 th, .int .i64 ot] 29)] from hO)
        clear hO
        have k3_4 : x10.cell? ⟨bx, 4, none⟩ = some (.int .i64 th) := HO.out.cell 2 rfl 4 rfl
        have l3_4 : x10.frozen? ⟨bx, 4, none⟩ = false := HO.out.frz 2 rfl 4
        have k3_5 : x10.cell? ⟨bx, 5, none⟩ = some (.int .i64 ot) := HO.out.cell 2 rfl 5 rfl
        have l3_5 : x10.frozen? ⟨bx, 5, none⟩ = false := HO.out.frz 2 rfl 5
        obtain ⟨x11, hx11⟩ : ∃ y, x10.setCell ⟨bx, 4, none⟩ (.int .i64 th') = y := ⟨_, rfl⟩
        have hO := HO.out.setCell 2 rfl 4 (.int .i64 th')
        rw [hx11] at hO
        replace HO := Lib.hid (show Own w none0 x11 [resP p st, resQ q st, blkR bx (.cells #[.int .u8 kd, .bool ud, .int .i64 po', .int .i64 s', .int .i64 th', .int .i64 ot] 29)] from hO)
        clear hO
        have k4_5 : x11.cell? ⟨bx, 5, none⟩ = some (.int .i64 ot) := HO.out.cell 2 rfl 5 rfl
        have l4_5 : x11.frozen? ⟨bx, 5, none⟩ = false := HO.out.frz 2 rfl 5
        obtain ⟨x12, hx12⟩ : ∃ y, x11.setCell ⟨bx, 5, none⟩ (.int .i64 ot') = y := ⟨_, rfl⟩
        have hO := HO.out.setCell 2 rfl 5 (.int .i64 ot')
        rw [hx12] at hO
        replace HO := Lib.hid (show Own w none0 x12 [resP p st, resQ q st, blkR bx (.cells #[.int .u8 kd, .bool ud, .int .i64 po', .int .i64 s', .int .i64 th', .int .i64 ot'] 29)] from hO)
        clear hO
        by_cases h9 : (kk : Int) % 9 = 8
        · have e9 : ((kk : Int) % 9 == 8) = true := by simpa using h9
          clear h9
          obtain ⟨st2, hst2⟩ : ∃ s, toldS st ⟨kd, ud, po', s', th', ot'⟩ od = s := ⟨_, rfl⟩
          have HS2 := Lib.hid hst2
          have HI2 := Lib.hid (show PSI st2 by rw [← hst2]; exact psi_told HI.out _ _)
          have HF2 := Lib.hid (show Few st2 (kk + 1) by rw [← hst2]; exact few_told HF.out _ _)
          clear hst2
          have HF3 := Lib.hid (show Few st 100000 from ⟨by have := HF.out.1; omega, by have := HF.out.2.1; omega, by have := HF.out.2.2; omega⟩)
          have HF4 := Lib.hid (show Few st2 100000 from ⟨by have := HF2.out.1; omega, by have := HF2.out.2.1; omega, by have := HF2.out.2.2; omega⟩)
          have z2_0t : x12.cell? ⟨bx, 0, none⟩ = some (.int .u8 kd) := HO.out.cell 2 rfl 0 rfl
          have z2_1t : x12.cell? ⟨bx, 1, none⟩ = some (.bool ud) := HO.out.cell 2 rfl 1 rfl
          have z2_2t : x12.cell? ⟨bx, 2, none⟩ = some (.int .i64 po') := HO.out.cell 2 rfl 2 rfl
          have z2_3t : x12.cell? ⟨bx, 3, none⟩ = some (.int .i64 s') := HO.out.cell 2 rfl 3 rfl
          have z2_4t : x12.cell? ⟨bx, 4, none⟩ = some (.int .i64 th') := HO.out.cell 2 rfl 4 rfl
          have z2_5t : x12.cell? ⟨bx, 5, none⟩ = some (.int .i64 ot') := HO.out.cell 2 rfl 5 rfl
          go_wp2_with fail
          refine (told_o (c := ⟨kd, ud, po', s', th', ot'⟩) HO.out 0 1 rfl rfl (by decide) HS2.out HI.out HKD.out HF3.out).mono ?_
          rintro e x13 ⟨rfl, hO, -⟩
          replace HO := Lib.hid (show Own w none0 x13 [resP p st2, resQ q st2, blkR bx (.cells #[.int .u8 kd, .bool ud, .int .i64 po', .int .i64 s', .int .i64 th', .int .i64 ot'] 29)] from hO)
          clear hO
          clear z2_0 z2_1 z2_2 z2_3 z2_4 z2_5 y2_0 y2_1 y2_2 y2_3 y2_4 y2_5 hx7 k0_1 l0_1 k0_2 l0_2 k0_3 l0_3 k0_4 l0_4 k0_5 l0_5 hx8 k1_2 l1_2 k1_3 l1_3 k1_4 l1_4 k1_5 l1_5 hx9 k2_3 l2_3 k2_4 l2_4 k2_5 l2_5 hx10 k3_4 l3_4 k3_5 l3_5 hx11 k4_5 l4_5 hx12 z2_0t z2_1t z2_2t z2_3t z2_4t z2_5t
          obtain ⟨ln, hln⟩ : ∃ n : Int, (st2.B.length : Int) + st2.J.length = n := ⟨_, rfl⟩
          have HLN := Lib.hid hln
          clear hln
          go_wp2_with fail
          refine (len_o HO.out 0 rfl HLN.out (Nat.le_trans HF4.out.1 (by decide)) (Nat.le_trans HF4.out.2.1 (by decide))).mono ?_
          rintro e x14 ⟨rfl, hO, -⟩
          replace HO := Lib.hid (show Own w none0 x14 [resP p st2, resQ q st2, blkR bx (.cells #[.int .u8 kd, .bool ud, .int .i64 po', .int .i64 s', .int .i64 th', .int .i64 ot'] 29)] from hO)
          clear hO
          go_wp2_with fail
          refine (rlen_o HO.out 1 rfl HLN.out (Nat.le_trans HF4.out.1 (by decide)) (Nat.le_trans HF4.out.2.1 (by decide))).mono ?_
          rintro e x15 ⟨rfl, hO, -⟩
          replace HO := Lib.hid (show Own w none0 x15 [resP p st2, resQ q st2, blkR bx (.cells #[.int .u8 kd, .bool ud, .int .i64 po', .int .i64 s', .int .i64 th', .int .i64 ot'] 29)] from hO)
          clear hO
          have z2_0 : x15.cell? ⟨bx, 0, none⟩ = some (.int .u8 kd) := HO.out.cell 2 rfl 0 rfl
          have y2_0 : x15.frozen? ⟨bx, 0, none⟩ = false := HO.out.frz 2 rfl 0
          obtain ⟨x16, hx16⟩ : ∃ y, x15.setCell ⟨bx, 0, none⟩ (.int .u8 4) = y := ⟨_, rfl⟩
          have hO := HO.out.setCell 2 rfl 0 (.int .u8 4)
          rw [hx16] at hO
          replace HO := Lib.hid (show Own w none0 x16 [resP p st2, resQ q st2, blkR bx (.cells #[.int .u8 4, .bool ud, .int .i64 po', .int .i64 s', .int .i64 th', .int .i64 ot'] 29)] from hO)
          clear hO
          go_wp2
          clear z2_0 y2_0 hx16
          generalize hΓ : ghO w none0 [[resP p st2, resQ q st2, blkR bx (.cells #[.int .u8 4, .bool ud, .int .i64 po', .int .i64 s', .int .i64 th', .int .i64 ot'] 29)], [resP p st2, resQ q st2, blkR bx (.cells #[.int .u8 4, .bool ud, .int .i64 po', .int .i64 s', .int .i64 th', .int .i64 ot'] 29)]] = Γ
          have HST := Lib.hid (show Γ.inv [] x16 by rw [← hΓ]; exact ghO_start HO.out)
          have g0 : ∀ z : Γ.Wd, z.w.cell? ⟨bx, 0, none⟩ = some (.int .u8 4) := by rw [← hΓ]; exact ghO_cell (c := #[.int .u8 4, .bool ud, .int .i64 po', .int .i64 s', .int .i64 th', .int .i64 ot']) (t := 29) 2 (by simp) 0 rfl
          have g1 : ∀ z : Γ.Wd, z.w.cell? ⟨bx, 1, none⟩ = some (.bool ud) := by rw [← hΓ]; exact ghO_cell (c := #[.int .u8 4, .bool ud, .int .i64 po', .int .i64 s', .int .i64 th', .int .i64 ot']) (t := 29) 2 (by simp) 1 rfl
          have g2 : ∀ z : Γ.Wd, z.w.cell? ⟨bx, 2, none⟩ = some (.int .i64 po') := by rw [← hΓ]; exact ghO_cell (c := #[.int .u8 4, .bool ud, .int .i64 po', .int .i64 s', .int .i64 th', .int .i64 ot']) (t := 29) 2 (by simp) 2 rfl
          have g3 : ∀ z : Γ.Wd, z.w.cell? ⟨bx, 3, none⟩ = some (.int .i64 s') := by rw [← hΓ]; exact ghO_cell (c := #[.int .u8 4, .bool ud, .int .i64 po', .int .i64 s', .int .i64 th', .int .i64 ot']) (t := 29) 2 (by simp) 3 rfl
          have g4 : ∀ z : Γ.Wd, z.w.cell? ⟨bx, 4, none⟩ = some (.int .i64 th') := by rw [← hΓ]; exact ghO_cell (c := #[.int .u8 4, .bool ud, .int .i64 po', .int .i64 s', .int .i64 th', .int .i64 ot']) (t := 29) 2 (by simp) 4 rfl
          have g5 : ∀ z : Γ.Wd, z.w.cell? ⟨bx, 5, none⟩ = some (.int .i64 ot') := by rw [← hΓ]; exact ghO_cell (c := #[.int .u8 4, .bool ud, .int .i64 po', .int .i64 s', .int .i64 th', .int .i64 ot']) (t := 29) 2 (by simp) 5 rfl
          have HΓ := Lib.hid hΓ
          clear hΓ
          have ne : Nonempty Γ.Wd := ⟨⟨[], x16, HST.out⟩⟩
          refine wp_region_H Γ 7 [5] (by kernel_rfl) (by kernel_rfl) (by kernel_rfl) (by kernel_rfl) HST.out ?_
          simp only [List.take, List.drop]
          iterate 4 (first | (refine wpH_want (by kernel_rfl) (by kernel_rfl) rfl rfl ?_; intro K hK; go_big_quiet_op; go_big_quiet_on) | (refine wpH_is (by kernel_rfl) (by kernel_rfl) rfl _ (fun _ w _ => rfl) ?_; simp only [Act.put, List.setIfInBounds_toArray, List.set_cons_succ, List.set_cons_zero]))
          refine wpH_call (by kernel_rfl) (by kernel_rfl) rfl 11 #[clV ⟨4, ud, po', s', th', ot'⟩] (.int .i64 (protoF ⟨4, ud, po', s', th', ot'⟩)) (fun w => by simp [go_sem]) (fun _ w _ => proto_any _ w) ?_
          simp only [Act.put, List.setIfInBounds_toArray, List.set_cons_succ, List.set_cons_zero]
          refine wpH_chain 0 (by kernel_rfl) (by kernel_rfl) rfl 13 #[.pointer (some ⟨p, 0, none⟩), .pointer (some ⟨q, 0, none⟩), clV ⟨4, ud, po', s', th', ot'⟩, .int .i64 (protoF ⟨4, ud, po', s', th', ot'⟩)] (.bool true) (fun w => by simp [go_sem]) (fun vs w hg hvs => by
            rw [← HΓ.out] at hg ⊢
            exact ghO_call 0 hg hvs rfl rfl fun ho => told_o (c := ⟨4, ud, po', s', th', ot'⟩) ho 0 1 rfl rfl (by decide) (told_four rfl _) HI2.out ⟨by show (0 : Int) ≤ 4; decide, by show (4 : Int) ≤ 255; decide⟩ HF4.out) ?_
          simp only [Act.put, List.setIfInBounds_toArray, List.set_cons_succ, List.set_cons_zero]
          (first | (refine wpH_want (by kernel_rfl) (by kernel_rfl) rfl rfl ?_; intro K hK; go_big_quiet_op; go_big_quiet_on) | (refine wpH_is (by kernel_rfl) (by kernel_rfl) rfl _ (fun _ w _ => rfl) ?_; simp only [Act.put, List.setIfInBounds_toArray, List.set_cons_succ, List.set_cons_zero]))
          refine wpH_nil (by kernel_rfl) (by simp) ?_
          rintro ⟨vs, xz⟩ hg hgl
          rw [← HΓ.out] at hg
          replace HO := Lib.hid (ghO_at hg 1 hgl rfl)
          simp only [gexAll, List.drop]
          clear g0 g1 g2 g3 g4 g5 ne HST hg hgl HΓ
          go_wp2
          go_roundw
          case rel => exact ⟨kk + 1, st2, by omega, by omega, by go_num, HO.out.take 2, HI2.out, HF2.out⟩
          case measure => simp [intOf]; omega
        · have e9 : ((kk : Int) % 9 == 8) = false := by simpa using h9
          clear h9
          obtain ⟨st2, hst2⟩ : ∃ s, toldS st ⟨kd, ud, po', s', th', ot'⟩ pv = s := ⟨_, rfl⟩
          have HS2 := Lib.hid hst2
          have HI2 := Lib.hid (show PSI st2 by rw [← hst2]; exact psi_told HI.out _ _)
          have HF2 := Lib.hid (show Few st2 (kk + 1) by rw [← hst2]; exact few_told HF.out _ _)
          clear hst2
          have HF3 := Lib.hid (show Few st 100000 from ⟨by have := HF.out.1; omega, by have := HF.out.2.1; omega, by have := HF.out.2.2; omega⟩)
          have HF4 := Lib.hid (show Few st2 100000 from ⟨by have := HF2.out.1; omega, by have := HF2.out.2.1; omega, by have := HF2.out.2.2; omega⟩)
          have z2_0t : x12.cell? ⟨bx, 0, none⟩ = some (.int .u8 kd) := HO.out.cell 2 rfl 0 rfl
          have z2_1t : x12.cell? ⟨bx, 1, none⟩ = some (.bool ud) := HO.out.cell 2 rfl 1 rfl
          have z2_2t : x12.cell? ⟨bx, 2, none⟩ = some (.int .i64 po') := HO.out.cell 2 rfl 2 rfl
          have z2_3t : x12.cell? ⟨bx, 3, none⟩ = some (.int .i64 s') := HO.out.cell 2 rfl 3 rfl
          have z2_4t : x12.cell? ⟨bx, 4, none⟩ = some (.int .i64 th') := HO.out.cell 2 rfl 4 rfl
          have z2_5t : x12.cell? ⟨bx, 5, none⟩ = some (.int .i64 ot') := HO.out.cell 2 rfl 5 rfl
          go_wp2_with fail
          refine (told_o (c := ⟨kd, ud, po', s', th', ot'⟩) HO.out 0 1 rfl rfl (by decide) HS2.out HI.out HKD.out HF3.out).mono ?_
          rintro e x13 ⟨rfl, hO, -⟩
          replace HO := Lib.hid (show Own w none0 x13 [resP p st2, resQ q st2, blkR bx (.cells #[.int .u8 kd, .bool ud, .int .i64 po', .int .i64 s', .int .i64 th', .int .i64 ot'] 29)] from hO)
          clear hO
          clear z2_0 z2_1 z2_2 z2_3 z2_4 z2_5 y2_0 y2_1 y2_2 y2_3 y2_4 y2_5 hx7 k0_1 l0_1 k0_2 l0_2 k0_3 l0_3 k0_4 l0_4 k0_5 l0_5 hx8 k1_2 l1_2 k1_3 l1_3 k1_4 l1_4 k1_5 l1_5 hx9 k2_3 l2_3 k2_4 l2_4 k2_5 l2_5 hx10 k3_4 l3_4 k3_5 l3_5 hx11 k4_5 l4_5 hx12 z2_0t z2_1t z2_2t z2_3t z2_4t z2_5t
          obtain ⟨ln, hln⟩ : ∃ n : Int, (st2.B.length : Int) + st2.J.length = n := ⟨_, rfl⟩
          have HLN := Lib.hid hln
          clear hln
          go_wp2_with fail
          refine (len_o HO.out 0 rfl HLN.out (Nat.le_trans HF4.out.1 (by decide)) (Nat.le_trans HF4.out.2.1 (by decide))).mono ?_
          rintro e x14 ⟨rfl, hO, -⟩
          replace HO := Lib.hid (show Own w none0 x14 [resP p st2, resQ q st2, blkR bx (.cells #[.int .u8 kd, .bool ud, .int .i64 po', .int .i64 s', .int .i64 th', .int .i64 ot'] 29)] from hO)
          clear hO
          go_wp2_with fail
          refine (rlen_o HO.out 1 rfl HLN.out (Nat.le_trans HF4.out.1 (by decide)) (Nat.le_trans HF4.out.2.1 (by decide))).mono ?_
          rintro e x15 ⟨rfl, hO, -⟩
          replace HO := Lib.hid (show Own w none0 x15 [resP p st2, resQ q st2, blkR bx (.cells #[.int .u8 kd, .bool ud, .int .i64 po', .int .i64 s', .int .i64 th', .int .i64 ot'] 29)] from hO)
          clear hO
          have z2_0 : x15.cell? ⟨bx, 0, none⟩ = some (.int .u8 kd) := HO.out.cell 2 rfl 0 rfl
          have y2_0 : x15.frozen? ⟨bx, 0, none⟩ = false := HO.out.frz 2 rfl 0
          obtain ⟨x16, hx16⟩ : ∃ y, x15.setCell ⟨bx, 0, none⟩ (.int .u8 4) = y := ⟨_, rfl⟩
          have hO := HO.out.setCell 2 rfl 0 (.int .u8 4)
          rw [hx16] at hO
          replace HO := Lib.hid (show Own w none0 x16 [resP p st2, resQ q st2, blkR bx (.cells #[.int .u8 4, .bool ud, .int .i64 po', .int .i64 s', .int .i64 th', .int .i64 ot'] 29)] from hO)
          clear hO
          go_wp2
          clear z2_0 y2_0 hx16
          generalize hΓ : ghO w none0 [[resP p st2, resQ q st2, blkR bx (.cells #[.int .u8 4, .bool ud, .int .i64 po', .int .i64 s', .int .i64 th', .int .i64 ot'] 29)], [resP p st2, resQ q st2, blkR bx (.cells #[.int .u8 4, .bool ud, .int .i64 po', .int .i64 s', .int .i64 th', .int .i64 ot'] 29)]] = Γ
          have HST := Lib.hid (show Γ.inv [] x16 by rw [← hΓ]; exact ghO_start HO.out)
          have g0 : ∀ z : Γ.Wd, z.w.cell? ⟨bx, 0, none⟩ = some (.int .u8 4) := by rw [← hΓ]; exact ghO_cell (c := #[.int .u8 4, .bool ud, .int .i64 po', .int .i64 s', .int .i64 th', .int .i64 ot']) (t := 29) 2 (by simp) 0 rfl
          have g1 : ∀ z : Γ.Wd, z.w.cell? ⟨bx, 1, none⟩ = some (.bool ud) := by rw [← hΓ]; exact ghO_cell (c := #[.int .u8 4, .bool ud, .int .i64 po', .int .i64 s', .int .i64 th', .int .i64 ot']) (t := 29) 2 (by simp) 1 rfl
          have g2 : ∀ z : Γ.Wd, z.w.cell? ⟨bx, 2, none⟩ = some (.int .i64 po') := by rw [← hΓ]; exact ghO_cell (c := #[.int .u8 4, .bool ud, .int .i64 po', .int .i64 s', .int .i64 th', .int .i64 ot']) (t := 29) 2 (by simp) 2 rfl
          have g3 : ∀ z : Γ.Wd, z.w.cell? ⟨bx, 3, none⟩ = some (.int .i64 s') := by rw [← hΓ]; exact ghO_cell (c := #[.int .u8 4, .bool ud, .int .i64 po', .int .i64 s', .int .i64 th', .int .i64 ot']) (t := 29) 2 (by simp) 3 rfl
          have g4 : ∀ z : Γ.Wd, z.w.cell? ⟨bx, 4, none⟩ = some (.int .i64 th') := by rw [← hΓ]; exact ghO_cell (c := #[.int .u8 4, .bool ud, .int .i64 po', .int .i64 s', .int .i64 th', .int .i64 ot']) (t := 29) 2 (by simp) 4 rfl
          have g5 : ∀ z : Γ.Wd, z.w.cell? ⟨bx, 5, none⟩ = some (.int .i64 ot') := by rw [← hΓ]; exact ghO_cell (c := #[.int .u8 4, .bool ud, .int .i64 po', .int .i64 s', .int .i64 th', .int .i64 ot']) (t := 29) 2 (by simp) 5 rfl
          have HΓ := Lib.hid hΓ
          clear hΓ
          have ne : Nonempty Γ.Wd := ⟨⟨[], x16, HST.out⟩⟩
          refine wp_region_H Γ 7 [5] (by kernel_rfl) (by kernel_rfl) (by kernel_rfl) (by kernel_rfl) HST.out ?_
          simp only [List.take, List.drop]
          iterate 4 (first | (refine wpH_want (by kernel_rfl) (by kernel_rfl) rfl rfl ?_; intro K hK; go_big_quiet_op; go_big_quiet_on) | (refine wpH_is (by kernel_rfl) (by kernel_rfl) rfl _ (fun _ w _ => rfl) ?_; simp only [Act.put, List.setIfInBounds_toArray, List.set_cons_succ, List.set_cons_zero]))
          refine wpH_call (by kernel_rfl) (by kernel_rfl) rfl 11 #[clV ⟨4, ud, po', s', th', ot'⟩] (.int .i64 (protoF ⟨4, ud, po', s', th', ot'⟩)) (fun w => by simp [go_sem]) (fun _ w _ => proto_any _ w) ?_
          simp only [Act.put, List.setIfInBounds_toArray, List.set_cons_succ, List.set_cons_zero]
          refine wpH_chain 0 (by kernel_rfl) (by kernel_rfl) rfl 13 #[.pointer (some ⟨p, 0, none⟩), .pointer (some ⟨q, 0, none⟩), clV ⟨4, ud, po', s', th', ot'⟩, .int .i64 (protoF ⟨4, ud, po', s', th', ot'⟩)] (.bool true) (fun w => by simp [go_sem]) (fun vs w hg hvs => by
            rw [← HΓ.out] at hg ⊢
            exact ghO_call 0 hg hvs rfl rfl fun ho => told_o (c := ⟨4, ud, po', s', th', ot'⟩) ho 0 1 rfl rfl (by decide) (told_four rfl _) HI2.out ⟨by show (0 : Int) ≤ 4; decide, by show (4 : Int) ≤ 255; decide⟩ HF4.out) ?_
          simp only [Act.put, List.setIfInBounds_toArray, List.set_cons_succ, List.set_cons_zero]
          (first | (refine wpH_want (by kernel_rfl) (by kernel_rfl) rfl rfl ?_; intro K hK; go_big_quiet_op; go_big_quiet_on) | (refine wpH_is (by kernel_rfl) (by kernel_rfl) rfl _ (fun _ w _ => rfl) ?_; simp only [Act.put, List.setIfInBounds_toArray, List.set_cons_succ, List.set_cons_zero]))
          refine wpH_nil (by kernel_rfl) (by simp) ?_
          rintro ⟨vs, xz⟩ hg hgl
          rw [← HΓ.out] at hg
          replace HO := Lib.hid (ghO_at hg 1 hgl rfl)
          simp only [gexAll, List.drop]
          clear g0 g1 g2 g3 g4 g5 ne HST hg hgl HΓ
          go_wp2
          go_roundw
          case rel => exact ⟨kk + 1, st2, by omega, by omega, by go_num, HO.out.take 2, HI2.out, HF2.out⟩
          case measure => simp [intOf]; omega
    · by_cases h1 : kk < len
      · obtain rfl : kk = 100 := by omega
        have HL1 := Lib.hid (show st.B.length ≤ 1000000 by have := HF.out.1; omega)
        have HL2 := Lib.hid (show st.J.length ≤ 1000000 by have := HF.out.2.1; omega)
        go_wp2
        go_loopw [15, 16, 17, 18, 19] (fun i _ _ _ _ wt => ∃ m : Nat, 49150 ≤ m ∧ m ≤ 49220 ∧ i = .int .i64 m ∧ Own w none0 wt [resP p st, resQ q st]) (fun i _ _ _ _ _ => 49220 - (intOf i).toNat)
        case atStart => exact ⟨49150, by omega, by omega, rfl, HO.out⟩
        case round =>
          obtain ⟨m, hm0, hm, rfl, hO⟩ := hrel
          replace HO := Lib.hid hO
          clear hO
          by_cases hm9 : m < 49220
          · have hd : decide ((m : Int) < 49220) = true := by simp; omega
            obtain ⟨n, b, hl⟩ : ∃ n b, lookF st 6 (m : Int) 100 900 = (n, b) := ⟨_, _, rfl⟩
            have HK := Lib.hid hl
            have HK2 := Lib.hid (show rlookF st 6 (m : Int) 100 900 = (n, b) by rw [rlook_eq HI.out, hl])
            clear hl
            go_wp2_with fail
            refine (look_o HO.out 0 rfl HK.out HL2.out).mono ?_
            rintro e x101 ⟨rfl, hO, -⟩
            replace HO := Lib.hid (show Own w none0 x101 [resP p st, resQ q st] from hO)
            clear hO
            go_wp2_with fail
            refine (rlook_o HO.out 1 rfl HK2.out HL1.out HL2.out).mono ?_
            rintro e x102 ⟨rfl, hO, -⟩
            replace HO := Lib.hid (show Own w none0 x102 [resP p st, resQ q st] from hO)
            clear hO
            cases b
            · go_wp2
              go_roundw
              case rel => exact ⟨m + 1, by omega, by omega, by go_num, HO.out⟩
              case measure => simp [intOf]; omega
            · go_wp2
              go_roundw
              case rel => exact ⟨m + 1, by omega, by omega, by go_num, HO.out⟩
              case measure => simp [intOf]; omega
          · obtain rfl : m = 49220 := by omega
            go_wp2
            go_ret
            exact ⟨rfl, HO.out.below⟩
      · obtain rfl : kk = len := by omega
        have HL1 := Lib.hid (show st.B.length ≤ 1000000 by have := HF.out.1; omega)
        have HL2 := Lib.hid (show st.J.length ≤ 1000000 by have := HF.out.2.1; omega)
        go_wp2
        go_loopw [15, 16, 17, 18, 19] (fun i _ _ _ _ wt => ∃ m : Nat, 49150 ≤ m ∧ m ≤ 49220 ∧ i = .int .i64 m ∧ Own w none0 wt [resP p st, resQ q st]) (fun i _ _ _ _ _ => 49220 - (intOf i).toNat)
        case atStart => exact ⟨49150, by omega, by omega, rfl, HO.out⟩
        case round =>
          obtain ⟨m, hm0, hm, rfl, hO⟩ := hrel
          replace HO := Lib.hid hO
          clear hO
          by_cases hm9 : m < 49220
          · have hd : decide ((m : Int) < 49220) = true := by simp; omega
            obtain ⟨n, b, hl⟩ : ∃ n b, lookF st 6 (m : Int) 100 900 = (n, b) := ⟨_, _, rfl⟩
            have HK := Lib.hid hl
            have HK2 := Lib.hid (show rlookF st 6 (m : Int) 100 900 = (n, b) by rw [rlook_eq HI.out, hl])
            clear hl
            go_wp2_with fail
            refine (look_o HO.out 0 rfl HK.out HL2.out).mono ?_
            rintro e x101 ⟨rfl, hO, -⟩
            replace HO := Lib.hid (show Own w none0 x101 [resP p st, resQ q st] from hO)
            clear hO
            go_wp2_with fail
            refine (rlook_o HO.out 1 rfl HK2.out HL1.out HL2.out).mono ?_
            rintro e x102 ⟨rfl, hO, -⟩
            replace HO := Lib.hid (show Own w none0 x102 [resP p st, resQ q st] from hO)
            clear hO
            cases b
            · go_wp2
              go_roundw
              case rel => exact ⟨m + 1, by omega, by omega, by go_num, HO.out⟩
              case measure => simp [intOf]; omega
            · go_wp2
              go_roundw
              case rel => exact ⟨m + 1, by omega, by omega, by go_num, HO.out⟩
              case measure => simp [intOf]; omega
          · obtain rfl : m = 49220 := by omega
            go_wp2
            go_ret
            exact ⟨rfl, HO.out.below⟩

end Go.Proofs.Ytfipamdknanlmaa
