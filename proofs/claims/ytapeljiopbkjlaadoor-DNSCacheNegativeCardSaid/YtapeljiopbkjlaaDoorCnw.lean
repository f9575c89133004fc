/- DNSCacheNegative, walked. Printed by wip/tools/gen20s.py. -/
import Derived.Test.YtapeljiopbkjlaaDoorCng
namespace Go.Proofs.YtapeljiopbkjlaaDoor
open Go.RowKit Go.Sort
set_option linter.unusedVariables false
set_option maxRecDepth 100000

set_option maxRecDepth 100000 in
set_option maxHeartbeats 8000000 in
theorem negative_walk (len : Nat) (g : Nat → Ca) (v : Value) (now name ttl : Int) (x : Rw) (a : Addr) (w : World) (hr : RdCa w v len g) (hn1 : i64B now) (hn2 : i64B name) (hn3 : i64B ttl) (hx : RwOk x) (hg : w.cell? ⟨errG, 0, none⟩ = some (errV a)) :
    Calls Tryd.prog 7 #[v, .int .i64 now, .int .i64 name, .int .i64 ttl, .agg (rwA x)] w fun e w' => e = .returned (.bool true) ∧ Below w.heap.size w w' := by
  have HR := Lib.hid hr
  have HG := Lib.hid hg
  have HN1 := Lib.hid hn1
  have HNM := Lib.hid (fun w => name_any name w hn2)
  have HPK := Lib.hid (fun w => pick_b ttl 30 w hn3 (by decide))
  have HX := Lib.hid hx
  have HNV := Lib.hid (nmF_ok name)
  have HNX := Lib.hid (nmF_max name)
  have q3 := pk_bd ttl 30 (by decide)
  generalize nmF name = s at *
  generalize pk ttl 30 = q at *
  obtain ⟨q1, q2⟩ := q3
  have HO0 := Own.nil w none0
  have HRX := Lib.hid (fun w => rec_any x hx w)
  have HRA := Lib.hid (recF_A x)
  have HRO := Lib.hid (@recF_ok x)
  generalize recF x = r at *
  obtain ⟨xn, xk, xt, xa⟩ := x
  obtain ⟨c0, c1, c2, c3, c4⟩ := r
  obtain ⟨vp, vcap, rfl, _⟩ := hr
  clear hg hn1 hn2 hn3 hx
  have HO := Lib.hid HO0
  clear HO0
  obtain ⟨x1, hx1⟩ : ∃ y, w.alloc (.cells #[.int .i64 xn, .int .i64 xk, .int .i64 xt, .int .i64 xa] 32) = y := ⟨_, rfl⟩
  obtain ⟨bx, hbx⟩ : ∃ y, w.heap.size = y := ⟨_, rfl⟩
  have hO := HO.out.alloc (.cells #[.int .i64 xn, .int .i64 xk, .int .i64 xt, .int .i64 xa] 32)
  rw [hx1, hbx] at hO
  replace HO := Lib.hid (show Own w none0 x1 [blkR bx (.cells #[.int .i64 xn, .int .i64 xk, .int .i64 xt, .int .i64 xa] 32)] from hO)
  clear hO
  go_enter Tryd.func7, Tryd.ntmps7
  have hsane := sane_o (w0 := x1) (w := x1) (a := a) (Own.nil _ _) (keep HO.out.below HG.out)
  go_wp2_with fail
  refine hsane.mono ?_
  rintro e x2 ⟨rfl, hO1, -⟩
  have hO := HO.out.stay hO1.below
  replace HO := Lib.hid (show Own w none0 x2 [blkR bx (.cells #[.int .i64 xn, .int .i64 xk, .int .i64 xt, .int .i64 xa] 32)] from hO)
  clear hO hO1 hsane
  clear hx1 hbx
  have hmade := made_o (w0 := x2) (w := x2) (a := a) len g (.slice vp len vcap) now (HR.out.stay HO.out.below) HN1.out (Own.nil _ _) (keep HO.out.below HG.out)
  go_wp2_with fail
  refine hmade.mono ?_
  obtain ⟨tm, htm⟩ : ∃ y, (madeS now g (min len 40)).1 = y := ⟨_, rfl⟩
  obtain ⟨l, hl⟩ : ∃ y, (madeS now g (min len 40)).2 = y := ⟨_, rfl⟩
  rintro e x3 ⟨c, rfl, hO1, -⟩
  have HCI := Lib.hid (show CInv tm l by rw [← htm, ← hl]; exact madeS_inv _ _ _)
  have hts := madeS_time now g (min len 40)
  rw [htm] at hts
  have hmin : ((min len 40 : Nat) : Int) ≤ 40 := by omega
  obtain ⟨ht1, ht2⟩ : 0 ≤ tm ∧ tm ≤ 1000320 := by omega
  rw [hl] at hO1
  have hO := HO.out.stay hO1.below
  rw [htm]
  have hc := (hO1 : Own _ none0 x3 [resC c l])
  have hO2 := HO.out.joinC hc
  replace HO := Lib.hid (show Own w none0 x3 [blkR bx (.cells #[.int .i64 xn, .int .i64 xk, .int .i64 xt, .int .i64 xa] 32), resC c l] from hO2)
  clear hO hO1 hO2 hc hmade hts hmin htm hl
  go_wp2_with fail
  refine (o_still HO.out (HPK.out _)).mono ?_
  rintro e x4 ⟨rfl, hO, -⟩
  replace HO := Lib.hid (show Own w none0 x4 [blkR bx (.cells #[.int .i64 xn, .int .i64 xk, .int .i64 xt, .int .i64 xa] 32), resC c l] from hO)
  clear hO
  go_wp2_with fail
  refine (o_still HO.out (HNM.out _)).mono ?_
  rintro e x5 ⟨rfl, hO, -⟩
  replace HO := Lib.hid (show Own w none0 x5 [blkR bx (.cells #[.int .i64 xn, .int .i64 xk, .int .i64 xt, .int .i64 xa] 32), resC c l] from hO)
  clear hO
  have HCK := Lib.hid (chkF_ok (t := tm) (s := s) (tt := 1 + q) ht1 (by omega) HNV.out (by omega) (by omega))
  go_wp2_with fail
  refine (neg_r tm s (1 + q) HO.out 1 rfl (keep HO.out.below HG.out) HNX.out HCI.out.len rfl (negE_ok HCK.out)).mono ?_
  rintro e x6 ⟨rfl, hO, -⟩
  replace HO := Lib.hid (show Own w none0 x6 [blkR bx (.cells #[.int .i64 xn, .int .i64 xk, .int .i64 xt, .int .i64 xa] 32), resC c (negF tm s (1 + q) l)] from hO)
  clear hO
  have HC2 := Lib.hid (HCI.out.neg s (1 + q))
  go_wp2_with fail
  refine (o_still HO.out (HNM.out _)).mono ?_
  rintro e x7 ⟨rfl, hO, -⟩
  replace HO := Lib.hid (show Own w none0 x7 [blkR bx (.cells #[.int .i64 xn, .int .i64 xk, .int .i64 xt, .int .i64 xa] 32), resC c (negF tm s (1 + q) l)] from hO)
  clear hO
  go_wp2_with fail
  refine (look_none (k := true) (tm + (1 + q) - 1) s HO.out 1 rfl (Nat.le_trans HC2.out.len (by decide)) (by rw [neg_known l HCK.out (by omega)]; simp; omega)).mono ?_
  rintro e x8 ⟨p1, p1c, rfl, hO, -⟩
  replace HO := Lib.hid (show Own w none0 x8 [blkR bx (.cells #[.int .i64 xn, .int .i64 xk, .int .i64 xt, .int .i64 xa] 32), resC c (negF tm s (1 + q) l), rowR (.slice p1 0 p1c) 34 5 0 []] from hO)
  clear hO
  go_wp2_with fail
  refine (o_still HO.out (HNM.out _)).mono ?_
  rintro e x9 ⟨rfl, hO, -⟩
  replace HO := Lib.hid (show Own w none0 x9 [blkR bx (.cells #[.int .i64 xn, .int .i64 xk, .int .i64 xt, .int .i64 xa] 32), resC c (negF tm s (1 + q) l), rowR (.slice p1 0 p1c) 34 5 0 []] from hO)
  clear hO
  go_wp2_with fail
  refine (look_none (k := false) (tm + (1 + q)) s HO.out 1 rfl (Nat.le_trans HC2.out.len (by decide)) (by rw [neg_known l HCK.out (by omega)]; simp)).mono ?_
  rintro e x10 ⟨p2, p2c, rfl, hO, -⟩
  replace HO := Lib.hid (show Own w none0 x10 [blkR bx (.cells #[.int .i64 xn, .int .i64 xk, .int .i64 xt, .int .i64 xa] 32), resC c (negF tm s (1 + q) l), rowR (.slice p1 0 p1c) 34 5 0 [], rowR (.slice p2 0 p2c) 34 5 0 []] from hO)
  clear hO
  have z0_0 : x10.cell? ⟨bx, 0, none⟩ = some (.int .i64 xn) := HO.out.cell 0 rfl 0 rfl
  have z0_1 : x10.cell? ⟨bx, 1, none⟩ = some (.int .i64 xk) := HO.out.cell 0 rfl 1 rfl
  have z0_2 : x10.cell? ⟨bx, 2, none⟩ = some (.int .i64 xt) := HO.out.cell 0 rfl 2 rfl
  have z0_3 : x10.cell? ⟨bx, 3, none⟩ = some (.int .i64 xa) := HO.out.cell 0 rfl 3 rfl
  go_wp2_with fail
  refine (o_still HO.out (HRX.out _)).mono ?_
  rintro e x11 ⟨rfl, hO, -⟩
  replace HO := Lib.hid (show Own w none0 x11 [blkR bx (.cells #[.int .i64 xn, .int .i64 xk, .int .i64 xt, .int .i64 xa] 32), resC c (negF tm s (1 + q) l), rowR (.slice p1 0 p1c) 34 5 0 [], rowR (.slice p2 0 p2c) 34 5 0 []] from hO)
  clear hO
  clear z0_0 z0_1 z0_2 z0_3
  obtain ⟨x12, hx12⟩ : ∃ y, x11.alloc (.cells #[.string ⟨#[]⟩, .int .i64 0, .int .i64 0, .int .i64 0, .string ⟨#[]⟩] 34) = y := ⟨_, rfl⟩
  obtain ⟨br, hbr⟩ : ∃ y, x11.heap.size = y := ⟨_, rfl⟩
  have hO := HO.out.alloc (.cells #[.string ⟨#[]⟩, .int .i64 0, .int .i64 0, .int .i64 0, .string ⟨#[]⟩] 34)
  rw [hx12, hbr] at hO
  replace HO := Lib.hid (show Own w none0 x12 [blkR bx (.cells #[.int .i64 xn, .int .i64 xk, .int .i64 xt, .int .i64 xa] 32), resC c (negF tm s (1 + q) l), rowR (.slice p1 0 p1c) 34 5 0 [], rowR (.slice p2 0 p2c) 34 5 0 [], blkR br (.cells #[.string ⟨#[]⟩, .int .i64 0, .int .i64 0, .int .i64 0, .string ⟨#[]⟩] 34)] from hO)
  clear hO
  have k4_0_13 : x12.cell? ⟨br, 0, none⟩ = some (.string ⟨#[]⟩) := HO.out.cell 4 rfl 0 rfl
  have lk4_0_13 : x12.frozen? ⟨br, 0, none⟩ = false := HO.out.frz 4 rfl 0
  have k4_1_14 : x12.cell? ⟨br, 1, none⟩ = some (.int .i64 0) := HO.out.cell 4 rfl 1 rfl
  have lk4_1_14 : x12.frozen? ⟨br, 1, none⟩ = false := HO.out.frz 4 rfl 1
  have k4_2_15 : x12.cell? ⟨br, 2, none⟩ = some (.int .i64 0) := HO.out.cell 4 rfl 2 rfl
  have lk4_2_15 : x12.frozen? ⟨br, 2, none⟩ = false := HO.out.frz 4 rfl 2
  have k4_3_16 : x12.cell? ⟨br, 3, none⟩ = some (.int .i64 0) := HO.out.cell 4 rfl 3 rfl
  have lk4_3_16 : x12.frozen? ⟨br, 3, none⟩ = false := HO.out.frz 4 rfl 3
  have k4_4_17 : x12.cell? ⟨br, 4, none⟩ = some (.string ⟨#[]⟩) := HO.out.cell 4 rfl 4 rfl
  have lk4_4_17 : x12.frozen? ⟨br, 4, none⟩ = false := HO.out.frz 4 rfl 4
  obtain ⟨x18, hx18⟩ : ∃ y, x12.setCell ⟨br, 0, none⟩ (.string c0) = y := ⟨_, rfl⟩
  have hO := HO.out.setCell 4 rfl 0 (.string c0)
  rw [hx18] at hO
  replace HO := Lib.hid (show Own w none0 x18 [blkR bx (.cells #[.int .i64 xn, .int .i64 xk, .int .i64 xt, .int .i64 xa] 32), resC c (negF tm s (1 + q) l), rowR (.slice p1 0 p1c) 34 5 0 [], rowR (.slice p2 0 p2c) 34 5 0 [], blkR br (.cells #[.string c0, .int .i64 0, .int .i64 0, .int .i64 0, .string ⟨#[]⟩] 34)] from hO)
  clear hO
  have k4_1_19 : x18.cell? ⟨br, 1, none⟩ = some (.int .i64 0) := HO.out.cell 4 rfl 1 rfl
  have lk4_1_19 : x18.frozen? ⟨br, 1, none⟩ = false := HO.out.frz 4 rfl 1
  have k4_2_20 : x18.cell? ⟨br, 2, none⟩ = some (.int .i64 0) := HO.out.cell 4 rfl 2 rfl
  have lk4_2_20 : x18.frozen? ⟨br, 2, none⟩ = false := HO.out.frz 4 rfl 2
  have k4_3_21 : x18.cell? ⟨br, 3, none⟩ = some (.int .i64 0) := HO.out.cell 4 rfl 3 rfl
  have lk4_3_21 : x18.frozen? ⟨br, 3, none⟩ = false := HO.out.frz 4 rfl 3
  have k4_4_22 : x18.cell? ⟨br, 4, none⟩ = some (.string ⟨#[]⟩) := HO.out.cell 4 rfl 4 rfl
  have lk4_4_22 : x18.frozen? ⟨br, 4, none⟩ = false := HO.out.frz 4 rfl 4
  obtain ⟨x23, hx23⟩ : ∃ y, x18.setCell ⟨br, 1, none⟩ (.int .i64 c1) = y := ⟨_, rfl⟩
  have hO := HO.out.setCell 4 rfl 1 (.int .i64 c1)
  rw [hx23] at hO
  replace HO := Lib.hid (show Own w none0 x23 [blkR bx (.cells #[.int .i64 xn, .int .i64 xk, .int .i64 xt, .int .i64 xa] 32), resC c (negF tm s (1 + q) l), rowR (.slice p1 0 p1c) 34 5 0 [], rowR (.slice p2 0 p2c) 34 5 0 [], blkR br (.cells #[.string c0, .int .i64 c1, .int .i64 0, .int .i64 0, .string ⟨#[]⟩] 34)] from hO)
  clear hO
  have k4_2_24 : x23.cell? ⟨br, 2, none⟩ = some (.int .i64 0) := HO.out.cell 4 rfl 2 rfl
  have lk4_2_24 : x23.frozen? ⟨br, 2, none⟩ = false := HO.out.frz 4 rfl 2
  have k4_3_25 : x23.cell? ⟨br, 3, none⟩ = some (.int .i64 0) := HO.out.cell 4 rfl 3 rfl
  have lk4_3_25 : x23.frozen? ⟨br, 3, none⟩ = false := HO.out.frz 4 rfl 3
  have k4_4_26 : x23.cell? ⟨br, 4, none⟩ = some (.string ⟨#[]⟩) := HO.out.cell 4 rfl 4 rfl
  have lk4_4_26 : x23.frozen? ⟨br, 4, none⟩ = false := HO.out.frz 4 rfl 4
  obtain ⟨x27, hx27⟩ : ∃ y, x23.setCell ⟨br, 2, none⟩ (.int .i64 c2) = y := ⟨_, rfl⟩
  have hO := HO.out.setCell 4 rfl 2 (.int .i64 c2)
  rw [hx27] at hO
  replace HO := Lib.hid (show Own w none0 x27 [blkR bx (.cells #[.int .i64 xn, .int .i64 xk, .int .i64 xt, .int .i64 xa] 32), resC c (negF tm s (1 + q) l), rowR (.slice p1 0 p1c) 34 5 0 [], rowR (.slice p2 0 p2c) 34 5 0 [], blkR br (.cells #[.string c0, .int .i64 c1, .int .i64 c2, .int .i64 0, .string ⟨#[]⟩] 34)] from hO)
  clear hO
  have k4_3_28 : x27.cell? ⟨br, 3, none⟩ = some (.int .i64 0) := HO.out.cell 4 rfl 3 rfl
  have lk4_3_28 : x27.frozen? ⟨br, 3, none⟩ = false := HO.out.frz 4 rfl 3
  have k4_4_29 : x27.cell? ⟨br, 4, none⟩ = some (.string ⟨#[]⟩) := HO.out.cell 4 rfl 4 rfl
  have lk4_4_29 : x27.frozen? ⟨br, 4, none⟩ = false := HO.out.frz 4 rfl 4
  obtain ⟨x30, hx30⟩ : ∃ y, x27.setCell ⟨br, 3, none⟩ (.int .i64 c3) = y := ⟨_, rfl⟩
  have hO := HO.out.setCell 4 rfl 3 (.int .i64 c3)
  rw [hx30] at hO
  replace HO := Lib.hid (show Own w none0 x30 [blkR bx (.cells #[.int .i64 xn, .int .i64 xk, .int .i64 xt, .int .i64 xa] 32), resC c (negF tm s (1 + q) l), rowR (.slice p1 0 p1c) 34 5 0 [], rowR (.slice p2 0 p2c) 34 5 0 [], blkR br (.cells #[.string c0, .int .i64 c1, .int .i64 c2, .int .i64 c3, .string ⟨#[]⟩] 34)] from hO)
  clear hO
  have k4_4_31 : x30.cell? ⟨br, 4, none⟩ = some (.string ⟨#[]⟩) := HO.out.cell 4 rfl 4 rfl
  have lk4_4_31 : x30.frozen? ⟨br, 4, none⟩ = false := HO.out.frz 4 rfl 4
  obtain ⟨x32, hx32⟩ : ∃ y, x30.setCell ⟨br, 4, none⟩ (.string c4) = y := ⟨_, rfl⟩
  have hO := HO.out.setCell 4 rfl 4 (.string c4)
  rw [hx32] at hO
  replace HO := Lib.hid (show Own w none0 x32 [blkR bx (.cells #[.int .i64 xn, .int .i64 xk, .int .i64 xt, .int .i64 xa] 32), resC c (negF tm s (1 + q) l), rowR (.slice p1 0 p1c) 34 5 0 [], rowR (.slice p2 0 p2c) 34 5 0 [], blkR br (.cells #[.string c0, .int .i64 c1, .int .i64 c2, .int .i64 c3, .string c4] 34)] from hO)
  clear hO
  go_wp2_with fail
  clear hx12 hbr k4_0_13 lk4_0_13 k4_1_14 lk4_1_14 k4_2_15 lk4_2_15 k4_3_16 lk4_3_16 k4_4_17 lk4_4_17 hx18 k4_1_19 lk4_1_19 k4_2_20 lk4_2_20 k4_3_21 lk4_3_21 k4_4_22 lk4_4_22 hx23 k4_2_24 lk4_2_24 k4_3_25 lk4_3_25 k4_4_26 lk4_4_26 hx27 k4_3_28 lk4_3_28 k4_4_29 lk4_4_29 hx30 k4_4_31 lk4_4_31 hx32
  refine (o_still HO.out (HNM.out _)).mono ?_
  rintro e x33 ⟨rfl, hO, -⟩
  replace HO := Lib.hid (show Own w none0 x33 [blkR bx (.cells #[.int .i64 xn, .int .i64 xk, .int .i64 xt, .int .i64 xa] 32), resC c (negF tm s (1 + q) l), rowR (.slice p1 0 p1c) 34 5 0 [], rowR (.slice p2 0 p2c) 34 5 0 [], blkR br (.cells #[.string c0, .int .i64 c1, .int .i64 c2, .int .i64 c3, .string c4] 34)] from hO)
  clear hO
  have z4_0 : x33.cell? ⟨br, 0, none⟩ = some (.string c0) := HO.out.cell 4 rfl 0 rfl
  have y4_0 : x33.frozen? ⟨br, 0, none⟩ = false := HO.out.frz 4 rfl 0
  obtain ⟨x34, hx34⟩ : ∃ y, x33.setCell ⟨br, 0, none⟩ (.string s) = y := ⟨_, rfl⟩
  have hO := HO.out.setCell 4 rfl 0 (.string s)
  rw [hx34] at hO
  replace HO := Lib.hid (show Own w none0 x34 [blkR bx (.cells #[.int .i64 xn, .int .i64 xk, .int .i64 xt, .int .i64 xa] 32), resC c (negF tm s (1 + q) l), rowR (.slice p1 0 p1c) 34 5 0 [], rowR (.slice p2 0 p2c) 34 5 0 [], blkR br (.cells #[.string s, .int .i64 c1, .int .i64 c2, .int .i64 c3, .string c4] 34)] from hO)
  clear hO
  have z4_2 : x34.cell? ⟨br, 2, none⟩ = some (.int .i64 c2) := HO.out.cell 4 rfl 2 rfl
  have y4_2 : x34.frozen? ⟨br, 2, none⟩ = false := HO.out.frz 4 rfl 2
  obtain ⟨x35, hx35⟩ : ∃ y, x34.setCell ⟨br, 2, none⟩ (.int .i64 9) = y := ⟨_, rfl⟩
  have hO := HO.out.setCell 4 rfl 2 (.int .i64 9)
  rw [hx35] at hO
  replace HO := Lib.hid (show Own w none0 x35 [blkR bx (.cells #[.int .i64 xn, .int .i64 xk, .int .i64 xt, .int .i64 xa] 32), resC c (negF tm s (1 + q) l), rowR (.slice p1 0 p1c) 34 5 0 [], rowR (.slice p2 0 p2c) 34 5 0 [], blkR br (.cells #[.string s, .int .i64 c1, .int .i64 9, .int .i64 c3, .string c4] 34)] from hO)
  clear hO
  have z4_0t : x35.cell? ⟨br, 0, none⟩ = some (.string s) := HO.out.cell 4 rfl 0 rfl
  have z4_1 : x35.cell? ⟨br, 1, none⟩ = some (.int .i64 c1) := HO.out.cell 4 rfl 1 rfl
  have z4_2t : x35.cell? ⟨br, 2, none⟩ = some (.int .i64 9) := HO.out.cell 4 rfl 2 rfl
  have z4_3 : x35.cell? ⟨br, 3, none⟩ = some (.int .i64 c3) := HO.out.cell 4 rfl 3 rfl
  have z4_4 : x35.cell? ⟨br, 4, none⟩ = some (.string c4) := HO.out.cell 4 rfl 4 rfl
  have HRB := Lib.hid (recB_ok (t := tm) (r := ⟨s, c1, 9, c3, c4⟩) ht1 (by omega) HNV.out (by show (0:Int) ≤ 9; decide) (by show (9:Int) ≤ 1000; decide) HRA.out.1)
  go_wp2_with fail
  refine (put_r tm ⟨s, c1, 9, c3, c4⟩ HO.out 1 rfl (keep HO.out.below HG.out) HNX.out HRO.out.2 HC2.out.len rfl (putE_ok HRB.out)).mono ?_
  rintro e x36 ⟨rfl, hO, -⟩
  replace HO := Lib.hid (show Own w none0 x36 [blkR bx (.cells #[.int .i64 xn, .int .i64 xk, .int .i64 xt, .int .i64 xa] 32), resC c (putF tm ⟨s, c1, 9, c3, c4⟩ (negF tm s (1 + q) l)), rowR (.slice p1 0 p1c) 34 5 0 [], rowR (.slice p2 0 p2c) 34 5 0 [], blkR br (.cells #[.string s, .int .i64 c1, .int .i64 9, .int .i64 c3, .string c4] 34)] from hO)
  clear hO
  clear z4_0 y4_0 hx34 z4_2 y4_2 hx35 z4_0t z4_1 z4_2t z4_3 z4_4
  go_wp2_with fail
  refine (o_still HO.out (HNM.out _)).mono ?_
  rintro e x37 ⟨rfl, hO, -⟩
  replace HO := Lib.hid (show Own w none0 x37 [blkR bx (.cells #[.int .i64 xn, .int .i64 xk, .int .i64 xt, .int .i64 xa] 32), resC c (putF tm ⟨s, c1, 9, c3, c4⟩ (negF tm s (1 + q) l)), rowR (.slice p1 0 p1c) 34 5 0 [], rowR (.slice p2 0 p2c) 34 5 0 [], blkR br (.cells #[.string s, .int .i64 c1, .int .i64 9, .int .i64 c3, .string c4] 34)] from hO)
  clear hO
  go_wp2_with fail
  refine (look_one (r := ⟨s, c1, 9, c3, c4⟩) tm s HO.out 1 rfl (Nat.le_trans (HC2.out.put _).len (by decide)) (neg_then_put l ht1 (by omega) HCK.out (by omega) HRB.out rfl (by show (9:Int) ≠ 0; decide))).mono ?_
  rintro e x38 ⟨p3, p3c, rfl, hO, -⟩
  replace HO := Lib.hid (show Own w none0 x38 [blkR bx (.cells #[.int .i64 xn, .int .i64 xk, .int .i64 xt, .int .i64 xa] 32), resC c (putF tm ⟨s, c1, 9, c3, c4⟩ (negF tm s (1 + q) l)), rowR (.slice p1 0 p1c) 34 5 0 [], rowR (.slice p2 0 p2c) 34 5 0 [], blkR br (.cells #[.string s, .int .i64 c1, .int .i64 9, .int .i64 c3, .string c4] 34), rowR (.slice p3 1 p3c) 34 5 1 (([⟨s, c1, 9, c3, c4⟩] : List Rc).flatMap cRc)] from hO)
  clear hO
  go_wp2
  go_ret
  exact ⟨rfl, HO.out.below⟩

end Go.Proofs.YtapeljiopbkjlaaDoor
