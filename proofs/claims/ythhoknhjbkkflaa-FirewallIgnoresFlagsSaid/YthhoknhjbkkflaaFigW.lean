/- The walk of FirewallIgnoresFlags. Printed by wip/tools/gen22s.py. -/
import Derived.Test.YthhoknhjbkkflaaFlw3
import Derived.Test.YthhoknhjbkkflaaFpl3
import Derived.Test.YthhoknhjbkkflaaRegC
namespace Go.Proofs.Ythhoknhjbkkflaa
open Go.RowKit Go.Sort
set_option linter.unusedVariables false

set_option maxRecDepth 100000 in
set_option maxHeartbeats 16000000 in
theorem ignoresFlags_walk (y : Fw) (m : Nat) (g : Nat → Fw) (v2 : Value) (af : Int) (w : World) (hy : FwOk y) (hM : RdF w v2 m g) (ha : i64B af) : Calls Try.prog 6 #[fwV y, v2, .int .i64 af] w fun e w' => e = .returned (.bool true) ∧ Below w.heap.size w w' := by
  obtain ⟨a2, cap2, rfl, hcap2, hlen2, hok2, hp2⟩ := hM
  have HP := Lib.hid hp2
  have HOK := Lib.hid hok2
  have HY := Lib.hid hy
  have P1 := Lib.hid (fun w => pick_b af 600 w ha (by decide))
  obtain ⟨q1, q2⟩ := pk_bd af 600 (by decide)
  generalize pk af 600 = nn at *
  clear hp2 hok2 hy ha
  obtain ⟨yqho, yqpr, yqpo, yqth, yqfl, yqaf⟩ := y
  have hO := (Own.nil w none0).rowNew 30 7
  have HO := Lib.hid (show Own w none0 w [rowRl (.slice none 0 0) []] from hO)
  clear hO
  obtain ⟨x1, hx1⟩ : ∃ y, w.alloc (.cells #[.int .i64 yqho, .int .i64 yqpr, .int .i64 yqpo, .int .i64 yqth, .int .i64 yqfl, .int .i64 yqaf] 39) = y := ⟨_, rfl⟩
  obtain ⟨bx, hbx⟩ : ∃ y, w.heap.size = y := ⟨_, rfl⟩
  have hO := HO.out.alloc (.cells #[.int .i64 yqho, .int .i64 yqpr, .int .i64 yqpo, .int .i64 yqth, .int .i64 yqfl, .int .i64 yqaf] 39)
  rw [hx1, hbx] at hO
  replace HO := Lib.hid (show Own w none0 x1 [rowRl (.slice none 0 0) [], blkR bx (.cells #[.int .i64 yqho, .int .i64 yqpr, .int .i64 yqpo, .int .i64 yqth, .int .i64 yqfl, .int .i64 yqaf] 39)] from hO)
  clear hO
  go_enter Try.func6, Try.ntmps6
  go_wp2_with fail
  refine (o_still HO.out (sane_any _)).mono ?_
  rintro e x2 ⟨rfl, hO, -⟩
  replace HO := Lib.hid (show Own w none0 x2 [rowRl (.slice none 0 0) [], blkR bx (.cells #[.int .i64 yqho, .int .i64 yqpr, .int .i64 yqpo, .int .i64 yqth, .int .i64 yqfl, .int .i64 yqaf] 39)] from hO)
  clear hO
  clear hx1 hbx
  go_wp2_with fail
  refine (new_ok HO.out 0 rfl (by decide) (by kernel_rfl)).mono ?_
  rintro e x3 ⟨f, rfl, hO, -⟩
  replace HO := Lib.hid (show Own w none0 x3 [rowRl (.slice none 0 0) [], blkR bx (.cells #[.int .i64 yqho, .int .i64 yqpr, .int .i64 yqpo, .int .i64 yqth, .int .i64 yqfl, .int .i64 yqaf] 39), resF f ⟨[], [], 0⟩] from hO)
  clear hO
  go_wp2_with fail
  refine (new_ok HO.out 0 rfl (by decide) (by kernel_rfl)).mono ?_
  rintro e x4 ⟨g2, rfl, hO, -⟩
  replace HO := Lib.hid (show Own w none0 x4 [rowRl (.slice none 0 0) [], blkR bx (.cells #[.int .i64 yqho, .int .i64 yqpr, .int .i64 yqpo, .int .i64 yqth, .int .i64 yqfl, .int .i64 yqaf] 39), resF f ⟨[], [], 0⟩, resF g2 ⟨[], [], 0⟩] from hO)
  clear hO
  have z1_0 : x4.cell? ⟨bx, 0, none⟩ = some (.int .i64 yqho) := HO.out.cell 1 rfl 0 rfl
  have z1_1 : x4.cell? ⟨bx, 1, none⟩ = some (.int .i64 yqpr) := HO.out.cell 1 rfl 1 rfl
  have z1_2 : x4.cell? ⟨bx, 2, none⟩ = some (.int .i64 yqpo) := HO.out.cell 1 rfl 2 rfl
  have z1_3 : x4.cell? ⟨bx, 3, none⟩ = some (.int .i64 yqth) := HO.out.cell 1 rfl 3 rfl
  have z1_4 : x4.cell? ⟨bx, 4, none⟩ = some (.int .i64 yqfl) := HO.out.cell 1 rfl 4 rfl
  have z1_5 : x4.cell? ⟨bx, 5, none⟩ = some (.int .i64 yqaf) := HO.out.cell 1 rfl 5 rfl
  have HFFy := Lib.hid (fun w => flowFrom_any ⟨yqho, yqpr, yqpo, yqth, yqfl, yqaf⟩ HY.out w)
  have HVYy := Lib.hid (flowF_valid ⟨yqho, yqpr, yqpo, yqth, yqfl, yqaf⟩)
  generalize flowF ⟨yqho, yqpr, yqpo, yqth, yqfl, yqaf⟩ = fy at HFFy HVYy
  obtain ⟨ypr, yhe, yhp, yth, ytp, ysy, yfi, yrs, ysq⟩ := fy
  go_wp2_with fail
  refine (o_still HO.out (HFFy.out _)).mono ?_
  rintro e x5 ⟨rfl, hO, -⟩
  replace HO := Lib.hid (show Own w none0 x5 [rowRl (.slice none 0 0) [], blkR bx (.cells #[.int .i64 yqho, .int .i64 yqpr, .int .i64 yqpo, .int .i64 yqth, .int .i64 yqfl, .int .i64 yqaf] 39), resF f ⟨[], [], 0⟩, resF g2 ⟨[], [], 0⟩] from hO)
  clear hO
  obtain ⟨x6, hx6⟩ : ∃ y, x5.alloc (.cells #[.int .i64 0, .int .i64 0, .int .i64 0, .int .i64 0, .int .i64 0, .bool false, .bool false, .bool false, .int .i64 0] 41) = y := ⟨_, rfl⟩
  obtain ⟨bv, hbv⟩ : ∃ y, x5.heap.size = y := ⟨_, rfl⟩
  have hO := HO.out.alloc (.cells #[.int .i64 0, .int .i64 0, .int .i64 0, .int .i64 0, .int .i64 0, .bool false, .bool false, .bool false, .int .i64 0] 41)
  rw [hx6, hbv] at hO
  replace HO := Lib.hid (show Own w none0 x6 [rowRl (.slice none 0 0) [], blkR bx (.cells #[.int .i64 yqho, .int .i64 yqpr, .int .i64 yqpo, .int .i64 yqth, .int .i64 yqfl, .int .i64 yqaf] 39), resF f ⟨[], [], 0⟩, resF g2 ⟨[], [], 0⟩, blkR bv (.cells #[.int .i64 0, .int .i64 0, .int .i64 0, .int .i64 0, .int .i64 0, .bool false, .bool false, .bool false, .int .i64 0] 41)] from hO)
  clear hO
  have k4_0_7 : x6.cell? ⟨bv, 0, none⟩ = some (.int .i64 0) := HO.out.cell 4 rfl 0 rfl
  have lk4_0_7 : x6.frozen? ⟨bv, 0, none⟩ = false := HO.out.frz 4 rfl 0
  have k4_1_8 : x6.cell? ⟨bv, 1, none⟩ = some (.int .i64 0) := HO.out.cell 4 rfl 1 rfl
  have lk4_1_8 : x6.frozen? ⟨bv, 1, none⟩ = false := HO.out.frz 4 rfl 1
  have k4_2_9 : x6.cell? ⟨bv, 2, none⟩ = some (.int .i64 0) := HO.out.cell 4 rfl 2 rfl
  have lk4_2_9 : x6.frozen? ⟨bv, 2, none⟩ = false := HO.out.frz 4 rfl 2
  have k4_3_10 : x6.cell? ⟨bv, 3, none⟩ = some (.int .i64 0) := HO.out.cell 4 rfl 3 rfl
  have lk4_3_10 : x6.frozen? ⟨bv, 3, none⟩ = false := HO.out.frz 4 rfl 3
  have k4_4_11 : x6.cell? ⟨bv, 4, none⟩ = some (.int .i64 0) := HO.out.cell 4 rfl 4 rfl
  have lk4_4_11 : x6.frozen? ⟨bv, 4, none⟩ = false := HO.out.frz 4 rfl 4
  have k4_5_12 : x6.cell? ⟨bv, 5, none⟩ = some (.bool false) := HO.out.cell 4 rfl 5 rfl
  have lk4_5_12 : x6.frozen? ⟨bv, 5, none⟩ = false := HO.out.frz 4 rfl 5
  have k4_6_13 : x6.cell? ⟨bv, 6, none⟩ = some (.bool false) := HO.out.cell 4 rfl 6 rfl
  have lk4_6_13 : x6.frozen? ⟨bv, 6, none⟩ = false := HO.out.frz 4 rfl 6
  have k4_7_14 : x6.cell? ⟨bv, 7, none⟩ = some (.bool false) := HO.out.cell 4 rfl 7 rfl
  have lk4_7_14 : x6.frozen? ⟨bv, 7, none⟩ = false := HO.out.frz 4 rfl 7
  have k4_8_15 : x6.cell? ⟨bv, 8, none⟩ = some (.int .i64 0) := HO.out.cell 4 rfl 8 rfl
  have lk4_8_15 : x6.frozen? ⟨bv, 8, none⟩ = false := HO.out.frz 4 rfl 8
  obtain ⟨x16, hx16⟩ : ∃ y, x6.setCell ⟨bv, 0, none⟩ (.int .i64 ypr) = y := ⟨_, rfl⟩
  have hO := HO.out.setCell 4 rfl 0 (.int .i64 ypr)
  rw [hx16] at hO
  replace HO := Lib.hid (show Own w none0 x16 [rowRl (.slice none 0 0) [], blkR bx (.cells #[.int .i64 yqho, .int .i64 yqpr, .int .i64 yqpo, .int .i64 yqth, .int .i64 yqfl, .int .i64 yqaf] 39), resF f ⟨[], [], 0⟩, resF g2 ⟨[], [], 0⟩, blkR bv (.cells #[.int .i64 ypr, .int .i64 0, .int .i64 0, .int .i64 0, .int .i64 0, .bool false, .bool false, .bool false, .int .i64 0] 41)] from hO)
  clear hO
  have k4_1_17 : x16.cell? ⟨bv, 1, none⟩ = some (.int .i64 0) := HO.out.cell 4 rfl 1 rfl
  have lk4_1_17 : x16.frozen? ⟨bv, 1, none⟩ = false := HO.out.frz 4 rfl 1
  have k4_2_18 : x16.cell? ⟨bv, 2, none⟩ = some (.int .i64 0) := HO.out.cell 4 rfl 2 rfl
  have lk4_2_18 : x16.frozen? ⟨bv, 2, none⟩ = false := HO.out.frz 4 rfl 2
  have k4_3_19 : x16.cell? ⟨bv, 3, none⟩ = some (.int .i64 0) := HO.out.cell 4 rfl 3 rfl
  have lk4_3_19 : x16.frozen? ⟨bv, 3, none⟩ = false := HO.out.frz 4 rfl 3
  have k4_4_20 : x16.cell? ⟨bv, 4, none⟩ = some (.int .i64 0) := HO.out.cell 4 rfl 4 rfl
  have lk4_4_20 : x16.frozen? ⟨bv, 4, none⟩ = false := HO.out.frz 4 rfl 4
  have k4_5_21 : x16.cell? ⟨bv, 5, none⟩ = some (.bool false) := HO.out.cell 4 rfl 5 rfl
  have lk4_5_21 : x16.frozen? ⟨bv, 5, none⟩ = false := HO.out.frz 4 rfl 5
  have k4_6_22 : x16.cell? ⟨bv, 6, none⟩ = some (.bool false) := HO.out.cell 4 rfl 6 rfl
  have lk4_6_22 : x16.frozen? ⟨bv, 6, none⟩ = false := HO.out.frz 4 rfl 6
  have k4_7_23 : x16.cell? ⟨bv, 7, none⟩ = some (.bool false) := HO.out.cell 4 rfl 7 rfl
  have lk4_7_23 : x16.frozen? ⟨bv, 7, none⟩ = false := HO.out.frz 4 rfl 7
  have k4_8_24 : x16.cell? ⟨bv, 8, none⟩ = some (.int .i64 0) := HO.out.cell 4 rfl 8 rfl
  have lk4_8_24 : x16.frozen? ⟨bv, 8, none⟩ = false := HO.out.frz 4 rfl 8
  obtain ⟨x25, hx25⟩ : ∃ y, x16.setCell ⟨bv, 1, none⟩ (.int .i64 yhe) = y := ⟨_, rfl⟩
  have hO := HO.out.setCell 4 rfl 1 (.int .i64 yhe)
  rw [hx25] at hO
  replace HO := Lib.hid (show Own w none0 x25 [rowRl (.slice none 0 0) [], blkR bx (.cells #[.int .i64 yqho, .int .i64 yqpr, .int .i64 yqpo, .int .i64 yqth, .int .i64 yqfl, .int .i64 yqaf] 39), resF f ⟨[], [], 0⟩, resF g2 ⟨[], [], 0⟩, blkR bv (.cells #[.int .i64 ypr, .int .i64 yhe, .int .i64 0, .int .i64 0, .int .i64 0, .bool false, .bool false, .bool false, .int .i64 0] 41)] from hO)
  clear hO
  have k4_2_26 : x25.cell? ⟨bv, 2, none⟩ = some (.int .i64 0) := HO.out.cell 4 rfl 2 rfl
  have lk4_2_26 : x25.frozen? ⟨bv, 2, none⟩ = false := HO.out.frz 4 rfl 2
  have k4_3_27 : x25.cell? ⟨bv, 3, none⟩ = some (.int .i64 0) := HO.out.cell 4 rfl 3 rfl
  have lk4_3_27 : x25.frozen? ⟨bv, 3, none⟩ = false := HO.out.frz 4 rfl 3
  have k4_4_28 : x25.cell? ⟨bv, 4, none⟩ = some (.int .i64 0) := HO.out.cell 4 rfl 4 rfl
  have lk4_4_28 : x25.frozen? ⟨bv, 4, none⟩ = false := HO.out.frz 4 rfl 4
  have k4_5_29 : x25.cell? ⟨bv, 5, none⟩ = some (.bool false) := HO.out.cell 4 rfl 5 rfl
  have lk4_5_29 : x25.frozen? ⟨bv, 5, none⟩ = false := HO.out.frz 4 rfl 5
  have k4_6_30 : x25.cell? ⟨bv, 6, none⟩ = some (.bool false) := HO.out.cell 4 rfl 6 rfl
  have lk4_6_30 : x25.frozen? ⟨bv, 6, none⟩ = false := HO.out.frz 4 rfl 6
  have k4_7_31 : x25.cell? ⟨bv, 7, none⟩ = some (.bool false) := HO.out.cell 4 rfl 7 rfl
  have lk4_7_31 : x25.frozen? ⟨bv, 7, none⟩ = false := HO.out.frz 4 rfl 7
  have k4_8_32 : x25.cell? ⟨bv, 8, none⟩ = some (.int .i64 0) := HO.out.cell 4 rfl 8 rfl
  have lk4_8_32 : x25.frozen? ⟨bv, 8, none⟩ = false := HO.out.frz 4 rfl 8
  obtain ⟨x33, hx33⟩ : ∃ y, x25.setCell ⟨bv, 2, none⟩ (.int .i64 yhp) = y := ⟨_, rfl⟩
  have hO := HO.out.setCell 4 rfl 2 (.int .i64 yhp)
  rw [hx33] at hO
  replace HO := Lib.hid (show Own w none0 x33 [rowRl (.slice none 0 0) [], blkR bx (.cells #[.int .i64 yqho, .int .i64 yqpr, .int .i64 yqpo, .int .i64 yqth, .int .i64 yqfl, .int .i64 yqaf] 39), resF f ⟨[], [], 0⟩, resF g2 ⟨[], [], 0⟩, blkR bv (.cells #[.int .i64 ypr, .int .i64 yhe, .int .i64 yhp, .int .i64 0, .int .i64 0, .bool false, .bool false, .bool false, .int .i64 0] 41)] from hO)
  clear hO
  have k4_3_34 : x33.cell? ⟨bv, 3, none⟩ = some (.int .i64 0) := HO.out.cell 4 rfl 3 rfl
  have lk4_3_34 : x33.frozen? ⟨bv, 3, none⟩ = false := HO.out.frz 4 rfl 3
  have k4_4_35 : x33.cell? ⟨bv, 4, none⟩ = some (.int .i64 0) := HO.out.cell 4 rfl 4 rfl
  have lk4_4_35 : x33.frozen? ⟨bv, 4, none⟩ = false := HO.out.frz 4 rfl 4
  have k4_5_36 : x33.cell? ⟨bv, 5, none⟩ = some (.bool false) := HO.out.cell 4 rfl 5 rfl
  have lk4_5_36 : x33.frozen? ⟨bv, 5, none⟩ = false := HO.out.frz 4 rfl 5
  have k4_6_37 : x33.cell? ⟨bv, 6, none⟩ = some (.bool false) := HO.out.cell 4 rfl 6 rfl
  have lk4_6_37 : x33.frozen? ⟨bv, 6, none⟩ = false := HO.out.frz 4 rfl 6
  have k4_7_38 : x33.cell? ⟨bv, 7, none⟩ = some (.bool false) := HO.out.cell 4 rfl 7 rfl
  have lk4_7_38 : x33.frozen? ⟨bv, 7, none⟩ = false := HO.out.frz 4 rfl 7
  have k4_8_39 : x33.cell? ⟨bv, 8, none⟩ = some (.int .i64 0) := HO.out.cell 4 rfl 8 rfl
  have lk4_8_39 : x33.frozen? ⟨bv, 8, none⟩ = false := HO.out.frz 4 rfl 8
  obtain ⟨x40, hx40⟩ : ∃ y, x33.setCell ⟨bv, 3, none⟩ (.int .i64 yth) = y := ⟨_, rfl⟩
  have hO := HO.out.setCell 4 rfl 3 (.int .i64 yth)
  rw [hx40] at hO
  replace HO := Lib.hid (show Own w none0 x40 [rowRl (.slice none 0 0) [], blkR bx (.cells #[.int .i64 yqho, .int .i64 yqpr, .int .i64 yqpo, .int .i64 yqth, .int .i64 yqfl, .int .i64 yqaf] 39), resF f ⟨[], [], 0⟩, resF g2 ⟨[], [], 0⟩, blkR bv (.cells #[.int .i64 ypr, .int .i64 yhe, .int .i64 yhp, .int .i64 yth, .int .i64 0, .bool false, .bool false, .bool false, .int .i64 0] 41)] from hO)
  clear hO
  have k4_4_41 : x40.cell? ⟨bv, 4, none⟩ = some (.int .i64 0) := HO.out.cell 4 rfl 4 rfl
  have lk4_4_41 : x40.frozen? ⟨bv, 4, none⟩ = false := HO.out.frz 4 rfl 4
  have k4_5_42 : x40.cell? ⟨bv, 5, none⟩ = some (.bool false) := HO.out.cell 4 rfl 5 rfl
  have lk4_5_42 : x40.frozen? ⟨bv, 5, none⟩ = false := HO.out.frz 4 rfl 5
  have k4_6_43 : x40.cell? ⟨bv, 6, none⟩ = some (.bool false) := HO.out.cell 4 rfl 6 rfl
  have lk4_6_43 : x40.frozen? ⟨bv, 6, none⟩ = false := HO.out.frz 4 rfl 6
  have k4_7_44 : x40.cell? ⟨bv, 7, none⟩ = some (.bool false) := HO.out.cell 4 rfl 7 rfl
  have lk4_7_44 : x40.frozen? ⟨bv, 7, none⟩ = false := HO.out.frz 4 rfl 7
  have k4_8_45 : x40.cell? ⟨bv, 8, none⟩ = some (.int .i64 0) := HO.out.cell 4 rfl 8 rfl
  have lk4_8_45 : x40.frozen? ⟨bv, 8, none⟩ = false := HO.out.frz 4 rfl 8
  obtain ⟨x46, hx46⟩ : ∃ y, x40.setCell ⟨bv, 4, none⟩ (.int .i64 ytp) = y := ⟨_, rfl⟩
  have hO := HO.out.setCell 4 rfl 4 (.int .i64 ytp)
  rw [hx46] at hO
  replace HO := Lib.hid (show Own w none0 x46 [rowRl (.slice none 0 0) [], blkR bx (.cells #[.int .i64 yqho, .int .i64 yqpr, .int .i64 yqpo, .int .i64 yqth, .int .i64 yqfl, .int .i64 yqaf] 39), resF f ⟨[], [], 0⟩, resF g2 ⟨[], [], 0⟩, blkR bv (.cells #[.int .i64 ypr, .int .i64 yhe, .int .i64 yhp, .int .i64 yth, .int .i64 ytp, .bool false, .bool false, .bool false, .int .i64 0] 41)] from hO)
  clear hO
  have k4_5_47 : x46.cell? ⟨bv, 5, none⟩ = some (.bool false) := HO.out.cell 4 rfl 5 rfl
  have lk4_5_47 : x46.frozen? ⟨bv, 5, none⟩ = false := HO.out.frz 4 rfl 5
  have k4_6_48 : x46.cell? ⟨bv, 6, none⟩ = some (.bool false) := HO.out.cell 4 rfl 6 rfl
  have lk4_6_48 : x46.frozen? ⟨bv, 6, none⟩ = false := HO.out.frz 4 rfl 6
  have k4_7_49 : x46.cell? ⟨bv, 7, none⟩ = some (.bool false) := HO.out.cell 4 rfl 7 rfl
  have lk4_7_49 : x46.frozen? ⟨bv, 7, none⟩ = false := HO.out.frz 4 rfl 7
  have k4_8_50 : x46.cell? ⟨bv, 8, none⟩ = some (.int .i64 0) := HO.out.cell 4 rfl 8 rfl
  have lk4_8_50 : x46.frozen? ⟨bv, 8, none⟩ = false := HO.out.frz 4 rfl 8
  obtain ⟨x51, hx51⟩ : ∃ y, x46.setCell ⟨bv, 5, none⟩ (.bool ysy) = y := ⟨_, rfl⟩
  have hO := HO.out.setCell 4 rfl 5 (.bool ysy)
  rw [hx51] at hO
  replace HO := Lib.hid (show Own w none0 x51 [rowRl (.slice none 0 0) [], blkR bx (.cells #[.int .i64 yqho, .int .i64 yqpr, .int .i64 yqpo, .int .i64 yqth, .int .i64 yqfl, .int .i64 yqaf] 39), resF f ⟨[], [], 0⟩, resF g2 ⟨[], [], 0⟩, blkR bv (.cells #[.int .i64 ypr, .int .i64 yhe, .int .i64 yhp, .int .i64 yth, .int .i64 ytp, .bool ysy, .bool false, .bool false, .int .i64 0] 41)] from hO)
  clear hO
  have k4_6_52 : x51.cell? ⟨bv, 6, none⟩ = some (.bool false) := HO.out.cell 4 rfl 6 rfl
  have lk4_6_52 : x51.frozen? ⟨bv, 6, none⟩ = false := HO.out.frz 4 rfl 6
  have k4_7_53 : x51.cell? ⟨bv, 7, none⟩ = some (.bool false) := HO.out.cell 4 rfl 7 rfl
  have lk4_7_53 : x51.frozen? ⟨bv, 7, none⟩ = false := HO.out.frz 4 rfl 7
  have k4_8_54 : x51.cell? ⟨bv, 8, none⟩ = some (.int .i64 0) := HO.out.cell 4 rfl 8 rfl
  have lk4_8_54 : x51.frozen? ⟨bv, 8, none⟩ = false := HO.out.frz 4 rfl 8
  obtain ⟨x55, hx55⟩ : ∃ y, x51.setCell ⟨bv, 6, none⟩ (.bool yfi) = y := ⟨_, rfl⟩
  have hO := HO.out.setCell 4 rfl 6 (.bool yfi)
  rw [hx55] at hO
  replace HO := Lib.hid (show Own w none0 x55 [rowRl (.slice none 0 0) [], blkR bx (.cells #[.int .i64 yqho, .int .i64 yqpr, .int .i64 yqpo, .int .i64 yqth, .int .i64 yqfl, .int .i64 yqaf] 39), resF f ⟨[], [], 0⟩, resF g2 ⟨[], [], 0⟩, blkR bv (.cells #[.int .i64 ypr, .int .i64 yhe, .int .i64 yhp, .int .i64 yth, .int .i64 ytp, .bool ysy, .bool yfi, .bool false, .int .i64 0] 41)] from hO)
  clear hO
  have k4_7_56 : x55.cell? ⟨bv, 7, none⟩ = some (.bool false) := HO.out.cell 4 rfl 7 rfl
  have lk4_7_56 : x55.frozen? ⟨bv, 7, none⟩ = false := HO.out.frz 4 rfl 7
  have k4_8_57 : x55.cell? ⟨bv, 8, none⟩ = some (.int .i64 0) := HO.out.cell 4 rfl 8 rfl
  have lk4_8_57 : x55.frozen? ⟨bv, 8, none⟩ = false := HO.out.frz 4 rfl 8
  obtain ⟨x58, hx58⟩ : ∃ y, x55.setCell ⟨bv, 7, none⟩ (.bool yrs) = y := ⟨_, rfl⟩
  have hO := HO.out.setCell 4 rfl 7 (.bool yrs)
  rw [hx58] at hO
  replace HO := Lib.hid (show Own w none0 x58 [rowRl (.slice none 0 0) [], blkR bx (.cells #[.int .i64 yqho, .int .i64 yqpr, .int .i64 yqpo, .int .i64 yqth, .int .i64 yqfl, .int .i64 yqaf] 39), resF f ⟨[], [], 0⟩, resF g2 ⟨[], [], 0⟩, blkR bv (.cells #[.int .i64 ypr, .int .i64 yhe, .int .i64 yhp, .int .i64 yth, .int .i64 ytp, .bool ysy, .bool yfi, .bool yrs, .int .i64 0] 41)] from hO)
  clear hO
  have k4_8_59 : x58.cell? ⟨bv, 8, none⟩ = some (.int .i64 0) := HO.out.cell 4 rfl 8 rfl
  have lk4_8_59 : x58.frozen? ⟨bv, 8, none⟩ = false := HO.out.frz 4 rfl 8
  obtain ⟨x60, hx60⟩ : ∃ y, x58.setCell ⟨bv, 8, none⟩ (.int .i64 ysq) = y := ⟨_, rfl⟩
  have hO := HO.out.setCell 4 rfl 8 (.int .i64 ysq)
  rw [hx60] at hO
  replace HO := Lib.hid (show Own w none0 x60 [rowRl (.slice none 0 0) [], blkR bx (.cells #[.int .i64 yqho, .int .i64 yqpr, .int .i64 yqpo, .int .i64 yqth, .int .i64 yqfl, .int .i64 yqaf] 39), resF f ⟨[], [], 0⟩, resF g2 ⟨[], [], 0⟩, blkR bv (.cells #[.int .i64 ypr, .int .i64 yhe, .int .i64 yhp, .int .i64 yth, .int .i64 ytp, .bool ysy, .bool yfi, .bool yrs, .int .i64 ysq] 41)] from hO)
  clear hO
  have y4_5 : x60.frozen? ⟨bv, 5, none⟩ = false := HO.out.frz 4 rfl 5
  have z4_5 : x60.cell? ⟨bv, 5, none⟩ = some (.bool ysy) := HO.out.cell 4 rfl 5 rfl
  obtain ⟨x61, hx61⟩ : ∃ y, x60.setCell ⟨bv, 5, none⟩ (.bool false) = y := ⟨_, rfl⟩
  have hO := HO.out.setCell 4 rfl 5 (.bool false)
  rw [hx61] at hO
  replace HO := Lib.hid (show Own w none0 x61 [rowRl (.slice none 0 0) [], blkR bx (.cells #[.int .i64 yqho, .int .i64 yqpr, .int .i64 yqpo, .int .i64 yqth, .int .i64 yqfl, .int .i64 yqaf] 39), resF f ⟨[], [], 0⟩, resF g2 ⟨[], [], 0⟩, blkR bv (.cells #[.int .i64 ypr, .int .i64 yhe, .int .i64 yhp, .int .i64 yth, .int .i64 ytp, .bool false, .bool yfi, .bool yrs, .int .i64 ysq] 41)] from hO)
  clear hO
  have y4_6 : x61.frozen? ⟨bv, 6, none⟩ = false := HO.out.frz 4 rfl 6
  have z4_6 : x61.cell? ⟨bv, 6, none⟩ = some (.bool yfi) := HO.out.cell 4 rfl 6 rfl
  obtain ⟨x62, hx62⟩ : ∃ y, x61.setCell ⟨bv, 6, none⟩ (.bool false) = y := ⟨_, rfl⟩
  have hO := HO.out.setCell 4 rfl 6 (.bool false)
  rw [hx62] at hO
  replace HO := Lib.hid (show Own w none0 x62 [rowRl (.slice none 0 0) [], blkR bx (.cells #[.int .i64 yqho, .int .i64 yqpr, .int .i64 yqpo, .int .i64 yqth, .int .i64 yqfl, .int .i64 yqaf] 39), resF f ⟨[], [], 0⟩, resF g2 ⟨[], [], 0⟩, blkR bv (.cells #[.int .i64 ypr, .int .i64 yhe, .int .i64 yhp, .int .i64 yth, .int .i64 ytp, .bool false, .bool false, .bool yrs, .int .i64 ysq] 41)] from hO)
  clear hO
  have y4_7 : x62.frozen? ⟨bv, 7, none⟩ = false := HO.out.frz 4 rfl 7
  have z4_7 : x62.cell? ⟨bv, 7, none⟩ = some (.bool yrs) := HO.out.cell 4 rfl 7 rfl
  obtain ⟨x63, hx63⟩ : ∃ y, x62.setCell ⟨bv, 7, none⟩ (.bool false) = y := ⟨_, rfl⟩
  have hO := HO.out.setCell 4 rfl 7 (.bool false)
  rw [hx63] at hO
  replace HO := Lib.hid (show Own w none0 x63 [rowRl (.slice none 0 0) [], blkR bx (.cells #[.int .i64 yqho, .int .i64 yqpr, .int .i64 yqpo, .int .i64 yqth, .int .i64 yqfl, .int .i64 yqaf] 39), resF f ⟨[], [], 0⟩, resF g2 ⟨[], [], 0⟩, blkR bv (.cells #[.int .i64 ypr, .int .i64 yhe, .int .i64 yhp, .int .i64 yth, .int .i64 ytp, .bool false, .bool false, .bool false, .int .i64 ysq] 41)] from hO)
  clear hO
  have z4_0 : x63.cell? ⟨bv, 0, none⟩ = some (.int .i64 ypr) := HO.out.cell 4 rfl 0 rfl
  have z4_1 : x63.cell? ⟨bv, 1, none⟩ = some (.int .i64 yhe) := HO.out.cell 4 rfl 1 rfl
  have z4_2 : x63.cell? ⟨bv, 2, none⟩ = some (.int .i64 yhp) := HO.out.cell 4 rfl 2 rfl
  have z4_3 : x63.cell? ⟨bv, 3, none⟩ = some (.int .i64 yth) := HO.out.cell 4 rfl 3 rfl
  have z4_4 : x63.cell? ⟨bv, 4, none⟩ = some (.int .i64 ytp) := HO.out.cell 4 rfl 4 rfl
  have z4_5t : x63.cell? ⟨bv, 5, none⟩ = some (.bool false) := HO.out.cell 4 rfl 5 rfl
  have z4_6t : x63.cell? ⟨bv, 6, none⟩ = some (.bool false) := HO.out.cell 4 rfl 6 rfl
  have z4_7t : x63.cell? ⟨bv, 7, none⟩ = some (.bool false) := HO.out.cell 4 rfl 7 rfl
  have z4_8 : x63.cell? ⟨bv, 8, none⟩ = some (.int .i64 ysq) := HO.out.cell 4 rfl 8 rfl
  have HVY := Lib.hid (show validF ⟨ypr, yhe, yhp, yth, ytp, false, false, false, ysq⟩ = true by rw [← HVYy.out]; exact valid_flags rfl)
  have HVR := Lib.hid (show validF ⟨ypr, yhe, yhp, yth, ytp, false, false, true, ysq⟩ = true by rw [← HVYy.out]; exact valid_flags rfl)
  clear HVYy
  obtain ⟨x64, hx64⟩ : ∃ y, x63.alloc (.cells #[.int .i64 0, .int .i64 0, .int .i64 0, .int .i64 0, .int .i64 0, .bool false, .bool false, .bool false, .int .i64 0] 41) = y := ⟨_, rfl⟩
  obtain ⟨br, hbr⟩ : ∃ y, x63.heap.size = y := ⟨_, rfl⟩
  have hO := HO.out.alloc (.cells #[.int .i64 0, .int .i64 0, .int .i64 0, .int .i64 0, .int .i64 0, .bool false, .bool false, .bool false, .int .i64 0] 41)
  rw [hx64, hbr] at hO
  replace HO := Lib.hid (show Own w none0 x64 [rowRl (.slice none 0 0) [], blkR bx (.cells #[.int .i64 yqho, .int .i64 yqpr, .int .i64 yqpo, .int .i64 yqth, .int .i64 yqfl, .int .i64 yqaf] 39), resF f ⟨[], [], 0⟩, resF g2 ⟨[], [], 0⟩, blkR bv (.cells #[.int .i64 ypr, .int .i64 yhe, .int .i64 yhp, .int .i64 yth, .int .i64 ytp, .bool false, .bool false, .bool false, .int .i64 ysq] 41), blkR br (.cells #[.int .i64 0, .int .i64 0, .int .i64 0, .int .i64 0, .int .i64 0, .bool false, .bool false, .bool false, .int .i64 0] 41)] from hO)
  clear hO
  have k5_0_65 : x64.cell? ⟨br, 0, none⟩ = some (.int .i64 0) := HO.out.cell 5 rfl 0 rfl
  have lk5_0_65 : x64.frozen? ⟨br, 0, none⟩ = false := HO.out.frz 5 rfl 0
  have k5_1_66 : x64.cell? ⟨br, 1, none⟩ = some (.int .i64 0) := HO.out.cell 5 rfl 1 rfl
  have lk5_1_66 : x64.frozen? ⟨br, 1, none⟩ = false := HO.out.frz 5 rfl 1
  have k5_2_67 : x64.cell? ⟨br, 2, none⟩ = some (.int .i64 0) := HO.out.cell 5 rfl 2 rfl
  have lk5_2_67 : x64.frozen? ⟨br, 2, none⟩ = false := HO.out.frz 5 rfl 2
  have k5_3_68 : x64.cell? ⟨br, 3, none⟩ = some (.int .i64 0) := HO.out.cell 5 rfl 3 rfl
  have lk5_3_68 : x64.frozen? ⟨br, 3, none⟩ = false := HO.out.frz 5 rfl 3
  have k5_4_69 : x64.cell? ⟨br, 4, none⟩ = some (.int .i64 0) := HO.out.cell 5 rfl 4 rfl
  have lk5_4_69 : x64.frozen? ⟨br, 4, none⟩ = false := HO.out.frz 5 rfl 4
  have k5_5_70 : x64.cell? ⟨br, 5, none⟩ = some (.bool false) := HO.out.cell 5 rfl 5 rfl
  have lk5_5_70 : x64.frozen? ⟨br, 5, none⟩ = false := HO.out.frz 5 rfl 5
  have k5_6_71 : x64.cell? ⟨br, 6, none⟩ = some (.bool false) := HO.out.cell 5 rfl 6 rfl
  have lk5_6_71 : x64.frozen? ⟨br, 6, none⟩ = false := HO.out.frz 5 rfl 6
  have k5_7_72 : x64.cell? ⟨br, 7, none⟩ = some (.bool false) := HO.out.cell 5 rfl 7 rfl
  have lk5_7_72 : x64.frozen? ⟨br, 7, none⟩ = false := HO.out.frz 5 rfl 7
  have k5_8_73 : x64.cell? ⟨br, 8, none⟩ = some (.int .i64 0) := HO.out.cell 5 rfl 8 rfl
  have lk5_8_73 : x64.frozen? ⟨br, 8, none⟩ = false := HO.out.frz 5 rfl 8
  obtain ⟨x74, hx74⟩ : ∃ y, x64.setCell ⟨br, 0, none⟩ (.int .i64 ypr) = y := ⟨_, rfl⟩
  have hO := HO.out.setCell 5 rfl 0 (.int .i64 ypr)
  rw [hx74] at hO
  replace HO := Lib.hid (show Own w none0 x74 [rowRl (.slice none 0 0) [], blkR bx (.cells #[.int .i64 yqho, .int .i64 yqpr, .int .i64 yqpo, .int .i64 yqth, .int .i64 yqfl, .int .i64 yqaf] 39), resF f ⟨[], [], 0⟩, resF g2 ⟨[], [], 0⟩, blkR bv (.cells #[.int .i64 ypr, .int .i64 yhe, .int .i64 yhp, .int .i64 yth, .int .i64 ytp, .bool false, .bool false, .bool false, .int .i64 ysq] 41), blkR br (.cells #[.int .i64 ypr, .int .i64 0, .int .i64 0, .int .i64 0, .int .i64 0, .bool false, .bool false, .bool false, .int .i64 0] 41)] from hO)
  clear hO
  have k5_1_75 : x74.cell? ⟨br, 1, none⟩ = some (.int .i64 0) := HO.out.cell 5 rfl 1 rfl
  have lk5_1_75 : x74.frozen? ⟨br, 1, none⟩ = false := HO.out.frz 5 rfl 1
  have k5_2_76 : x74.cell? ⟨br, 2, none⟩ = some (.int .i64 0) := HO.out.cell 5 rfl 2 rfl
  have lk5_2_76 : x74.frozen? ⟨br, 2, none⟩ = false := HO.out.frz 5 rfl 2
  have k5_3_77 : x74.cell? ⟨br, 3, none⟩ = some (.int .i64 0) := HO.out.cell 5 rfl 3 rfl
  have lk5_3_77 : x74.frozen? ⟨br, 3, none⟩ = false := HO.out.frz 5 rfl 3
  have k5_4_78 : x74.cell? ⟨br, 4, none⟩ = some (.int .i64 0) := HO.out.cell 5 rfl 4 rfl
  have lk5_4_78 : x74.frozen? ⟨br, 4, none⟩ = false := HO.out.frz 5 rfl 4
  have k5_5_79 : x74.cell? ⟨br, 5, none⟩ = some (.bool false) := HO.out.cell 5 rfl 5 rfl
  have lk5_5_79 : x74.frozen? ⟨br, 5, none⟩ = false := HO.out.frz 5 rfl 5
  have k5_6_80 : x74.cell? ⟨br, 6, none⟩ = some (.bool false) := HO.out.cell 5 rfl 6 rfl
  have lk5_6_80 : x74.frozen? ⟨br, 6, none⟩ = false := HO.out.frz 5 rfl 6
  have k5_7_81 : x74.cell? ⟨br, 7, none⟩ = some (.bool false) := HO.out.cell 5 rfl 7 rfl
  have lk5_7_81 : x74.frozen? ⟨br, 7, none⟩ = false := HO.out.frz 5 rfl 7
  have k5_8_82 : x74.cell? ⟨br, 8, none⟩ = some (.int .i64 0) := HO.out.cell 5 rfl 8 rfl
  have lk5_8_82 : x74.frozen? ⟨br, 8, none⟩ = false := HO.out.frz 5 rfl 8
  obtain ⟨x83, hx83⟩ : ∃ y, x74.setCell ⟨br, 1, none⟩ (.int .i64 yhe) = y := ⟨_, rfl⟩
  have hO := HO.out.setCell 5 rfl 1 (.int .i64 yhe)
  rw [hx83] at hO
  replace HO := Lib.hid (show Own w none0 x83 [rowRl (.slice none 0 0) [], blkR bx (.cells #[.int .i64 yqho, .int .i64 yqpr, .int .i64 yqpo, .int .i64 yqth, .int .i64 yqfl, .int .i64 yqaf] 39), resF f ⟨[], [], 0⟩, resF g2 ⟨[], [], 0⟩, blkR bv (.cells #[.int .i64 ypr, .int .i64 yhe, .int .i64 yhp, .int .i64 yth, .int .i64 ytp, .bool false, .bool false, .bool false, .int .i64 ysq] 41), blkR br (.cells #[.int .i64 ypr, .int .i64 yhe, .int .i64 0, .int .i64 0, .int .i64 0, .bool false, .bool false, .bool false, .int .i64 0] 41)] from hO)
  clear hO
  have k5_2_84 : x83.cell? ⟨br, 2, none⟩ = some (.int .i64 0) := HO.out.cell 5 rfl 2 rfl
  have lk5_2_84 : x83.frozen? ⟨br, 2, none⟩ = false := HO.out.frz 5 rfl 2
  have k5_3_85 : x83.cell? ⟨br, 3, none⟩ = some (.int .i64 0) := HO.out.cell 5 rfl 3 rfl
  have lk5_3_85 : x83.frozen? ⟨br, 3, none⟩ = false := HO.out.frz 5 rfl 3
  have k5_4_86 : x83.cell? ⟨br, 4, none⟩ = some (.int .i64 0) := HO.out.cell 5 rfl 4 rfl
  have lk5_4_86 : x83.frozen? ⟨br, 4, none⟩ = false := HO.out.frz 5 rfl 4
  have k5_5_87 : x83.cell? ⟨br, 5, none⟩ = some (.bool false) := HO.out.cell 5 rfl 5 rfl
  have lk5_5_87 : x83.frozen? ⟨br, 5, none⟩ = false := HO.out.frz 5 rfl 5
  have k5_6_88 : x83.cell? ⟨br, 6, none⟩ = some (.bool false) := HO.out.cell 5 rfl 6 rfl
  have lk5_6_88 : x83.frozen? ⟨br, 6, none⟩ = false := HO.out.frz 5 rfl 6
  have k5_7_89 : x83.cell? ⟨br, 7, none⟩ = some (.bool false) := HO.out.cell 5 rfl 7 rfl
  have lk5_7_89 : x83.frozen? ⟨br, 7, none⟩ = false := HO.out.frz 5 rfl 7
  have k5_8_90 : x83.cell? ⟨br, 8, none⟩ = some (.int .i64 0) := HO.out.cell 5 rfl 8 rfl
  have lk5_8_90 : x83.frozen? ⟨br, 8, none⟩ = false := HO.out.frz 5 rfl 8
  obtain ⟨x91, hx91⟩ : ∃ y, x83.setCell ⟨br, 2, none⟩ (.int .i64 yhp) = y := ⟨_, rfl⟩
  have hO := HO.out.setCell 5 rfl 2 (.int .i64 yhp)
  rw [hx91] at hO
  replace HO := Lib.hid (show Own w none0 x91 [rowRl (.slice none 0 0) [], blkR bx (.cells #[.int .i64 yqho, .int .i64 yqpr, .int .i64 yqpo, .int .i64 yqth, .int .i64 yqfl, .int .i64 yqaf] 39), resF f ⟨[], [], 0⟩, resF g2 ⟨[], [], 0⟩, blkR bv (.cells #[.int .i64 ypr, .int .i64 yhe, .int .i64 yhp, .int .i64 yth, .int .i64 ytp, .bool false, .bool false, .bool false, .int .i64 ysq] 41), blkR br (.cells #[.int .i64 ypr, .int .i64 yhe, .int .i64 yhp, .int .i64 0, .int .i64 0, .bool false, .bool false, .bool false, .int .i64 0] 41)] from hO)
  clear hO
  have k5_3_92 : x91.cell? ⟨br, 3, none⟩ = some (.int .i64 0) := HO.out.cell 5 rfl 3 rfl
  have lk5_3_92 : x91.frozen? ⟨br, 3, none⟩ = false := HO.out.frz 5 rfl 3
  have k5_4_93 : x91.cell? ⟨br, 4, none⟩ = some (.int .i64 0) := HO.out.cell 5 rfl 4 rfl
  have lk5_4_93 : x91.frozen? ⟨br, 4, none⟩ = false := HO.out.frz 5 rfl 4
  have k5_5_94 : x91.cell? ⟨br, 5, none⟩ = some (.bool false) := HO.out.cell 5 rfl 5 rfl
  have lk5_5_94 : x91.frozen? ⟨br, 5, none⟩ = false := HO.out.frz 5 rfl 5
  have k5_6_95 : x91.cell? ⟨br, 6, none⟩ = some (.bool false) := HO.out.cell 5 rfl 6 rfl
  have lk5_6_95 : x91.frozen? ⟨br, 6, none⟩ = false := HO.out.frz 5 rfl 6
  have k5_7_96 : x91.cell? ⟨br, 7, none⟩ = some (.bool false) := HO.out.cell 5 rfl 7 rfl
  have lk5_7_96 : x91.frozen? ⟨br, 7, none⟩ = false := HO.out.frz 5 rfl 7
  have k5_8_97 : x91.cell? ⟨br, 8, none⟩ = some (.int .i64 0) := HO.out.cell 5 rfl 8 rfl
  have lk5_8_97 : x91.frozen? ⟨br, 8, none⟩ = false := HO.out.frz 5 rfl 8
  obtain ⟨x98, hx98⟩ : ∃ y, x91.setCell ⟨br, 3, none⟩ (.int .i64 yth) = y := ⟨_, rfl⟩
  have hO := HO.out.setCell 5 rfl 3 (.int .i64 yth)
  rw [hx98] at hO
  replace HO := Lib.hid (show Own w none0 x98 [rowRl (.slice none 0 0) [], blkR bx (.cells #[.int .i64 yqho, .int .i64 yqpr, .int .i64 yqpo, .int .i64 yqth, .int .i64 yqfl, .int .i64 yqaf] 39), resF f ⟨[], [], 0⟩, resF g2 ⟨[], [], 0⟩, blkR bv (.cells #[.int .i64 ypr, .int .i64 yhe, .int .i64 yhp, .int .i64 yth, .int .i64 ytp, .bool false, .bool false, .bool false, .int .i64 ysq] 41), blkR br (.cells #[.int .i64 ypr, .int .i64 yhe, .int .i64 yhp, .int .i64 yth, .int .i64 0, .bool false, .bool false, .bool false, .int .i64 0] 41)] from hO)
  clear hO
  have k5_4_99 : x98.cell? ⟨br, 4, none⟩ = some (.int .i64 0) := HO.out.cell 5 rfl 4 rfl
  have lk5_4_99 : x98.frozen? ⟨br, 4, none⟩ = false := HO.out.frz 5 rfl 4
  have k5_5_100 : x98.cell? ⟨br, 5, none⟩ = some (.bool false) := HO.out.cell 5 rfl 5 rfl
  have lk5_5_100 : x98.frozen? ⟨br, 5, none⟩ = false := HO.out.frz 5 rfl 5
  have k5_6_101 : x98.cell? ⟨br, 6, none⟩ = some (.bool false) := HO.out.cell 5 rfl 6 rfl
  have lk5_6_101 : x98.frozen? ⟨br, 6, none⟩ = false := HO.out.frz 5 rfl 6
  have k5_7_102 : x98.cell? ⟨br, 7, none⟩ = some (.bool false) := HO.out.cell 5 rfl 7 rfl
  have lk5_7_102 : x98.frozen? ⟨br, 7, none⟩ = false := HO.out.frz 5 rfl 7
  have k5_8_103 : x98.cell? ⟨br, 8, none⟩ = some (.int .i64 0) := HO.out.cell 5 rfl 8 rfl
  have lk5_8_103 : x98.frozen? ⟨br, 8, none⟩ = false := HO.out.frz 5 rfl 8
  obtain ⟨x104, hx104⟩ : ∃ y, x98.setCell ⟨br, 4, none⟩ (.int .i64 ytp) = y := ⟨_, rfl⟩
  have hO := HO.out.setCell 5 rfl 4 (.int .i64 ytp)
  rw [hx104] at hO
  replace HO := Lib.hid (show Own w none0 x104 [rowRl (.slice none 0 0) [], blkR bx (.cells #[.int .i64 yqho, .int .i64 yqpr, .int .i64 yqpo, .int .i64 yqth, .int .i64 yqfl, .int .i64 yqaf] 39), resF f ⟨[], [], 0⟩, resF g2 ⟨[], [], 0⟩, blkR bv (.cells #[.int .i64 ypr, .int .i64 yhe, .int .i64 yhp, .int .i64 yth, .int .i64 ytp, .bool false, .bool false, .bool false, .int .i64 ysq] 41), blkR br (.cells #[.int .i64 ypr, .int .i64 yhe, .int .i64 yhp, .int .i64 yth, .int .i64 ytp, .bool false, .bool false, .bool false, .int .i64 0] 41)] from hO)
  clear hO
  have k5_5_105 : x104.cell? ⟨br, 5, none⟩ = some (.bool false) := HO.out.cell 5 rfl 5 rfl
  have lk5_5_105 : x104.frozen? ⟨br, 5, none⟩ = false := HO.out.frz 5 rfl 5
  have k5_6_106 : x104.cell? ⟨br, 6, none⟩ = some (.bool false) := HO.out.cell 5 rfl 6 rfl
  have lk5_6_106 : x104.frozen? ⟨br, 6, none⟩ = false := HO.out.frz 5 rfl 6
  have k5_7_107 : x104.cell? ⟨br, 7, none⟩ = some (.bool false) := HO.out.cell 5 rfl 7 rfl
  have lk5_7_107 : x104.frozen? ⟨br, 7, none⟩ = false := HO.out.frz 5 rfl 7
  have k5_8_108 : x104.cell? ⟨br, 8, none⟩ = some (.int .i64 0) := HO.out.cell 5 rfl 8 rfl
  have lk5_8_108 : x104.frozen? ⟨br, 8, none⟩ = false := HO.out.frz 5 rfl 8
  obtain ⟨x109, hx109⟩ : ∃ y, x104.setCell ⟨br, 5, none⟩ (.bool false) = y := ⟨_, rfl⟩
  have hO := HO.out.setCell 5 rfl 5 (.bool false)
  rw [hx109] at hO
  replace HO := Lib.hid (show Own w none0 x109 [rowRl (.slice none 0 0) [], blkR bx (.cells #[.int .i64 yqho, .int .i64 yqpr, .int .i64 yqpo, .int .i64 yqth, .int .i64 yqfl, .int .i64 yqaf] 39), resF f ⟨[], [], 0⟩, resF g2 ⟨[], [], 0⟩, blkR bv (.cells #[.int .i64 ypr, .int .i64 yhe, .int .i64 yhp, .int .i64 yth, .int .i64 ytp, .bool false, .bool false, .bool false, .int .i64 ysq] 41), blkR br (.cells #[.int .i64 ypr, .int .i64 yhe, .int .i64 yhp, .int .i64 yth, .int .i64 ytp, .bool false, .bool false, .bool false, .int .i64 0] 41)] from hO)
  clear hO
  have k5_6_110 : x109.cell? ⟨br, 6, none⟩ = some (.bool false) := HO.out.cell 5 rfl 6 rfl
  have lk5_6_110 : x109.frozen? ⟨br, 6, none⟩ = false := HO.out.frz 5 rfl 6
  have k5_7_111 : x109.cell? ⟨br, 7, none⟩ = some (.bool false) := HO.out.cell 5 rfl 7 rfl
  have lk5_7_111 : x109.frozen? ⟨br, 7, none⟩ = false := HO.out.frz 5 rfl 7
  have k5_8_112 : x109.cell? ⟨br, 8, none⟩ = some (.int .i64 0) := HO.out.cell 5 rfl 8 rfl
  have lk5_8_112 : x109.frozen? ⟨br, 8, none⟩ = false := HO.out.frz 5 rfl 8
  obtain ⟨x113, hx113⟩ : ∃ y, x109.setCell ⟨br, 6, none⟩ (.bool false) = y := ⟨_, rfl⟩
  have hO := HO.out.setCell 5 rfl 6 (.bool false)
  rw [hx113] at hO
  replace HO := Lib.hid (show Own w none0 x113 [rowRl (.slice none 0 0) [], blkR bx (.cells #[.int .i64 yqho, .int .i64 yqpr, .int .i64 yqpo, .int .i64 yqth, .int .i64 yqfl, .int .i64 yqaf] 39), resF f ⟨[], [], 0⟩, resF g2 ⟨[], [], 0⟩, blkR bv (.cells #[.int .i64 ypr, .int .i64 yhe, .int .i64 yhp, .int .i64 yth, .int .i64 ytp, .bool false, .bool false, .bool false, .int .i64 ysq] 41), blkR br (.cells #[.int .i64 ypr, .int .i64 yhe, .int .i64 yhp, .int .i64 yth, .int .i64 ytp, .bool false, .bool false, .bool false, .int .i64 0] 41)] from hO)
  clear hO
  have k5_7_114 : x113.cell? ⟨br, 7, none⟩ = some (.bool false) := HO.out.cell 5 rfl 7 rfl
  have lk5_7_114 : x113.frozen? ⟨br, 7, none⟩ = false := HO.out.frz 5 rfl 7
  have k5_8_115 : x113.cell? ⟨br, 8, none⟩ = some (.int .i64 0) := HO.out.cell 5 rfl 8 rfl
  have lk5_8_115 : x113.frozen? ⟨br, 8, none⟩ = false := HO.out.frz 5 rfl 8
  obtain ⟨x116, hx116⟩ : ∃ y, x113.setCell ⟨br, 7, none⟩ (.bool false) = y := ⟨_, rfl⟩
  have hO := HO.out.setCell 5 rfl 7 (.bool false)
  rw [hx116] at hO
  replace HO := Lib.hid (show Own w none0 x116 [rowRl (.slice none 0 0) [], blkR bx (.cells #[.int .i64 yqho, .int .i64 yqpr, .int .i64 yqpo, .int .i64 yqth, .int .i64 yqfl, .int .i64 yqaf] 39), resF f ⟨[], [], 0⟩, resF g2 ⟨[], [], 0⟩, blkR bv (.cells #[.int .i64 ypr, .int .i64 yhe, .int .i64 yhp, .int .i64 yth, .int .i64 ytp, .bool false, .bool false, .bool false, .int .i64 ysq] 41), blkR br (.cells #[.int .i64 ypr, .int .i64 yhe, .int .i64 yhp, .int .i64 yth, .int .i64 ytp, .bool false, .bool false, .bool false, .int .i64 0] 41)] from hO)
  clear hO
  have k5_8_117 : x116.cell? ⟨br, 8, none⟩ = some (.int .i64 0) := HO.out.cell 5 rfl 8 rfl
  have lk5_8_117 : x116.frozen? ⟨br, 8, none⟩ = false := HO.out.frz 5 rfl 8
  obtain ⟨x118, hx118⟩ : ∃ y, x116.setCell ⟨br, 8, none⟩ (.int .i64 ysq) = y := ⟨_, rfl⟩
  have hO := HO.out.setCell 5 rfl 8 (.int .i64 ysq)
  rw [hx118] at hO
  replace HO := Lib.hid (show Own w none0 x118 [rowRl (.slice none 0 0) [], blkR bx (.cells #[.int .i64 yqho, .int .i64 yqpr, .int .i64 yqpo, .int .i64 yqth, .int .i64 yqfl, .int .i64 yqaf] 39), resF f ⟨[], [], 0⟩, resF g2 ⟨[], [], 0⟩, blkR bv (.cells #[.int .i64 ypr, .int .i64 yhe, .int .i64 yhp, .int .i64 yth, .int .i64 ytp, .bool false, .bool false, .bool false, .int .i64 ysq] 41), blkR br (.cells #[.int .i64 ypr, .int .i64 yhe, .int .i64 yhp, .int .i64 yth, .int .i64 ytp, .bool false, .bool false, .bool false, .int .i64 ysq] 41)] from hO)
  clear hO
  have y5_7 : x118.frozen? ⟨br, 7, none⟩ = false := HO.out.frz 5 rfl 7
  have z5_7 : x118.cell? ⟨br, 7, none⟩ = some (.bool false) := HO.out.cell 5 rfl 7 rfl
  obtain ⟨x119, hx119⟩ : ∃ y, x118.setCell ⟨br, 7, none⟩ (.bool true) = y := ⟨_, rfl⟩
  have hO := HO.out.setCell 5 rfl 7 (.bool true)
  rw [hx119] at hO
  replace HO := Lib.hid (show Own w none0 x119 [rowRl (.slice none 0 0) [], blkR bx (.cells #[.int .i64 yqho, .int .i64 yqpr, .int .i64 yqpo, .int .i64 yqth, .int .i64 yqfl, .int .i64 yqaf] 39), resF f ⟨[], [], 0⟩, resF g2 ⟨[], [], 0⟩, blkR bv (.cells #[.int .i64 ypr, .int .i64 yhe, .int .i64 yhp, .int .i64 yth, .int .i64 ytp, .bool false, .bool false, .bool false, .int .i64 ysq] 41), blkR br (.cells #[.int .i64 ypr, .int .i64 yhe, .int .i64 yhp, .int .i64 yth, .int .i64 ytp, .bool false, .bool false, .bool true, .int .i64 ysq] 41)] from hO)
  clear hO
  have HF0 := Lib.hid (fw_start (rl := []) (by decide))
  have z5_0 : x119.cell? ⟨br, 0, none⟩ = some (.int .i64 ypr) := HO.out.cell 5 rfl 0 rfl
  have z5_1 : x119.cell? ⟨br, 1, none⟩ = some (.int .i64 yhe) := HO.out.cell 5 rfl 1 rfl
  have z5_2 : x119.cell? ⟨br, 2, none⟩ = some (.int .i64 yhp) := HO.out.cell 5 rfl 2 rfl
  have z5_3 : x119.cell? ⟨br, 3, none⟩ = some (.int .i64 yth) := HO.out.cell 5 rfl 3 rfl
  have z5_4 : x119.cell? ⟨br, 4, none⟩ = some (.int .i64 ytp) := HO.out.cell 5 rfl 4 rfl
  have z5_5 : x119.cell? ⟨br, 5, none⟩ = some (.bool false) := HO.out.cell 5 rfl 5 rfl
  have z5_6 : x119.cell? ⟨br, 6, none⟩ = some (.bool false) := HO.out.cell 5 rfl 6 rfl
  have z5_7t : x119.cell? ⟨br, 7, none⟩ = some (.bool true) := HO.out.cell 5 rfl 7 rfl
  have z5_8 : x119.cell? ⟨br, 8, none⟩ = some (.int .i64 ysq) := HO.out.cell 5 rfl 8 rfl
  go_wp2_with fail
  refine ((did_f (T := 0) (N := 0) HO.out 2 rfl (ig_rst HVR.out rfl) HF0.out (by simp) (by omega) (by omega) (by unfold timeB; omega) (by unfold i64B; omega) : Calls _ _ _ _ (OPost _ _ _ (.int .i64 1) _))).mono ?_
  rintro e x120 ⟨rfl, hO, -⟩
  replace HO := Lib.hid (show Own w none0 x120 [rowRl (.slice none 0 0) [], blkR bx (.cells #[.int .i64 yqho, .int .i64 yqpr, .int .i64 yqpo, .int .i64 yqth, .int .i64 yqfl, .int .i64 yqaf] 39), resF f ⟨[], [], 0⟩, resF g2 ⟨[], [], 0⟩, blkR bv (.cells #[.int .i64 ypr, .int .i64 yhe, .int .i64 yhp, .int .i64 yth, .int .i64 ytp, .bool false, .bool false, .bool false, .int .i64 ysq] 41), blkR br (.cells #[.int .i64 ypr, .int .i64 yhe, .int .i64 yhp, .int .i64 yth, .int .i64 ytp, .bool false, .bool false, .bool true, .int .i64 ysq] 41)] from hO)
  clear hO
  clear z1_0 z1_1 z1_2 z1_3 z1_4 z1_5 hx6 hbv k4_0_7 lk4_0_7 k4_1_8 lk4_1_8 k4_2_9 lk4_2_9 k4_3_10 lk4_3_10 k4_4_11 lk4_4_11 k4_5_12 lk4_5_12 k4_6_13 lk4_6_13 k4_7_14 lk4_7_14 k4_8_15 lk4_8_15 hx16 k4_1_17 lk4_1_17 k4_2_18 lk4_2_18 k4_3_19 lk4_3_19 k4_4_20 lk4_4_20 k4_5_21 lk4_5_21 k4_6_22 lk4_6_22 k4_7_23 lk4_7_23 k4_8_24 lk4_8_24 hx25 k4_2_26 lk4_2_26 k4_3_27 lk4_3_27 k4_4_28 lk4_4_28 k4_5_29 lk4_5_29 k4_6_30 lk4_6_30 k4_7_31 lk4_7_31 k4_8_32 lk4_8_32 hx33 k4_3_34 lk4_3_34 k4_4_35 lk4_4_35 k4_5_36 lk4_5_36 k4_6_37 lk4_6_37 k4_7_38 lk4_7_38 k4_8_39 lk4_8_39 hx40 k4_4_41 lk4_4_41 k4_5_42 lk4_5_42 k4_6_43 lk4_6_43 k4_7_44 lk4_7_44 k4_8_45 lk4_8_45 hx46 k4_5_47 lk4_5_47 k4_6_48 lk4_6_48 k4_7_49 lk4_7_49 k4_8_50 lk4_8_50 hx51 k4_6_52 lk4_6_52 k4_7_53 lk4_7_53 k4_8_54 lk4_8_54 hx55 k4_7_56 lk4_7_56 k4_8_57 lk4_8_57 hx58 k4_8_59 lk4_8_59 hx60 y4_5 z4_5 hx61 y4_6 z4_6 hx62 y4_7 z4_7 hx63 z4_0 z4_1 z4_2 z4_3 z4_4 z4_5t z4_6t z4_7t z4_8 hx64 hbr k5_0_65 lk5_0_65 k5_1_66 lk5_1_66 k5_2_67 lk5_2_67 k5_3_68 lk5_3_68 k5_4_69 lk5_4_69 k5_5_70 lk5_5_70 k5_6_71 lk5_6_71 k5_7_72 lk5_7_72 k5_8_73 lk5_8_73 hx74 k5_1_75 lk5_1_75 k5_2_76 lk5_2_76 k5_3_77 lk5_3_77 k5_4_78 lk5_4_78 k5_5_79 lk5_5_79 k5_6_80 lk5_6_80 k5_7_81 lk5_7_81 k5_8_82 lk5_8_82 hx83 k5_2_84 lk5_2_84 k5_3_85 lk5_3_85 k5_4_86 lk5_4_86 k5_5_87 lk5_5_87 k5_6_88 lk5_6_88 k5_7_89 lk5_7_89 k5_8_90 lk5_8_90 hx91 k5_3_92 lk5_3_92 k5_4_93 lk5_4_93 k5_5_94 lk5_5_94 k5_6_95 lk5_6_95 k5_7_96 lk5_7_96 k5_8_97 lk5_8_97 hx98 k5_4_99 lk5_4_99 k5_5_100 lk5_5_100 k5_6_101 lk5_6_101 k5_7_102 lk5_7_102 k5_8_103 lk5_8_103 hx104 k5_5_105 lk5_5_105 k5_6_106 lk5_6_106 k5_7_107 lk5_7_107 k5_8_108 lk5_8_108 hx109 k5_6_110 lk5_6_110 k5_7_111 lk5_7_111 k5_8_112 lk5_8_112 hx113 k5_7_114 lk5_7_114 k5_8_115 lk5_8_115 hx116 k5_8_117 lk5_8_117 hx118 y5_7 z5_7 hx119 z5_0 z5_1 z5_2 z5_3 z5_4 z5_5 z5_6 z5_7t z5_8
  have z4_0 : x120.cell? ⟨bv, 0, none⟩ = some (.int .i64 ypr) := HO.out.cell 4 rfl 0 rfl
  have z4_1 : x120.cell? ⟨bv, 1, none⟩ = some (.int .i64 yhe) := HO.out.cell 4 rfl 1 rfl
  have z4_2 : x120.cell? ⟨bv, 2, none⟩ = some (.int .i64 yhp) := HO.out.cell 4 rfl 2 rfl
  have z4_3 : x120.cell? ⟨bv, 3, none⟩ = some (.int .i64 yth) := HO.out.cell 4 rfl 3 rfl
  have z4_4 : x120.cell? ⟨bv, 4, none⟩ = some (.int .i64 ytp) := HO.out.cell 4 rfl 4 rfl
  have z4_5 : x120.cell? ⟨bv, 5, none⟩ = some (.bool false) := HO.out.cell 4 rfl 5 rfl
  have z4_6 : x120.cell? ⟨bv, 6, none⟩ = some (.bool false) := HO.out.cell 4 rfl 6 rfl
  have z4_7 : x120.cell? ⟨bv, 7, none⟩ = some (.bool false) := HO.out.cell 4 rfl 7 rfl
  have z4_8 : x120.cell? ⟨bv, 8, none⟩ = some (.int .i64 ysq) := HO.out.cell 4 rfl 8 rfl
  go_wp2_with fail
  refine ((did_f (T := 0) (N := 0) HO.out 2 rfl (ig_in0 (x := ⟨ypr, yhe, yhp, yth, ytp, false, false, false, ysq⟩)) HF0.out (by simp) (by omega) (by omega) (by unfold timeB; omega) (by unfold i64B; omega) : Calls _ _ _ _ (OPost _ _ _ (.int .i64 0) _))).mono ?_
  rintro e x121 ⟨rfl, hO, -⟩
  replace HO := Lib.hid (show Own w none0 x121 [rowRl (.slice none 0 0) [], blkR bx (.cells #[.int .i64 yqho, .int .i64 yqpr, .int .i64 yqpo, .int .i64 yqth, .int .i64 yqfl, .int .i64 yqaf] 39), resF f ⟨[], [], 0⟩, resF g2 ⟨[], [], 0⟩, blkR bv (.cells #[.int .i64 ypr, .int .i64 yhe, .int .i64 yhp, .int .i64 yth, .int .i64 ytp, .bool false, .bool false, .bool false, .int .i64 ysq] 41), blkR br (.cells #[.int .i64 ypr, .int .i64 yhe, .int .i64 yhp, .int .i64 yth, .int .i64 ytp, .bool false, .bool false, .bool true, .int .i64 ysq] 41)] from hO)
  clear hO
  clear z4_0 z4_1 z4_2 z4_3 z4_4 z4_5 z4_6 z4_7 z4_8
  have z4_0 : x121.cell? ⟨bv, 0, none⟩ = some (.int .i64 ypr) := HO.out.cell 4 rfl 0 rfl
  have z4_1 : x121.cell? ⟨bv, 1, none⟩ = some (.int .i64 yhe) := HO.out.cell 4 rfl 1 rfl
  have z4_2 : x121.cell? ⟨bv, 2, none⟩ = some (.int .i64 yhp) := HO.out.cell 4 rfl 2 rfl
  have z4_3 : x121.cell? ⟨bv, 3, none⟩ = some (.int .i64 yth) := HO.out.cell 4 rfl 3 rfl
  have z4_4 : x121.cell? ⟨bv, 4, none⟩ = some (.int .i64 ytp) := HO.out.cell 4 rfl 4 rfl
  have z4_5 : x121.cell? ⟨bv, 5, none⟩ = some (.bool false) := HO.out.cell 4 rfl 5 rfl
  have z4_6 : x121.cell? ⟨bv, 6, none⟩ = some (.bool false) := HO.out.cell 4 rfl 6 rfl
  have z4_7 : x121.cell? ⟨bv, 7, none⟩ = some (.bool false) := HO.out.cell 4 rfl 7 rfl
  have z4_8 : x121.cell? ⟨bv, 8, none⟩ = some (.int .i64 ysq) := HO.out.cell 4 rfl 8 rfl
  go_wp2_with fail
  refine ((did_f (T := 0) (N := 0) HO.out 2 rfl (ig_quo0 (x := ⟨ypr, yhe, yhp, yth, ytp, false, false, false, ysq⟩)) HF0.out (by simp) (by omega) (by omega) (by unfold timeB; omega) (by unfold i64B; omega) : Calls _ _ _ _ (OPost _ _ _ (.int .i64 0) _))).mono ?_
  rintro e x122 ⟨rfl, hO, -⟩
  replace HO := Lib.hid (show Own w none0 x122 [rowRl (.slice none 0 0) [], blkR bx (.cells #[.int .i64 yqho, .int .i64 yqpr, .int .i64 yqpo, .int .i64 yqth, .int .i64 yqfl, .int .i64 yqaf] 39), resF f ⟨[], [], 0⟩, resF g2 ⟨[], [], 0⟩, blkR bv (.cells #[.int .i64 ypr, .int .i64 yhe, .int .i64 yhp, .int .i64 yth, .int .i64 ytp, .bool false, .bool false, .bool false, .int .i64 ysq] 41), blkR br (.cells #[.int .i64 ypr, .int .i64 yhe, .int .i64 yhp, .int .i64 yth, .int .i64 ytp, .bool false, .bool false, .bool true, .int .i64 ysq] 41)] from hO)
  clear hO
  clear z4_0 z4_1 z4_2 z4_3 z4_4 z4_5 z4_6 z4_7 z4_8
  have z4_0 : x122.cell? ⟨bv, 0, none⟩ = some (.int .i64 ypr) := HO.out.cell 4 rfl 0 rfl
  have z4_1 : x122.cell? ⟨bv, 1, none⟩ = some (.int .i64 yhe) := HO.out.cell 4 rfl 1 rfl
  have z4_2 : x122.cell? ⟨bv, 2, none⟩ = some (.int .i64 yhp) := HO.out.cell 4 rfl 2 rfl
  have z4_3 : x122.cell? ⟨bv, 3, none⟩ = some (.int .i64 yth) := HO.out.cell 4 rfl 3 rfl
  have z4_4 : x122.cell? ⟨bv, 4, none⟩ = some (.int .i64 ytp) := HO.out.cell 4 rfl 4 rfl
  have z4_5 : x122.cell? ⟨bv, 5, none⟩ = some (.bool false) := HO.out.cell 4 rfl 5 rfl
  have z4_6 : x122.cell? ⟨bv, 6, none⟩ = some (.bool false) := HO.out.cell 4 rfl 6 rfl
  have z4_7 : x122.cell? ⟨bv, 7, none⟩ = some (.bool false) := HO.out.cell 4 rfl 7 rfl
  have z4_8 : x122.cell? ⟨bv, 8, none⟩ = some (.int .i64 ysq) := HO.out.cell 4 rfl 8 rfl
  go_wp2_with fail
  refine ((did_f (T := 0) (N := 0) HO.out 3 rfl (ig_in0 (x := ⟨ypr, yhe, yhp, yth, ytp, false, false, false, ysq⟩)) HF0.out (by simp) (by omega) (by omega) (by unfold timeB; omega) (by unfold i64B; omega) : Calls _ _ _ _ (OPost _ _ _ (.int .i64 0) _))).mono ?_
  rintro e x123 ⟨rfl, hO, -⟩
  replace HO := Lib.hid (show Own w none0 x123 [rowRl (.slice none 0 0) [], blkR bx (.cells #[.int .i64 yqho, .int .i64 yqpr, .int .i64 yqpo, .int .i64 yqth, .int .i64 yqfl, .int .i64 yqaf] 39), resF f ⟨[], [], 0⟩, resF g2 ⟨[], [], 0⟩, blkR bv (.cells #[.int .i64 ypr, .int .i64 yhe, .int .i64 yhp, .int .i64 yth, .int .i64 ytp, .bool false, .bool false, .bool false, .int .i64 ysq] 41), blkR br (.cells #[.int .i64 ypr, .int .i64 yhe, .int .i64 yhp, .int .i64 yth, .int .i64 ytp, .bool false, .bool false, .bool true, .int .i64 ysq] 41)] from hO)
  clear hO
  clear z4_0 z4_1 z4_2 z4_3 z4_4 z4_5 z4_6 z4_7 z4_8
  go_wp2
  generalize hΓ : ghO w none0 [[rowRl (.slice none 0 0) [], blkR bx (.cells #[.int .i64 yqho, .int .i64 yqpr, .int .i64 yqpo, .int .i64 yqth, .int .i64 yqfl, .int .i64 yqaf] 39), resF f ⟨[], [], 0⟩, resF g2 ⟨[], [], 0⟩, blkR bv (.cells #[.int .i64 ypr, .int .i64 yhe, .int .i64 yhp, .int .i64 yth, .int .i64 ytp, .bool false, .bool false, .bool false, .int .i64 ysq] 41), blkR br (.cells #[.int .i64 ypr, .int .i64 yhe, .int .i64 yhp, .int .i64 yth, .int .i64 ytp, .bool false, .bool false, .bool true, .int .i64 ysq] 41)], [rowRl (.slice none 0 0) [], blkR bx (.cells #[.int .i64 yqho, .int .i64 yqpr, .int .i64 yqpo, .int .i64 yqth, .int .i64 yqfl, .int .i64 yqaf] 39), resF f (igS (keyF ⟨ypr, yhe, yhp, yth, ytp, false, false, false, ysq⟩) 0), resF g2 ⟨[], [], 0⟩, blkR bv (.cells #[.int .i64 ypr, .int .i64 yhe, .int .i64 yhp, .int .i64 yth, .int .i64 ytp, .bool false, .bool false, .bool false, .int .i64 ysq] 41), blkR br (.cells #[.int .i64 ypr, .int .i64 yhe, .int .i64 yhp, .int .i64 yth, .int .i64 ytp, .bool false, .bool false, .bool true, .int .i64 ysq] 41)], [rowRl (.slice none 0 0) [], blkR bx (.cells #[.int .i64 yqho, .int .i64 yqpr, .int .i64 yqpo, .int .i64 yqth, .int .i64 yqfl, .int .i64 yqaf] 39), resF f (igS (keyF ⟨ypr, yhe, yhp, yth, ytp, false, false, false, ysq⟩) 0), resF g2 (igS (keyF ⟨ypr, yhe, yhp, yth, ytp, false, false, false, ysq⟩) 0), blkR bv (.cells #[.int .i64 ypr, .int .i64 yhe, .int .i64 yhp, .int .i64 yth, .int .i64 ytp, .bool false, .bool false, .bool false, .int .i64 ysq] 41), blkR br (.cells #[.int .i64 ypr, .int .i64 yhe, .int .i64 yhp, .int .i64 yth, .int .i64 ytp, .bool false, .bool false, .bool true, .int .i64 ysq] 41)]] = Γ
  have HST := Lib.hid (show Γ.inv [] x123 by rw [← hΓ]; exact ghO_start HO.out)
  have q4_0 : ∀ q : Γ.Wd, q.w.cell? ⟨bv, 0, none⟩ = some (.int .i64 ypr) := by rw [← hΓ]; exact ghO_cell (c := #[.int .i64 ypr, .int .i64 yhe, .int .i64 yhp, .int .i64 yth, .int .i64 ytp, .bool false, .bool false, .bool false, .int .i64 ysq]) (t := 41) 4 (by simp) 0 rfl
  have q4_1 : ∀ q : Γ.Wd, q.w.cell? ⟨bv, 1, none⟩ = some (.int .i64 yhe) := by rw [← hΓ]; exact ghO_cell (c := #[.int .i64 ypr, .int .i64 yhe, .int .i64 yhp, .int .i64 yth, .int .i64 ytp, .bool false, .bool false, .bool false, .int .i64 ysq]) (t := 41) 4 (by simp) 1 rfl
  have q4_2 : ∀ q : Γ.Wd, q.w.cell? ⟨bv, 2, none⟩ = some (.int .i64 yhp) := by rw [← hΓ]; exact ghO_cell (c := #[.int .i64 ypr, .int .i64 yhe, .int .i64 yhp, .int .i64 yth, .int .i64 ytp, .bool false, .bool false, .bool false, .int .i64 ysq]) (t := 41) 4 (by simp) 2 rfl
  have q4_3 : ∀ q : Γ.Wd, q.w.cell? ⟨bv, 3, none⟩ = some (.int .i64 yth) := by rw [← hΓ]; exact ghO_cell (c := #[.int .i64 ypr, .int .i64 yhe, .int .i64 yhp, .int .i64 yth, .int .i64 ytp, .bool false, .bool false, .bool false, .int .i64 ysq]) (t := 41) 4 (by simp) 3 rfl
  have q4_4 : ∀ q : Γ.Wd, q.w.cell? ⟨bv, 4, none⟩ = some (.int .i64 ytp) := by rw [← hΓ]; exact ghO_cell (c := #[.int .i64 ypr, .int .i64 yhe, .int .i64 yhp, .int .i64 yth, .int .i64 ytp, .bool false, .bool false, .bool false, .int .i64 ysq]) (t := 41) 4 (by simp) 4 rfl
  have q4_5 : ∀ q : Γ.Wd, q.w.cell? ⟨bv, 5, none⟩ = some (.bool false) := by rw [← hΓ]; exact ghO_cell (c := #[.int .i64 ypr, .int .i64 yhe, .int .i64 yhp, .int .i64 yth, .int .i64 ytp, .bool false, .bool false, .bool false, .int .i64 ysq]) (t := 41) 4 (by simp) 5 rfl
  have q4_6 : ∀ q : Γ.Wd, q.w.cell? ⟨bv, 6, none⟩ = some (.bool false) := by rw [← hΓ]; exact ghO_cell (c := #[.int .i64 ypr, .int .i64 yhe, .int .i64 yhp, .int .i64 yth, .int .i64 ytp, .bool false, .bool false, .bool false, .int .i64 ysq]) (t := 41) 4 (by simp) 6 rfl
  have q4_7 : ∀ q : Γ.Wd, q.w.cell? ⟨bv, 7, none⟩ = some (.bool false) := by rw [← hΓ]; exact ghO_cell (c := #[.int .i64 ypr, .int .i64 yhe, .int .i64 yhp, .int .i64 yth, .int .i64 ytp, .bool false, .bool false, .bool false, .int .i64 ysq]) (t := 41) 4 (by simp) 7 rfl
  have q4_8 : ∀ q : Γ.Wd, q.w.cell? ⟨bv, 8, none⟩ = some (.int .i64 ysq) := by rw [← hΓ]; exact ghO_cell (c := #[.int .i64 ypr, .int .i64 yhe, .int .i64 yhp, .int .i64 yth, .int .i64 ytp, .bool false, .bool false, .bool false, .int .i64 ysq]) (t := 41) 4 (by simp) 8 rfl
  have HΓ := Lib.hid hΓ
  clear hΓ
  have ne : Nonempty Γ.Wd := ⟨⟨[], x123, HST.out⟩⟩
  refine wp_region_H Γ 7 [2, 5] (by kernel_rfl) (by kernel_rfl) (by kernel_rfl) (by kernel_rfl) HST.out ?_
  simp only [List.take, List.drop]
  iterate 2 (first | (refine wpH_want (by kernel_rfl) (by kernel_rfl) rfl rfl ?_; intro K hK; go_big_quiet_op; go_big_quiet_on) | (refine wpH_is (by kernel_rfl) (by kernel_rfl) rfl _ (fun _ w _ => rfl) ?_; simp only [Act.put, List.setIfInBounds_toArray, List.set_cons_succ, List.set_cons_zero]))
  refine wpH_chain 0 (by kernel_rfl) (by kernel_rfl) rfl 13 #[.pointer (some ⟨f, 0, none⟩), .int .i64 0, .int .i64 0, flV ⟨ypr, yhe, yhp, yth, ytp, false, false, false, ysq⟩] (.int .i64 1) (fun w => by simp [go_sem]) (fun vs w hg hvs => by
    rw [← HΓ.out] at hg ⊢
    exact ghO_call 0 hg hvs rfl rfl fun ho => did_f (T := 0) (N := 0) ho 2 rfl (ig_out0 HVY.out rfl) HF0.out (by simp) (by omega) (by omega) (by unfold timeB; omega) (by unfold i64B; omega)) ?_
  simp only [Act.put, List.setIfInBounds_toArray, List.set_cons_succ, List.set_cons_zero]
  iterate 2 (first | (refine wpH_want (by kernel_rfl) (by kernel_rfl) rfl rfl ?_; intro K hK; go_big_quiet_op; go_big_quiet_on) | (refine wpH_is (by kernel_rfl) (by kernel_rfl) rfl _ (fun _ w _ => rfl) ?_; simp only [Act.put, List.setIfInBounds_toArray, List.set_cons_succ, List.set_cons_zero]))
  refine wpH_chain 1 (by kernel_rfl) (by kernel_rfl) rfl 13 #[.pointer (some ⟨g2, 0, none⟩), .int .i64 0, .int .i64 0, flV ⟨ypr, yhe, yhp, yth, ytp, false, false, false, ysq⟩] (.int .i64 1) (fun w => by simp [go_sem]) (fun vs w hg hvs => by
    rw [← HΓ.out] at hg ⊢
    exact ghO_call 1 hg hvs rfl rfl fun ho => did_f (T := 0) (N := 0) ho 3 rfl (ig_out0 HVY.out rfl) HF0.out (by simp) (by omega) (by omega) (by unfold timeB; omega) (by unfold i64B; omega)) ?_
  simp only [Act.put, List.setIfInBounds_toArray, List.set_cons_succ, List.set_cons_zero]
  iterate 1 (first | (refine wpH_want (by kernel_rfl) (by kernel_rfl) rfl rfl ?_; intro K hK; go_big_quiet_op; go_big_quiet_on) | (refine wpH_is (by kernel_rfl) (by kernel_rfl) rfl _ (fun _ w _ => rfl) ?_; simp only [Act.put, List.setIfInBounds_toArray, List.set_cons_succ, List.set_cons_zero]))
  refine wpH_nil (by kernel_rfl) (by simp) ?_
  rintro ⟨vs, xq⟩ hg hgl
  rw [← HΓ.out] at hg
  replace HO := Lib.hid (ghO_at hg 2 hgl rfl)
  simp only [gexAll, List.drop]
  clear q4_0 q4_1 q4_2 q4_3 q4_4 q4_5 q4_6 q4_7 q4_8 ne HST hg hgl HΓ
  replace HO := Lib.hid (show Own w none0 xq [rowRl (.slice none 0 0) [], blkR bx (.cells #[.int .i64 yqho, .int .i64 yqpr, .int .i64 yqpo, .int .i64 yqth, .int .i64 yqfl, .int .i64 yqaf] 39), resF f (igS (keyF ⟨ypr, yhe, yhp, yth, ytp, false, false, false, ysq⟩) 0), resF g2 (igS (keyF ⟨ypr, yhe, yhp, yth, ytp, false, false, false, ysq⟩) 0), blkR bv (.cells #[.int .i64 ypr, .int .i64 yhe, .int .i64 yhp, .int .i64 yth, .int .i64 ytp, .bool false, .bool false, .bool false, .int .i64 ysq] 41), blkR br (.cells #[.int .i64 ypr, .int .i64 yhe, .int .i64 yhp, .int .i64 yth, .int .i64 ytp, .bool false, .bool false, .bool true, .int .i64 ysq] 41)] from HO.out)
  go_wp2
  go_loopw [15, 17] (fun now i wr => ∃ (k : Nat) (la nw : Int), k ≤ min m 20 ∧ now = .int .i64 nw ∧ i = .int .i64 k ∧ 0 ≤ la ∧ la ≤ nw ∧ nw ≤ 19 * k ∧ Own w none0 wr [rowRl (.slice none 0 0) [], blkR bx (.cells #[.int .i64 yqho, .int .i64 yqpr, .int .i64 yqpo, .int .i64 yqth, .int .i64 yqfl, .int .i64 yqaf] 39), resF f (igS (keyF ⟨ypr, yhe, yhp, yth, ytp, false, false, false, ysq⟩) la), resF g2 (igS (keyF ⟨ypr, yhe, yhp, yth, ytp, false, false, false, ysq⟩) la), blkR bv (.cells #[.int .i64 ypr, .int .i64 yhe, .int .i64 yhp, .int .i64 yth, .int .i64 ytp, .bool false, .bool false, .bool false, .int .i64 ysq] 41), blkR br (.cells #[.int .i64 ypr, .int .i64 yhe, .int .i64 yhp, .int .i64 yth, .int .i64 ytp, .bool false, .bool false, .bool true, .int .i64 ysq] 41)]) (fun _ i _ => 20 - (intOf i).toNat)
  case atStart => exact ⟨0, 0, 0, Nat.zero_le _, rfl, rfl, by omega, by omega, by omega, HO.out⟩
  case round =>
    obtain ⟨k2, la, nw, hk, rfl, rfl, hl0, hl1, hl2, hO⟩ := hrel
    replace HO := Lib.hid hO
    clear hO
    have HFW := Lib.hid (show FW nw 1 (igS (keyF ⟨ypr, yhe, yhp, yth, ytp, false, false, false, ysq⟩) la) from igS_fw HVY.out hl0 hl1)
    by_cases hlt : k2 < m ∧ k2 < 20
    · obtain ⟨hk1, hk2⟩ := hlt
      obtain ⟨b, o, rfl, hcc⟩ := HP.out (by omega)
      have HXO := Lib.hid (HOK.out k2 hk1)
      have hcc := hcc k2 hk1
      generalize g k2 = gk at *
      obtain ⟨zqho, zqpr, zqpo, zqth, zqfl, zqaf⟩ := gk
      have ycell : ∀ j u, j < 6 → (fwA ⟨zqho, zqpr, zqpo, zqth, zqfl, zqaf⟩)[j]? = some u → w.cell? ⟨b, o + k2 * 6 + j, none⟩ = some u := fun j u hj hu => (hcc j hj).trans hu
      have v0 : w.cell? ⟨b, o + k2 * 6, none⟩ = some (.int .i64 zqho) := ycell 0 _ (by decide) rfl
      have v1 : w.cell? ⟨b, o + k2 * 6 + 1, none⟩ = some (.int .i64 zqpr) := ycell 1 _ (by decide) rfl
      have v2 : w.cell? ⟨b, o + k2 * 6 + 2, none⟩ = some (.int .i64 zqpo) := ycell 2 _ (by decide) rfl
      have v3 : w.cell? ⟨b, o + k2 * 6 + 3, none⟩ = some (.int .i64 zqth) := ycell 3 _ (by decide) rfl
      have v4 : w.cell? ⟨b, o + k2 * 6 + 4, none⟩ = some (.int .i64 zqfl) := ycell 4 _ (by decide) rfl
      have v5 : w.cell? ⟨b, o + k2 * 6 + 5, none⟩ = some (.int .i64 zqaf) := ycell 5 _ (by decide) rfl
      have HV0 := Lib.hid v0
      have y5 : wr.cell? ⟨b, o + k2 * 6 + 5, none⟩ = some (.int .i64 zqaf) := keep HO.out.below v5
      have P2 := Lib.hid (fun w => pick_b zqaf 20 w HXO.out.af (by decide))
      obtain ⟨q3, q4⟩ := pk_bd zqaf 20 (by decide)
      generalize pk zqaf 20 = pa at *
      go_wp2_with fail
      refine (o_still HO.out (P2.out _)).mono ?_
      rintro e x201 ⟨rfl, hO, -⟩
      replace HO := Lib.hid (show Own w none0 x201 [rowRl (.slice none 0 0) [], blkR bx (.cells #[.int .i64 yqho, .int .i64 yqpr, .int .i64 yqpo, .int .i64 yqth, .int .i64 yqfl, .int .i64 yqaf] 39), resF f (igS (keyF ⟨ypr, yhe, yhp, yth, ytp, false, false, false, ysq⟩) la), resF g2 (igS (keyF ⟨ypr, yhe, yhp, yth, ytp, false, false, false, ysq⟩) la), blkR bv (.cells #[.int .i64 ypr, .int .i64 yhe, .int .i64 yhp, .int .i64 yth, .int .i64 ytp, .bool false, .bool false, .bool false, .int .i64 ysq] 41), blkR br (.cells #[.int .i64 ypr, .int .i64 yhe, .int .i64 yhp, .int .i64 yth, .int .i64 ytp, .bool false, .bool false, .bool true, .int .i64 ysq] 41)] from hO)
      clear hO
      clear y5
      have z4_0 : x201.cell? ⟨bv, 0, none⟩ = some (.int .i64 ypr) := HO.out.cell 4 rfl 0 rfl
      have z4_1 : x201.cell? ⟨bv, 1, none⟩ = some (.int .i64 yhe) := HO.out.cell 4 rfl 1 rfl
      have z4_2 : x201.cell? ⟨bv, 2, none⟩ = some (.int .i64 yhp) := HO.out.cell 4 rfl 2 rfl
      have z4_3 : x201.cell? ⟨bv, 3, none⟩ = some (.int .i64 yth) := HO.out.cell 4 rfl 3 rfl
      have z4_4 : x201.cell? ⟨bv, 4, none⟩ = some (.int .i64 ytp) := HO.out.cell 4 rfl 4 rfl
      have z4_5 : x201.cell? ⟨bv, 5, none⟩ = some (.bool false) := HO.out.cell 4 rfl 5 rfl
      have z4_6 : x201.cell? ⟨bv, 6, none⟩ = some (.bool false) := HO.out.cell 4 rfl 6 rfl
      have z4_7 : x201.cell? ⟨bv, 7, none⟩ = some (.bool false) := HO.out.cell 4 rfl 7 rfl
      have z4_8 : x201.cell? ⟨bv, 8, none⟩ = some (.int .i64 ysq) := HO.out.cell 4 rfl 8 rfl
      obtain ⟨x202, hx202⟩ : ∃ y, x201.alloc (.cells #[.int .i64 0, .int .i64 0, .int .i64 0, .int .i64 0, .int .i64 0, .bool false, .bool false, .bool false, .int .i64 0] 41) = y := ⟨_, rfl⟩
      obtain ⟨bz, hbz⟩ : ∃ y, x201.heap.size = y := ⟨_, rfl⟩
      have hO := HO.out.alloc (.cells #[.int .i64 0, .int .i64 0, .int .i64 0, .int .i64 0, .int .i64 0, .bool false, .bool false, .bool false, .int .i64 0] 41)
      rw [hx202, hbz] at hO
      replace HO := Lib.hid (show Own w none0 x202 [rowRl (.slice none 0 0) [], blkR bx (.cells #[.int .i64 yqho, .int .i64 yqpr, .int .i64 yqpo, .int .i64 yqth, .int .i64 yqfl, .int .i64 yqaf] 39), resF f (igS (keyF ⟨ypr, yhe, yhp, yth, ytp, false, false, false, ysq⟩) la), resF g2 (igS (keyF ⟨ypr, yhe, yhp, yth, ytp, false, false, false, ysq⟩) la), blkR bv (.cells #[.int .i64 ypr, .int .i64 yhe, .int .i64 yhp, .int .i64 yth, .int .i64 ytp, .bool false, .bool false, .bool false, .int .i64 ysq] 41), blkR br (.cells #[.int .i64 ypr, .int .i64 yhe, .int .i64 yhp, .int .i64 yth, .int .i64 ytp, .bool false, .bool false, .bool true, .int .i64 ysq] 41), blkR bz (.cells #[.int .i64 0, .int .i64 0, .int .i64 0, .int .i64 0, .int .i64 0, .bool false, .bool false, .bool false, .int .i64 0] 41)] from hO)
      clear hO
      have k6_0_203 : x202.cell? ⟨bz, 0, none⟩ = some (.int .i64 0) := HO.out.cell 6 rfl 0 rfl
      have lk6_0_203 : x202.frozen? ⟨bz, 0, none⟩ = false := HO.out.frz 6 rfl 0
      have k6_1_204 : x202.cell? ⟨bz, 1, none⟩ = some (.int .i64 0) := HO.out.cell 6 rfl 1 rfl
      have lk6_1_204 : x202.frozen? ⟨bz, 1, none⟩ = false := HO.out.frz 6 rfl 1
      have k6_2_205 : x202.cell? ⟨bz, 2, none⟩ = some (.int .i64 0) := HO.out.cell 6 rfl 2 rfl
      have lk6_2_205 : x202.frozen? ⟨bz, 2, none⟩ = false := HO.out.frz 6 rfl 2
      have k6_3_206 : x202.cell? ⟨bz, 3, none⟩ = some (.int .i64 0) := HO.out.cell 6 rfl 3 rfl
      have lk6_3_206 : x202.frozen? ⟨bz, 3, none⟩ = false := HO.out.frz 6 rfl 3
      have k6_4_207 : x202.cell? ⟨bz, 4, none⟩ = some (.int .i64 0) := HO.out.cell 6 rfl 4 rfl
      have lk6_4_207 : x202.frozen? ⟨bz, 4, none⟩ = false := HO.out.frz 6 rfl 4
      have k6_5_208 : x202.cell? ⟨bz, 5, none⟩ = some (.bool false) := HO.out.cell 6 rfl 5 rfl
      have lk6_5_208 : x202.frozen? ⟨bz, 5, none⟩ = false := HO.out.frz 6 rfl 5
      have k6_6_209 : x202.cell? ⟨bz, 6, none⟩ = some (.bool false) := HO.out.cell 6 rfl 6 rfl
      have lk6_6_209 : x202.frozen? ⟨bz, 6, none⟩ = false := HO.out.frz 6 rfl 6
      have k6_7_210 : x202.cell? ⟨bz, 7, none⟩ = some (.bool false) := HO.out.cell 6 rfl 7 rfl
      have lk6_7_210 : x202.frozen? ⟨bz, 7, none⟩ = false := HO.out.frz 6 rfl 7
      have k6_8_211 : x202.cell? ⟨bz, 8, none⟩ = some (.int .i64 0) := HO.out.cell 6 rfl 8 rfl
      have lk6_8_211 : x202.frozen? ⟨bz, 8, none⟩ = false := HO.out.frz 6 rfl 8
      obtain ⟨x212, hx212⟩ : ∃ y, x202.setCell ⟨bz, 0, none⟩ (.int .i64 ypr) = y := ⟨_, rfl⟩
      have hO := HO.out.setCell 6 rfl 0 (.int .i64 ypr)
      rw [hx212] at hO
      replace HO := Lib.hid (show Own w none0 x212 [rowRl (.slice none 0 0) [], blkR bx (.cells #[.int .i64 yqho, .int .i64 yqpr, .int .i64 yqpo, .int .i64 yqth, .int .i64 yqfl, .int .i64 yqaf] 39), resF f (igS (keyF ⟨ypr, yhe, yhp, yth, ytp, false, false, false, ysq⟩) la), resF g2 (igS (keyF ⟨ypr, yhe, yhp, yth, ytp, false, false, false, ysq⟩) la), blkR bv (.cells #[.int .i64 ypr, .int .i64 yhe, .int .i64 yhp, .int .i64 yth, .int .i64 ytp, .bool false, .bool false, .bool false, .int .i64 ysq] 41), blkR br (.cells #[.int .i64 ypr, .int .i64 yhe, .int .i64 yhp, .int .i64 yth, .int .i64 ytp, .bool false, .bool false, .bool true, .int .i64 ysq] 41), blkR bz (.cells #[.int .i64 ypr, .int .i64 0, .int .i64 0, .int .i64 0, .int .i64 0, .bool false, .bool false, .bool false, .int .i64 0] 41)] from hO)
      clear hO
      have k6_1_213 : x212.cell? ⟨bz, 1, none⟩ = some (.int .i64 0) := HO.out.cell 6 rfl 1 rfl
      have lk6_1_213 : x212.frozen? ⟨bz, 1, none⟩ = false := HO.out.frz 6 rfl 1
      have k6_2_214 : x212.cell? ⟨bz, 2, none⟩ = some (.int .i64 0) := HO.out.cell 6 rfl 2 rfl
      have lk6_2_214 : x212.frozen? ⟨bz, 2, none⟩ = false := HO.out.frz 6 rfl 2
      have k6_3_215 : x212.cell? ⟨bz, 3, none⟩ = some (.int .i64 0) := HO.out.cell 6 rfl 3 rfl
      have lk6_3_215 : x212.frozen? ⟨bz, 3, none⟩ = false := HO.out.frz 6 rfl 3
      have k6_4_216 : x212.cell? ⟨bz, 4, none⟩ = some (.int .i64 0) := HO.out.cell 6 rfl 4 rfl
      have lk6_4_216 : x212.frozen? ⟨bz, 4, none⟩ = false := HO.out.frz 6 rfl 4
      have k6_5_217 : x212.cell? ⟨bz, 5, none⟩ = some (.bool false) := HO.out.cell 6 rfl 5 rfl
      have lk6_5_217 : x212.frozen? ⟨bz, 5, none⟩ = false := HO.out.frz 6 rfl 5
      have k6_6_218 : x212.cell? ⟨bz, 6, none⟩ = some (.bool false) := HO.out.cell 6 rfl 6 rfl
      have lk6_6_218 : x212.frozen? ⟨bz, 6, none⟩ = false := HO.out.frz 6 rfl 6
      have k6_7_219 : x212.cell? ⟨bz, 7, none⟩ = some (.bool false) := HO.out.cell 6 rfl 7 rfl
      have lk6_7_219 : x212.frozen? ⟨bz, 7, none⟩ = false := HO.out.frz 6 rfl 7
      have k6_8_220 : x212.cell? ⟨bz, 8, none⟩ = some (.int .i64 0) := HO.out.cell 6 rfl 8 rfl
      have lk6_8_220 : x212.frozen? ⟨bz, 8, none⟩ = false := HO.out.frz 6 rfl 8
      obtain ⟨x221, hx221⟩ : ∃ y, x212.setCell ⟨bz, 1, none⟩ (.int .i64 yhe) = y := ⟨_, rfl⟩
      have hO := HO.out.setCell 6 rfl 1 (.int .i64 yhe)
      rw [hx221] at hO
      replace HO := Lib.hid (show Own w none0 x221 [rowRl (.slice none 0 0) [], blkR bx (.cells #[.int .i64 yqho, .int .i64 yqpr, .int .i64 yqpo, .int .i64 yqth, .int .i64 yqfl, .int .i64 yqaf] 39), resF f (igS (keyF ⟨ypr, yhe, yhp, yth, ytp, false, false, false, ysq⟩) la), resF g2 (igS (keyF ⟨ypr, yhe, yhp, yth, ytp, false, false, false, ysq⟩) la), blkR bv (.cells #[.int .i64 ypr, .int .i64 yhe, .int .i64 yhp, .int .i64 yth, .int .i64 ytp, .bool false, .bool false, .bool false, .int .i64 ysq] 41), blkR br (.cells #[.int .i64 ypr, .int .i64 yhe, .int .i64 yhp, .int .i64 yth, .int .i64 ytp, .bool false, .bool false, .bool true, .int .i64 ysq] 41), blkR bz (.cells #[.int .i64 ypr, .int .i64 yhe, .int .i64 0, .int .i64 0, .int .i64 0, .bool false, .bool false, .bool false, .int .i64 0] 41)] from hO)
      clear hO
      have k6_2_222 : x221.cell? ⟨bz, 2, none⟩ = some (.int .i64 0) := HO.out.cell 6 rfl 2 rfl
      have lk6_2_222 : x221.frozen? ⟨bz, 2, none⟩ = false := HO.out.frz 6 rfl 2
      have k6_3_223 : x221.cell? ⟨bz, 3, none⟩ = some (.int .i64 0) := HO.out.cell 6 rfl 3 rfl
      have lk6_3_223 : x221.frozen? ⟨bz, 3, none⟩ = false := HO.out.frz 6 rfl 3
      have k6_4_224 : x221.cell? ⟨bz, 4, none⟩ = some (.int .i64 0) := HO.out.cell 6 rfl 4 rfl
      have lk6_4_224 : x221.frozen? ⟨bz, 4, none⟩ = false := HO.out.frz 6 rfl 4
      have k6_5_225 : x221.cell? ⟨bz, 5, none⟩ = some (.bool false) := HO.out.cell 6 rfl 5 rfl
      have lk6_5_225 : x221.frozen? ⟨bz, 5, none⟩ = false := HO.out.frz 6 rfl 5
      have k6_6_226 : x221.cell? ⟨bz, 6, none⟩ = some (.bool false) := HO.out.cell 6 rfl 6 rfl
      have lk6_6_226 : x221.frozen? ⟨bz, 6, none⟩ = false := HO.out.frz 6 rfl 6
      have k6_7_227 : x221.cell? ⟨bz, 7, none⟩ = some (.bool false) := HO.out.cell 6 rfl 7 rfl
      have lk6_7_227 : x221.frozen? ⟨bz, 7, none⟩ = false := HO.out.frz 6 rfl 7
      have k6_8_228 : x221.cell? ⟨bz, 8, none⟩ = some (.int .i64 0) := HO.out.cell 6 rfl 8 rfl
      have lk6_8_228 : x221.frozen? ⟨bz, 8, none⟩ = false := HO.out.frz 6 rfl 8
      obtain ⟨x229, hx229⟩ : ∃ y, x221.setCell ⟨bz, 2, none⟩ (.int .i64 yhp) = y := ⟨_, rfl⟩
      have hO := HO.out.setCell 6 rfl 2 (.int .i64 yhp)
      rw [hx229] at hO
      replace HO := Lib.hid (show Own w none0 x229 [rowRl (.slice none 0 0) [], blkR bx (.cells #[.int .i64 yqho, .int .i64 yqpr, .int .i64 yqpo, .int .i64 yqth, .int .i64 yqfl, .int .i64 yqaf] 39), resF f (igS (keyF ⟨ypr, yhe, yhp, yth, ytp, false, false, false, ysq⟩) la), resF g2 (igS (keyF ⟨ypr, yhe, yhp, yth, ytp, false, false, false, ysq⟩) la), blkR bv (.cells #[.int .i64 ypr, .int .i64 yhe, .int .i64 yhp, .int .i64 yth, .int .i64 ytp, .bool false, .bool false, .bool false, .int .i64 ysq] 41), blkR br (.cells #[.int .i64 ypr, .int .i64 yhe, .int .i64 yhp, .int .i64 yth, .int .i64 ytp, .bool false, .bool false, .bool true, .int .i64 ysq] 41), blkR bz (.cells #[.int .i64 ypr, .int .i64 yhe, .int .i64 yhp, .int .i64 0, .int .i64 0, .bool false, .bool false, .bool false, .int .i64 0] 41)] from hO)
      clear hO
      have k6_3_230 : x229.cell? ⟨bz, 3, none⟩ = some (.int .i64 0) := HO.out.cell 6 rfl 3 rfl
      have lk6_3_230 : x229.frozen? ⟨bz, 3, none⟩ = false := HO.out.frz 6 rfl 3
      have k6_4_231 : x229.cell? ⟨bz, 4, none⟩ = some (.int .i64 0) := HO.out.cell 6 rfl 4 rfl
      have lk6_4_231 : x229.frozen? ⟨bz, 4, none⟩ = false := HO.out.frz 6 rfl 4
      have k6_5_232 : x229.cell? ⟨bz, 5, none⟩ = some (.bool false) := HO.out.cell 6 rfl 5 rfl
      have lk6_5_232 : x229.frozen? ⟨bz, 5, none⟩ = false := HO.out.frz 6 rfl 5
      have k6_6_233 : x229.cell? ⟨bz, 6, none⟩ = some (.bool false) := HO.out.cell 6 rfl 6 rfl
      have lk6_6_233 : x229.frozen? ⟨bz, 6, none⟩ = false := HO.out.frz 6 rfl 6
      have k6_7_234 : x229.cell? ⟨bz, 7, none⟩ = some (.bool false) := HO.out.cell 6 rfl 7 rfl
      have lk6_7_234 : x229.frozen? ⟨bz, 7, none⟩ = false := HO.out.frz 6 rfl 7
      have k6_8_235 : x229.cell? ⟨bz, 8, none⟩ = some (.int .i64 0) := HO.out.cell 6 rfl 8 rfl
      have lk6_8_235 : x229.frozen? ⟨bz, 8, none⟩ = false := HO.out.frz 6 rfl 8
      obtain ⟨x236, hx236⟩ : ∃ y, x229.setCell ⟨bz, 3, none⟩ (.int .i64 yth) = y := ⟨_, rfl⟩
      have hO := HO.out.setCell 6 rfl 3 (.int .i64 yth)
      rw [hx236] at hO
      replace HO := Lib.hid (show Own w none0 x236 [rowRl (.slice none 0 0) [], blkR bx (.cells #[.int .i64 yqho, .int .i64 yqpr, .int .i64 yqpo, .int .i64 yqth, .int .i64 yqfl, .int .i64 yqaf] 39), resF f (igS (keyF ⟨ypr, yhe, yhp, yth, ytp, false, false, false, ysq⟩) la), resF g2 (igS (keyF ⟨ypr, yhe, yhp, yth, ytp, false, false, false, ysq⟩) la), blkR bv (.cells #[.int .i64 ypr, .int .i64 yhe, .int .i64 yhp, .int .i64 yth, .int .i64 ytp, .bool false, .bool false, .bool false, .int .i64 ysq] 41), blkR br (.cells #[.int .i64 ypr, .int .i64 yhe, .int .i64 yhp, .int .i64 yth, .int .i64 ytp, .bool false, .bool false, .bool true, .int .i64 ysq] 41), blkR bz (.cells #[.int .i64 ypr, .int .i64 yhe, .int .i64 yhp, .int .i64 yth, .int .i64 0, .bool false, .bool false, .bool false, .int .i64 0] 41)] from hO)
      clear hO
      have k6_4_237 : x236.cell? ⟨bz, 4, none⟩ = some (.int .i64 0) := HO.out.cell 6 rfl 4 rfl
      have lk6_4_237 : x236.frozen? ⟨bz, 4, none⟩ = false := HO.out.frz 6 rfl 4
      have k6_5_238 : x236.cell? ⟨bz, 5, none⟩ = some (.bool false) := HO.out.cell 6 rfl 5 rfl
      have lk6_5_238 : x236.frozen? ⟨bz, 5, none⟩ = false := HO.out.frz 6 rfl 5
      have k6_6_239 : x236.cell? ⟨bz, 6, none⟩ = some (.bool false) := HO.out.cell 6 rfl 6 rfl
      have lk6_6_239 : x236.frozen? ⟨bz, 6, none⟩ = false := HO.out.frz 6 rfl 6
      have k6_7_240 : x236.cell? ⟨bz, 7, none⟩ = some (.bool false) := HO.out.cell 6 rfl 7 rfl
      have lk6_7_240 : x236.frozen? ⟨bz, 7, none⟩ = false := HO.out.frz 6 rfl 7
      have k6_8_241 : x236.cell? ⟨bz, 8, none⟩ = some (.int .i64 0) := HO.out.cell 6 rfl 8 rfl
      have lk6_8_241 : x236.frozen? ⟨bz, 8, none⟩ = false := HO.out.frz 6 rfl 8
      obtain ⟨x242, hx242⟩ : ∃ y, x236.setCell ⟨bz, 4, none⟩ (.int .i64 ytp) = y := ⟨_, rfl⟩
      have hO := HO.out.setCell 6 rfl 4 (.int .i64 ytp)
      rw [hx242] at hO
      replace HO := Lib.hid (show Own w none0 x242 [rowRl (.slice none 0 0) [], blkR bx (.cells #[.int .i64 yqho, .int .i64 yqpr, .int .i64 yqpo, .int .i64 yqth, .int .i64 yqfl, .int .i64 yqaf] 39), resF f (igS (keyF ⟨ypr, yhe, yhp, yth, ytp, false, false, false, ysq⟩) la), resF g2 (igS (keyF ⟨ypr, yhe, yhp, yth, ytp, false, false, false, ysq⟩) la), blkR bv (.cells #[.int .i64 ypr, .int .i64 yhe, .int .i64 yhp, .int .i64 yth, .int .i64 ytp, .bool false, .bool false, .bool false, .int .i64 ysq] 41), blkR br (.cells #[.int .i64 ypr, .int .i64 yhe, .int .i64 yhp, .int .i64 yth, .int .i64 ytp, .bool false, .bool false, .bool true, .int .i64 ysq] 41), blkR bz (.cells #[.int .i64 ypr, .int .i64 yhe, .int .i64 yhp, .int .i64 yth, .int .i64 ytp, .bool false, .bool false, .bool false, .int .i64 0] 41)] from hO)
      clear hO
      have k6_5_243 : x242.cell? ⟨bz, 5, none⟩ = some (.bool false) := HO.out.cell 6 rfl 5 rfl
      have lk6_5_243 : x242.frozen? ⟨bz, 5, none⟩ = false := HO.out.frz 6 rfl 5
      have k6_6_244 : x242.cell? ⟨bz, 6, none⟩ = some (.bool false) := HO.out.cell 6 rfl 6 rfl
      have lk6_6_244 : x242.frozen? ⟨bz, 6, none⟩ = false := HO.out.frz 6 rfl 6
      have k6_7_245 : x242.cell? ⟨bz, 7, none⟩ = some (.bool false) := HO.out.cell 6 rfl 7 rfl
      have lk6_7_245 : x242.frozen? ⟨bz, 7, none⟩ = false := HO.out.frz 6 rfl 7
      have k6_8_246 : x242.cell? ⟨bz, 8, none⟩ = some (.int .i64 0) := HO.out.cell 6 rfl 8 rfl
      have lk6_8_246 : x242.frozen? ⟨bz, 8, none⟩ = false := HO.out.frz 6 rfl 8
      obtain ⟨x247, hx247⟩ : ∃ y, x242.setCell ⟨bz, 5, none⟩ (.bool false) = y := ⟨_, rfl⟩
      have hO := HO.out.setCell 6 rfl 5 (.bool false)
      rw [hx247] at hO
      replace HO := Lib.hid (show Own w none0 x247 [rowRl (.slice none 0 0) [], blkR bx (.cells #[.int .i64 yqho, .int .i64 yqpr, .int .i64 yqpo, .int .i64 yqth, .int .i64 yqfl, .int .i64 yqaf] 39), resF f (igS (keyF ⟨ypr, yhe, yhp, yth, ytp, false, false, false, ysq⟩) la), resF g2 (igS (keyF ⟨ypr, yhe, yhp, yth, ytp, false, false, false, ysq⟩) la), blkR bv (.cells #[.int .i64 ypr, .int .i64 yhe, .int .i64 yhp, .int .i64 yth, .int .i64 ytp, .bool false, .bool false, .bool false, .int .i64 ysq] 41), blkR br (.cells #[.int .i64 ypr, .int .i64 yhe, .int .i64 yhp, .int .i64 yth, .int .i64 ytp, .bool false, .bool false, .bool true, .int .i64 ysq] 41), blkR bz (.cells #[.int .i64 ypr, .int .i64 yhe, .int .i64 yhp, .int .i64 yth, .int .i64 ytp, .bool false, .bool false, .bool false, .int .i64 0] 41)] from hO)
      clear hO
      have k6_6_248 : x247.cell? ⟨bz, 6, none⟩ = some (.bool false) := HO.out.cell 6 rfl 6 rfl
      have lk6_6_248 : x247.frozen? ⟨bz, 6, none⟩ = false := HO.out.frz 6 rfl 6
      have k6_7_249 : x247.cell? ⟨bz, 7, none⟩ = some (.bool false) := HO.out.cell 6 rfl 7 rfl
      have lk6_7_249 : x247.frozen? ⟨bz, 7, none⟩ = false := HO.out.frz 6 rfl 7
      have k6_8_250 : x247.cell? ⟨bz, 8, none⟩ = some (.int .i64 0) := HO.out.cell 6 rfl 8 rfl
      have lk6_8_250 : x247.frozen? ⟨bz, 8, none⟩ = false := HO.out.frz 6 rfl 8
      obtain ⟨x251, hx251⟩ : ∃ y, x247.setCell ⟨bz, 6, none⟩ (.bool false) = y := ⟨_, rfl⟩
      have hO := HO.out.setCell 6 rfl 6 (.bool false)
      rw [hx251] at hO
      replace HO := Lib.hid (show Own w none0 x251 [rowRl (.slice none 0 0) [], blkR bx (.cells #[.int .i64 yqho, .int .i64 yqpr, .int .i64 yqpo, .int .i64 yqth, .int .i64 yqfl, .int .i64 yqaf] 39), resF f (igS (keyF ⟨ypr, yhe, yhp, yth, ytp, false, false, false, ysq⟩) la), resF g2 (igS (keyF ⟨ypr, yhe, yhp, yth, ytp, false, false, false, ysq⟩) la), blkR bv (.cells #[.int .i64 ypr, .int .i64 yhe, .int .i64 yhp, .int .i64 yth, .int .i64 ytp, .bool false, .bool false, .bool false, .int .i64 ysq] 41), blkR br (.cells #[.int .i64 ypr, .int .i64 yhe, .int .i64 yhp, .int .i64 yth, .int .i64 ytp, .bool false, .bool false, .bool true, .int .i64 ysq] 41), blkR bz (.cells #[.int .i64 ypr, .int .i64 yhe, .int .i64 yhp, .int .i64 yth, .int .i64 ytp, .bool false, .bool false, .bool false, .int .i64 0] 41)] from hO)
      clear hO
      have k6_7_252 : x251.cell? ⟨bz, 7, none⟩ = some (.bool false) := HO.out.cell 6 rfl 7 rfl
      have lk6_7_252 : x251.frozen? ⟨bz, 7, none⟩ = false := HO.out.frz 6 rfl 7
      have k6_8_253 : x251.cell? ⟨bz, 8, none⟩ = some (.int .i64 0) := HO.out.cell 6 rfl 8 rfl
      have lk6_8_253 : x251.frozen? ⟨bz, 8, none⟩ = false := HO.out.frz 6 rfl 8
      obtain ⟨x254, hx254⟩ : ∃ y, x251.setCell ⟨bz, 7, none⟩ (.bool false) = y := ⟨_, rfl⟩
      have hO := HO.out.setCell 6 rfl 7 (.bool false)
      rw [hx254] at hO
      replace HO := Lib.hid (show Own w none0 x254 [rowRl (.slice none 0 0) [], blkR bx (.cells #[.int .i64 yqho, .int .i64 yqpr, .int .i64 yqpo, .int .i64 yqth, .int .i64 yqfl, .int .i64 yqaf] 39), resF f (igS (keyF ⟨ypr, yhe, yhp, yth, ytp, false, false, false, ysq⟩) la), resF g2 (igS (keyF ⟨ypr, yhe, yhp, yth, ytp, false, false, false, ysq⟩) la), blkR bv (.cells #[.int .i64 ypr, .int .i64 yhe, .int .i64 yhp, .int .i64 yth, .int .i64 ytp, .bool false, .bool false, .bool false, .int .i64 ysq] 41), blkR br (.cells #[.int .i64 ypr, .int .i64 yhe, .int .i64 yhp, .int .i64 yth, .int .i64 ytp, .bool false, .bool false, .bool true, .int .i64 ysq] 41), blkR bz (.cells #[.int .i64 ypr, .int .i64 yhe, .int .i64 yhp, .int .i64 yth, .int .i64 ytp, .bool false, .bool false, .bool false, .int .i64 0] 41)] from hO)
      clear hO
      have k6_8_255 : x254.cell? ⟨bz, 8, none⟩ = some (.int .i64 0) := HO.out.cell 6 rfl 8 rfl
      have lk6_8_255 : x254.frozen? ⟨bz, 8, none⟩ = false := HO.out.frz 6 rfl 8
      obtain ⟨x256, hx256⟩ : ∃ y, x254.setCell ⟨bz, 8, none⟩ (.int .i64 ysq) = y := ⟨_, rfl⟩
      have hO := HO.out.setCell 6 rfl 8 (.int .i64 ysq)
      rw [hx256] at hO
      replace HO := Lib.hid (show Own w none0 x256 [rowRl (.slice none 0 0) [], blkR bx (.cells #[.int .i64 yqho, .int .i64 yqpr, .int .i64 yqpo, .int .i64 yqth, .int .i64 yqfl, .int .i64 yqaf] 39), resF f (igS (keyF ⟨ypr, yhe, yhp, yth, ytp, false, false, false, ysq⟩) la), resF g2 (igS (keyF ⟨ypr, yhe, yhp, yth, ytp, false, false, false, ysq⟩) la), blkR bv (.cells #[.int .i64 ypr, .int .i64 yhe, .int .i64 yhp, .int .i64 yth, .int .i64 ytp, .bool false, .bool false, .bool false, .int .i64 ysq] 41), blkR br (.cells #[.int .i64 ypr, .int .i64 yhe, .int .i64 yhp, .int .i64 yth, .int .i64 ytp, .bool false, .bool false, .bool true, .int .i64 ysq] 41), blkR bz (.cells #[.int .i64 ypr, .int .i64 yhe, .int .i64 yhp, .int .i64 yth, .int .i64 ytp, .bool false, .bool false, .bool false, .int .i64 ysq] 41)] from hO)
      clear hO
      have y0 : x256.cell? ⟨b, o + k2 * 6, none⟩ = some (.int .i64 zqho) := keep HO.out.below v0
      have y1 : x256.cell? ⟨b, o + k2 * 6 + 1, none⟩ = some (.int .i64 zqpr) := keep HO.out.below v1
      have y2 : x256.cell? ⟨b, o + k2 * 6 + 2, none⟩ = some (.int .i64 zqpo) := keep HO.out.below v2
      have y3 : x256.cell? ⟨b, o + k2 * 6 + 3, none⟩ = some (.int .i64 zqth) := keep HO.out.below v3
      have y4 : x256.cell? ⟨b, o + k2 * 6 + 4, none⟩ = some (.int .i64 zqfl) := keep HO.out.below v4
      have y5 : x256.cell? ⟨b, o + k2 * 6 + 5, none⟩ = some (.int .i64 zqaf) := keep HO.out.below v5
      clear ycell hcc v0 v1 v2 v3 v4 v5
      have HFFu := Lib.hid (fun w => flowFrom_any ⟨zqho, zqpr, zqpo, zqth, zqfl, zqaf⟩ HXO.out w)
      have HVYu := Lib.hid (flowF_valid ⟨zqho, zqpr, zqpo, zqth, zqfl, zqaf⟩)
      generalize flowF ⟨zqho, zqpr, zqpo, zqth, zqfl, zqaf⟩ = fy at HFFu HVYu
      obtain ⟨upr, uhe, uhp, uth, utp, usy, ufi, urs, usq⟩ := fy
      go_wp2_with fail
      refine (o_still HO.out (HFFu.out _)).mono ?_
      rintro e x257 ⟨rfl, hO, -⟩
      replace HO := Lib.hid (show Own w none0 x257 [rowRl (.slice none 0 0) [], blkR bx (.cells #[.int .i64 yqho, .int .i64 yqpr, .int .i64 yqpo, .int .i64 yqth, .int .i64 yqfl, .int .i64 yqaf] 39), resF f (igS (keyF ⟨ypr, yhe, yhp, yth, ytp, false, false, false, ysq⟩) la), resF g2 (igS (keyF ⟨ypr, yhe, yhp, yth, ytp, false, false, false, ysq⟩) la), blkR bv (.cells #[.int .i64 ypr, .int .i64 yhe, .int .i64 yhp, .int .i64 yth, .int .i64 ytp, .bool false, .bool false, .bool false, .int .i64 ysq] 41), blkR br (.cells #[.int .i64 ypr, .int .i64 yhe, .int .i64 yhp, .int .i64 yth, .int .i64 ytp, .bool false, .bool false, .bool true, .int .i64 ysq] 41), blkR bz (.cells #[.int .i64 ypr, .int .i64 yhe, .int .i64 yhp, .int .i64 yth, .int .i64 ytp, .bool false, .bool false, .bool false, .int .i64 ysq] 41)] from hO)
      clear hO
      obtain ⟨x258, hx258⟩ : ∃ y, x257.alloc (.cells #[.int .i64 0, .int .i64 0, .int .i64 0, .int .i64 0, .int .i64 0, .bool false, .bool false, .bool false, .int .i64 0] 41) = y := ⟨_, rfl⟩
      obtain ⟨bw, hbw⟩ : ∃ y, x257.heap.size = y := ⟨_, rfl⟩
      have hO := HO.out.alloc (.cells #[.int .i64 0, .int .i64 0, .int .i64 0, .int .i64 0, .int .i64 0, .bool false, .bool false, .bool false, .int .i64 0] 41)
      rw [hx258, hbw] at hO
      replace HO := Lib.hid (show Own w none0 x258 [rowRl (.slice none 0 0) [], blkR bx (.cells #[.int .i64 yqho, .int .i64 yqpr, .int .i64 yqpo, .int .i64 yqth, .int .i64 yqfl, .int .i64 yqaf] 39), resF f (igS (keyF ⟨ypr, yhe, yhp, yth, ytp, false, false, false, ysq⟩) la), resF g2 (igS (keyF ⟨ypr, yhe, yhp, yth, ytp, false, false, false, ysq⟩) la), blkR bv (.cells #[.int .i64 ypr, .int .i64 yhe, .int .i64 yhp, .int .i64 yth, .int .i64 ytp, .bool false, .bool false, .bool false, .int .i64 ysq] 41), blkR br (.cells #[.int .i64 ypr, .int .i64 yhe, .int .i64 yhp, .int .i64 yth, .int .i64 ytp, .bool false, .bool false, .bool true, .int .i64 ysq] 41), blkR bz (.cells #[.int .i64 ypr, .int .i64 yhe, .int .i64 yhp, .int .i64 yth, .int .i64 ytp, .bool false, .bool false, .bool false, .int .i64 ysq] 41), blkR bw (.cells #[.int .i64 0, .int .i64 0, .int .i64 0, .int .i64 0, .int .i64 0, .bool false, .bool false, .bool false, .int .i64 0] 41)] from hO)
      clear hO
      have k7_0_259 : x258.cell? ⟨bw, 0, none⟩ = some (.int .i64 0) := HO.out.cell 7 rfl 0 rfl
      have lk7_0_259 : x258.frozen? ⟨bw, 0, none⟩ = false := HO.out.frz 7 rfl 0
      have k7_1_260 : x258.cell? ⟨bw, 1, none⟩ = some (.int .i64 0) := HO.out.cell 7 rfl 1 rfl
      have lk7_1_260 : x258.frozen? ⟨bw, 1, none⟩ = false := HO.out.frz 7 rfl 1
      have k7_2_261 : x258.cell? ⟨bw, 2, none⟩ = some (.int .i64 0) := HO.out.cell 7 rfl 2 rfl
      have lk7_2_261 : x258.frozen? ⟨bw, 2, none⟩ = false := HO.out.frz 7 rfl 2
      have k7_3_262 : x258.cell? ⟨bw, 3, none⟩ = some (.int .i64 0) := HO.out.cell 7 rfl 3 rfl
      have lk7_3_262 : x258.frozen? ⟨bw, 3, none⟩ = false := HO.out.frz 7 rfl 3
      have k7_4_263 : x258.cell? ⟨bw, 4, none⟩ = some (.int .i64 0) := HO.out.cell 7 rfl 4 rfl
      have lk7_4_263 : x258.frozen? ⟨bw, 4, none⟩ = false := HO.out.frz 7 rfl 4
      have k7_5_264 : x258.cell? ⟨bw, 5, none⟩ = some (.bool false) := HO.out.cell 7 rfl 5 rfl
      have lk7_5_264 : x258.frozen? ⟨bw, 5, none⟩ = false := HO.out.frz 7 rfl 5
      have k7_6_265 : x258.cell? ⟨bw, 6, none⟩ = some (.bool false) := HO.out.cell 7 rfl 6 rfl
      have lk7_6_265 : x258.frozen? ⟨bw, 6, none⟩ = false := HO.out.frz 7 rfl 6
      have k7_7_266 : x258.cell? ⟨bw, 7, none⟩ = some (.bool false) := HO.out.cell 7 rfl 7 rfl
      have lk7_7_266 : x258.frozen? ⟨bw, 7, none⟩ = false := HO.out.frz 7 rfl 7
      have k7_8_267 : x258.cell? ⟨bw, 8, none⟩ = some (.int .i64 0) := HO.out.cell 7 rfl 8 rfl
      have lk7_8_267 : x258.frozen? ⟨bw, 8, none⟩ = false := HO.out.frz 7 rfl 8
      obtain ⟨x268, hx268⟩ : ∃ y, x258.setCell ⟨bw, 0, none⟩ (.int .i64 upr) = y := ⟨_, rfl⟩
      have hO := HO.out.setCell 7 rfl 0 (.int .i64 upr)
      rw [hx268] at hO
      replace HO := Lib.hid (show Own w none0 x268 [rowRl (.slice none 0 0) [], blkR bx (.cells #[.int .i64 yqho, .int .i64 yqpr, .int .i64 yqpo, .int .i64 yqth, .int .i64 yqfl, .int .i64 yqaf] 39), resF f (igS (keyF ⟨ypr, yhe, yhp, yth, ytp, false, false, false, ysq⟩) la), resF g2 (igS (keyF ⟨ypr, yhe, yhp, yth, ytp, false, false, false, ysq⟩) la), blkR bv (.cells #[.int .i64 ypr, .int .i64 yhe, .int .i64 yhp, .int .i64 yth, .int .i64 ytp, .bool false, .bool false, .bool false, .int .i64 ysq] 41), blkR br (.cells #[.int .i64 ypr, .int .i64 yhe, .int .i64 yhp, .int .i64 yth, .int .i64 ytp, .bool false, .bool false, .bool true, .int .i64 ysq] 41), blkR bz (.cells #[.int .i64 ypr, .int .i64 yhe, .int .i64 yhp, .int .i64 yth, .int .i64 ytp, .bool false, .bool false, .bool false, .int .i64 ysq] 41), blkR bw (.cells #[.int .i64 upr, .int .i64 0, .int .i64 0, .int .i64 0, .int .i64 0, .bool false, .bool false, .bool false, .int .i64 0] 41)] from hO)
      clear hO
      have k7_1_269 : x268.cell? ⟨bw, 1, none⟩ = some (.int .i64 0) := HO.out.cell 7 rfl 1 rfl
      have lk7_1_269 : x268.frozen? ⟨bw, 1, none⟩ = false := HO.out.frz 7 rfl 1
      have k7_2_270 : x268.cell? ⟨bw, 2, none⟩ = some (.int .i64 0) := HO.out.cell 7 rfl 2 rfl
      have lk7_2_270 : x268.frozen? ⟨bw, 2, none⟩ = false := HO.out.frz 7 rfl 2
      have k7_3_271 : x268.cell? ⟨bw, 3, none⟩ = some (.int .i64 0) := HO.out.cell 7 rfl 3 rfl
      have lk7_3_271 : x268.frozen? ⟨bw, 3, none⟩ = false := HO.out.frz 7 rfl 3
      have k7_4_272 : x268.cell? ⟨bw, 4, none⟩ = some (.int .i64 0) := HO.out.cell 7 rfl 4 rfl
      have lk7_4_272 : x268.frozen? ⟨bw, 4, none⟩ = false := HO.out.frz 7 rfl 4
      have k7_5_273 : x268.cell? ⟨bw, 5, none⟩ = some (.bool false) := HO.out.cell 7 rfl 5 rfl
      have lk7_5_273 : x268.frozen? ⟨bw, 5, none⟩ = false := HO.out.frz 7 rfl 5
      have k7_6_274 : x268.cell? ⟨bw, 6, none⟩ = some (.bool false) := HO.out.cell 7 rfl 6 rfl
      have lk7_6_274 : x268.frozen? ⟨bw, 6, none⟩ = false := HO.out.frz 7 rfl 6
      have k7_7_275 : x268.cell? ⟨bw, 7, none⟩ = some (.bool false) := HO.out.cell 7 rfl 7 rfl
      have lk7_7_275 : x268.frozen? ⟨bw, 7, none⟩ = false := HO.out.frz 7 rfl 7
      have k7_8_276 : x268.cell? ⟨bw, 8, none⟩ = some (.int .i64 0) := HO.out.cell 7 rfl 8 rfl
      have lk7_8_276 : x268.frozen? ⟨bw, 8, none⟩ = false := HO.out.frz 7 rfl 8
      obtain ⟨x277, hx277⟩ : ∃ y, x268.setCell ⟨bw, 1, none⟩ (.int .i64 uhe) = y := ⟨_, rfl⟩
      have hO := HO.out.setCell 7 rfl 1 (.int .i64 uhe)
      rw [hx277] at hO
      replace HO := Lib.hid (show Own w none0 x277 [rowRl (.slice none 0 0) [], blkR bx (.cells #[.int .i64 yqho, .int .i64 yqpr, .int .i64 yqpo, .int .i64 yqth, .int .i64 yqfl, .int .i64 yqaf] 39), resF f (igS (keyF ⟨ypr, yhe, yhp, yth, ytp, false, false, false, ysq⟩) la), resF g2 (igS (keyF ⟨ypr, yhe, yhp, yth, ytp, false, false, false, ysq⟩) la), blkR bv (.cells #[.int .i64 ypr, .int .i64 yhe, .int .i64 yhp, .int .i64 yth, .int .i64 ytp, .bool false, .bool false, .bool false, .int .i64 ysq] 41), blkR br (.cells #[.int .i64 ypr, .int .i64 yhe, .int .i64 yhp, .int .i64 yth, .int .i64 ytp, .bool false, .bool false, .bool true, .int .i64 ysq] 41), blkR bz (.cells #[.int .i64 ypr, .int .i64 yhe, .int .i64 yhp, .int .i64 yth, .int .i64 ytp, .bool false, .bool false, .bool false, .int .i64 ysq] 41), blkR bw (.cells #[.int .i64 upr, .int .i64 uhe, .int .i64 0, .int .i64 0, .int .i64 0, .bool false, .bool false, .bool false, .int .i64 0] 41)] from hO)
      clear hO
      have k7_2_278 : x277.cell? ⟨bw, 2, none⟩ = some (.int .i64 0) := HO.out.cell 7 rfl 2 rfl
      have lk7_2_278 : x277.frozen? ⟨bw, 2, none⟩ = false := HO.out.frz 7 rfl 2
      have k7_3_279 : x277.cell? ⟨bw, 3, none⟩ = some (.int .i64 0) := HO.out.cell 7 rfl 3 rfl
      have lk7_3_279 : x277.frozen? ⟨bw, 3, none⟩ = false := HO.out.frz 7 rfl 3
      have k7_4_280 : x277.cell? ⟨bw, 4, none⟩ = some (.int .i64 0) := HO.out.cell 7 rfl 4 rfl
      have lk7_4_280 : x277.frozen? ⟨bw, 4, none⟩ = false := HO.out.frz 7 rfl 4
      have k7_5_281 : x277.cell? ⟨bw, 5, none⟩ = some (.bool false) := HO.out.cell 7 rfl 5 rfl
      have lk7_5_281 : x277.frozen? ⟨bw, 5, none⟩ = false := HO.out.frz 7 rfl 5
      have k7_6_282 : x277.cell? ⟨bw, 6, none⟩ = some (.bool false) := HO.out.cell 7 rfl 6 rfl
      have lk7_6_282 : x277.frozen? ⟨bw, 6, none⟩ = false := HO.out.frz 7 rfl 6
      have k7_7_283 : x277.cell? ⟨bw, 7, none⟩ = some (.bool false) := HO.out.cell 7 rfl 7 rfl
      have lk7_7_283 : x277.frozen? ⟨bw, 7, none⟩ = false := HO.out.frz 7 rfl 7
      have k7_8_284 : x277.cell? ⟨bw, 8, none⟩ = some (.int .i64 0) := HO.out.cell 7 rfl 8 rfl
      have lk7_8_284 : x277.frozen? ⟨bw, 8, none⟩ = false := HO.out.frz 7 rfl 8
      obtain ⟨x285, hx285⟩ : ∃ y, x277.setCell ⟨bw, 2, none⟩ (.int .i64 uhp) = y := ⟨_, rfl⟩
      have hO := HO.out.setCell 7 rfl 2 (.int .i64 uhp)
      rw [hx285] at hO
      replace HO := Lib.hid (show Own w none0 x285 [rowRl (.slice none 0 0) [], blkR bx (.cells #[.int .i64 yqho, .int .i64 yqpr, .int .i64 yqpo, .int .i64 yqth, .int .i64 yqfl, .int .i64 yqaf] 39), resF f (igS (keyF ⟨ypr, yhe, yhp, yth, ytp, false, false, false, ysq⟩) la), resF g2 (igS (keyF ⟨ypr, yhe, yhp, yth, ytp, false, false, false, ysq⟩) la), blkR bv (.cells #[.int .i64 ypr, .int .i64 yhe, .int .i64 yhp, .int .i64 yth, .int .i64 ytp, .bool false, .bool false, .bool false, .int .i64 ysq] 41), blkR br (.cells #[.int .i64 ypr, .int .i64 yhe, .int .i64 yhp, .int .i64 yth, .int .i64 ytp, .bool false, .bool false, .bool true, .int .i64 ysq] 41), blkR bz (.cells #[.int .i64 ypr, .int .i64 yhe, .int .i64 yhp, .int .i64 yth, .int .i64 ytp, .bool false, .bool false, .bool false, .int .i64 ysq] 41), blkR bw (.cells #[.int .i64 upr, .int .i64 uhe, .int .i64 uhp, .int .i64 0, .int .i64 0, .bool false, .bool false, .bool false, .int .i64 0] 41)] from hO)
      clear hO
      have k7_3_286 : x285.cell? ⟨bw, 3, none⟩ = some (.int .i64 0) := HO.out.cell 7 rfl 3 rfl
      have lk7_3_286 : x285.frozen? ⟨bw, 3, none⟩ = false := HO.out.frz 7 rfl 3
      have k7_4_287 : x285.cell? ⟨bw, 4, none⟩ = some (.int .i64 0) := HO.out.cell 7 rfl 4 rfl
      have lk7_4_287 : x285.frozen? ⟨bw, 4, none⟩ = false := HO.out.frz 7 rfl 4
      have k7_5_288 : x285.cell? ⟨bw, 5, none⟩ = some (.bool false) := HO.out.cell 7 rfl 5 rfl
      have lk7_5_288 : x285.frozen? ⟨bw, 5, none⟩ = false := HO.out.frz 7 rfl 5
      have k7_6_289 : x285.cell? ⟨bw, 6, none⟩ = some (.bool false) := HO.out.cell 7 rfl 6 rfl
      have lk7_6_289 : x285.frozen? ⟨bw, 6, none⟩ = false := HO.out.frz 7 rfl 6
      have k7_7_290 : x285.cell? ⟨bw, 7, none⟩ = some (.bool false) := HO.out.cell 7 rfl 7 rfl
      have lk7_7_290 : x285.frozen? ⟨bw, 7, none⟩ = false := HO.out.frz 7 rfl 7
      have k7_8_291 : x285.cell? ⟨bw, 8, none⟩ = some (.int .i64 0) := HO.out.cell 7 rfl 8 rfl
      have lk7_8_291 : x285.frozen? ⟨bw, 8, none⟩ = false := HO.out.frz 7 rfl 8
      obtain ⟨x292, hx292⟩ : ∃ y, x285.setCell ⟨bw, 3, none⟩ (.int .i64 uth) = y := ⟨_, rfl⟩
      have hO := HO.out.setCell 7 rfl 3 (.int .i64 uth)
      rw [hx292] at hO
      replace HO := Lib.hid (show Own w none0 x292 [rowRl (.slice none 0 0) [], blkR bx (.cells #[.int .i64 yqho, .int .i64 yqpr, .int .i64 yqpo, .int .i64 yqth, .int .i64 yqfl, .int .i64 yqaf] 39), resF f (igS (keyF ⟨ypr, yhe, yhp, yth, ytp, false, false, false, ysq⟩) la), resF g2 (igS (keyF ⟨ypr, yhe, yhp, yth, ytp, false, false, false, ysq⟩) la), blkR bv (.cells #[.int .i64 ypr, .int .i64 yhe, .int .i64 yhp, .int .i64 yth, .int .i64 ytp, .bool false, .bool false, .bool false, .int .i64 ysq] 41), blkR br (.cells #[.int .i64 ypr, .int .i64 yhe, .int .i64 yhp, .int .i64 yth, .int .i64 ytp, .bool false, .bool false, .bool true, .int .i64 ysq] 41), blkR bz (.cells #[.int .i64 ypr, .int .i64 yhe, .int .i64 yhp, .int .i64 yth, .int .i64 ytp, .bool false, .bool false, .bool false, .int .i64 ysq] 41), blkR bw (.cells #[.int .i64 upr, .int .i64 uhe, .int .i64 uhp, .int .i64 uth, .int .i64 0, .bool false, .bool false, .bool false, .int .i64 0] 41)] from hO)
      clear hO
      have k7_4_293 : x292.cell? ⟨bw, 4, none⟩ = some (.int .i64 0) := HO.out.cell 7 rfl 4 rfl
      have lk7_4_293 : x292.frozen? ⟨bw, 4, none⟩ = false := HO.out.frz 7 rfl 4
      have k7_5_294 : x292.cell? ⟨bw, 5, none⟩ = some (.bool false) := HO.out.cell 7 rfl 5 rfl
      have lk7_5_294 : x292.frozen? ⟨bw, 5, none⟩ = false := HO.out.frz 7 rfl 5
      have k7_6_295 : x292.cell? ⟨bw, 6, none⟩ = some (.bool false) := HO.out.cell 7 rfl 6 rfl
      have lk7_6_295 : x292.frozen? ⟨bw, 6, none⟩ = false := HO.out.frz 7 rfl 6
      have k7_7_296 : x292.cell? ⟨bw, 7, none⟩ = some (.bool false) := HO.out.cell 7 rfl 7 rfl
      have lk7_7_296 : x292.frozen? ⟨bw, 7, none⟩ = false := HO.out.frz 7 rfl 7
      have k7_8_297 : x292.cell? ⟨bw, 8, none⟩ = some (.int .i64 0) := HO.out.cell 7 rfl 8 rfl
      have lk7_8_297 : x292.frozen? ⟨bw, 8, none⟩ = false := HO.out.frz 7 rfl 8
      obtain ⟨x298, hx298⟩ : ∃ y, x292.setCell ⟨bw, 4, none⟩ (.int .i64 utp) = y := ⟨_, rfl⟩
      have hO := HO.out.setCell 7 rfl 4 (.int .i64 utp)
      rw [hx298] at hO
      replace HO := Lib.hid (show Own w none0 x298 [rowRl (.slice none 0 0) [], blkR bx (.cells #[.int .i64 yqho, .int .i64 yqpr, .int .i64 yqpo, .int .i64 yqth, .int .i64 yqfl, .int .i64 yqaf] 39), resF f (igS (keyF ⟨ypr, yhe, yhp, yth, ytp, false, false, false, ysq⟩) la), resF g2 (igS (keyF ⟨ypr, yhe, yhp, yth, ytp, false, false, false, ysq⟩) la), blkR bv (.cells #[.int .i64 ypr, .int .i64 yhe, .int .i64 yhp, .int .i64 yth, .int .i64 ytp, .bool false, .bool false, .bool false, .int .i64 ysq] 41), blkR br (.cells #[.int .i64 ypr, .int .i64 yhe, .int .i64 yhp, .int .i64 yth, .int .i64 ytp, .bool false, .bool false, .bool true, .int .i64 ysq] 41), blkR bz (.cells #[.int .i64 ypr, .int .i64 yhe, .int .i64 yhp, .int .i64 yth, .int .i64 ytp, .bool false, .bool false, .bool false, .int .i64 ysq] 41), blkR bw (.cells #[.int .i64 upr, .int .i64 uhe, .int .i64 uhp, .int .i64 uth, .int .i64 utp, .bool false, .bool false, .bool false, .int .i64 0] 41)] from hO)
      clear hO
      have k7_5_299 : x298.cell? ⟨bw, 5, none⟩ = some (.bool false) := HO.out.cell 7 rfl 5 rfl
      have lk7_5_299 : x298.frozen? ⟨bw, 5, none⟩ = false := HO.out.frz 7 rfl 5
      have k7_6_300 : x298.cell? ⟨bw, 6, none⟩ = some (.bool false) := HO.out.cell 7 rfl 6 rfl
      have lk7_6_300 : x298.frozen? ⟨bw, 6, none⟩ = false := HO.out.frz 7 rfl 6
      have k7_7_301 : x298.cell? ⟨bw, 7, none⟩ = some (.bool false) := HO.out.cell 7 rfl 7 rfl
      have lk7_7_301 : x298.frozen? ⟨bw, 7, none⟩ = false := HO.out.frz 7 rfl 7
      have k7_8_302 : x298.cell? ⟨bw, 8, none⟩ = some (.int .i64 0) := HO.out.cell 7 rfl 8 rfl
      have lk7_8_302 : x298.frozen? ⟨bw, 8, none⟩ = false := HO.out.frz 7 rfl 8
      obtain ⟨x303, hx303⟩ : ∃ y, x298.setCell ⟨bw, 5, none⟩ (.bool usy) = y := ⟨_, rfl⟩
      have hO := HO.out.setCell 7 rfl 5 (.bool usy)
      rw [hx303] at hO
      replace HO := Lib.hid (show Own w none0 x303 [rowRl (.slice none 0 0) [], blkR bx (.cells #[.int .i64 yqho, .int .i64 yqpr, .int .i64 yqpo, .int .i64 yqth, .int .i64 yqfl, .int .i64 yqaf] 39), resF f (igS (keyF ⟨ypr, yhe, yhp, yth, ytp, false, false, false, ysq⟩) la), resF g2 (igS (keyF ⟨ypr, yhe, yhp, yth, ytp, false, false, false, ysq⟩) la), blkR bv (.cells #[.int .i64 ypr, .int .i64 yhe, .int .i64 yhp, .int .i64 yth, .int .i64 ytp, .bool false, .bool false, .bool false, .int .i64 ysq] 41), blkR br (.cells #[.int .i64 ypr, .int .i64 yhe, .int .i64 yhp, .int .i64 yth, .int .i64 ytp, .bool false, .bool false, .bool true, .int .i64 ysq] 41), blkR bz (.cells #[.int .i64 ypr, .int .i64 yhe, .int .i64 yhp, .int .i64 yth, .int .i64 ytp, .bool false, .bool false, .bool false, .int .i64 ysq] 41), blkR bw (.cells #[.int .i64 upr, .int .i64 uhe, .int .i64 uhp, .int .i64 uth, .int .i64 utp, .bool usy, .bool false, .bool false, .int .i64 0] 41)] from hO)
      clear hO
      have k7_6_304 : x303.cell? ⟨bw, 6, none⟩ = some (.bool false) := HO.out.cell 7 rfl 6 rfl
      have lk7_6_304 : x303.frozen? ⟨bw, 6, none⟩ = false := HO.out.frz 7 rfl 6
      have k7_7_305 : x303.cell? ⟨bw, 7, none⟩ = some (.bool false) := HO.out.cell 7 rfl 7 rfl
      have lk7_7_305 : x303.frozen? ⟨bw, 7, none⟩ = false := HO.out.frz 7 rfl 7
      have k7_8_306 : x303.cell? ⟨bw, 8, none⟩ = some (.int .i64 0) := HO.out.cell 7 rfl 8 rfl
      have lk7_8_306 : x303.frozen? ⟨bw, 8, none⟩ = false := HO.out.frz 7 rfl 8
      obtain ⟨x307, hx307⟩ : ∃ y, x303.setCell ⟨bw, 6, none⟩ (.bool ufi) = y := ⟨_, rfl⟩
      have hO := HO.out.setCell 7 rfl 6 (.bool ufi)
      rw [hx307] at hO
      replace HO := Lib.hid (show Own w none0 x307 [rowRl (.slice none 0 0) [], blkR bx (.cells #[.int .i64 yqho, .int .i64 yqpr, .int .i64 yqpo, .int .i64 yqth, .int .i64 yqfl, .int .i64 yqaf] 39), resF f (igS (keyF ⟨ypr, yhe, yhp, yth, ytp, false, false, false, ysq⟩) la), resF g2 (igS (keyF ⟨ypr, yhe, yhp, yth, ytp, false, false, false, ysq⟩) la), blkR bv (.cells #[.int .i64 ypr, .int .i64 yhe, .int .i64 yhp, .int .i64 yth, .int .i64 ytp, .bool false, .bool false, .bool false, .int .i64 ysq] 41), blkR br (.cells #[.int .i64 ypr, .int .i64 yhe, .int .i64 yhp, .int .i64 yth, .int .i64 ytp, .bool false, .bool false, .bool true, .int .i64 ysq] 41), blkR bz (.cells #[.int .i64 ypr, .int .i64 yhe, .int .i64 yhp, .int .i64 yth, .int .i64 ytp, .bool false, .bool false, .bool false, .int .i64 ysq] 41), blkR bw (.cells #[.int .i64 upr, .int .i64 uhe, .int .i64 uhp, .int .i64 uth, .int .i64 utp, .bool usy, .bool ufi, .bool false, .int .i64 0] 41)] from hO)
      clear hO
      have k7_7_308 : x307.cell? ⟨bw, 7, none⟩ = some (.bool false) := HO.out.cell 7 rfl 7 rfl
      have lk7_7_308 : x307.frozen? ⟨bw, 7, none⟩ = false := HO.out.frz 7 rfl 7
      have k7_8_309 : x307.cell? ⟨bw, 8, none⟩ = some (.int .i64 0) := HO.out.cell 7 rfl 8 rfl
      have lk7_8_309 : x307.frozen? ⟨bw, 8, none⟩ = false := HO.out.frz 7 rfl 8
      obtain ⟨x310, hx310⟩ : ∃ y, x307.setCell ⟨bw, 7, none⟩ (.bool urs) = y := ⟨_, rfl⟩
      have hO := HO.out.setCell 7 rfl 7 (.bool urs)
      rw [hx310] at hO
      replace HO := Lib.hid (show Own w none0 x310 [rowRl (.slice none 0 0) [], blkR bx (.cells #[.int .i64 yqho, .int .i64 yqpr, .int .i64 yqpo, .int .i64 yqth, .int .i64 yqfl, .int .i64 yqaf] 39), resF f (igS (keyF ⟨ypr, yhe, yhp, yth, ytp, false, false, false, ysq⟩) la), resF g2 (igS (keyF ⟨ypr, yhe, yhp, yth, ytp, false, false, false, ysq⟩) la), blkR bv (.cells #[.int .i64 ypr, .int .i64 yhe, .int .i64 yhp, .int .i64 yth, .int .i64 ytp, .bool false, .bool false, .bool false, .int .i64 ysq] 41), blkR br (.cells #[.int .i64 ypr, .int .i64 yhe, .int .i64 yhp, .int .i64 yth, .int .i64 ytp, .bool false, .bool false, .bool true, .int .i64 ysq] 41), blkR bz (.cells #[.int .i64 ypr, .int .i64 yhe, .int .i64 yhp, .int .i64 yth, .int .i64 ytp, .bool false, .bool false, .bool false, .int .i64 ysq] 41), blkR bw (.cells #[.int .i64 upr, .int .i64 uhe, .int .i64 uhp, .int .i64 uth, .int .i64 utp, .bool usy, .bool ufi, .bool urs, .int .i64 0] 41)] from hO)
      clear hO
      have k7_8_311 : x310.cell? ⟨bw, 8, none⟩ = some (.int .i64 0) := HO.out.cell 7 rfl 8 rfl
      have lk7_8_311 : x310.frozen? ⟨bw, 8, none⟩ = false := HO.out.frz 7 rfl 8
      obtain ⟨x312, hx312⟩ : ∃ y, x310.setCell ⟨bw, 8, none⟩ (.int .i64 usq) = y := ⟨_, rfl⟩
      have hO := HO.out.setCell 7 rfl 8 (.int .i64 usq)
      rw [hx312] at hO
      replace HO := Lib.hid (show Own w none0 x312 [rowRl (.slice none 0 0) [], blkR bx (.cells #[.int .i64 yqho, .int .i64 yqpr, .int .i64 yqpo, .int .i64 yqth, .int .i64 yqfl, .int .i64 yqaf] 39), resF f (igS (keyF ⟨ypr, yhe, yhp, yth, ytp, false, false, false, ysq⟩) la), resF g2 (igS (keyF ⟨ypr, yhe, yhp, yth, ytp, false, false, false, ysq⟩) la), blkR bv (.cells #[.int .i64 ypr, .int .i64 yhe, .int .i64 yhp, .int .i64 yth, .int .i64 ytp, .bool false, .bool false, .bool false, .int .i64 ysq] 41), blkR br (.cells #[.int .i64 ypr, .int .i64 yhe, .int .i64 yhp, .int .i64 yth, .int .i64 ytp, .bool false, .bool false, .bool true, .int .i64 ysq] 41), blkR bz (.cells #[.int .i64 ypr, .int .i64 yhe, .int .i64 yhp, .int .i64 yth, .int .i64 ytp, .bool false, .bool false, .bool false, .int .i64 ysq] 41), blkR bw (.cells #[.int .i64 upr, .int .i64 uhe, .int .i64 uhp, .int .i64 uth, .int .i64 utp, .bool usy, .bool ufi, .bool urs, .int .i64 usq] 41)] from hO)
      clear hO
      clear y0 y1 y2 y3 y4 y5
      have z7_5 : x312.cell? ⟨bw, 5, none⟩ = some (.bool usy) := HO.out.cell 7 rfl 5 rfl
      have z6_5 : x312.cell? ⟨bz, 5, none⟩ = some (.bool false) := HO.out.cell 6 rfl 5 rfl
      have y6_5 : x312.frozen? ⟨bz, 5, none⟩ = false := HO.out.frz 6 rfl 5
      obtain ⟨x313, hx313⟩ : ∃ y, x312.setCell ⟨bz, 5, none⟩ (.bool usy) = y := ⟨_, rfl⟩
      have hO := HO.out.setCell 6 rfl 5 (.bool usy)
      rw [hx313] at hO
      replace HO := Lib.hid (show Own w none0 x313 [rowRl (.slice none 0 0) [], blkR bx (.cells #[.int .i64 yqho, .int .i64 yqpr, .int .i64 yqpo, .int .i64 yqth, .int .i64 yqfl, .int .i64 yqaf] 39), resF f (igS (keyF ⟨ypr, yhe, yhp, yth, ytp, false, false, false, ysq⟩) la), resF g2 (igS (keyF ⟨ypr, yhe, yhp, yth, ytp, false, false, false, ysq⟩) la), blkR bv (.cells #[.int .i64 ypr, .int .i64 yhe, .int .i64 yhp, .int .i64 yth, .int .i64 ytp, .bool false, .bool false, .bool false, .int .i64 ysq] 41), blkR br (.cells #[.int .i64 ypr, .int .i64 yhe, .int .i64 yhp, .int .i64 yth, .int .i64 ytp, .bool false, .bool false, .bool true, .int .i64 ysq] 41), blkR bz (.cells #[.int .i64 ypr, .int .i64 yhe, .int .i64 yhp, .int .i64 yth, .int .i64 ytp, .bool usy, .bool false, .bool false, .int .i64 ysq] 41), blkR bw (.cells #[.int .i64 upr, .int .i64 uhe, .int .i64 uhp, .int .i64 uth, .int .i64 utp, .bool usy, .bool ufi, .bool urs, .int .i64 usq] 41)] from hO)
      clear hO
      have z7_6 : x313.cell? ⟨bw, 6, none⟩ = some (.bool ufi) := HO.out.cell 7 rfl 6 rfl
      have z6_6 : x313.cell? ⟨bz, 6, none⟩ = some (.bool false) := HO.out.cell 6 rfl 6 rfl
      have y6_6 : x313.frozen? ⟨bz, 6, none⟩ = false := HO.out.frz 6 rfl 6
      obtain ⟨x314, hx314⟩ : ∃ y, x313.setCell ⟨bz, 6, none⟩ (.bool ufi) = y := ⟨_, rfl⟩
      have hO := HO.out.setCell 6 rfl 6 (.bool ufi)
      rw [hx314] at hO
      replace HO := Lib.hid (show Own w none0 x314 [rowRl (.slice none 0 0) [], blkR bx (.cells #[.int .i64 yqho, .int .i64 yqpr, .int .i64 yqpo, .int .i64 yqth, .int .i64 yqfl, .int .i64 yqaf] 39), resF f (igS (keyF ⟨ypr, yhe, yhp, yth, ytp, false, false, false, ysq⟩) la), resF g2 (igS (keyF ⟨ypr, yhe, yhp, yth, ytp, false, false, false, ysq⟩) la), blkR bv (.cells #[.int .i64 ypr, .int .i64 yhe, .int .i64 yhp, .int .i64 yth, .int .i64 ytp, .bool false, .bool false, .bool false, .int .i64 ysq] 41), blkR br (.cells #[.int .i64 ypr, .int .i64 yhe, .int .i64 yhp, .int .i64 yth, .int .i64 ytp, .bool false, .bool false, .bool true, .int .i64 ysq] 41), blkR bz (.cells #[.int .i64 ypr, .int .i64 yhe, .int .i64 yhp, .int .i64 yth, .int .i64 ytp, .bool usy, .bool ufi, .bool false, .int .i64 ysq] 41), blkR bw (.cells #[.int .i64 upr, .int .i64 uhe, .int .i64 uhp, .int .i64 uth, .int .i64 utp, .bool usy, .bool ufi, .bool urs, .int .i64 usq] 41)] from hO)
      clear hO
      have z7_7 : x314.cell? ⟨bw, 7, none⟩ = some (.bool urs) := HO.out.cell 7 rfl 7 rfl
      have z6_7 : x314.cell? ⟨bz, 7, none⟩ = some (.bool false) := HO.out.cell 6 rfl 7 rfl
      have y6_7 : x314.frozen? ⟨bz, 7, none⟩ = false := HO.out.frz 6 rfl 7
      obtain ⟨x315, hx315⟩ : ∃ y, x314.setCell ⟨bz, 7, none⟩ (.bool urs) = y := ⟨_, rfl⟩
      have hO := HO.out.setCell 6 rfl 7 (.bool urs)
      rw [hx315] at hO
      replace HO := Lib.hid (show Own w none0 x315 [rowRl (.slice none 0 0) [], blkR bx (.cells #[.int .i64 yqho, .int .i64 yqpr, .int .i64 yqpo, .int .i64 yqth, .int .i64 yqfl, .int .i64 yqaf] 39), resF f (igS (keyF ⟨ypr, yhe, yhp, yth, ytp, false, false, false, ysq⟩) la), resF g2 (igS (keyF ⟨ypr, yhe, yhp, yth, ytp, false, false, false, ysq⟩) la), blkR bv (.cells #[.int .i64 ypr, .int .i64 yhe, .int .i64 yhp, .int .i64 yth, .int .i64 ytp, .bool false, .bool false, .bool false, .int .i64 ysq] 41), blkR br (.cells #[.int .i64 ypr, .int .i64 yhe, .int .i64 yhp, .int .i64 yth, .int .i64 ytp, .bool false, .bool false, .bool true, .int .i64 ysq] 41), blkR bz (.cells #[.int .i64 ypr, .int .i64 yhe, .int .i64 yhp, .int .i64 yth, .int .i64 ytp, .bool usy, .bool ufi, .bool urs, .int .i64 ysq] 41), blkR bw (.cells #[.int .i64 upr, .int .i64 uhe, .int .i64 uhp, .int .i64 uth, .int .i64 utp, .bool usy, .bool ufi, .bool urs, .int .i64 usq] 41)] from hO)
      clear hO
      go_wp2
      clear z4_0 z4_1 z4_2 z4_3 z4_4 z4_5 z4_6 z4_7 z4_8 hx202 hbz k6_0_203 lk6_0_203 k6_1_204 lk6_1_204 k6_2_205 lk6_2_205 k6_3_206 lk6_3_206 k6_4_207 lk6_4_207 k6_5_208 lk6_5_208 k6_6_209 lk6_6_209 k6_7_210 lk6_7_210 k6_8_211 lk6_8_211 hx212 k6_1_213 lk6_1_213 k6_2_214 lk6_2_214 k6_3_215 lk6_3_215 k6_4_216 lk6_4_216 k6_5_217 lk6_5_217 k6_6_218 lk6_6_218 k6_7_219 lk6_7_219 k6_8_220 lk6_8_220 hx221 k6_2_222 lk6_2_222 k6_3_223 lk6_3_223 k6_4_224 lk6_4_224 k6_5_225 lk6_5_225 k6_6_226 lk6_6_226 k6_7_227 lk6_7_227 k6_8_228 lk6_8_228 hx229 k6_3_230 lk6_3_230 k6_4_231 lk6_4_231 k6_5_232 lk6_5_232 k6_6_233 lk6_6_233 k6_7_234 lk6_7_234 k6_8_235 lk6_8_235 hx236 k6_4_237 lk6_4_237 k6_5_238 lk6_5_238 k6_6_239 lk6_6_239 k6_7_240 lk6_7_240 k6_8_241 lk6_8_241 hx242 k6_5_243 lk6_5_243 k6_6_244 lk6_6_244 k6_7_245 lk6_7_245 k6_8_246 lk6_8_246 hx247 k6_6_248 lk6_6_248 k6_7_249 lk6_7_249 k6_8_250 lk6_8_250 hx251 k6_7_252 lk6_7_252 k6_8_253 lk6_8_253 hx254 k6_8_255 lk6_8_255 hx256 hx258 hbw k7_0_259 lk7_0_259 k7_1_260 lk7_1_260 k7_2_261 lk7_2_261 k7_3_262 lk7_3_262 k7_4_263 lk7_4_263 k7_5_264 lk7_5_264 k7_6_265 lk7_6_265 k7_7_266 lk7_7_266 k7_8_267 lk7_8_267 hx268 k7_1_269 lk7_1_269 k7_2_270 lk7_2_270 k7_3_271 lk7_3_271 k7_4_272 lk7_4_272 k7_5_273 lk7_5_273 k7_6_274 lk7_6_274 k7_7_275 lk7_7_275 k7_8_276 lk7_8_276 hx277 k7_2_278 lk7_2_278 k7_3_279 lk7_3_279 k7_4_280 lk7_4_280 k7_5_281 lk7_5_281 k7_6_282 lk7_6_282 k7_7_283 lk7_7_283 k7_8_284 lk7_8_284 hx285 k7_3_286 lk7_3_286 k7_4_287 lk7_4_287 k7_5_288 lk7_5_288 k7_6_289 lk7_6_289 k7_7_290 lk7_7_290 k7_8_291 lk7_8_291 hx292 k7_4_293 lk7_4_293 k7_5_294 lk7_5_294 k7_6_295 lk7_6_295 k7_7_296 lk7_7_296 k7_8_297 lk7_8_297 hx298 k7_5_299 lk7_5_299 k7_6_300 lk7_6_300 k7_7_301 lk7_7_301 k7_8_302 lk7_8_302 hx303 k7_6_304 lk7_6_304 k7_7_305 lk7_7_305 k7_8_306 lk7_8_306 hx307 k7_7_308 lk7_7_308 k7_8_309 lk7_8_309 hx310 k7_8_311 lk7_8_311 hx312 z7_5 z6_5 y6_5 hx313 z7_6 z6_6 y6_6 hx314 z7_7 z6_7 y6_7 hx315
      have HVZ := Lib.hid (show validF ⟨ypr, yhe, yhp, yth, ytp, usy, ufi, urs, ysq⟩ = true by rw [← HVY.out]; exact valid_flags rfl)
      have HX1 := Lib.hid (show didF (igS (keyF ⟨ypr, yhe, yhp, yth, ytp, false, false, false, ysq⟩) la) zqho (nw + pa) ⟨ypr, yhe, yhp, yth, ytp, usy, ufi, urs, ysq⟩ = (true, igS (keyF ⟨ypr, yhe, yhp, yth, ytp, false, false, false, ysq⟩) (igN zqho (nw + pa) la)) from ig_step rfl HVZ.out (by omega))
      have HX2 := Lib.hid (show didF (igS (keyF ⟨ypr, yhe, yhp, yth, ytp, false, false, false, ysq⟩) la) zqho (nw + pa) ⟨ypr, yhe, yhp, yth, ytp, false, false, false, ysq⟩ = (true, igS (keyF ⟨ypr, yhe, yhp, yth, ytp, false, false, false, ysq⟩) (igN zqho (nw + pa) la)) from ig_step rfl HVY.out (by omega))
      generalize hΓ : ghO w none0 [[rowRl (.slice none 0 0) [], blkR bx (.cells #[.int .i64 yqho, .int .i64 yqpr, .int .i64 yqpo, .int .i64 yqth, .int .i64 yqfl, .int .i64 yqaf] 39), resF f (igS (keyF ⟨ypr, yhe, yhp, yth, ytp, false, false, false, ysq⟩) la), resF g2 (igS (keyF ⟨ypr, yhe, yhp, yth, ytp, false, false, false, ysq⟩) la), blkR bv (.cells #[.int .i64 ypr, .int .i64 yhe, .int .i64 yhp, .int .i64 yth, .int .i64 ytp, .bool false, .bool false, .bool false, .int .i64 ysq] 41), blkR br (.cells #[.int .i64 ypr, .int .i64 yhe, .int .i64 yhp, .int .i64 yth, .int .i64 ytp, .bool false, .bool false, .bool true, .int .i64 ysq] 41), blkR bz (.cells #[.int .i64 ypr, .int .i64 yhe, .int .i64 yhp, .int .i64 yth, .int .i64 ytp, .bool usy, .bool ufi, .bool urs, .int .i64 ysq] 41), blkR bw (.cells #[.int .i64 upr, .int .i64 uhe, .int .i64 uhp, .int .i64 uth, .int .i64 utp, .bool usy, .bool ufi, .bool urs, .int .i64 usq] 41)], [rowRl (.slice none 0 0) [], blkR bx (.cells #[.int .i64 yqho, .int .i64 yqpr, .int .i64 yqpo, .int .i64 yqth, .int .i64 yqfl, .int .i64 yqaf] 39), resF f (igS (keyF ⟨ypr, yhe, yhp, yth, ytp, false, false, false, ysq⟩) (igN zqho (nw + pa) la)), resF g2 (igS (keyF ⟨ypr, yhe, yhp, yth, ytp, false, false, false, ysq⟩) la), blkR bv (.cells #[.int .i64 ypr, .int .i64 yhe, .int .i64 yhp, .int .i64 yth, .int .i64 ytp, .bool false, .bool false, .bool false, .int .i64 ysq] 41), blkR br (.cells #[.int .i64 ypr, .int .i64 yhe, .int .i64 yhp, .int .i64 yth, .int .i64 ytp, .bool false, .bool false, .bool true, .int .i64 ysq] 41), blkR bz (.cells #[.int .i64 ypr, .int .i64 yhe, .int .i64 yhp, .int .i64 yth, .int .i64 ytp, .bool usy, .bool ufi, .bool urs, .int .i64 ysq] 41), blkR bw (.cells #[.int .i64 upr, .int .i64 uhe, .int .i64 uhp, .int .i64 uth, .int .i64 utp, .bool usy, .bool ufi, .bool urs, .int .i64 usq] 41)], [rowRl (.slice none 0 0) [], blkR bx (.cells #[.int .i64 yqho, .int .i64 yqpr, .int .i64 yqpo, .int .i64 yqth, .int .i64 yqfl, .int .i64 yqaf] 39), resF f (igS (keyF ⟨ypr, yhe, yhp, yth, ytp, false, false, false, ysq⟩) (igN zqho (nw + pa) la)), resF g2 (igS (keyF ⟨ypr, yhe, yhp, yth, ytp, false, false, false, ysq⟩) la), blkR bv (.cells #[.int .i64 ypr, .int .i64 yhe, .int .i64 yhp, .int .i64 yth, .int .i64 ytp, .bool false, .bool false, .bool false, .int .i64 ysq] 41), blkR br (.cells #[.int .i64 ypr, .int .i64 yhe, .int .i64 yhp, .int .i64 yth, .int .i64 ytp, .bool false, .bool false, .bool true, .int .i64 ysq] 41), blkR bz (.cells #[.int .i64 ypr, .int .i64 yhe, .int .i64 yhp, .int .i64 yth, .int .i64 ytp, .bool usy, .bool ufi, .bool urs, .int .i64 ysq] 41), blkR bw (.cells #[.int .i64 upr, .int .i64 uhe, .int .i64 uhp, .int .i64 uth, .int .i64 utp, .bool usy, .bool ufi, .bool urs, .int .i64 usq] 41)], [rowRl (.slice none 0 0) [], blkR bx (.cells #[.int .i64 yqho, .int .i64 yqpr, .int .i64 yqpo, .int .i64 yqth, .int .i64 yqfl, .int .i64 yqaf] 39), resF f (igS (keyF ⟨ypr, yhe, yhp, yth, ytp, false, false, false, ysq⟩) (igN zqho (nw + pa) la)), resF g2 (igS (keyF ⟨ypr, yhe, yhp, yth, ytp, false, false, false, ysq⟩) (igN zqho (nw + pa) la)), blkR bv (.cells #[.int .i64 ypr, .int .i64 yhe, .int .i64 yhp, .int .i64 yth, .int .i64 ytp, .bool false, .bool false, .bool false, .int .i64 ysq] 41), blkR br (.cells #[.int .i64 ypr, .int .i64 yhe, .int .i64 yhp, .int .i64 yth, .int .i64 ytp, .bool false, .bool false, .bool true, .int .i64 ysq] 41), blkR bz (.cells #[.int .i64 ypr, .int .i64 yhe, .int .i64 yhp, .int .i64 yth, .int .i64 ytp, .bool usy, .bool ufi, .bool urs, .int .i64 ysq] 41), blkR bw (.cells #[.int .i64 upr, .int .i64 uhe, .int .i64 uhp, .int .i64 uth, .int .i64 utp, .bool usy, .bool ufi, .bool urs, .int .i64 usq] 41)]] = Γ
      have HST := Lib.hid (show Γ.inv [] x315 by rw [← hΓ]; exact ghO_start HO.out)
      have q4_0 : ∀ q : Γ.Wd, q.w.cell? ⟨bv, 0, none⟩ = some (.int .i64 ypr) := by rw [← hΓ]; exact ghO_cell (c := #[.int .i64 ypr, .int .i64 yhe, .int .i64 yhp, .int .i64 yth, .int .i64 ytp, .bool false, .bool false, .bool false, .int .i64 ysq]) (t := 41) 4 (by simp) 0 rfl
      have q4_1 : ∀ q : Γ.Wd, q.w.cell? ⟨bv, 1, none⟩ = some (.int .i64 yhe) := by rw [← hΓ]; exact ghO_cell (c := #[.int .i64 ypr, .int .i64 yhe, .int .i64 yhp, .int .i64 yth, .int .i64 ytp, .bool false, .bool false, .bool false, .int .i64 ysq]) (t := 41) 4 (by simp) 1 rfl
      have q4_2 : ∀ q : Γ.Wd, q.w.cell? ⟨bv, 2, none⟩ = some (.int .i64 yhp) := by rw [← hΓ]; exact ghO_cell (c := #[.int .i64 ypr, .int .i64 yhe, .int .i64 yhp, .int .i64 yth, .int .i64 ytp, .bool false, .bool false, .bool false, .int .i64 ysq]) (t := 41) 4 (by simp) 2 rfl
      have q4_3 : ∀ q : Γ.Wd, q.w.cell? ⟨bv, 3, none⟩ = some (.int .i64 yth) := by rw [← hΓ]; exact ghO_cell (c := #[.int .i64 ypr, .int .i64 yhe, .int .i64 yhp, .int .i64 yth, .int .i64 ytp, .bool false, .bool false, .bool false, .int .i64 ysq]) (t := 41) 4 (by simp) 3 rfl
      have q4_4 : ∀ q : Γ.Wd, q.w.cell? ⟨bv, 4, none⟩ = some (.int .i64 ytp) := by rw [← hΓ]; exact ghO_cell (c := #[.int .i64 ypr, .int .i64 yhe, .int .i64 yhp, .int .i64 yth, .int .i64 ytp, .bool false, .bool false, .bool false, .int .i64 ysq]) (t := 41) 4 (by simp) 4 rfl
      have q4_5 : ∀ q : Γ.Wd, q.w.cell? ⟨bv, 5, none⟩ = some (.bool false) := by rw [← hΓ]; exact ghO_cell (c := #[.int .i64 ypr, .int .i64 yhe, .int .i64 yhp, .int .i64 yth, .int .i64 ytp, .bool false, .bool false, .bool false, .int .i64 ysq]) (t := 41) 4 (by simp) 5 rfl
      have q4_6 : ∀ q : Γ.Wd, q.w.cell? ⟨bv, 6, none⟩ = some (.bool false) := by rw [← hΓ]; exact ghO_cell (c := #[.int .i64 ypr, .int .i64 yhe, .int .i64 yhp, .int .i64 yth, .int .i64 ytp, .bool false, .bool false, .bool false, .int .i64 ysq]) (t := 41) 4 (by simp) 6 rfl
      have q4_7 : ∀ q : Γ.Wd, q.w.cell? ⟨bv, 7, none⟩ = some (.bool false) := by rw [← hΓ]; exact ghO_cell (c := #[.int .i64 ypr, .int .i64 yhe, .int .i64 yhp, .int .i64 yth, .int .i64 ytp, .bool false, .bool false, .bool false, .int .i64 ysq]) (t := 41) 4 (by simp) 7 rfl
      have q4_8 : ∀ q : Γ.Wd, q.w.cell? ⟨bv, 8, none⟩ = some (.int .i64 ysq) := by rw [← hΓ]; exact ghO_cell (c := #[.int .i64 ypr, .int .i64 yhe, .int .i64 yhp, .int .i64 yth, .int .i64 ytp, .bool false, .bool false, .bool false, .int .i64 ysq]) (t := 41) 4 (by simp) 8 rfl
      have q6_0 : ∀ q : Γ.Wd, q.w.cell? ⟨bz, 0, none⟩ = some (.int .i64 ypr) := by rw [← hΓ]; exact ghO_cell (c := #[.int .i64 ypr, .int .i64 yhe, .int .i64 yhp, .int .i64 yth, .int .i64 ytp, .bool usy, .bool ufi, .bool urs, .int .i64 ysq]) (t := 41) 6 (by simp) 0 rfl
      have q6_1 : ∀ q : Γ.Wd, q.w.cell? ⟨bz, 1, none⟩ = some (.int .i64 yhe) := by rw [← hΓ]; exact ghO_cell (c := #[.int .i64 ypr, .int .i64 yhe, .int .i64 yhp, .int .i64 yth, .int .i64 ytp, .bool usy, .bool ufi, .bool urs, .int .i64 ysq]) (t := 41) 6 (by simp) 1 rfl
      have q6_2 : ∀ q : Γ.Wd, q.w.cell? ⟨bz, 2, none⟩ = some (.int .i64 yhp) := by rw [← hΓ]; exact ghO_cell (c := #[.int .i64 ypr, .int .i64 yhe, .int .i64 yhp, .int .i64 yth, .int .i64 ytp, .bool usy, .bool ufi, .bool urs, .int .i64 ysq]) (t := 41) 6 (by simp) 2 rfl
      have q6_3 : ∀ q : Γ.Wd, q.w.cell? ⟨bz, 3, none⟩ = some (.int .i64 yth) := by rw [← hΓ]; exact ghO_cell (c := #[.int .i64 ypr, .int .i64 yhe, .int .i64 yhp, .int .i64 yth, .int .i64 ytp, .bool usy, .bool ufi, .bool urs, .int .i64 ysq]) (t := 41) 6 (by simp) 3 rfl
      have q6_4 : ∀ q : Γ.Wd, q.w.cell? ⟨bz, 4, none⟩ = some (.int .i64 ytp) := by rw [← hΓ]; exact ghO_cell (c := #[.int .i64 ypr, .int .i64 yhe, .int .i64 yhp, .int .i64 yth, .int .i64 ytp, .bool usy, .bool ufi, .bool urs, .int .i64 ysq]) (t := 41) 6 (by simp) 4 rfl
      have q6_5 : ∀ q : Γ.Wd, q.w.cell? ⟨bz, 5, none⟩ = some (.bool usy) := by rw [← hΓ]; exact ghO_cell (c := #[.int .i64 ypr, .int .i64 yhe, .int .i64 yhp, .int .i64 yth, .int .i64 ytp, .bool usy, .bool ufi, .bool urs, .int .i64 ysq]) (t := 41) 6 (by simp) 5 rfl
      have q6_6 : ∀ q : Γ.Wd, q.w.cell? ⟨bz, 6, none⟩ = some (.bool ufi) := by rw [← hΓ]; exact ghO_cell (c := #[.int .i64 ypr, .int .i64 yhe, .int .i64 yhp, .int .i64 yth, .int .i64 ytp, .bool usy, .bool ufi, .bool urs, .int .i64 ysq]) (t := 41) 6 (by simp) 6 rfl
      have q6_7 : ∀ q : Γ.Wd, q.w.cell? ⟨bz, 7, none⟩ = some (.bool urs) := by rw [← hΓ]; exact ghO_cell (c := #[.int .i64 ypr, .int .i64 yhe, .int .i64 yhp, .int .i64 yth, .int .i64 ytp, .bool usy, .bool ufi, .bool urs, .int .i64 ysq]) (t := 41) 6 (by simp) 7 rfl
      have q6_8 : ∀ q : Γ.Wd, q.w.cell? ⟨bz, 8, none⟩ = some (.int .i64 ysq) := by rw [← hΓ]; exact ghO_cell (c := #[.int .i64 ypr, .int .i64 yhe, .int .i64 yhp, .int .i64 yth, .int .i64 ytp, .bool usy, .bool ufi, .bool urs, .int .i64 ysq]) (t := 41) 6 (by simp) 8 rfl
      have q9 : ∀ q : Γ.Wd, q.w.cell? ⟨b, o + k2 * 6, none⟩ = some (.int .i64 zqho) := by rw [← hΓ]; exact ghO_old HV0.out id
      have HΓ := Lib.hid hΓ
      clear hΓ
      have ne : Nonempty Γ.Wd := ⟨⟨[], x315, HST.out⟩⟩
      refine wp_region_H Γ 22 [8, 10, 19] (by kernel_rfl) (by kernel_rfl) (by kernel_rfl) (by kernel_rfl) HST.out ?_
      simp only [List.take, List.drop]
      iterate 8 (first | (refine wpH_want (by kernel_rfl) (by kernel_rfl) rfl rfl ?_; intro K hK; go_big_quiet_op; go_big_quiet_on) | (refine wpH_is (by kernel_rfl) (by kernel_rfl) rfl _ (fun _ w _ => rfl) ?_; simp only [Act.put, List.setIfInBounds_toArray, List.set_cons_succ, List.set_cons_zero]))
      refine wpH_chain 0 (by kernel_rfl) (by kernel_rfl) rfl 13 #[.pointer (some ⟨f, 0, none⟩), .int .i64 zqho, .int .i64 (nw + pa), flV ⟨ypr, yhe, yhp, yth, ytp, usy, ufi, urs, ysq⟩] (.int .i64 1) (fun w => by simp [go_sem]) (fun vs w hg hvs => by
        rw [← HΓ.out] at hg ⊢
        exact ghO_call 0 hg hvs rfl rfl fun ho => did_f (T := nw) (N := 1) ho 2 rfl HX1.out HFW.out (by simp [igS]) (by omega) (by omega) (by unfold timeB; omega) HXO.out.ho) ?_
      simp only [Act.put, List.setIfInBounds_toArray, List.set_cons_succ, List.set_cons_zero]
      iterate 1 (first | (refine wpH_want (by kernel_rfl) (by kernel_rfl) rfl rfl ?_; intro K hK; go_big_quiet_op; go_big_quiet_on) | (refine wpH_is (by kernel_rfl) (by kernel_rfl) rfl _ (fun _ w _ => rfl) ?_; simp only [Act.put, List.setIfInBounds_toArray, List.set_cons_succ, List.set_cons_zero]))
      refine wpH_isC 1 (by kernel_rfl) (by kernel_rfl) rfl (.bool false) (fun w => by simp [go_sem]) (fun vs w hg hvs => by
        rw [← HΓ.out] at hg ⊢
        exact ghO_same 1 hg hvs rfl rfl) ?_
      simp only [Act.put, List.setIfInBounds_toArray, List.set_cons_succ, List.set_cons_zero]
      iterate 8 (first | (refine wpH_want (by kernel_rfl) (by kernel_rfl) rfl rfl ?_; intro K hK; go_big_quiet_op; go_big_quiet_on) | (refine wpH_is (by kernel_rfl) (by kernel_rfl) rfl _ (fun _ w _ => rfl) ?_; simp only [Act.put, List.setIfInBounds_toArray, List.set_cons_succ, List.set_cons_zero]))
      refine wpH_chain 2 (by kernel_rfl) (by kernel_rfl) rfl 13 #[.pointer (some ⟨g2, 0, none⟩), .int .i64 zqho, .int .i64 (nw + pa), flV ⟨ypr, yhe, yhp, yth, ytp, false, false, false, ysq⟩] (.int .i64 1) (fun w => by simp [go_sem]) (fun vs w hg hvs => by
        rw [← HΓ.out] at hg ⊢
        exact ghO_call 2 hg hvs rfl rfl fun ho => did_f (T := nw) (N := 1) ho 3 rfl HX2.out HFW.out (by simp [igS]) (by omega) (by omega) (by unfold timeB; omega) HXO.out.ho) ?_
      simp only [Act.put, List.setIfInBounds_toArray, List.set_cons_succ, List.set_cons_zero]
      iterate 2 (first | (refine wpH_want (by kernel_rfl) (by kernel_rfl) rfl rfl ?_; intro K hK; go_big_quiet_op; go_big_quiet_on) | (refine wpH_is (by kernel_rfl) (by kernel_rfl) rfl _ (fun _ w _ => rfl) ?_; simp only [Act.put, List.setIfInBounds_toArray, List.set_cons_succ, List.set_cons_zero]))
      refine wpH_nil (by kernel_rfl) (by simp) ?_
      rintro ⟨vs, xz⟩ hg hgl
      rw [← HΓ.out] at hg
      replace HO := Lib.hid (ghO_at hg 3 hgl rfl)
      simp only [gexAll, List.drop]
      clear q4_0 q4_1 q4_2 q4_3 q4_4 q4_5 q4_6 q4_7 q4_8 q6_0 q6_1 q6_2 q6_3 q6_4 q6_5 q6_6 q6_7 q6_8 q9 ne HST hg hgl HΓ
      replace HO := Lib.hid (show Own w none0 xz [rowRl (.slice none 0 0) [], blkR bx (.cells #[.int .i64 yqho, .int .i64 yqpr, .int .i64 yqpo, .int .i64 yqth, .int .i64 yqfl, .int .i64 yqaf] 39), resF f (igS (keyF ⟨ypr, yhe, yhp, yth, ytp, false, false, false, ysq⟩) (igN zqho (nw + pa) la)), resF g2 (igS (keyF ⟨ypr, yhe, yhp, yth, ytp, false, false, false, ysq⟩) (igN zqho (nw + pa) la)), blkR bv (.cells #[.int .i64 ypr, .int .i64 yhe, .int .i64 yhp, .int .i64 yth, .int .i64 ytp, .bool false, .bool false, .bool false, .int .i64 ysq] 41), blkR br (.cells #[.int .i64 ypr, .int .i64 yhe, .int .i64 yhp, .int .i64 yth, .int .i64 ytp, .bool false, .bool false, .bool true, .int .i64 ysq] 41), blkR bz (.cells #[.int .i64 ypr, .int .i64 yhe, .int .i64 yhp, .int .i64 yth, .int .i64 ytp, .bool usy, .bool ufi, .bool urs, .int .i64 ysq] 41), blkR bw (.cells #[.int .i64 upr, .int .i64 uhe, .int .i64 uhp, .int .i64 uth, .int .i64 utp, .bool usy, .bool ufi, .bool urs, .int .i64 usq] 41)] from HO.out)
      have hib := igN_bd (how := zqho) (now := nw + pa) (la := la) (by omega) hl0
      go_wp2
      go_roundw
      case rel => exact ⟨k2 + 1, igN zqho (nw + pa) la, nw + pa, by omega, rfl, by go_num, hib.1, hib.2, by omega, HO.out.take 6⟩
      case measure => simp [intOf]; omega
    · have hke : k2 = min m 20 := by omega
      have hnw : nw ≤ 380 := by omega
      by_cases h1 : k2 < m
      · have h2 : ¬ (k2 : Int) < 20 := by omega
        clear hlt hke
        go_wp2_with fail
        refine (o_still HO.out (P1.out _)).mono ?_
        rintro e x301 ⟨rfl, hO, -⟩
        replace HO := Lib.hid (show Own w none0 x301 [rowRl (.slice none 0 0) [], blkR bx (.cells #[.int .i64 yqho, .int .i64 yqpr, .int .i64 yqpo, .int .i64 yqth, .int .i64 yqfl, .int .i64 yqaf] 39), resF f (igS (keyF ⟨ypr, yhe, yhp, yth, ytp, false, false, false, ysq⟩) la), resF g2 (igS (keyF ⟨ypr, yhe, yhp, yth, ytp, false, false, false, ysq⟩) la), blkR bv (.cells #[.int .i64 ypr, .int .i64 yhe, .int .i64 yhp, .int .i64 yth, .int .i64 ytp, .bool false, .bool false, .bool false, .int .i64 ysq] 41), blkR br (.cells #[.int .i64 ypr, .int .i64 yhe, .int .i64 yhp, .int .i64 yth, .int .i64 ytp, .bool false, .bool false, .bool true, .int .i64 ysq] 41)] from hO)
        clear hO
        obtain ⟨⟨rq, st2⟩, hdd⟩ : ∃ p, didF (igS (keyF ⟨ypr, yhe, yhp, yth, ytp, false, false, false, ysq⟩) la) 4 (nw + nn) ⟨ypr, yhe, yhp, yth, ytp, false, false, false, ysq⟩ = p := ⟨_, rfl⟩
        obtain ⟨hs1, hs2⟩ := ig_quo hdd
        have HD2 := Lib.hid hdd
        obtain ⟨h3, -⟩ := did_fw HFW.out (show nw ≤ nw + nn by omega) (by omega) (didF_R hdd (by simp [igS]))
        have HFW2 := Lib.hid h3
        have HLT2 := Lib.hid (show st2.m.length < 32 by omega)
        obtain ⟨⟨rb, st3⟩, hdd3⟩ : ∃ p, didF st2 2 (nw + nn) ⟨ypr, yhe, yhp, yth, ytp, false, false, false, ysq⟩ = p := ⟨_, rfl⟩
        have HD3 := Lib.hid hdd3
        have HD4 := Lib.hid (show didF st2 2 (nw + nn) ⟨ypr, yhe, yhp, yth, ytp, false, false, true, ysq⟩ = (rb, st3) by rw [← hdd3]; exact ig_same hs1 rfl)
        obtain ⟨ln, hln⟩ : ∃ ln, st2.m.length = ln := ⟨_, rfl⟩
        have HLN := Lib.hid hln
        clear hdd hdd3 h3 hs1 hs2 hln
        go_wp2
        generalize hΓ : ghO w none0 [[rowRl (.slice none 0 0) [], blkR bx (.cells #[.int .i64 yqho, .int .i64 yqpr, .int .i64 yqpo, .int .i64 yqth, .int .i64 yqfl, .int .i64 yqaf] 39), resF f (igS (keyF ⟨ypr, yhe, yhp, yth, ytp, false, false, false, ysq⟩) la), resF g2 (igS (keyF ⟨ypr, yhe, yhp, yth, ytp, false, false, false, ysq⟩) la), blkR bv (.cells #[.int .i64 ypr, .int .i64 yhe, .int .i64 yhp, .int .i64 yth, .int .i64 ytp, .bool false, .bool false, .bool false, .int .i64 ysq] 41), blkR br (.cells #[.int .i64 ypr, .int .i64 yhe, .int .i64 yhp, .int .i64 yth, .int .i64 ytp, .bool false, .bool false, .bool true, .int .i64 ysq] 41)], [rowRl (.slice none 0 0) [], blkR bx (.cells #[.int .i64 yqho, .int .i64 yqpr, .int .i64 yqpo, .int .i64 yqth, .int .i64 yqfl, .int .i64 yqaf] 39), resF f st2, resF g2 (igS (keyF ⟨ypr, yhe, yhp, yth, ytp, false, false, false, ysq⟩) la), blkR bv (.cells #[.int .i64 ypr, .int .i64 yhe, .int .i64 yhp, .int .i64 yth, .int .i64 ytp, .bool false, .bool false, .bool false, .int .i64 ysq] 41), blkR br (.cells #[.int .i64 ypr, .int .i64 yhe, .int .i64 yhp, .int .i64 yth, .int .i64 ytp, .bool false, .bool false, .bool true, .int .i64 ysq] 41)], [rowRl (.slice none 0 0) [], blkR bx (.cells #[.int .i64 yqho, .int .i64 yqpr, .int .i64 yqpo, .int .i64 yqth, .int .i64 yqfl, .int .i64 yqaf] 39), resF f st2, resF g2 st2, blkR bv (.cells #[.int .i64 ypr, .int .i64 yhe, .int .i64 yhp, .int .i64 yth, .int .i64 ytp, .bool false, .bool false, .bool false, .int .i64 ysq] 41), blkR br (.cells #[.int .i64 ypr, .int .i64 yhe, .int .i64 yhp, .int .i64 yth, .int .i64 ytp, .bool false, .bool false, .bool true, .int .i64 ysq] 41)], [rowRl (.slice none 0 0) [], blkR bx (.cells #[.int .i64 yqho, .int .i64 yqpr, .int .i64 yqpo, .int .i64 yqth, .int .i64 yqfl, .int .i64 yqaf] 39), resF f st2, resF g2 st2, blkR bv (.cells #[.int .i64 ypr, .int .i64 yhe, .int .i64 yhp, .int .i64 yth, .int .i64 ytp, .bool false, .bool false, .bool false, .int .i64 ysq] 41), blkR br (.cells #[.int .i64 ypr, .int .i64 yhe, .int .i64 yhp, .int .i64 yth, .int .i64 ytp, .bool false, .bool false, .bool true, .int .i64 ysq] 41)], [rowRl (.slice none 0 0) [], blkR bx (.cells #[.int .i64 yqho, .int .i64 yqpr, .int .i64 yqpo, .int .i64 yqth, .int .i64 yqfl, .int .i64 yqaf] 39), resF f st2, resF g2 st2, blkR bv (.cells #[.int .i64 ypr, .int .i64 yhe, .int .i64 yhp, .int .i64 yth, .int .i64 ytp, .bool false, .bool false, .bool false, .int .i64 ysq] 41), blkR br (.cells #[.int .i64 ypr, .int .i64 yhe, .int .i64 yhp, .int .i64 yth, .int .i64 ytp, .bool false, .bool false, .bool true, .int .i64 ysq] 41)], [rowRl (.slice none 0 0) [], blkR bx (.cells #[.int .i64 yqho, .int .i64 yqpr, .int .i64 yqpo, .int .i64 yqth, .int .i64 yqfl, .int .i64 yqaf] 39), resF f st2, resF g2 st2, blkR bv (.cells #[.int .i64 ypr, .int .i64 yhe, .int .i64 yhp, .int .i64 yth, .int .i64 ytp, .bool false, .bool false, .bool false, .int .i64 ysq] 41), blkR br (.cells #[.int .i64 ypr, .int .i64 yhe, .int .i64 yhp, .int .i64 yth, .int .i64 ytp, .bool false, .bool false, .bool true, .int .i64 ysq] 41)], [rowRl (.slice none 0 0) [], blkR bx (.cells #[.int .i64 yqho, .int .i64 yqpr, .int .i64 yqpo, .int .i64 yqth, .int .i64 yqfl, .int .i64 yqaf] 39), resF f st2, resF g2 st2, blkR bv (.cells #[.int .i64 ypr, .int .i64 yhe, .int .i64 yhp, .int .i64 yth, .int .i64 ytp, .bool false, .bool false, .bool false, .int .i64 ysq] 41), blkR br (.cells #[.int .i64 ypr, .int .i64 yhe, .int .i64 yhp, .int .i64 yth, .int .i64 ytp, .bool false, .bool false, .bool true, .int .i64 ysq] 41)], [rowRl (.slice none 0 0) [], blkR bx (.cells #[.int .i64 yqho, .int .i64 yqpr, .int .i64 yqpo, .int .i64 yqth, .int .i64 yqfl, .int .i64 yqaf] 39), resF f st3, resF g2 st2, blkR bv (.cells #[.int .i64 ypr, .int .i64 yhe, .int .i64 yhp, .int .i64 yth, .int .i64 ytp, .bool false, .bool false, .bool false, .int .i64 ysq] 41), blkR br (.cells #[.int .i64 ypr, .int .i64 yhe, .int .i64 yhp, .int .i64 yth, .int .i64 ytp, .bool false, .bool false, .bool true, .int .i64 ysq] 41)], [rowRl (.slice none 0 0) [], blkR bx (.cells #[.int .i64 yqho, .int .i64 yqpr, .int .i64 yqpo, .int .i64 yqth, .int .i64 yqfl, .int .i64 yqaf] 39), resF f st3, resF g2 st3, blkR bv (.cells #[.int .i64 ypr, .int .i64 yhe, .int .i64 yhp, .int .i64 yth, .int .i64 ytp, .bool false, .bool false, .bool false, .int .i64 ysq] 41), blkR br (.cells #[.int .i64 ypr, .int .i64 yhe, .int .i64 yhp, .int .i64 yth, .int .i64 ytp, .bool false, .bool false, .bool true, .int .i64 ysq] 41)]] = Γ
        have HST := Lib.hid (show Γ.inv [] x301 by rw [← hΓ]; exact ghO_start HO.out)
        have q4_0 : ∀ q : Γ.Wd, q.w.cell? ⟨bv, 0, none⟩ = some (.int .i64 ypr) := by rw [← hΓ]; exact ghO_cell (c := #[.int .i64 ypr, .int .i64 yhe, .int .i64 yhp, .int .i64 yth, .int .i64 ytp, .bool false, .bool false, .bool false, .int .i64 ysq]) (t := 41) 4 (by simp) 0 rfl
        have q4_1 : ∀ q : Γ.Wd, q.w.cell? ⟨bv, 1, none⟩ = some (.int .i64 yhe) := by rw [← hΓ]; exact ghO_cell (c := #[.int .i64 ypr, .int .i64 yhe, .int .i64 yhp, .int .i64 yth, .int .i64 ytp, .bool false, .bool false, .bool false, .int .i64 ysq]) (t := 41) 4 (by simp) 1 rfl
        have q4_2 : ∀ q : Γ.Wd, q.w.cell? ⟨bv, 2, none⟩ = some (.int .i64 yhp) := by rw [← hΓ]; exact ghO_cell (c := #[.int .i64 ypr, .int .i64 yhe, .int .i64 yhp, .int .i64 yth, .int .i64 ytp, .bool false, .bool false, .bool false, .int .i64 ysq]) (t := 41) 4 (by simp) 2 rfl
        have q4_3 : ∀ q : Γ.Wd, q.w.cell? ⟨bv, 3, none⟩ = some (.int .i64 yth) := by rw [← hΓ]; exact ghO_cell (c := #[.int .i64 ypr, .int .i64 yhe, .int .i64 yhp, .int .i64 yth, .int .i64 ytp, .bool false, .bool false, .bool false, .int .i64 ysq]) (t := 41) 4 (by simp) 3 rfl
        have q4_4 : ∀ q : Γ.Wd, q.w.cell? ⟨bv, 4, none⟩ = some (.int .i64 ytp) := by rw [← hΓ]; exact ghO_cell (c := #[.int .i64 ypr, .int .i64 yhe, .int .i64 yhp, .int .i64 yth, .int .i64 ytp, .bool false, .bool false, .bool false, .int .i64 ysq]) (t := 41) 4 (by simp) 4 rfl
        have q4_5 : ∀ q : Γ.Wd, q.w.cell? ⟨bv, 5, none⟩ = some (.bool false) := by rw [← hΓ]; exact ghO_cell (c := #[.int .i64 ypr, .int .i64 yhe, .int .i64 yhp, .int .i64 yth, .int .i64 ytp, .bool false, .bool false, .bool false, .int .i64 ysq]) (t := 41) 4 (by simp) 5 rfl
        have q4_6 : ∀ q : Γ.Wd, q.w.cell? ⟨bv, 6, none⟩ = some (.bool false) := by rw [← hΓ]; exact ghO_cell (c := #[.int .i64 ypr, .int .i64 yhe, .int .i64 yhp, .int .i64 yth, .int .i64 ytp, .bool false, .bool false, .bool false, .int .i64 ysq]) (t := 41) 4 (by simp) 6 rfl
        have q4_7 : ∀ q : Γ.Wd, q.w.cell? ⟨bv, 7, none⟩ = some (.bool false) := by rw [← hΓ]; exact ghO_cell (c := #[.int .i64 ypr, .int .i64 yhe, .int .i64 yhp, .int .i64 yth, .int .i64 ytp, .bool false, .bool false, .bool false, .int .i64 ysq]) (t := 41) 4 (by simp) 7 rfl
        have q4_8 : ∀ q : Γ.Wd, q.w.cell? ⟨bv, 8, none⟩ = some (.int .i64 ysq) := by rw [← hΓ]; exact ghO_cell (c := #[.int .i64 ypr, .int .i64 yhe, .int .i64 yhp, .int .i64 yth, .int .i64 ytp, .bool false, .bool false, .bool false, .int .i64 ysq]) (t := 41) 4 (by simp) 8 rfl
        have q5_0 : ∀ q : Γ.Wd, q.w.cell? ⟨br, 0, none⟩ = some (.int .i64 ypr) := by rw [← hΓ]; exact ghO_cell (c := #[.int .i64 ypr, .int .i64 yhe, .int .i64 yhp, .int .i64 yth, .int .i64 ytp, .bool false, .bool false, .bool true, .int .i64 ysq]) (t := 41) 5 (by simp) 0 rfl
        have q5_1 : ∀ q : Γ.Wd, q.w.cell? ⟨br, 1, none⟩ = some (.int .i64 yhe) := by rw [← hΓ]; exact ghO_cell (c := #[.int .i64 ypr, .int .i64 yhe, .int .i64 yhp, .int .i64 yth, .int .i64 ytp, .bool false, .bool false, .bool true, .int .i64 ysq]) (t := 41) 5 (by simp) 1 rfl
        have q5_2 : ∀ q : Γ.Wd, q.w.cell? ⟨br, 2, none⟩ = some (.int .i64 yhp) := by rw [← hΓ]; exact ghO_cell (c := #[.int .i64 ypr, .int .i64 yhe, .int .i64 yhp, .int .i64 yth, .int .i64 ytp, .bool false, .bool false, .bool true, .int .i64 ysq]) (t := 41) 5 (by simp) 2 rfl
        have q5_3 : ∀ q : Γ.Wd, q.w.cell? ⟨br, 3, none⟩ = some (.int .i64 yth) := by rw [← hΓ]; exact ghO_cell (c := #[.int .i64 ypr, .int .i64 yhe, .int .i64 yhp, .int .i64 yth, .int .i64 ytp, .bool false, .bool false, .bool true, .int .i64 ysq]) (t := 41) 5 (by simp) 3 rfl
        have q5_4 : ∀ q : Γ.Wd, q.w.cell? ⟨br, 4, none⟩ = some (.int .i64 ytp) := by rw [← hΓ]; exact ghO_cell (c := #[.int .i64 ypr, .int .i64 yhe, .int .i64 yhp, .int .i64 yth, .int .i64 ytp, .bool false, .bool false, .bool true, .int .i64 ysq]) (t := 41) 5 (by simp) 4 rfl
        have q5_5 : ∀ q : Γ.Wd, q.w.cell? ⟨br, 5, none⟩ = some (.bool false) := by rw [← hΓ]; exact ghO_cell (c := #[.int .i64 ypr, .int .i64 yhe, .int .i64 yhp, .int .i64 yth, .int .i64 ytp, .bool false, .bool false, .bool true, .int .i64 ysq]) (t := 41) 5 (by simp) 5 rfl
        have q5_6 : ∀ q : Γ.Wd, q.w.cell? ⟨br, 6, none⟩ = some (.bool false) := by rw [← hΓ]; exact ghO_cell (c := #[.int .i64 ypr, .int .i64 yhe, .int .i64 yhp, .int .i64 yth, .int .i64 ytp, .bool false, .bool false, .bool true, .int .i64 ysq]) (t := 41) 5 (by simp) 6 rfl
        have q5_7 : ∀ q : Γ.Wd, q.w.cell? ⟨br, 7, none⟩ = some (.bool true) := by rw [← hΓ]; exact ghO_cell (c := #[.int .i64 ypr, .int .i64 yhe, .int .i64 yhp, .int .i64 yth, .int .i64 ytp, .bool false, .bool false, .bool true, .int .i64 ysq]) (t := 41) 5 (by simp) 7 rfl
        have q5_8 : ∀ q : Γ.Wd, q.w.cell? ⟨br, 8, none⟩ = some (.int .i64 ysq) := by rw [← hΓ]; exact ghO_cell (c := #[.int .i64 ypr, .int .i64 yhe, .int .i64 yhp, .int .i64 yth, .int .i64 ytp, .bool false, .bool false, .bool true, .int .i64 ysq]) (t := 41) 5 (by simp) 8 rfl
        have HΓ := Lib.hid hΓ
        clear hΓ
        have ne : Nonempty Γ.Wd := ⟨⟨[], x301, HST.out⟩⟩
        refine wp_region_H Γ 37 [12, 16, 19, 21, 23, 26, 30, 34] (by kernel_rfl) (by kernel_rfl) (by kernel_rfl) (by kernel_rfl) HST.out ?_
        simp only [List.take, List.drop]
        iterate 12 (first | (refine wpH_want (by kernel_rfl) (by kernel_rfl) rfl rfl ?_; intro K hK; go_big_quiet_op; go_big_quiet_on) | (refine wpH_is (by kernel_rfl) (by kernel_rfl) rfl _ (fun _ w _ => rfl) ?_; simp only [Act.put, List.setIfInBounds_toArray, List.set_cons_succ, List.set_cons_zero]))
        refine wpH_chain 0 (by kernel_rfl) (by kernel_rfl) rfl 13 #[.pointer (some ⟨f, 0, none⟩), .int .i64 4, .int .i64 (nw + nn), flV ⟨ypr, yhe, yhp, yth, ytp, false, false, false, ysq⟩] (.int .i64 (i01 rq)) (fun w => by simp [go_sem]) (fun vs w hg hvs => by
          rw [← HΓ.out] at hg ⊢
          exact ghO_call 0 hg hvs rfl rfl fun ho => did_f (T := nw) (N := 1) ho 2 rfl HD2.out HFW.out (by simp [igS]) (by omega) (by omega) (by unfold timeB; omega) (by unfold i64B; omega)) ?_
        simp only [Act.put, List.setIfInBounds_toArray, List.set_cons_succ, List.set_cons_zero]
        iterate 3 (first | (refine wpH_want (by kernel_rfl) (by kernel_rfl) rfl rfl ?_; intro K hK; go_big_quiet_op; go_big_quiet_on) | (refine wpH_is (by kernel_rfl) (by kernel_rfl) rfl _ (fun _ w _ => rfl) ?_; simp only [Act.put, List.setIfInBounds_toArray, List.set_cons_succ, List.set_cons_zero]))
        refine wpH_chain 1 (by kernel_rfl) (by kernel_rfl) rfl 13 #[.pointer (some ⟨g2, 0, none⟩), .int .i64 4, .int .i64 (nw + nn), flV ⟨ypr, yhe, yhp, yth, ytp, false, false, false, ysq⟩] (.int .i64 (i01 rq)) (fun w => by simp [go_sem]) (fun vs w hg hvs => by
          rw [← HΓ.out] at hg ⊢
          exact ghO_call 1 hg hvs rfl rfl fun ho => did_f (T := nw) (N := 1) ho 3 rfl HD2.out HFW.out (by simp [igS]) (by omega) (by omega) (by unfold timeB; omega) (by unfold i64B; omega)) ?_
        simp only [Act.put, List.setIfInBounds_toArray, List.set_cons_succ, List.set_cons_zero]
        iterate 2 (first | (refine wpH_want (by kernel_rfl) (by kernel_rfl) rfl rfl ?_; intro K hK; go_big_quiet_op; go_big_quiet_on) | (refine wpH_is (by kernel_rfl) (by kernel_rfl) rfl _ (fun _ w _ => rfl) ?_; simp only [Act.put, List.setIfInBounds_toArray, List.set_cons_succ, List.set_cons_zero]))
        refine wpH_isC 2 (by kernel_rfl) (by kernel_rfl) rfl (.bool true) (fun w => by simp [go_sem]) (fun vs w hg hvs => by
          rw [← HΓ.out] at hg ⊢
          exact ghO_same 2 hg hvs rfl rfl) ?_
        simp only [Act.put, List.setIfInBounds_toArray, List.set_cons_succ, List.set_cons_zero]
        iterate 1 (first | (refine wpH_want (by kernel_rfl) (by kernel_rfl) rfl rfl ?_; intro K hK; go_big_quiet_op; go_big_quiet_on) | (refine wpH_is (by kernel_rfl) (by kernel_rfl) rfl _ (fun _ w _ => rfl) ?_; simp only [Act.put, List.setIfInBounds_toArray, List.set_cons_succ, List.set_cons_zero]))
        refine wpH_chain 3 (by kernel_rfl) (by kernel_rfl) rfl 14 #[.pointer (some ⟨f, 0, none⟩)] (.int .i64 ln) (fun w => by simp [go_sem]) (fun vs w hg hvs => by
          rw [← HΓ.out] at hg ⊢
          exact ghO_call 3 hg hvs rfl rfl fun ho => flen_f (n := ln) ho 2 rfl HLN.out) ?_
        simp only [Act.put, List.setIfInBounds_toArray, List.set_cons_succ, List.set_cons_zero]
        iterate 1 (first | (refine wpH_want (by kernel_rfl) (by kernel_rfl) rfl rfl ?_; intro K hK; go_big_quiet_op; go_big_quiet_on) | (refine wpH_is (by kernel_rfl) (by kernel_rfl) rfl _ (fun _ w _ => rfl) ?_; simp only [Act.put, List.setIfInBounds_toArray, List.set_cons_succ, List.set_cons_zero]))
        refine wpH_chain 4 (by kernel_rfl) (by kernel_rfl) rfl 14 #[.pointer (some ⟨g2, 0, none⟩)] (.int .i64 ln) (fun w => by simp [go_sem]) (fun vs w hg hvs => by
          rw [← HΓ.out] at hg ⊢
          exact ghO_call 4 hg hvs rfl rfl fun ho => flen_f (n := ln) ho 3 rfl HLN.out) ?_
        simp only [Act.put, List.setIfInBounds_toArray, List.set_cons_succ, List.set_cons_zero]
        iterate 2 (first | (refine wpH_want (by kernel_rfl) (by kernel_rfl) rfl rfl ?_; intro K hK; go_big_quiet_op; go_big_quiet_on) | (refine wpH_is (by kernel_rfl) (by kernel_rfl) rfl _ (fun _ w _ => rfl) ?_; simp only [Act.put, List.setIfInBounds_toArray, List.set_cons_succ, List.set_cons_zero]))
        refine wpH_isC 5 (by kernel_rfl) (by kernel_rfl) rfl (.bool true) (fun w => by simp [go_sem]) (fun vs w hg hvs => by
          rw [← HΓ.out] at hg ⊢
          exact ghO_same 5 hg hvs rfl rfl) ?_
        simp only [Act.put, List.setIfInBounds_toArray, List.set_cons_succ, List.set_cons_zero]
        iterate 3 (first | (refine wpH_want (by kernel_rfl) (by kernel_rfl) rfl rfl ?_; intro K hK; go_big_quiet_op; go_big_quiet_on) | (refine wpH_is (by kernel_rfl) (by kernel_rfl) rfl _ (fun _ w _ => rfl) ?_; simp only [Act.put, List.setIfInBounds_toArray, List.set_cons_succ, List.set_cons_zero]))
        refine wpH_chain 6 (by kernel_rfl) (by kernel_rfl) rfl 13 #[.pointer (some ⟨f, 0, none⟩), .int .i64 2, .int .i64 (nw + nn), flV ⟨ypr, yhe, yhp, yth, ytp, false, false, true, ysq⟩] (.int .i64 (i01 rb)) (fun w => by simp [go_sem]) (fun vs w hg hvs => by
          rw [← HΓ.out] at hg ⊢
          exact ghO_call 6 hg hvs rfl rfl fun ho => did_f (T := (nw + nn)) (N := 2) ho 2 rfl HD4.out HFW2.out HLT2.out (by omega) (by omega) (by unfold timeB; omega) (by unfold i64B; omega)) ?_
        simp only [Act.put, List.setIfInBounds_toArray, List.set_cons_succ, List.set_cons_zero]
        iterate 3 (first | (refine wpH_want (by kernel_rfl) (by kernel_rfl) rfl rfl ?_; intro K hK; go_big_quiet_op; go_big_quiet_on) | (refine wpH_is (by kernel_rfl) (by kernel_rfl) rfl _ (fun _ w _ => rfl) ?_; simp only [Act.put, List.setIfInBounds_toArray, List.set_cons_succ, List.set_cons_zero]))
        refine wpH_chain 7 (by kernel_rfl) (by kernel_rfl) rfl 13 #[.pointer (some ⟨g2, 0, none⟩), .int .i64 2, .int .i64 (nw + nn), flV ⟨ypr, yhe, yhp, yth, ytp, false, false, false, ysq⟩] (.int .i64 (i01 rb)) (fun w => by simp [go_sem]) (fun vs w hg hvs => by
          rw [← HΓ.out] at hg ⊢
          exact ghO_call 7 hg hvs rfl rfl fun ho => did_f (T := (nw + nn)) (N := 2) ho 3 rfl HD3.out HFW2.out HLT2.out (by omega) (by omega) (by unfold timeB; omega) (by unfold i64B; omega)) ?_
        simp only [Act.put, List.setIfInBounds_toArray, List.set_cons_succ, List.set_cons_zero]
        iterate 2 (first | (refine wpH_want (by kernel_rfl) (by kernel_rfl) rfl rfl ?_; intro K hK; go_big_quiet_op; go_big_quiet_on) | (refine wpH_is (by kernel_rfl) (by kernel_rfl) rfl _ (fun _ w _ => rfl) ?_; simp only [Act.put, List.setIfInBounds_toArray, List.set_cons_succ, List.set_cons_zero]))
        refine wpH_nil (by kernel_rfl) (by simp) ?_
        rintro ⟨vs, xe⟩ hg hgl
        rw [← HΓ.out] at hg
        replace HO := Lib.hid (ghO_at hg 8 hgl rfl)
        simp only [gexAll, List.drop]
        clear q4_0 q4_1 q4_2 q4_3 q4_4 q4_5 q4_6 q4_7 q4_8 q5_0 q5_1 q5_2 q5_3 q5_4 q5_5 q5_6 q5_7 q5_8 ne HST hg hgl HΓ
        replace HO := Lib.hid (show Own w none0 xe [rowRl (.slice none 0 0) [], blkR bx (.cells #[.int .i64 yqho, .int .i64 yqpr, .int .i64 yqpo, .int .i64 yqth, .int .i64 yqfl, .int .i64 yqaf] 39), resF f st3, resF g2 st3, blkR bv (.cells #[.int .i64 ypr, .int .i64 yhe, .int .i64 yhp, .int .i64 yth, .int .i64 ytp, .bool false, .bool false, .bool false, .int .i64 ysq] 41), blkR br (.cells #[.int .i64 ypr, .int .i64 yhe, .int .i64 yhp, .int .i64 yth, .int .i64 ytp, .bool false, .bool false, .bool true, .int .i64 ysq] 41)] from HO.out)
        go_wp2
        go_ret
        exact ⟨by simp, HO.out.below⟩
      · clear hlt hke
        go_wp2_with fail
        refine (o_still HO.out (P1.out _)).mono ?_
        rintro e x301 ⟨rfl, hO, -⟩
        replace HO := Lib.hid (show Own w none0 x301 [rowRl (.slice none 0 0) [], blkR bx (.cells #[.int .i64 yqho, .int .i64 yqpr, .int .i64 yqpo, .int .i64 yqth, .int .i64 yqfl, .int .i64 yqaf] 39), resF f (igS (keyF ⟨ypr, yhe, yhp, yth, ytp, false, false, false, ysq⟩) la), resF g2 (igS (keyF ⟨ypr, yhe, yhp, yth, ytp, false, false, false, ysq⟩) la), blkR bv (.cells #[.int .i64 ypr, .int .i64 yhe, .int .i64 yhp, .int .i64 yth, .int .i64 ytp, .bool false, .bool false, .bool false, .int .i64 ysq] 41), blkR br (.cells #[.int .i64 ypr, .int .i64 yhe, .int .i64 yhp, .int .i64 yth, .int .i64 ytp, .bool false, .bool false, .bool true, .int .i64 ysq] 41)] from hO)
        clear hO
        obtain ⟨⟨rq, st2⟩, hdd⟩ : ∃ p, didF (igS (keyF ⟨ypr, yhe, yhp, yth, ytp, false, false, false, ysq⟩) la) 4 (nw + nn) ⟨ypr, yhe, yhp, yth, ytp, false, false, false, ysq⟩ = p := ⟨_, rfl⟩
        obtain ⟨hs1, hs2⟩ := ig_quo hdd
        have HD2 := Lib.hid hdd
        obtain ⟨h3, -⟩ := did_fw HFW.out (show nw ≤ nw + nn by omega) (by omega) (didF_R hdd (by simp [igS]))
        have HFW2 := Lib.hid h3
        have HLT2 := Lib.hid (show st2.m.length < 32 by omega)
        obtain ⟨⟨rb, st3⟩, hdd3⟩ : ∃ p, didF st2 2 (nw + nn) ⟨ypr, yhe, yhp, yth, ytp, false, false, false, ysq⟩ = p := ⟨_, rfl⟩
        have HD3 := Lib.hid hdd3
        have HD4 := Lib.hid (show didF st2 2 (nw + nn) ⟨ypr, yhe, yhp, yth, ytp, false, false, true, ysq⟩ = (rb, st3) by rw [← hdd3]; exact ig_same hs1 rfl)
        obtain ⟨ln, hln⟩ : ∃ ln, st2.m.length = ln := ⟨_, rfl⟩
        have HLN := Lib.hid hln
        clear hdd hdd3 h3 hs1 hs2 hln
        go_wp2
        generalize hΓ : ghO w none0 [[rowRl (.slice none 0 0) [], blkR bx (.cells #[.int .i64 yqho, .int .i64 yqpr, .int .i64 yqpo, .int .i64 yqth, .int .i64 yqfl, .int .i64 yqaf] 39), resF f (igS (keyF ⟨ypr, yhe, yhp, yth, ytp, false, false, false, ysq⟩) la), resF g2 (igS (keyF ⟨ypr, yhe, yhp, yth, ytp, false, false, false, ysq⟩) la), blkR bv (.cells #[.int .i64 ypr, .int .i64 yhe, .int .i64 yhp, .int .i64 yth, .int .i64 ytp, .bool false, .bool false, .bool false, .int .i64 ysq] 41), blkR br (.cells #[.int .i64 ypr, .int .i64 yhe, .int .i64 yhp, .int .i64 yth, .int .i64 ytp, .bool false, .bool false, .bool true, .int .i64 ysq] 41)], [rowRl (.slice none 0 0) [], blkR bx (.cells #[.int .i64 yqho, .int .i64 yqpr, .int .i64 yqpo, .int .i64 yqth, .int .i64 yqfl, .int .i64 yqaf] 39), resF f st2, resF g2 (igS (keyF ⟨ypr, yhe, yhp, yth, ytp, false, false, false, ysq⟩) la), blkR bv (.cells #[.int .i64 ypr, .int .i64 yhe, .int .i64 yhp, .int .i64 yth, .int .i64 ytp, .bool false, .bool false, .bool false, .int .i64 ysq] 41), blkR br (.cells #[.int .i64 ypr, .int .i64 yhe, .int .i64 yhp, .int .i64 yth, .int .i64 ytp, .bool false, .bool false, .bool true, .int .i64 ysq] 41)], [rowRl (.slice none 0 0) [], blkR bx (.cells #[.int .i64 yqho, .int .i64 yqpr, .int .i64 yqpo, .int .i64 yqth, .int .i64 yqfl, .int .i64 yqaf] 39), resF f st2, resF g2 st2, blkR bv (.cells #[.int .i64 ypr, .int .i64 yhe, .int .i64 yhp, .int .i64 yth, .int .i64 ytp, .bool false, .bool false, .bool false, .int .i64 ysq] 41), blkR br (.cells #[.int .i64 ypr, .int .i64 yhe, .int .i64 yhp, .int .i64 yth, .int .i64 ytp, .bool false, .bool false, .bool true, .int .i64 ysq] 41)], [rowRl (.slice none 0 0) [], blkR bx (.cells #[.int .i64 yqho, .int .i64 yqpr, .int .i64 yqpo, .int .i64 yqth, .int .i64 yqfl, .int .i64 yqaf] 39), resF f st2, resF g2 st2, blkR bv (.cells #[.int .i64 ypr, .int .i64 yhe, .int .i64 yhp, .int .i64 yth, .int .i64 ytp, .bool false, .bool false, .bool false, .int .i64 ysq] 41), blkR br (.cells #[.int .i64 ypr, .int .i64 yhe, .int .i64 yhp, .int .i64 yth, .int .i64 ytp, .bool false, .bool false, .bool true, .int .i64 ysq] 41)], [rowRl (.slice none 0 0) [], blkR bx (.cells #[.int .i64 yqho, .int .i64 yqpr, .int .i64 yqpo, .int .i64 yqth, .int .i64 yqfl, .int .i64 yqaf] 39), resF f st2, resF g2 st2, blkR bv (.cells #[.int .i64 ypr, .int .i64 yhe, .int .i64 yhp, .int .i64 yth, .int .i64 ytp, .bool false, .bool false, .bool false, .int .i64 ysq] 41), blkR br (.cells #[.int .i64 ypr, .int .i64 yhe, .int .i64 yhp, .int .i64 yth, .int .i64 ytp, .bool false, .bool false, .bool true, .int .i64 ysq] 41)], [rowRl (.slice none 0 0) [], blkR bx (.cells #[.int .i64 yqho, .int .i64 yqpr, .int .i64 yqpo, .int .i64 yqth, .int .i64 yqfl, .int .i64 yqaf] 39), resF f st2, resF g2 st2, blkR bv (.cells #[.int .i64 ypr, .int .i64 yhe, .int .i64 yhp, .int .i64 yth, .int .i64 ytp, .bool false, .bool false, .bool false, .int .i64 ysq] 41), blkR br (.cells #[.int .i64 ypr, .int .i64 yhe, .int .i64 yhp, .int .i64 yth, .int .i64 ytp, .bool false, .bool false, .bool true, .int .i64 ysq] 41)], [rowRl (.slice none 0 0) [], blkR bx (.cells #[.int .i64 yqho, .int .i64 yqpr, .int .i64 yqpo, .int .i64 yqth, .int .i64 yqfl, .int .i64 yqaf] 39), resF f st2, resF g2 st2, blkR bv (.cells #[.int .i64 ypr, .int .i64 yhe, .int .i64 yhp, .int .i64 yth, .int .i64 ytp, .bool false, .bool false, .bool false, .int .i64 ysq] 41), blkR br (.cells #[.int .i64 ypr, .int .i64 yhe, .int .i64 yhp, .int .i64 yth, .int .i64 ytp, .bool false, .bool false, .bool true, .int .i64 ysq] 41)], [rowRl (.slice none 0 0) [], blkR bx (.cells #[.int .i64 yqho, .int .i64 yqpr, .int .i64 yqpo, .int .i64 yqth, .int .i64 yqfl, .int .i64 yqaf] 39), resF f st3, resF g2 st2, blkR bv (.cells #[.int .i64 ypr, .int .i64 yhe, .int .i64 yhp, .int .i64 yth, .int .i64 ytp, .bool false, .bool false, .bool false, .int .i64 ysq] 41), blkR br (.cells #[.int .i64 ypr, .int .i64 yhe, .int .i64 yhp, .int .i64 yth, .int .i64 ytp, .bool false, .bool false, .bool true, .int .i64 ysq] 41)], [rowRl (.slice none 0 0) [], blkR bx (.cells #[.int .i64 yqho, .int .i64 yqpr, .int .i64 yqpo, .int .i64 yqth, .int .i64 yqfl, .int .i64 yqaf] 39), resF f st3, resF g2 st3, blkR bv (.cells #[.int .i64 ypr, .int .i64 yhe, .int .i64 yhp, .int .i64 yth, .int .i64 ytp, .bool false, .bool false, .bool false, .int .i64 ysq] 41), blkR br (.cells #[.int .i64 ypr, .int .i64 yhe, .int .i64 yhp, .int .i64 yth, .int .i64 ytp, .bool false, .bool false, .bool true, .int .i64 ysq] 41)]] = Γ
        have HST := Lib.hid (show Γ.inv [] x301 by rw [← hΓ]; exact ghO_start HO.out)
        have q4_0 : ∀ q : Γ.Wd, q.w.cell? ⟨bv, 0, none⟩ = some (.int .i64 ypr) := by rw [← hΓ]; exact ghO_cell (c := #[.int .i64 ypr, .int .i64 yhe, .int .i64 yhp, .int .i64 yth, .int .i64 ytp, .bool false, .bool false, .bool false, .int .i64 ysq]) (t := 41) 4 (by simp) 0 rfl
        have q4_1 : ∀ q : Γ.Wd, q.w.cell? ⟨bv, 1, none⟩ = some (.int .i64 yhe) := by rw [← hΓ]; exact ghO_cell (c := #[.int .i64 ypr, .int .i64 yhe, .int .i64 yhp, .int .i64 yth, .int .i64 ytp, .bool false, .bool false, .bool false, .int .i64 ysq]) (t := 41) 4 (by simp) 1 rfl
        have q4_2 : ∀ q : Γ.Wd, q.w.cell? ⟨bv, 2, none⟩ = some (.int .i64 yhp) := by rw [← hΓ]; exact ghO_cell (c := #[.int .i64 ypr, .int .i64 yhe, .int .i64 yhp, .int .i64 yth, .int .i64 ytp, .bool false, .bool false, .bool false, .int .i64 ysq]) (t := 41) 4 (by simp) 2 rfl
        have q4_3 : ∀ q : Γ.Wd, q.w.cell? ⟨bv, 3, none⟩ = some (.int .i64 yth) := by rw [← hΓ]; exact ghO_cell (c := #[.int .i64 ypr, .int .i64 yhe, .int .i64 yhp, .int .i64 yth, .int .i64 ytp, .bool false, .bool false, .bool false, .int .i64 ysq]) (t := 41) 4 (by simp) 3 rfl
        have q4_4 : ∀ q : Γ.Wd, q.w.cell? ⟨bv, 4, none⟩ = some (.int .i64 ytp) := by rw [← hΓ]; exact ghO_cell (c := #[.int .i64 ypr, .int .i64 yhe, .int .i64 yhp, .int .i64 yth, .int .i64 ytp, .bool false, .bool false, .bool false, .int .i64 ysq]) (t := 41) 4 (by simp) 4 rfl
        have q4_5 : ∀ q : Γ.Wd, q.w.cell? ⟨bv, 5, none⟩ = some (.bool false) := by rw [← hΓ]; exact ghO_cell (c := #[.int .i64 ypr, .int .i64 yhe, .int .i64 yhp, .int .i64 yth, .int .i64 ytp, .bool false, .bool false, .bool false, .int .i64 ysq]) (t := 41) 4 (by simp) 5 rfl
        have q4_6 : ∀ q : Γ.Wd, q.w.cell? ⟨bv, 6, none⟩ = some (.bool false) := by rw [← hΓ]; exact ghO_cell (c := #[.int .i64 ypr, .int .i64 yhe, .int .i64 yhp, .int .i64 yth, .int .i64 ytp, .bool false, .bool false, .bool false, .int .i64 ysq]) (t := 41) 4 (by simp) 6 rfl
        have q4_7 : ∀ q : Γ.Wd, q.w.cell? ⟨bv, 7, none⟩ = some (.bool false) := by rw [← hΓ]; exact ghO_cell (c := #[.int .i64 ypr, .int .i64 yhe, .int .i64 yhp, .int .i64 yth, .int .i64 ytp, .bool false, .bool false, .bool false, .int .i64 ysq]) (t := 41) 4 (by simp) 7 rfl
        have q4_8 : ∀ q : Γ.Wd, q.w.cell? ⟨bv, 8, none⟩ = some (.int .i64 ysq) := by rw [← hΓ]; exact ghO_cell (c := #[.int .i64 ypr, .int .i64 yhe, .int .i64 yhp, .int .i64 yth, .int .i64 ytp, .bool false, .bool false, .bool false, .int .i64 ysq]) (t := 41) 4 (by simp) 8 rfl
        have q5_0 : ∀ q : Γ.Wd, q.w.cell? ⟨br, 0, none⟩ = some (.int .i64 ypr) := by rw [← hΓ]; exact ghO_cell (c := #[.int .i64 ypr, .int .i64 yhe, .int .i64 yhp, .int .i64 yth, .int .i64 ytp, .bool false, .bool false, .bool true, .int .i64 ysq]) (t := 41) 5 (by simp) 0 rfl
        have q5_1 : ∀ q : Γ.Wd, q.w.cell? ⟨br, 1, none⟩ = some (.int .i64 yhe) := by rw [← hΓ]; exact ghO_cell (c := #[.int .i64 ypr, .int .i64 yhe, .int .i64 yhp, .int .i64 yth, .int .i64 ytp, .bool false, .bool false, .bool true, .int .i64 ysq]) (t := 41) 5 (by simp) 1 rfl
        have q5_2 : ∀ q : Γ.Wd, q.w.cell? ⟨br, 2, none⟩ = some (.int .i64 yhp) := by rw [← hΓ]; exact ghO_cell (c := #[.int .i64 ypr, .int .i64 yhe, .int .i64 yhp, .int .i64 yth, .int .i64 ytp, .bool false, .bool false, .bool true, .int .i64 ysq]) (t := 41) 5 (by simp) 2 rfl
        have q5_3 : ∀ q : Γ.Wd, q.w.cell? ⟨br, 3, none⟩ = some (.int .i64 yth) := by rw [← hΓ]; exact ghO_cell (c := #[.int .i64 ypr, .int .i64 yhe, .int .i64 yhp, .int .i64 yth, .int .i64 ytp, .bool false, .bool false, .bool true, .int .i64 ysq]) (t := 41) 5 (by simp) 3 rfl
        have q5_4 : ∀ q : Γ.Wd, q.w.cell? ⟨br, 4, none⟩ = some (.int .i64 ytp) := by rw [← hΓ]; exact ghO_cell (c := #[.int .i64 ypr, .int .i64 yhe, .int .i64 yhp, .int .i64 yth, .int .i64 ytp, .bool false, .bool false, .bool true, .int .i64 ysq]) (t := 41) 5 (by simp) 4 rfl
        have q5_5 : ∀ q : Γ.Wd, q.w.cell? ⟨br, 5, none⟩ = some (.bool false) := by rw [← hΓ]; exact ghO_cell (c := #[.int .i64 ypr, .int .i64 yhe, .int .i64 yhp, .int .i64 yth, .int .i64 ytp, .bool false, .bool false, .bool true, .int .i64 ysq]) (t := 41) 5 (by simp) 5 rfl
        have q5_6 : ∀ q : Γ.Wd, q.w.cell? ⟨br, 6, none⟩ = some (.bool false) := by rw [← hΓ]; exact ghO_cell (c := #[.int .i64 ypr, .int .i64 yhe, .int .i64 yhp, .int .i64 yth, .int .i64 ytp, .bool false, .bool false, .bool true, .int .i64 ysq]) (t := 41) 5 (by simp) 6 rfl
        have q5_7 : ∀ q : Γ.Wd, q.w.cell? ⟨br, 7, none⟩ = some (.bool true) := by rw [← hΓ]; exact ghO_cell (c := #[.int .i64 ypr, .int .i64 yhe, .int .i64 yhp, .int .i64 yth, .int .i64 ytp, .bool false, .bool false, .bool true, .int .i64 ysq]) (t := 41) 5 (by simp) 7 rfl
        have q5_8 : ∀ q : Γ.Wd, q.w.cell? ⟨br, 8, none⟩ = some (.int .i64 ysq) := by rw [← hΓ]; exact ghO_cell (c := #[.int .i64 ypr, .int .i64 yhe, .int .i64 yhp, .int .i64 yth, .int .i64 ytp, .bool false, .bool false, .bool true, .int .i64 ysq]) (t := 41) 5 (by simp) 8 rfl
        have HΓ := Lib.hid hΓ
        clear hΓ
        have ne : Nonempty Γ.Wd := ⟨⟨[], x301, HST.out⟩⟩
        refine wp_region_H Γ 37 [12, 16, 19, 21, 23, 26, 30, 34] (by kernel_rfl) (by kernel_rfl) (by kernel_rfl) (by kernel_rfl) HST.out ?_
        simp only [List.take, List.drop]
        iterate 12 (first | (refine wpH_want (by kernel_rfl) (by kernel_rfl) rfl rfl ?_; intro K hK; go_big_quiet_op; go_big_quiet_on) | (refine wpH_is (by kernel_rfl) (by kernel_rfl) rfl _ (fun _ w _ => rfl) ?_; simp only [Act.put, List.setIfInBounds_toArray, List.set_cons_succ, List.set_cons_zero]))
        refine wpH_chain 0 (by kernel_rfl) (by kernel_rfl) rfl 13 #[.pointer (some ⟨f, 0, none⟩), .int .i64 4, .int .i64 (nw + nn), flV ⟨ypr, yhe, yhp, yth, ytp, false, false, false, ysq⟩] (.int .i64 (i01 rq)) (fun w => by simp [go_sem]) (fun vs w hg hvs => by
          rw [← HΓ.out] at hg ⊢
          exact ghO_call 0 hg hvs rfl rfl fun ho => did_f (T := nw) (N := 1) ho 2 rfl HD2.out HFW.out (by simp [igS]) (by omega) (by omega) (by unfold timeB; omega) (by unfold i64B; omega)) ?_
        simp only [Act.put, List.setIfInBounds_toArray, List.set_cons_succ, List.set_cons_zero]
        iterate 3 (first | (refine wpH_want (by kernel_rfl) (by kernel_rfl) rfl rfl ?_; intro K hK; go_big_quiet_op; go_big_quiet_on) | (refine wpH_is (by kernel_rfl) (by kernel_rfl) rfl _ (fun _ w _ => rfl) ?_; simp only [Act.put, List.setIfInBounds_toArray, List.set_cons_succ, List.set_cons_zero]))
        refine wpH_chain 1 (by kernel_rfl) (by kernel_rfl) rfl 13 #[.pointer (some ⟨g2, 0, none⟩), .int .i64 4, .int .i64 (nw + nn), flV ⟨ypr, yhe, yhp, yth, ytp, false, false, false, ysq⟩] (.int .i64 (i01 rq)) (fun w => by simp [go_sem]) (fun vs w hg hvs => by
          rw [← HΓ.out] at hg ⊢
          exact ghO_call 1 hg hvs rfl rfl fun ho => did_f (T := nw) (N := 1) ho 3 rfl HD2.out HFW.out (by simp [igS]) (by omega) (by omega) (by unfold timeB; omega) (by unfold i64B; omega)) ?_
        simp only [Act.put, List.setIfInBounds_toArray, List.set_cons_succ, List.set_cons_zero]
        iterate 2 (first | (refine wpH_want (by kernel_rfl) (by kernel_rfl) rfl rfl ?_; intro K hK; go_big_quiet_op; go_big_quiet_on) | (refine wpH_is (by kernel_rfl) (by kernel_rfl) rfl _ (fun _ w _ => rfl) ?_; simp only [Act.put, List.setIfInBounds_toArray, List.set_cons_succ, List.set_cons_zero]))
        refine wpH_isC 2 (by kernel_rfl) (by kernel_rfl) rfl (.bool true) (fun w => by simp [go_sem]) (fun vs w hg hvs => by
          rw [← HΓ.out] at hg ⊢
          exact ghO_same 2 hg hvs rfl rfl) ?_
        simp only [Act.put, List.setIfInBounds_toArray, List.set_cons_succ, List.set_cons_zero]
        iterate 1 (first | (refine wpH_want (by kernel_rfl) (by kernel_rfl) rfl rfl ?_; intro K hK; go_big_quiet_op; go_big_quiet_on) | (refine wpH_is (by kernel_rfl) (by kernel_rfl) rfl _ (fun _ w _ => rfl) ?_; simp only [Act.put, List.setIfInBounds_toArray, List.set_cons_succ, List.set_cons_zero]))
        refine wpH_chain 3 (by kernel_rfl) (by kernel_rfl) rfl 14 #[.pointer (some ⟨f, 0, none⟩)] (.int .i64 ln) (fun w => by simp [go_sem]) (fun vs w hg hvs => by
          rw [← HΓ.out] at hg ⊢
          exact ghO_call 3 hg hvs rfl rfl fun ho => flen_f (n := ln) ho 2 rfl HLN.out) ?_
        simp only [Act.put, List.setIfInBounds_toArray, List.set_cons_succ, List.set_cons_zero]
        iterate 1 (first | (refine wpH_want (by kernel_rfl) (by kernel_rfl) rfl rfl ?_; intro K hK; go_big_quiet_op; go_big_quiet_on) | (refine wpH_is (by kernel_rfl) (by kernel_rfl) rfl _ (fun _ w _ => rfl) ?_; simp only [Act.put, List.setIfInBounds_toArray, List.set_cons_succ, List.set_cons_zero]))
        refine wpH_chain 4 (by kernel_rfl) (by kernel_rfl) rfl 14 #[.pointer (some ⟨g2, 0, none⟩)] (.int .i64 ln) (fun w => by simp [go_sem]) (fun vs w hg hvs => by
          rw [← HΓ.out] at hg ⊢
          exact ghO_call 4 hg hvs rfl rfl fun ho => flen_f (n := ln) ho 3 rfl HLN.out) ?_
        simp only [Act.put, List.setIfInBounds_toArray, List.set_cons_succ, List.set_cons_zero]
        iterate 2 (first | (refine wpH_want (by kernel_rfl) (by kernel_rfl) rfl rfl ?_; intro K hK; go_big_quiet_op; go_big_quiet_on) | (refine wpH_is (by kernel_rfl) (by kernel_rfl) rfl _ (fun _ w _ => rfl) ?_; simp only [Act.put, List.setIfInBounds_toArray, List.set_cons_succ, List.set_cons_zero]))
        refine wpH_isC 5 (by kernel_rfl) (by kernel_rfl) rfl (.bool true) (fun w => by simp [go_sem]) (fun vs w hg hvs => by
          rw [← HΓ.out] at hg ⊢
          exact ghO_same 5 hg hvs rfl rfl) ?_
        simp only [Act.put, List.setIfInBounds_toArray, List.set_cons_succ, List.set_cons_zero]
        iterate 3 (first | (refine wpH_want (by kernel_rfl) (by kernel_rfl) rfl rfl ?_; intro K hK; go_big_quiet_op; go_big_quiet_on) | (refine wpH_is (by kernel_rfl) (by kernel_rfl) rfl _ (fun _ w _ => rfl) ?_; simp only [Act.put, List.setIfInBounds_toArray, List.set_cons_succ, List.set_cons_zero]))
        refine wpH_chain 6 (by kernel_rfl) (by kernel_rfl) rfl 13 #[.pointer (some ⟨f, 0, none⟩), .int .i64 2, .int .i64 (nw + nn), flV ⟨ypr, yhe, yhp, yth, ytp, false, false, true, ysq⟩] (.int .i64 (i01 rb)) (fun w => by simp [go_sem]) (fun vs w hg hvs => by
          rw [← HΓ.out] at hg ⊢
          exact ghO_call 6 hg hvs rfl rfl fun ho => did_f (T := (nw + nn)) (N := 2) ho 2 rfl HD4.out HFW2.out HLT2.out (by omega) (by omega) (by unfold timeB; omega) (by unfold i64B; omega)) ?_
        simp only [Act.put, List.setIfInBounds_toArray, List.set_cons_succ, List.set_cons_zero]
        iterate 3 (first | (refine wpH_want (by kernel_rfl) (by kernel_rfl) rfl rfl ?_; intro K hK; go_big_quiet_op; go_big_quiet_on) | (refine wpH_is (by kernel_rfl) (by kernel_rfl) rfl _ (fun _ w _ => rfl) ?_; simp only [Act.put, List.setIfInBounds_toArray, List.set_cons_succ, List.set_cons_zero]))
        refine wpH_chain 7 (by kernel_rfl) (by kernel_rfl) rfl 13 #[.pointer (some ⟨g2, 0, none⟩), .int .i64 2, .int .i64 (nw + nn), flV ⟨ypr, yhe, yhp, yth, ytp, false, false, false, ysq⟩] (.int .i64 (i01 rb)) (fun w => by simp [go_sem]) (fun vs w hg hvs => by
          rw [← HΓ.out] at hg ⊢
          exact ghO_call 7 hg hvs rfl rfl fun ho => did_f (T := (nw + nn)) (N := 2) ho 3 rfl HD3.out HFW2.out HLT2.out (by omega) (by omega) (by unfold timeB; omega) (by unfold i64B; omega)) ?_
        simp only [Act.put, List.setIfInBounds_toArray, List.set_cons_succ, List.set_cons_zero]
        iterate 2 (first | (refine wpH_want (by kernel_rfl) (by kernel_rfl) rfl rfl ?_; intro K hK; go_big_quiet_op; go_big_quiet_on) | (refine wpH_is (by kernel_rfl) (by kernel_rfl) rfl _ (fun _ w _ => rfl) ?_; simp only [Act.put, List.setIfInBounds_toArray, List.set_cons_succ, List.set_cons_zero]))
        refine wpH_nil (by kernel_rfl) (by simp) ?_
        rintro ⟨vs, xe⟩ hg hgl
        rw [← HΓ.out] at hg
        replace HO := Lib.hid (ghO_at hg 8 hgl rfl)
        simp only [gexAll, List.drop]
        clear q4_0 q4_1 q4_2 q4_3 q4_4 q4_5 q4_6 q4_7 q4_8 q5_0 q5_1 q5_2 q5_3 q5_4 q5_5 q5_6 q5_7 q5_8 ne HST hg hgl HΓ
        replace HO := Lib.hid (show Own w none0 xe [rowRl (.slice none 0 0) [], blkR bx (.cells #[.int .i64 yqho, .int .i64 yqpr, .int .i64 yqpo, .int .i64 yqth, .int .i64 yqfl, .int .i64 yqaf] 39), resF f st3, resF g2 st3, blkR bv (.cells #[.int .i64 ypr, .int .i64 yhe, .int .i64 yhp, .int .i64 yth, .int .i64 ytp, .bool false, .bool false, .bool false, .int .i64 ysq] 41), blkR br (.cells #[.int .i64 ypr, .int .i64 yhe, .int .i64 yhp, .int .i64 yth, .int .i64 ytp, .bool false, .bool false, .bool true, .int .i64 ysq] 41)] from HO.out)
        go_wp2
        go_ret
        exact ⟨by simp, HO.out.below⟩

end Go.Proofs.Ythhoknhjbkkflaa
