/- Contract of the law's sane. Printed by wip/tools/gen22n.py. The laws of chapter 22 without the program: what a sequence of packets does. FirewallPassesDNS without the program: what the queries and the replies do to the flow table. -/
import Derived.Test.YtbolfkojebbejaaGreatDoorBk
namespace Go.Proofs.YtbolfkojebbejaaGreatDoor
open Go.RowKit Go.Sort
set_option linter.unusedVariables false
set_option maxRecDepth 100000

def kx : FK := ⟨6, 1, 5000, 2, 80⟩
def kz : FK := ⟨6, 1, 80, 2, 5000⟩
def rx : Rl := ⟨true, 6, 0, 0, 80, 80, true⟩
set_option maxRecDepth 100000 in
set_option maxHeartbeats 8000000 in
theorem sane_any (w : World) : Calls Tryz.prog 11 #[] w fun e w' => e = .returned (.bool true) ∧ Below w.heap.size w w' := by
  have hO := (Own.nil w none0).rowNew 115 7
  have HO := Lib.hid (show Own w none0 w [rowRl (.slice none 0 0) []] from hO)
  clear hO
  go_enter Tryz.func11, Tryz.ntmps11
  go_wp2_with fail
  refine (new_ok HO.out 0 rfl (by decide) (by kernel_rfl)).mono ?_
  rintro e x1 ⟨f, rfl, hO, -⟩
  replace HO := Lib.hid (show Own w none0 x1 [rowRl (.slice none 0 0) [], resF f ⟨[], [], 0⟩] from hO)
  clear hO
  obtain ⟨x2, hx2⟩ : ∃ y, x1.alloc (.cells #[.int .i64 0, .int .i64 0, .int .i64 0, .int .i64 0, .int .i64 0, .bool false, .bool false, .bool false, .int .i64 0] 39) = y := ⟨_, rfl⟩
  obtain ⟨bx, hbx⟩ : ∃ y, x1.heap.size = y := ⟨_, rfl⟩
  have hO := HO.out.alloc (.cells #[.int .i64 0, .int .i64 0, .int .i64 0, .int .i64 0, .int .i64 0, .bool false, .bool false, .bool false, .int .i64 0] 39)
  rw [hx2, hbx] at hO
  replace HO := Lib.hid (show Own w none0 x2 [rowRl (.slice none 0 0) [], resF f ⟨[], [], 0⟩, blkR bx (.cells #[.int .i64 0, .int .i64 0, .int .i64 0, .int .i64 0, .int .i64 0, .bool false, .bool false, .bool false, .int .i64 0] 39)] from hO)
  clear hO
  have k2_0_3 : x2.cell? ⟨bx, 0, none⟩ = some (.int .i64 0) := HO.out.cell 2 rfl 0 rfl
  have lk2_0_3 : x2.frozen? ⟨bx, 0, none⟩ = false := HO.out.frz 2 rfl 0
  have k2_1_4 : x2.cell? ⟨bx, 1, none⟩ = some (.int .i64 0) := HO.out.cell 2 rfl 1 rfl
  have lk2_1_4 : x2.frozen? ⟨bx, 1, none⟩ = false := HO.out.frz 2 rfl 1
  have k2_2_5 : x2.cell? ⟨bx, 2, none⟩ = some (.int .i64 0) := HO.out.cell 2 rfl 2 rfl
  have lk2_2_5 : x2.frozen? ⟨bx, 2, none⟩ = false := HO.out.frz 2 rfl 2
  have k2_3_6 : x2.cell? ⟨bx, 3, none⟩ = some (.int .i64 0) := HO.out.cell 2 rfl 3 rfl
  have lk2_3_6 : x2.frozen? ⟨bx, 3, none⟩ = false := HO.out.frz 2 rfl 3
  have k2_4_7 : x2.cell? ⟨bx, 4, none⟩ = some (.int .i64 0) := HO.out.cell 2 rfl 4 rfl
  have lk2_4_7 : x2.frozen? ⟨bx, 4, none⟩ = false := HO.out.frz 2 rfl 4
  have k2_5_8 : x2.cell? ⟨bx, 5, none⟩ = some (.bool false) := HO.out.cell 2 rfl 5 rfl
  have lk2_5_8 : x2.frozen? ⟨bx, 5, none⟩ = false := HO.out.frz 2 rfl 5
  have k2_6_9 : x2.cell? ⟨bx, 6, none⟩ = some (.bool false) := HO.out.cell 2 rfl 6 rfl
  have lk2_6_9 : x2.frozen? ⟨bx, 6, none⟩ = false := HO.out.frz 2 rfl 6
  have k2_7_10 : x2.cell? ⟨bx, 7, none⟩ = some (.bool false) := HO.out.cell 2 rfl 7 rfl
  have lk2_7_10 : x2.frozen? ⟨bx, 7, none⟩ = false := HO.out.frz 2 rfl 7
  have k2_8_11 : x2.cell? ⟨bx, 8, none⟩ = some (.int .i64 0) := HO.out.cell 2 rfl 8 rfl
  have lk2_8_11 : x2.frozen? ⟨bx, 8, none⟩ = false := HO.out.frz 2 rfl 8
  obtain ⟨x12, hx12⟩ : ∃ y, x2.setCell ⟨bx, 0, none⟩ (.int .i64 6) = y := ⟨_, rfl⟩
  have hO := HO.out.setCell 2 rfl 0 (.int .i64 6)
  rw [hx12] at hO
  replace HO := Lib.hid (show Own w none0 x12 [rowRl (.slice none 0 0) [], resF f ⟨[], [], 0⟩, blkR bx (.cells #[.int .i64 6, .int .i64 0, .int .i64 0, .int .i64 0, .int .i64 0, .bool false, .bool false, .bool false, .int .i64 0] 39)] from hO)
  clear hO
  have k2_1_13 : x12.cell? ⟨bx, 1, none⟩ = some (.int .i64 0) := HO.out.cell 2 rfl 1 rfl
  have lk2_1_13 : x12.frozen? ⟨bx, 1, none⟩ = false := HO.out.frz 2 rfl 1
  have k2_2_14 : x12.cell? ⟨bx, 2, none⟩ = some (.int .i64 0) := HO.out.cell 2 rfl 2 rfl
  have lk2_2_14 : x12.frozen? ⟨bx, 2, none⟩ = false := HO.out.frz 2 rfl 2
  have k2_3_15 : x12.cell? ⟨bx, 3, none⟩ = some (.int .i64 0) := HO.out.cell 2 rfl 3 rfl
  have lk2_3_15 : x12.frozen? ⟨bx, 3, none⟩ = false := HO.out.frz 2 rfl 3
  have k2_4_16 : x12.cell? ⟨bx, 4, none⟩ = some (.int .i64 0) := HO.out.cell 2 rfl 4 rfl
  have lk2_4_16 : x12.frozen? ⟨bx, 4, none⟩ = false := HO.out.frz 2 rfl 4
  have k2_5_17 : x12.cell? ⟨bx, 5, none⟩ = some (.bool false) := HO.out.cell 2 rfl 5 rfl
  have lk2_5_17 : x12.frozen? ⟨bx, 5, none⟩ = false := HO.out.frz 2 rfl 5
  have k2_6_18 : x12.cell? ⟨bx, 6, none⟩ = some (.bool false) := HO.out.cell 2 rfl 6 rfl
  have lk2_6_18 : x12.frozen? ⟨bx, 6, none⟩ = false := HO.out.frz 2 rfl 6
  have k2_7_19 : x12.cell? ⟨bx, 7, none⟩ = some (.bool false) := HO.out.cell 2 rfl 7 rfl
  have lk2_7_19 : x12.frozen? ⟨bx, 7, none⟩ = false := HO.out.frz 2 rfl 7
  have k2_8_20 : x12.cell? ⟨bx, 8, none⟩ = some (.int .i64 0) := HO.out.cell 2 rfl 8 rfl
  have lk2_8_20 : x12.frozen? ⟨bx, 8, none⟩ = false := HO.out.frz 2 rfl 8
  obtain ⟨x21, hx21⟩ : ∃ y, x12.setCell ⟨bx, 1, none⟩ (.int .i64 1) = y := ⟨_, rfl⟩
  have hO := HO.out.setCell 2 rfl 1 (.int .i64 1)
  rw [hx21] at hO
  replace HO := Lib.hid (show Own w none0 x21 [rowRl (.slice none 0 0) [], resF f ⟨[], [], 0⟩, blkR bx (.cells #[.int .i64 6, .int .i64 1, .int .i64 0, .int .i64 0, .int .i64 0, .bool false, .bool false, .bool false, .int .i64 0] 39)] from hO)
  clear hO
  have k2_2_22 : x21.cell? ⟨bx, 2, none⟩ = some (.int .i64 0) := HO.out.cell 2 rfl 2 rfl
  have lk2_2_22 : x21.frozen? ⟨bx, 2, none⟩ = false := HO.out.frz 2 rfl 2
  have k2_3_23 : x21.cell? ⟨bx, 3, none⟩ = some (.int .i64 0) := HO.out.cell 2 rfl 3 rfl
  have lk2_3_23 : x21.frozen? ⟨bx, 3, none⟩ = false := HO.out.frz 2 rfl 3
  have k2_4_24 : x21.cell? ⟨bx, 4, none⟩ = some (.int .i64 0) := HO.out.cell 2 rfl 4 rfl
  have lk2_4_24 : x21.frozen? ⟨bx, 4, none⟩ = false := HO.out.frz 2 rfl 4
  have k2_5_25 : x21.cell? ⟨bx, 5, none⟩ = some (.bool false) := HO.out.cell 2 rfl 5 rfl
  have lk2_5_25 : x21.frozen? ⟨bx, 5, none⟩ = false := HO.out.frz 2 rfl 5
  have k2_6_26 : x21.cell? ⟨bx, 6, none⟩ = some (.bool false) := HO.out.cell 2 rfl 6 rfl
  have lk2_6_26 : x21.frozen? ⟨bx, 6, none⟩ = false := HO.out.frz 2 rfl 6
  have k2_7_27 : x21.cell? ⟨bx, 7, none⟩ = some (.bool false) := HO.out.cell 2 rfl 7 rfl
  have lk2_7_27 : x21.frozen? ⟨bx, 7, none⟩ = false := HO.out.frz 2 rfl 7
  have k2_8_28 : x21.cell? ⟨bx, 8, none⟩ = some (.int .i64 0) := HO.out.cell 2 rfl 8 rfl
  have lk2_8_28 : x21.frozen? ⟨bx, 8, none⟩ = false := HO.out.frz 2 rfl 8
  obtain ⟨x29, hx29⟩ : ∃ y, x21.setCell ⟨bx, 2, none⟩ (.int .i64 5000) = y := ⟨_, rfl⟩
  have hO := HO.out.setCell 2 rfl 2 (.int .i64 5000)
  rw [hx29] at hO
  replace HO := Lib.hid (show Own w none0 x29 [rowRl (.slice none 0 0) [], resF f ⟨[], [], 0⟩, blkR bx (.cells #[.int .i64 6, .int .i64 1, .int .i64 5000, .int .i64 0, .int .i64 0, .bool false, .bool false, .bool false, .int .i64 0] 39)] from hO)
  clear hO
  have k2_3_30 : x29.cell? ⟨bx, 3, none⟩ = some (.int .i64 0) := HO.out.cell 2 rfl 3 rfl
  have lk2_3_30 : x29.frozen? ⟨bx, 3, none⟩ = false := HO.out.frz 2 rfl 3
  have k2_4_31 : x29.cell? ⟨bx, 4, none⟩ = some (.int .i64 0) := HO.out.cell 2 rfl 4 rfl
  have lk2_4_31 : x29.frozen? ⟨bx, 4, none⟩ = false := HO.out.frz 2 rfl 4
  have k2_5_32 : x29.cell? ⟨bx, 5, none⟩ = some (.bool false) := HO.out.cell 2 rfl 5 rfl
  have lk2_5_32 : x29.frozen? ⟨bx, 5, none⟩ = false := HO.out.frz 2 rfl 5
  have k2_6_33 : x29.cell? ⟨bx, 6, none⟩ = some (.bool false) := HO.out.cell 2 rfl 6 rfl
  have lk2_6_33 : x29.frozen? ⟨bx, 6, none⟩ = false := HO.out.frz 2 rfl 6
  have k2_7_34 : x29.cell? ⟨bx, 7, none⟩ = some (.bool false) := HO.out.cell 2 rfl 7 rfl
  have lk2_7_34 : x29.frozen? ⟨bx, 7, none⟩ = false := HO.out.frz 2 rfl 7
  have k2_8_35 : x29.cell? ⟨bx, 8, none⟩ = some (.int .i64 0) := HO.out.cell 2 rfl 8 rfl
  have lk2_8_35 : x29.frozen? ⟨bx, 8, none⟩ = false := HO.out.frz 2 rfl 8
  obtain ⟨x36, hx36⟩ : ∃ y, x29.setCell ⟨bx, 3, none⟩ (.int .i64 2) = y := ⟨_, rfl⟩
  have hO := HO.out.setCell 2 rfl 3 (.int .i64 2)
  rw [hx36] at hO
  replace HO := Lib.hid (show Own w none0 x36 [rowRl (.slice none 0 0) [], resF f ⟨[], [], 0⟩, blkR bx (.cells #[.int .i64 6, .int .i64 1, .int .i64 5000, .int .i64 2, .int .i64 0, .bool false, .bool false, .bool false, .int .i64 0] 39)] from hO)
  clear hO
  have k2_4_37 : x36.cell? ⟨bx, 4, none⟩ = some (.int .i64 0) := HO.out.cell 2 rfl 4 rfl
  have lk2_4_37 : x36.frozen? ⟨bx, 4, none⟩ = false := HO.out.frz 2 rfl 4
  have k2_5_38 : x36.cell? ⟨bx, 5, none⟩ = some (.bool false) := HO.out.cell 2 rfl 5 rfl
  have lk2_5_38 : x36.frozen? ⟨bx, 5, none⟩ = false := HO.out.frz 2 rfl 5
  have k2_6_39 : x36.cell? ⟨bx, 6, none⟩ = some (.bool false) := HO.out.cell 2 rfl 6 rfl
  have lk2_6_39 : x36.frozen? ⟨bx, 6, none⟩ = false := HO.out.frz 2 rfl 6
  have k2_7_40 : x36.cell? ⟨bx, 7, none⟩ = some (.bool false) := HO.out.cell 2 rfl 7 rfl
  have lk2_7_40 : x36.frozen? ⟨bx, 7, none⟩ = false := HO.out.frz 2 rfl 7
  have k2_8_41 : x36.cell? ⟨bx, 8, none⟩ = some (.int .i64 0) := HO.out.cell 2 rfl 8 rfl
  have lk2_8_41 : x36.frozen? ⟨bx, 8, none⟩ = false := HO.out.frz 2 rfl 8
  obtain ⟨x42, hx42⟩ : ∃ y, x36.setCell ⟨bx, 4, none⟩ (.int .i64 80) = y := ⟨_, rfl⟩
  have hO := HO.out.setCell 2 rfl 4 (.int .i64 80)
  rw [hx42] at hO
  replace HO := Lib.hid (show Own w none0 x42 [rowRl (.slice none 0 0) [], resF f ⟨[], [], 0⟩, blkR bx (.cells #[.int .i64 6, .int .i64 1, .int .i64 5000, .int .i64 2, .int .i64 80, .bool false, .bool false, .bool false, .int .i64 0] 39)] from hO)
  clear hO
  have k2_5_43 : x42.cell? ⟨bx, 5, none⟩ = some (.bool false) := HO.out.cell 2 rfl 5 rfl
  have lk2_5_43 : x42.frozen? ⟨bx, 5, none⟩ = false := HO.out.frz 2 rfl 5
  have k2_6_44 : x42.cell? ⟨bx, 6, none⟩ = some (.bool false) := HO.out.cell 2 rfl 6 rfl
  have lk2_6_44 : x42.frozen? ⟨bx, 6, none⟩ = false := HO.out.frz 2 rfl 6
  have k2_7_45 : x42.cell? ⟨bx, 7, none⟩ = some (.bool false) := HO.out.cell 2 rfl 7 rfl
  have lk2_7_45 : x42.frozen? ⟨bx, 7, none⟩ = false := HO.out.frz 2 rfl 7
  have k2_8_46 : x42.cell? ⟨bx, 8, none⟩ = some (.int .i64 0) := HO.out.cell 2 rfl 8 rfl
  have lk2_8_46 : x42.frozen? ⟨bx, 8, none⟩ = false := HO.out.frz 2 rfl 8
  obtain ⟨x47, hx47⟩ : ∃ y, x42.setCell ⟨bx, 5, none⟩ (.bool false) = y := ⟨_, rfl⟩
  have hO := HO.out.setCell 2 rfl 5 (.bool false)
  rw [hx47] at hO
  replace HO := Lib.hid (show Own w none0 x47 [rowRl (.slice none 0 0) [], resF f ⟨[], [], 0⟩, blkR bx (.cells #[.int .i64 6, .int .i64 1, .int .i64 5000, .int .i64 2, .int .i64 80, .bool false, .bool false, .bool false, .int .i64 0] 39)] from hO)
  clear hO
  have k2_6_48 : x47.cell? ⟨bx, 6, none⟩ = some (.bool false) := HO.out.cell 2 rfl 6 rfl
  have lk2_6_48 : x47.frozen? ⟨bx, 6, none⟩ = false := HO.out.frz 2 rfl 6
  have k2_7_49 : x47.cell? ⟨bx, 7, none⟩ = some (.bool false) := HO.out.cell 2 rfl 7 rfl
  have lk2_7_49 : x47.frozen? ⟨bx, 7, none⟩ = false := HO.out.frz 2 rfl 7
  have k2_8_50 : x47.cell? ⟨bx, 8, none⟩ = some (.int .i64 0) := HO.out.cell 2 rfl 8 rfl
  have lk2_8_50 : x47.frozen? ⟨bx, 8, none⟩ = false := HO.out.frz 2 rfl 8
  obtain ⟨x51, hx51⟩ : ∃ y, x47.setCell ⟨bx, 6, none⟩ (.bool false) = y := ⟨_, rfl⟩
  have hO := HO.out.setCell 2 rfl 6 (.bool false)
  rw [hx51] at hO
  replace HO := Lib.hid (show Own w none0 x51 [rowRl (.slice none 0 0) [], resF f ⟨[], [], 0⟩, blkR bx (.cells #[.int .i64 6, .int .i64 1, .int .i64 5000, .int .i64 2, .int .i64 80, .bool false, .bool false, .bool false, .int .i64 0] 39)] from hO)
  clear hO
  have k2_7_52 : x51.cell? ⟨bx, 7, none⟩ = some (.bool false) := HO.out.cell 2 rfl 7 rfl
  have lk2_7_52 : x51.frozen? ⟨bx, 7, none⟩ = false := HO.out.frz 2 rfl 7
  have k2_8_53 : x51.cell? ⟨bx, 8, none⟩ = some (.int .i64 0) := HO.out.cell 2 rfl 8 rfl
  have lk2_8_53 : x51.frozen? ⟨bx, 8, none⟩ = false := HO.out.frz 2 rfl 8
  obtain ⟨x54, hx54⟩ : ∃ y, x51.setCell ⟨bx, 7, none⟩ (.bool false) = y := ⟨_, rfl⟩
  have hO := HO.out.setCell 2 rfl 7 (.bool false)
  rw [hx54] at hO
  replace HO := Lib.hid (show Own w none0 x54 [rowRl (.slice none 0 0) [], resF f ⟨[], [], 0⟩, blkR bx (.cells #[.int .i64 6, .int .i64 1, .int .i64 5000, .int .i64 2, .int .i64 80, .bool false, .bool false, .bool false, .int .i64 0] 39)] from hO)
  clear hO
  have k2_8_55 : x54.cell? ⟨bx, 8, none⟩ = some (.int .i64 0) := HO.out.cell 2 rfl 8 rfl
  have lk2_8_55 : x54.frozen? ⟨bx, 8, none⟩ = false := HO.out.frz 2 rfl 8
  obtain ⟨x56, hx56⟩ : ∃ y, x54.setCell ⟨bx, 8, none⟩ (.int .i64 0) = y := ⟨_, rfl⟩
  have hO := HO.out.setCell 2 rfl 8 (.int .i64 0)
  rw [hx56] at hO
  replace HO := Lib.hid (show Own w none0 x56 [rowRl (.slice none 0 0) [], resF f ⟨[], [], 0⟩, blkR bx (.cells #[.int .i64 6, .int .i64 1, .int .i64 5000, .int .i64 2, .int .i64 80, .bool false, .bool false, .bool false, .int .i64 0] 39)] from hO)
  clear hO
  have z2_0 : x56.cell? ⟨bx, 0, none⟩ = some (.int .i64 6) := HO.out.cell 2 rfl 0 rfl
  have z2_1 : x56.cell? ⟨bx, 1, none⟩ = some (.int .i64 1) := HO.out.cell 2 rfl 1 rfl
  have z2_2 : x56.cell? ⟨bx, 2, none⟩ = some (.int .i64 5000) := HO.out.cell 2 rfl 2 rfl
  have z2_3 : x56.cell? ⟨bx, 3, none⟩ = some (.int .i64 2) := HO.out.cell 2 rfl 3 rfl
  have z2_4 : x56.cell? ⟨bx, 4, none⟩ = some (.int .i64 80) := HO.out.cell 2 rfl 4 rfl
  have z2_5 : x56.cell? ⟨bx, 5, none⟩ = some (.bool false) := HO.out.cell 2 rfl 5 rfl
  have z2_6 : x56.cell? ⟨bx, 6, none⟩ = some (.bool false) := HO.out.cell 2 rfl 6 rfl
  have z2_7 : x56.cell? ⟨bx, 7, none⟩ = some (.bool false) := HO.out.cell 2 rfl 7 rfl
  have z2_8 : x56.cell? ⟨bx, 8, none⟩ = some (.int .i64 0) := HO.out.cell 2 rfl 8 rfl
  obtain ⟨x57, hx57⟩ : ∃ y, x56.alloc (.cells #[.int .i64 0, .int .i64 0, .int .i64 0, .int .i64 0, .int .i64 0, .bool false, .bool false, .bool false, .int .i64 0] 39) = y := ⟨_, rfl⟩
  obtain ⟨bw, hbw⟩ : ∃ y, x56.heap.size = y := ⟨_, rfl⟩
  have hO := HO.out.alloc (.cells #[.int .i64 0, .int .i64 0, .int .i64 0, .int .i64 0, .int .i64 0, .bool false, .bool false, .bool false, .int .i64 0] 39)
  rw [hx57, hbw] at hO
  replace HO := Lib.hid (show Own w none0 x57 [rowRl (.slice none 0 0) [], resF f ⟨[], [], 0⟩, blkR bx (.cells #[.int .i64 6, .int .i64 1, .int .i64 5000, .int .i64 2, .int .i64 80, .bool false, .bool false, .bool false, .int .i64 0] 39), blkR bw (.cells #[.int .i64 0, .int .i64 0, .int .i64 0, .int .i64 0, .int .i64 0, .bool false, .bool false, .bool false, .int .i64 0] 39)] from hO)
  clear hO
  have k3_0_58 : x57.cell? ⟨bw, 0, none⟩ = some (.int .i64 0) := HO.out.cell 3 rfl 0 rfl
  have lk3_0_58 : x57.frozen? ⟨bw, 0, none⟩ = false := HO.out.frz 3 rfl 0
  have k3_1_59 : x57.cell? ⟨bw, 1, none⟩ = some (.int .i64 0) := HO.out.cell 3 rfl 1 rfl
  have lk3_1_59 : x57.frozen? ⟨bw, 1, none⟩ = false := HO.out.frz 3 rfl 1
  have k3_2_60 : x57.cell? ⟨bw, 2, none⟩ = some (.int .i64 0) := HO.out.cell 3 rfl 2 rfl
  have lk3_2_60 : x57.frozen? ⟨bw, 2, none⟩ = false := HO.out.frz 3 rfl 2
  have k3_3_61 : x57.cell? ⟨bw, 3, none⟩ = some (.int .i64 0) := HO.out.cell 3 rfl 3 rfl
  have lk3_3_61 : x57.frozen? ⟨bw, 3, none⟩ = false := HO.out.frz 3 rfl 3
  have k3_4_62 : x57.cell? ⟨bw, 4, none⟩ = some (.int .i64 0) := HO.out.cell 3 rfl 4 rfl
  have lk3_4_62 : x57.frozen? ⟨bw, 4, none⟩ = false := HO.out.frz 3 rfl 4
  have k3_5_63 : x57.cell? ⟨bw, 5, none⟩ = some (.bool false) := HO.out.cell 3 rfl 5 rfl
  have lk3_5_63 : x57.frozen? ⟨bw, 5, none⟩ = false := HO.out.frz 3 rfl 5
  have k3_6_64 : x57.cell? ⟨bw, 6, none⟩ = some (.bool false) := HO.out.cell 3 rfl 6 rfl
  have lk3_6_64 : x57.frozen? ⟨bw, 6, none⟩ = false := HO.out.frz 3 rfl 6
  have k3_7_65 : x57.cell? ⟨bw, 7, none⟩ = some (.bool false) := HO.out.cell 3 rfl 7 rfl
  have lk3_7_65 : x57.frozen? ⟨bw, 7, none⟩ = false := HO.out.frz 3 rfl 7
  have k3_8_66 : x57.cell? ⟨bw, 8, none⟩ = some (.int .i64 0) := HO.out.cell 3 rfl 8 rfl
  have lk3_8_66 : x57.frozen? ⟨bw, 8, none⟩ = false := HO.out.frz 3 rfl 8
  obtain ⟨x67, hx67⟩ : ∃ y, x57.setCell ⟨bw, 0, none⟩ (.int .i64 6) = y := ⟨_, rfl⟩
  have hO := HO.out.setCell 3 rfl 0 (.int .i64 6)
  rw [hx67] at hO
  replace HO := Lib.hid (show Own w none0 x67 [rowRl (.slice none 0 0) [], resF f ⟨[], [], 0⟩, blkR bx (.cells #[.int .i64 6, .int .i64 1, .int .i64 5000, .int .i64 2, .int .i64 80, .bool false, .bool false, .bool false, .int .i64 0] 39), blkR bw (.cells #[.int .i64 6, .int .i64 0, .int .i64 0, .int .i64 0, .int .i64 0, .bool false, .bool false, .bool false, .int .i64 0] 39)] from hO)
  clear hO
  have k3_1_68 : x67.cell? ⟨bw, 1, none⟩ = some (.int .i64 0) := HO.out.cell 3 rfl 1 rfl
  have lk3_1_68 : x67.frozen? ⟨bw, 1, none⟩ = false := HO.out.frz 3 rfl 1
  have k3_2_69 : x67.cell? ⟨bw, 2, none⟩ = some (.int .i64 0) := HO.out.cell 3 rfl 2 rfl
  have lk3_2_69 : x67.frozen? ⟨bw, 2, none⟩ = false := HO.out.frz 3 rfl 2
  have k3_3_70 : x67.cell? ⟨bw, 3, none⟩ = some (.int .i64 0) := HO.out.cell 3 rfl 3 rfl
  have lk3_3_70 : x67.frozen? ⟨bw, 3, none⟩ = false := HO.out.frz 3 rfl 3
  have k3_4_71 : x67.cell? ⟨bw, 4, none⟩ = some (.int .i64 0) := HO.out.cell 3 rfl 4 rfl
  have lk3_4_71 : x67.frozen? ⟨bw, 4, none⟩ = false := HO.out.frz 3 rfl 4
  have k3_5_72 : x67.cell? ⟨bw, 5, none⟩ = some (.bool false) := HO.out.cell 3 rfl 5 rfl
  have lk3_5_72 : x67.frozen? ⟨bw, 5, none⟩ = false := HO.out.frz 3 rfl 5
  have k3_6_73 : x67.cell? ⟨bw, 6, none⟩ = some (.bool false) := HO.out.cell 3 rfl 6 rfl
  have lk3_6_73 : x67.frozen? ⟨bw, 6, none⟩ = false := HO.out.frz 3 rfl 6
  have k3_7_74 : x67.cell? ⟨bw, 7, none⟩ = some (.bool false) := HO.out.cell 3 rfl 7 rfl
  have lk3_7_74 : x67.frozen? ⟨bw, 7, none⟩ = false := HO.out.frz 3 rfl 7
  have k3_8_75 : x67.cell? ⟨bw, 8, none⟩ = some (.int .i64 0) := HO.out.cell 3 rfl 8 rfl
  have lk3_8_75 : x67.frozen? ⟨bw, 8, none⟩ = false := HO.out.frz 3 rfl 8
  obtain ⟨x76, hx76⟩ : ∃ y, x67.setCell ⟨bw, 1, none⟩ (.int .i64 1) = y := ⟨_, rfl⟩
  have hO := HO.out.setCell 3 rfl 1 (.int .i64 1)
  rw [hx76] at hO
  replace HO := Lib.hid (show Own w none0 x76 [rowRl (.slice none 0 0) [], resF f ⟨[], [], 0⟩, blkR bx (.cells #[.int .i64 6, .int .i64 1, .int .i64 5000, .int .i64 2, .int .i64 80, .bool false, .bool false, .bool false, .int .i64 0] 39), blkR bw (.cells #[.int .i64 6, .int .i64 1, .int .i64 0, .int .i64 0, .int .i64 0, .bool false, .bool false, .bool false, .int .i64 0] 39)] from hO)
  clear hO
  have k3_2_77 : x76.cell? ⟨bw, 2, none⟩ = some (.int .i64 0) := HO.out.cell 3 rfl 2 rfl
  have lk3_2_77 : x76.frozen? ⟨bw, 2, none⟩ = false := HO.out.frz 3 rfl 2
  have k3_3_78 : x76.cell? ⟨bw, 3, none⟩ = some (.int .i64 0) := HO.out.cell 3 rfl 3 rfl
  have lk3_3_78 : x76.frozen? ⟨bw, 3, none⟩ = false := HO.out.frz 3 rfl 3
  have k3_4_79 : x76.cell? ⟨bw, 4, none⟩ = some (.int .i64 0) := HO.out.cell 3 rfl 4 rfl
  have lk3_4_79 : x76.frozen? ⟨bw, 4, none⟩ = false := HO.out.frz 3 rfl 4
  have k3_5_80 : x76.cell? ⟨bw, 5, none⟩ = some (.bool false) := HO.out.cell 3 rfl 5 rfl
  have lk3_5_80 : x76.frozen? ⟨bw, 5, none⟩ = false := HO.out.frz 3 rfl 5
  have k3_6_81 : x76.cell? ⟨bw, 6, none⟩ = some (.bool false) := HO.out.cell 3 rfl 6 rfl
  have lk3_6_81 : x76.frozen? ⟨bw, 6, none⟩ = false := HO.out.frz 3 rfl 6
  have k3_7_82 : x76.cell? ⟨bw, 7, none⟩ = some (.bool false) := HO.out.cell 3 rfl 7 rfl
  have lk3_7_82 : x76.frozen? ⟨bw, 7, none⟩ = false := HO.out.frz 3 rfl 7
  have k3_8_83 : x76.cell? ⟨bw, 8, none⟩ = some (.int .i64 0) := HO.out.cell 3 rfl 8 rfl
  have lk3_8_83 : x76.frozen? ⟨bw, 8, none⟩ = false := HO.out.frz 3 rfl 8
  obtain ⟨x84, hx84⟩ : ∃ y, x76.setCell ⟨bw, 2, none⟩ (.int .i64 5000) = y := ⟨_, rfl⟩
  have hO := HO.out.setCell 3 rfl 2 (.int .i64 5000)
  rw [hx84] at hO
  replace HO := Lib.hid (show Own w none0 x84 [rowRl (.slice none 0 0) [], resF f ⟨[], [], 0⟩, blkR bx (.cells #[.int .i64 6, .int .i64 1, .int .i64 5000, .int .i64 2, .int .i64 80, .bool false, .bool false, .bool false, .int .i64 0] 39), blkR bw (.cells #[.int .i64 6, .int .i64 1, .int .i64 5000, .int .i64 0, .int .i64 0, .bool false, .bool false, .bool false, .int .i64 0] 39)] from hO)
  clear hO
  have k3_3_85 : x84.cell? ⟨bw, 3, none⟩ = some (.int .i64 0) := HO.out.cell 3 rfl 3 rfl
  have lk3_3_85 : x84.frozen? ⟨bw, 3, none⟩ = false := HO.out.frz 3 rfl 3
  have k3_4_86 : x84.cell? ⟨bw, 4, none⟩ = some (.int .i64 0) := HO.out.cell 3 rfl 4 rfl
  have lk3_4_86 : x84.frozen? ⟨bw, 4, none⟩ = false := HO.out.frz 3 rfl 4
  have k3_5_87 : x84.cell? ⟨bw, 5, none⟩ = some (.bool false) := HO.out.cell 3 rfl 5 rfl
  have lk3_5_87 : x84.frozen? ⟨bw, 5, none⟩ = false := HO.out.frz 3 rfl 5
  have k3_6_88 : x84.cell? ⟨bw, 6, none⟩ = some (.bool false) := HO.out.cell 3 rfl 6 rfl
  have lk3_6_88 : x84.frozen? ⟨bw, 6, none⟩ = false := HO.out.frz 3 rfl 6
  have k3_7_89 : x84.cell? ⟨bw, 7, none⟩ = some (.bool false) := HO.out.cell 3 rfl 7 rfl
  have lk3_7_89 : x84.frozen? ⟨bw, 7, none⟩ = false := HO.out.frz 3 rfl 7
  have k3_8_90 : x84.cell? ⟨bw, 8, none⟩ = some (.int .i64 0) := HO.out.cell 3 rfl 8 rfl
  have lk3_8_90 : x84.frozen? ⟨bw, 8, none⟩ = false := HO.out.frz 3 rfl 8
  obtain ⟨x91, hx91⟩ : ∃ y, x84.setCell ⟨bw, 3, none⟩ (.int .i64 2) = y := ⟨_, rfl⟩
  have hO := HO.out.setCell 3 rfl 3 (.int .i64 2)
  rw [hx91] at hO
  replace HO := Lib.hid (show Own w none0 x91 [rowRl (.slice none 0 0) [], resF f ⟨[], [], 0⟩, blkR bx (.cells #[.int .i64 6, .int .i64 1, .int .i64 5000, .int .i64 2, .int .i64 80, .bool false, .bool false, .bool false, .int .i64 0] 39), blkR bw (.cells #[.int .i64 6, .int .i64 1, .int .i64 5000, .int .i64 2, .int .i64 0, .bool false, .bool false, .bool false, .int .i64 0] 39)] from hO)
  clear hO
  have k3_4_92 : x91.cell? ⟨bw, 4, none⟩ = some (.int .i64 0) := HO.out.cell 3 rfl 4 rfl
  have lk3_4_92 : x91.frozen? ⟨bw, 4, none⟩ = false := HO.out.frz 3 rfl 4
  have k3_5_93 : x91.cell? ⟨bw, 5, none⟩ = some (.bool false) := HO.out.cell 3 rfl 5 rfl
  have lk3_5_93 : x91.frozen? ⟨bw, 5, none⟩ = false := HO.out.frz 3 rfl 5
  have k3_6_94 : x91.cell? ⟨bw, 6, none⟩ = some (.bool false) := HO.out.cell 3 rfl 6 rfl
  have lk3_6_94 : x91.frozen? ⟨bw, 6, none⟩ = false := HO.out.frz 3 rfl 6
  have k3_7_95 : x91.cell? ⟨bw, 7, none⟩ = some (.bool false) := HO.out.cell 3 rfl 7 rfl
  have lk3_7_95 : x91.frozen? ⟨bw, 7, none⟩ = false := HO.out.frz 3 rfl 7
  have k3_8_96 : x91.cell? ⟨bw, 8, none⟩ = some (.int .i64 0) := HO.out.cell 3 rfl 8 rfl
  have lk3_8_96 : x91.frozen? ⟨bw, 8, none⟩ = false := HO.out.frz 3 rfl 8
  obtain ⟨x97, hx97⟩ : ∃ y, x91.setCell ⟨bw, 4, none⟩ (.int .i64 80) = y := ⟨_, rfl⟩
  have hO := HO.out.setCell 3 rfl 4 (.int .i64 80)
  rw [hx97] at hO
  replace HO := Lib.hid (show Own w none0 x97 [rowRl (.slice none 0 0) [], resF f ⟨[], [], 0⟩, blkR bx (.cells #[.int .i64 6, .int .i64 1, .int .i64 5000, .int .i64 2, .int .i64 80, .bool false, .bool false, .bool false, .int .i64 0] 39), blkR bw (.cells #[.int .i64 6, .int .i64 1, .int .i64 5000, .int .i64 2, .int .i64 80, .bool false, .bool false, .bool false, .int .i64 0] 39)] from hO)
  clear hO
  have k3_5_98 : x97.cell? ⟨bw, 5, none⟩ = some (.bool false) := HO.out.cell 3 rfl 5 rfl
  have lk3_5_98 : x97.frozen? ⟨bw, 5, none⟩ = false := HO.out.frz 3 rfl 5
  have k3_6_99 : x97.cell? ⟨bw, 6, none⟩ = some (.bool false) := HO.out.cell 3 rfl 6 rfl
  have lk3_6_99 : x97.frozen? ⟨bw, 6, none⟩ = false := HO.out.frz 3 rfl 6
  have k3_7_100 : x97.cell? ⟨bw, 7, none⟩ = some (.bool false) := HO.out.cell 3 rfl 7 rfl
  have lk3_7_100 : x97.frozen? ⟨bw, 7, none⟩ = false := HO.out.frz 3 rfl 7
  have k3_8_101 : x97.cell? ⟨bw, 8, none⟩ = some (.int .i64 0) := HO.out.cell 3 rfl 8 rfl
  have lk3_8_101 : x97.frozen? ⟨bw, 8, none⟩ = false := HO.out.frz 3 rfl 8
  obtain ⟨x102, hx102⟩ : ∃ y, x97.setCell ⟨bw, 5, none⟩ (.bool false) = y := ⟨_, rfl⟩
  have hO := HO.out.setCell 3 rfl 5 (.bool false)
  rw [hx102] at hO
  replace HO := Lib.hid (show Own w none0 x102 [rowRl (.slice none 0 0) [], resF f ⟨[], [], 0⟩, blkR bx (.cells #[.int .i64 6, .int .i64 1, .int .i64 5000, .int .i64 2, .int .i64 80, .bool false, .bool false, .bool false, .int .i64 0] 39), blkR bw (.cells #[.int .i64 6, .int .i64 1, .int .i64 5000, .int .i64 2, .int .i64 80, .bool false, .bool false, .bool false, .int .i64 0] 39)] from hO)
  clear hO
  have k3_6_103 : x102.cell? ⟨bw, 6, none⟩ = some (.bool false) := HO.out.cell 3 rfl 6 rfl
  have lk3_6_103 : x102.frozen? ⟨bw, 6, none⟩ = false := HO.out.frz 3 rfl 6
  have k3_7_104 : x102.cell? ⟨bw, 7, none⟩ = some (.bool false) := HO.out.cell 3 rfl 7 rfl
  have lk3_7_104 : x102.frozen? ⟨bw, 7, none⟩ = false := HO.out.frz 3 rfl 7
  have k3_8_105 : x102.cell? ⟨bw, 8, none⟩ = some (.int .i64 0) := HO.out.cell 3 rfl 8 rfl
  have lk3_8_105 : x102.frozen? ⟨bw, 8, none⟩ = false := HO.out.frz 3 rfl 8
  obtain ⟨x106, hx106⟩ : ∃ y, x102.setCell ⟨bw, 6, none⟩ (.bool false) = y := ⟨_, rfl⟩
  have hO := HO.out.setCell 3 rfl 6 (.bool false)
  rw [hx106] at hO
  replace HO := Lib.hid (show Own w none0 x106 [rowRl (.slice none 0 0) [], resF f ⟨[], [], 0⟩, blkR bx (.cells #[.int .i64 6, .int .i64 1, .int .i64 5000, .int .i64 2, .int .i64 80, .bool false, .bool false, .bool false, .int .i64 0] 39), blkR bw (.cells #[.int .i64 6, .int .i64 1, .int .i64 5000, .int .i64 2, .int .i64 80, .bool false, .bool false, .bool false, .int .i64 0] 39)] from hO)
  clear hO
  have k3_7_107 : x106.cell? ⟨bw, 7, none⟩ = some (.bool false) := HO.out.cell 3 rfl 7 rfl
  have lk3_7_107 : x106.frozen? ⟨bw, 7, none⟩ = false := HO.out.frz 3 rfl 7
  have k3_8_108 : x106.cell? ⟨bw, 8, none⟩ = some (.int .i64 0) := HO.out.cell 3 rfl 8 rfl
  have lk3_8_108 : x106.frozen? ⟨bw, 8, none⟩ = false := HO.out.frz 3 rfl 8
  obtain ⟨x109, hx109⟩ : ∃ y, x106.setCell ⟨bw, 7, none⟩ (.bool false) = y := ⟨_, rfl⟩
  have hO := HO.out.setCell 3 rfl 7 (.bool false)
  rw [hx109] at hO
  replace HO := Lib.hid (show Own w none0 x109 [rowRl (.slice none 0 0) [], resF f ⟨[], [], 0⟩, blkR bx (.cells #[.int .i64 6, .int .i64 1, .int .i64 5000, .int .i64 2, .int .i64 80, .bool false, .bool false, .bool false, .int .i64 0] 39), blkR bw (.cells #[.int .i64 6, .int .i64 1, .int .i64 5000, .int .i64 2, .int .i64 80, .bool false, .bool false, .bool false, .int .i64 0] 39)] from hO)
  clear hO
  have k3_8_110 : x109.cell? ⟨bw, 8, none⟩ = some (.int .i64 0) := HO.out.cell 3 rfl 8 rfl
  have lk3_8_110 : x109.frozen? ⟨bw, 8, none⟩ = false := HO.out.frz 3 rfl 8
  obtain ⟨x111, hx111⟩ : ∃ y, x109.setCell ⟨bw, 8, none⟩ (.int .i64 0) = y := ⟨_, rfl⟩
  have hO := HO.out.setCell 3 rfl 8 (.int .i64 0)
  rw [hx111] at hO
  replace HO := Lib.hid (show Own w none0 x111 [rowRl (.slice none 0 0) [], resF f ⟨[], [], 0⟩, blkR bx (.cells #[.int .i64 6, .int .i64 1, .int .i64 5000, .int .i64 2, .int .i64 80, .bool false, .bool false, .bool false, .int .i64 0] 39), blkR bw (.cells #[.int .i64 6, .int .i64 1, .int .i64 5000, .int .i64 2, .int .i64 80, .bool false, .bool false, .bool false, .int .i64 0] 39)] from hO)
  clear hO
  have y3_4 : x111.frozen? ⟨bw, 4, none⟩ = false := HO.out.frz 3 rfl 4
  have z3_4 : x111.cell? ⟨bw, 4, none⟩ = some (.int .i64 80) := HO.out.cell 3 rfl 4 rfl
  obtain ⟨x112, hx112⟩ : ∃ y, x111.setCell ⟨bw, 4, none⟩ (.int .i64 81) = y := ⟨_, rfl⟩
  have hO := HO.out.setCell 3 rfl 4 (.int .i64 81)
  rw [hx112] at hO
  replace HO := Lib.hid (show Own w none0 x112 [rowRl (.slice none 0 0) [], resF f ⟨[], [], 0⟩, blkR bx (.cells #[.int .i64 6, .int .i64 1, .int .i64 5000, .int .i64 2, .int .i64 80, .bool false, .bool false, .bool false, .int .i64 0] 39), blkR bw (.cells #[.int .i64 6, .int .i64 1, .int .i64 5000, .int .i64 2, .int .i64 81, .bool false, .bool false, .bool false, .int .i64 0] 39)] from hO)
  clear hO
  have z2_0t : x112.cell? ⟨bx, 0, none⟩ = some (.int .i64 6) := HO.out.cell 2 rfl 0 rfl
  have z2_1t : x112.cell? ⟨bx, 1, none⟩ = some (.int .i64 1) := HO.out.cell 2 rfl 1 rfl
  have z2_2t : x112.cell? ⟨bx, 2, none⟩ = some (.int .i64 5000) := HO.out.cell 2 rfl 2 rfl
  have z2_3t : x112.cell? ⟨bx, 3, none⟩ = some (.int .i64 2) := HO.out.cell 2 rfl 3 rfl
  have z2_4t : x112.cell? ⟨bx, 4, none⟩ = some (.int .i64 80) := HO.out.cell 2 rfl 4 rfl
  have z2_5t : x112.cell? ⟨bx, 5, none⟩ = some (.bool false) := HO.out.cell 2 rfl 5 rfl
  have z2_6t : x112.cell? ⟨bx, 6, none⟩ = some (.bool false) := HO.out.cell 2 rfl 6 rfl
  have z2_7t : x112.cell? ⟨bx, 7, none⟩ = some (.bool false) := HO.out.cell 2 rfl 7 rfl
  have z2_8t : x112.cell? ⟨bx, 8, none⟩ = some (.int .i64 0) := HO.out.cell 2 rfl 8 rfl
  go_wp2_with fail
  refine (in_f (T := 1000) (N := 1000) (x := ⟨6, 1, 5000, 2, 80, false, false, false, 0⟩) (b := false) (st' := ⟨[], [], 0⟩) HO.out 1 rfl (by kernel_rfl) (by kernel_rfl) (by decide) (by decide) (by unfold timeB; omega)).mono ?_
  rintro e x113 ⟨rfl, hO, -⟩
  replace HO := Lib.hid (show Own w none0 x113 [rowRl (.slice none 0 0) [], resF f ⟨[], [], 0⟩, blkR bx (.cells #[.int .i64 6, .int .i64 1, .int .i64 5000, .int .i64 2, .int .i64 80, .bool false, .bool false, .bool false, .int .i64 0] 39), blkR bw (.cells #[.int .i64 6, .int .i64 1, .int .i64 5000, .int .i64 2, .int .i64 81, .bool false, .bool false, .bool false, .int .i64 0] 39)] from hO)
  clear hO
  clear hx2 hbx k2_0_3 lk2_0_3 k2_1_4 lk2_1_4 k2_2_5 lk2_2_5 k2_3_6 lk2_3_6 k2_4_7 lk2_4_7 k2_5_8 lk2_5_8 k2_6_9 lk2_6_9 k2_7_10 lk2_7_10 k2_8_11 lk2_8_11 hx12 k2_1_13 lk2_1_13 k2_2_14 lk2_2_14 k2_3_15 lk2_3_15 k2_4_16 lk2_4_16 k2_5_17 lk2_5_17 k2_6_18 lk2_6_18 k2_7_19 lk2_7_19 k2_8_20 lk2_8_20 hx21 k2_2_22 lk2_2_22 k2_3_23 lk2_3_23 k2_4_24 lk2_4_24 k2_5_25 lk2_5_25 k2_6_26 lk2_6_26 k2_7_27 lk2_7_27 k2_8_28 lk2_8_28 hx29 k2_3_30 lk2_3_30 k2_4_31 lk2_4_31 k2_5_32 lk2_5_32 k2_6_33 lk2_6_33 k2_7_34 lk2_7_34 k2_8_35 lk2_8_35 hx36 k2_4_37 lk2_4_37 k2_5_38 lk2_5_38 k2_6_39 lk2_6_39 k2_7_40 lk2_7_40 k2_8_41 lk2_8_41 hx42 k2_5_43 lk2_5_43 k2_6_44 lk2_6_44 k2_7_45 lk2_7_45 k2_8_46 lk2_8_46 hx47 k2_6_48 lk2_6_48 k2_7_49 lk2_7_49 k2_8_50 lk2_8_50 hx51 k2_7_52 lk2_7_52 k2_8_53 lk2_8_53 hx54 k2_8_55 lk2_8_55 hx56 z2_0 z2_1 z2_2 z2_3 z2_4 z2_5 z2_6 z2_7 z2_8 hx57 hbw k3_0_58 lk3_0_58 k3_1_59 lk3_1_59 k3_2_60 lk3_2_60 k3_3_61 lk3_3_61 k3_4_62 lk3_4_62 k3_5_63 lk3_5_63 k3_6_64 lk3_6_64 k3_7_65 lk3_7_65 k3_8_66 lk3_8_66 hx67 k3_1_68 lk3_1_68 k3_2_69 lk3_2_69 k3_3_70 lk3_3_70 k3_4_71 lk3_4_71 k3_5_72 lk3_5_72 k3_6_73 lk3_6_73 k3_7_74 lk3_7_74 k3_8_75 lk3_8_75 hx76 k3_2_77 lk3_2_77 k3_3_78 lk3_3_78 k3_4_79 lk3_4_79 k3_5_80 lk3_5_80 k3_6_81 lk3_6_81 k3_7_82 lk3_7_82 k3_8_83 lk3_8_83 hx84 k3_3_85 lk3_3_85 k3_4_86 lk3_4_86 k3_5_87 lk3_5_87 k3_6_88 lk3_6_88 k3_7_89 lk3_7_89 k3_8_90 lk3_8_90 hx91 k3_4_92 lk3_4_92 k3_5_93 lk3_5_93 k3_6_94 lk3_6_94 k3_7_95 lk3_7_95 k3_8_96 lk3_8_96 hx97 k3_5_98 lk3_5_98 k3_6_99 lk3_6_99 k3_7_100 lk3_7_100 k3_8_101 lk3_8_101 hx102 k3_6_103 lk3_6_103 k3_7_104 lk3_7_104 k3_8_105 lk3_8_105 hx106 k3_7_107 lk3_7_107 k3_8_108 lk3_8_108 hx109 k3_8_110 lk3_8_110 hx111 y3_4 z3_4 hx112 z2_0t z2_1t z2_2t z2_3t z2_4t z2_5t z2_6t z2_7t z2_8t
  have z2_0 : x113.cell? ⟨bx, 0, none⟩ = some (.int .i64 6) := HO.out.cell 2 rfl 0 rfl
  have z2_1 : x113.cell? ⟨bx, 1, none⟩ = some (.int .i64 1) := HO.out.cell 2 rfl 1 rfl
  have z2_2 : x113.cell? ⟨bx, 2, none⟩ = some (.int .i64 5000) := HO.out.cell 2 rfl 2 rfl
  have z2_3 : x113.cell? ⟨bx, 3, none⟩ = some (.int .i64 2) := HO.out.cell 2 rfl 3 rfl
  have z2_4 : x113.cell? ⟨bx, 4, none⟩ = some (.int .i64 80) := HO.out.cell 2 rfl 4 rfl
  have z2_5 : x113.cell? ⟨bx, 5, none⟩ = some (.bool false) := HO.out.cell 2 rfl 5 rfl
  have z2_6 : x113.cell? ⟨bx, 6, none⟩ = some (.bool false) := HO.out.cell 2 rfl 6 rfl
  have z2_7 : x113.cell? ⟨bx, 7, none⟩ = some (.bool false) := HO.out.cell 2 rfl 7 rfl
  have z2_8 : x113.cell? ⟨bx, 8, none⟩ = some (.int .i64 0) := HO.out.cell 2 rfl 8 rfl
  go_wp2_with fail
  refine (out_f (T := 1000) (N := 1000) (x := ⟨6, 1, 5000, 2, 80, false, false, false, 0⟩) (b := true) (st' := ⟨[], [(kx, ⟨0, 1⟩)], 1⟩) HO.out 1 rfl (by kernel_rfl) (by kernel_rfl) (by decide) (by decide) (by unfold timeB; omega)).mono ?_
  rintro e x114 ⟨rfl, hO, -⟩
  replace HO := Lib.hid (show Own w none0 x114 [rowRl (.slice none 0 0) [], resF f ⟨[], [(kx, ⟨0, 1⟩)], 1⟩, blkR bx (.cells #[.int .i64 6, .int .i64 1, .int .i64 5000, .int .i64 2, .int .i64 80, .bool false, .bool false, .bool false, .int .i64 0] 39), blkR bw (.cells #[.int .i64 6, .int .i64 1, .int .i64 5000, .int .i64 2, .int .i64 81, .bool false, .bool false, .bool false, .int .i64 0] 39)] from hO)
  clear hO
  clear z2_0 z2_1 z2_2 z2_3 z2_4 z2_5 z2_6 z2_7 z2_8
  have z2_0 : x114.cell? ⟨bx, 0, none⟩ = some (.int .i64 6) := HO.out.cell 2 rfl 0 rfl
  have z2_1 : x114.cell? ⟨bx, 1, none⟩ = some (.int .i64 1) := HO.out.cell 2 rfl 1 rfl
  have z2_2 : x114.cell? ⟨bx, 2, none⟩ = some (.int .i64 5000) := HO.out.cell 2 rfl 2 rfl
  have z2_3 : x114.cell? ⟨bx, 3, none⟩ = some (.int .i64 2) := HO.out.cell 2 rfl 3 rfl
  have z2_4 : x114.cell? ⟨bx, 4, none⟩ = some (.int .i64 80) := HO.out.cell 2 rfl 4 rfl
  have z2_5 : x114.cell? ⟨bx, 5, none⟩ = some (.bool false) := HO.out.cell 2 rfl 5 rfl
  have z2_6 : x114.cell? ⟨bx, 6, none⟩ = some (.bool false) := HO.out.cell 2 rfl 6 rfl
  have z2_7 : x114.cell? ⟨bx, 7, none⟩ = some (.bool false) := HO.out.cell 2 rfl 7 rfl
  have z2_8 : x114.cell? ⟨bx, 8, none⟩ = some (.int .i64 0) := HO.out.cell 2 rfl 8 rfl
  go_wp2_with fail
  refine (in_f (T := 1000) (N := 1000) (x := ⟨6, 1, 5000, 2, 80, false, false, false, 0⟩) (b := true) (st' := ⟨[], [(kx, ⟨1, 1⟩)], 1⟩) HO.out 1 rfl (by kernel_rfl) (by kernel_rfl) (by decide) (by decide) (by unfold timeB; omega)).mono ?_
  rintro e x115 ⟨rfl, hO, -⟩
  replace HO := Lib.hid (show Own w none0 x115 [rowRl (.slice none 0 0) [], resF f ⟨[], [(kx, ⟨1, 1⟩)], 1⟩, blkR bx (.cells #[.int .i64 6, .int .i64 1, .int .i64 5000, .int .i64 2, .int .i64 80, .bool false, .bool false, .bool false, .int .i64 0] 39), blkR bw (.cells #[.int .i64 6, .int .i64 1, .int .i64 5000, .int .i64 2, .int .i64 81, .bool false, .bool false, .bool false, .int .i64 0] 39)] from hO)
  clear hO
  clear z2_0 z2_1 z2_2 z2_3 z2_4 z2_5 z2_6 z2_7 z2_8
  have z3_0 : x115.cell? ⟨bw, 0, none⟩ = some (.int .i64 6) := HO.out.cell 3 rfl 0 rfl
  have z3_1 : x115.cell? ⟨bw, 1, none⟩ = some (.int .i64 1) := HO.out.cell 3 rfl 1 rfl
  have z3_2 : x115.cell? ⟨bw, 2, none⟩ = some (.int .i64 5000) := HO.out.cell 3 rfl 2 rfl
  have z3_3 : x115.cell? ⟨bw, 3, none⟩ = some (.int .i64 2) := HO.out.cell 3 rfl 3 rfl
  have z3_4 : x115.cell? ⟨bw, 4, none⟩ = some (.int .i64 81) := HO.out.cell 3 rfl 4 rfl
  have z3_5 : x115.cell? ⟨bw, 5, none⟩ = some (.bool false) := HO.out.cell 3 rfl 5 rfl
  have z3_6 : x115.cell? ⟨bw, 6, none⟩ = some (.bool false) := HO.out.cell 3 rfl 6 rfl
  have z3_7 : x115.cell? ⟨bw, 7, none⟩ = some (.bool false) := HO.out.cell 3 rfl 7 rfl
  have z3_8 : x115.cell? ⟨bw, 8, none⟩ = some (.int .i64 0) := HO.out.cell 3 rfl 8 rfl
  go_wp2_with fail
  refine (in_f (T := 1000) (N := 1000) (x := ⟨6, 1, 5000, 2, 81, false, false, false, 0⟩) (b := false) (st' := ⟨[], [(kx, ⟨1, 1⟩)], 1⟩) HO.out 1 rfl (by kernel_rfl) (by kernel_rfl) (by decide) (by decide) (by unfold timeB; omega)).mono ?_
  rintro e x116 ⟨rfl, hO, -⟩
  replace HO := Lib.hid (show Own w none0 x116 [rowRl (.slice none 0 0) [], resF f ⟨[], [(kx, ⟨1, 1⟩)], 1⟩, blkR bx (.cells #[.int .i64 6, .int .i64 1, .int .i64 5000, .int .i64 2, .int .i64 80, .bool false, .bool false, .bool false, .int .i64 0] 39), blkR bw (.cells #[.int .i64 6, .int .i64 1, .int .i64 5000, .int .i64 2, .int .i64 81, .bool false, .bool false, .bool false, .int .i64 0] 39)] from hO)
  clear hO
  clear z3_0 z3_1 z3_2 z3_3 z3_4 z3_5 z3_6 z3_7 z3_8
  have z2_0 : x116.cell? ⟨bx, 0, none⟩ = some (.int .i64 6) := HO.out.cell 2 rfl 0 rfl
  have z2_1 : x116.cell? ⟨bx, 1, none⟩ = some (.int .i64 1) := HO.out.cell 2 rfl 1 rfl
  have z2_2 : x116.cell? ⟨bx, 2, none⟩ = some (.int .i64 5000) := HO.out.cell 2 rfl 2 rfl
  have z2_3 : x116.cell? ⟨bx, 3, none⟩ = some (.int .i64 2) := HO.out.cell 2 rfl 3 rfl
  have z2_4 : x116.cell? ⟨bx, 4, none⟩ = some (.int .i64 80) := HO.out.cell 2 rfl 4 rfl
  have z2_5 : x116.cell? ⟨bx, 5, none⟩ = some (.bool false) := HO.out.cell 2 rfl 5 rfl
  have z2_6 : x116.cell? ⟨bx, 6, none⟩ = some (.bool false) := HO.out.cell 2 rfl 6 rfl
  have z2_7 : x116.cell? ⟨bx, 7, none⟩ = some (.bool false) := HO.out.cell 2 rfl 7 rfl
  have z2_8 : x116.cell? ⟨bx, 8, none⟩ = some (.int .i64 0) := HO.out.cell 2 rfl 8 rfl
  go_wp2_with fail
  refine (quoted_f (T := 1000) (N := 1000) (x := ⟨6, 1, 5000, 2, 80, false, false, false, 0⟩) (b := true) (st' := ⟨[], [(kx, ⟨1, 1⟩)], 1⟩) HO.out 1 rfl (by kernel_rfl) (by kernel_rfl) (by kernel_rfl) (by decide) (by decide) (by unfold timeB; omega)).mono ?_
  rintro e x117 ⟨rfl, hO, -⟩
  replace HO := Lib.hid (show Own w none0 x117 [rowRl (.slice none 0 0) [], resF f ⟨[], [(kx, ⟨1, 1⟩)], 1⟩, blkR bx (.cells #[.int .i64 6, .int .i64 1, .int .i64 5000, .int .i64 2, .int .i64 80, .bool false, .bool false, .bool false, .int .i64 0] 39), blkR bw (.cells #[.int .i64 6, .int .i64 1, .int .i64 5000, .int .i64 2, .int .i64 81, .bool false, .bool false, .bool false, .int .i64 0] 39)] from hO)
  clear hO
  clear z2_0 z2_1 z2_2 z2_3 z2_4 z2_5 z2_6 z2_7 z2_8
  have z3_0 : x117.cell? ⟨bw, 0, none⟩ = some (.int .i64 6) := HO.out.cell 3 rfl 0 rfl
  have z3_1 : x117.cell? ⟨bw, 1, none⟩ = some (.int .i64 1) := HO.out.cell 3 rfl 1 rfl
  have z3_2 : x117.cell? ⟨bw, 2, none⟩ = some (.int .i64 5000) := HO.out.cell 3 rfl 2 rfl
  have z3_3 : x117.cell? ⟨bw, 3, none⟩ = some (.int .i64 2) := HO.out.cell 3 rfl 3 rfl
  have z3_4 : x117.cell? ⟨bw, 4, none⟩ = some (.int .i64 81) := HO.out.cell 3 rfl 4 rfl
  have z3_5 : x117.cell? ⟨bw, 5, none⟩ = some (.bool false) := HO.out.cell 3 rfl 5 rfl
  have z3_6 : x117.cell? ⟨bw, 6, none⟩ = some (.bool false) := HO.out.cell 3 rfl 6 rfl
  have z3_7 : x117.cell? ⟨bw, 7, none⟩ = some (.bool false) := HO.out.cell 3 rfl 7 rfl
  have z3_8 : x117.cell? ⟨bw, 8, none⟩ = some (.int .i64 0) := HO.out.cell 3 rfl 8 rfl
  go_wp2_with fail
  refine (quoted_f (T := 1000) (N := 1000) (x := ⟨6, 1, 5000, 2, 81, false, false, false, 0⟩) (b := false) (st' := ⟨[], [(kx, ⟨1, 1⟩)], 1⟩) HO.out 1 rfl (by kernel_rfl) (by kernel_rfl) (by kernel_rfl) (by decide) (by decide) (by unfold timeB; omega)).mono ?_
  rintro e x118 ⟨rfl, hO, -⟩
  replace HO := Lib.hid (show Own w none0 x118 [rowRl (.slice none 0 0) [], resF f ⟨[], [(kx, ⟨1, 1⟩)], 1⟩, blkR bx (.cells #[.int .i64 6, .int .i64 1, .int .i64 5000, .int .i64 2, .int .i64 80, .bool false, .bool false, .bool false, .int .i64 0] 39), blkR bw (.cells #[.int .i64 6, .int .i64 1, .int .i64 5000, .int .i64 2, .int .i64 81, .bool false, .bool false, .bool false, .int .i64 0] 39)] from hO)
  clear hO
  clear z3_0 z3_1 z3_2 z3_3 z3_4 z3_5 z3_6 z3_7 z3_8
  go_wp2_with fail
  refine (flen_f (n := 1) HO.out 1 rfl rfl).mono ?_
  rintro e x119 ⟨rfl, hO, -⟩
  replace HO := Lib.hid (show Own w none0 x119 [rowRl (.slice none 0 0) [], resF f ⟨[], [(kx, ⟨1, 1⟩)], 1⟩, blkR bx (.cells #[.int .i64 6, .int .i64 1, .int .i64 5000, .int .i64 2, .int .i64 80, .bool false, .bool false, .bool false, .int .i64 0] 39), blkR bw (.cells #[.int .i64 6, .int .i64 1, .int .i64 5000, .int .i64 2, .int .i64 81, .bool false, .bool false, .bool false, .int .i64 0] 39)] from hO)
  clear hO
  have z2_0 : x119.cell? ⟨bx, 0, none⟩ = some (.int .i64 6) := HO.out.cell 2 rfl 0 rfl
  have z2_1 : x119.cell? ⟨bx, 1, none⟩ = some (.int .i64 1) := HO.out.cell 2 rfl 1 rfl
  have z2_2 : x119.cell? ⟨bx, 2, none⟩ = some (.int .i64 5000) := HO.out.cell 2 rfl 2 rfl
  have z2_3 : x119.cell? ⟨bx, 3, none⟩ = some (.int .i64 2) := HO.out.cell 2 rfl 3 rfl
  have z2_4 : x119.cell? ⟨bx, 4, none⟩ = some (.int .i64 80) := HO.out.cell 2 rfl 4 rfl
  have z2_5 : x119.cell? ⟨bx, 5, none⟩ = some (.bool false) := HO.out.cell 2 rfl 5 rfl
  have z2_6 : x119.cell? ⟨bx, 6, none⟩ = some (.bool false) := HO.out.cell 2 rfl 6 rfl
  have z2_7 : x119.cell? ⟨bx, 7, none⟩ = some (.bool false) := HO.out.cell 2 rfl 7 rfl
  have z2_8 : x119.cell? ⟨bx, 8, none⟩ = some (.int .i64 0) := HO.out.cell 2 rfl 8 rfl
  go_wp2_with fail
  refine (in_f (T := 1000) (N := 1000) (x := ⟨6, 1, 5000, 2, 80, false, false, false, 0⟩) (b := false) (st' := ⟨[], [], 1⟩) HO.out 1 rfl (by kernel_rfl) (by kernel_rfl) (by decide) (by decide) (by unfold timeB; omega)).mono ?_
  rintro e x120 ⟨rfl, hO, -⟩
  replace HO := Lib.hid (show Own w none0 x120 [rowRl (.slice none 0 0) [], resF f ⟨[], [], 1⟩, blkR bx (.cells #[.int .i64 6, .int .i64 1, .int .i64 5000, .int .i64 2, .int .i64 80, .bool false, .bool false, .bool false, .int .i64 0] 39), blkR bw (.cells #[.int .i64 6, .int .i64 1, .int .i64 5000, .int .i64 2, .int .i64 81, .bool false, .bool false, .bool false, .int .i64 0] 39)] from hO)
  clear hO
  clear z2_0 z2_1 z2_2 z2_3 z2_4 z2_5 z2_6 z2_7 z2_8
  have rb := run_bsRl
  obtain ⟨x121, hx121⟩ : ∃ y, x120.alloc (.cells #[.bool false, .int .i64 0, .int .i64 0, .int .i64 0, .int .i64 1, .int .i64 0, .bool false] 115) = y := ⟨_, rfl⟩
  obtain ⟨bb, hbb⟩ : ∃ y, x120.heap.size = y := ⟨_, rfl⟩
  have hO := HO.out.alloc (.cells #[.bool false, .int .i64 0, .int .i64 0, .int .i64 0, .int .i64 1, .int .i64 0, .bool false] 115)
  rw [hx121, hbb] at hO
  replace HO := Lib.hid (show Own w none0 x121 [rowRl (.slice none 0 0) [], resF f ⟨[], [], 1⟩, blkR bx (.cells #[.int .i64 6, .int .i64 1, .int .i64 5000, .int .i64 2, .int .i64 80, .bool false, .bool false, .bool false, .int .i64 0] 39), blkR bw (.cells #[.int .i64 6, .int .i64 1, .int .i64 5000, .int .i64 2, .int .i64 81, .bool false, .bool false, .bool false, .int .i64 0] 39), blkR bb (.cells #[.bool false, .int .i64 0, .int .i64 0, .int .i64 0, .int .i64 1, .int .i64 0, .bool false] 115)] from hO)
  clear hO
  have hO := HO.out.toRow 4 (cs := [.bool false, .int .i64 0, .int .i64 0, .int .i64 0, .int .i64 1, .int .i64 0, .bool false]) 1 7 rfl rfl (by decide)
  replace HO := Lib.hid (show Own w none0 x121 [rowRl (.slice none 0 0) [], resF f ⟨[], [], 1⟩, blkR bx (.cells #[.int .i64 6, .int .i64 1, .int .i64 5000, .int .i64 2, .int .i64 80, .bool false, .bool false, .bool false, .int .i64 0] 39), blkR bw (.cells #[.int .i64 6, .int .i64 1, .int .i64 5000, .int .i64 2, .int .i64 81, .bool false, .bool false, .bool false, .int .i64 0] 39), rowRl (.slice (some ⟨bb, 0, none⟩) 1 1) [⟨false, 0, 0, 0, 1, 0, false⟩]] from hO)
  clear hO
  go_wp2_with fail
  refine (new_bad HO.out 4 rfl (by decide) (by kernel_rfl)).mono ?_
  rintro e x122 ⟨rfl, hO, -⟩
  replace HO := Lib.hid (show Own w none0 x122 [rowRl (.slice none 0 0) [], resF f ⟨[], [], 1⟩, blkR bx (.cells #[.int .i64 6, .int .i64 1, .int .i64 5000, .int .i64 2, .int .i64 80, .bool false, .bool false, .bool false, .int .i64 0] 39), blkR bw (.cells #[.int .i64 6, .int .i64 1, .int .i64 5000, .int .i64 2, .int .i64 81, .bool false, .bool false, .bool false, .int .i64 0] 39), rowRl (.slice (some ⟨bb, 0, none⟩) 1 1) [⟨false, 0, 0, 0, 1, 0, false⟩]] from hO)
  clear hO
  clear hx121 hbb
  obtain ⟨x123, hx123⟩ : ∃ y, x122.alloc (.cells #[.bool true, .int .i64 6, .int .i64 0, .int .i64 0, .int .i64 80, .int .i64 80, .bool true] 115) = y := ⟨_, rfl⟩
  obtain ⟨bg, hbg⟩ : ∃ y, x122.heap.size = y := ⟨_, rfl⟩
  have hO := HO.out.alloc (.cells #[.bool true, .int .i64 6, .int .i64 0, .int .i64 0, .int .i64 80, .int .i64 80, .bool true] 115)
  rw [hx123, hbg] at hO
  replace HO := Lib.hid (show Own w none0 x123 [rowRl (.slice none 0 0) [], resF f ⟨[], [], 1⟩, blkR bx (.cells #[.int .i64 6, .int .i64 1, .int .i64 5000, .int .i64 2, .int .i64 80, .bool false, .bool false, .bool false, .int .i64 0] 39), blkR bw (.cells #[.int .i64 6, .int .i64 1, .int .i64 5000, .int .i64 2, .int .i64 81, .bool false, .bool false, .bool false, .int .i64 0] 39), rowRl (.slice (some ⟨bb, 0, none⟩) 1 1) [⟨false, 0, 0, 0, 1, 0, false⟩], blkR bg (.cells #[.bool true, .int .i64 6, .int .i64 0, .int .i64 0, .int .i64 80, .int .i64 80, .bool true] 115)] from hO)
  clear hO
  have hO := HO.out.toRow 5 (cs := [.bool true, .int .i64 6, .int .i64 0, .int .i64 0, .int .i64 80, .int .i64 80, .bool true]) 1 7 rfl rfl (by decide)
  replace HO := Lib.hid (show Own w none0 x123 [rowRl (.slice none 0 0) [], resF f ⟨[], [], 1⟩, blkR bx (.cells #[.int .i64 6, .int .i64 1, .int .i64 5000, .int .i64 2, .int .i64 80, .bool false, .bool false, .bool false, .int .i64 0] 39), blkR bw (.cells #[.int .i64 6, .int .i64 1, .int .i64 5000, .int .i64 2, .int .i64 81, .bool false, .bool false, .bool false, .int .i64 0] 39), rowRl (.slice (some ⟨bb, 0, none⟩) 1 1) [⟨false, 0, 0, 0, 1, 0, false⟩], rowRl (.slice (some ⟨bg, 0, none⟩) 1 1) [rx]] from hO)
  clear hO
  go_wp2_with fail
  refine (new_ok HO.out 5 rfl (by decide) (by kernel_rfl)).mono ?_
  rintro e x124 ⟨p, rfl, hO, -⟩
  replace HO := Lib.hid (show Own w none0 x124 [rowRl (.slice none 0 0) [], resF f ⟨[], [], 1⟩, blkR bx (.cells #[.int .i64 6, .int .i64 1, .int .i64 5000, .int .i64 2, .int .i64 80, .bool false, .bool false, .bool false, .int .i64 0] 39), blkR bw (.cells #[.int .i64 6, .int .i64 1, .int .i64 5000, .int .i64 2, .int .i64 81, .bool false, .bool false, .bool false, .int .i64 0] 39), rowRl (.slice (some ⟨bb, 0, none⟩) 1 1) [⟨false, 0, 0, 0, 1, 0, false⟩], rowRl (.slice (some ⟨bg, 0, none⟩) 1 1) [rx], resF p ⟨[rx], [], 0⟩] from hO)
  clear hO
  clear hx123 hbg
  clear rb
  obtain ⟨x125, hx125⟩ : ∃ y, x124.alloc (.cells #[.int .i64 0, .int .i64 0, .int .i64 0, .int .i64 0, .int .i64 0, .bool false, .bool false, .bool false, .int .i64 0] 39) = y := ⟨_, rfl⟩
  obtain ⟨bz, hbz⟩ : ∃ y, x124.heap.size = y := ⟨_, rfl⟩
  have hO := HO.out.alloc (.cells #[.int .i64 0, .int .i64 0, .int .i64 0, .int .i64 0, .int .i64 0, .bool false, .bool false, .bool false, .int .i64 0] 39)
  rw [hx125, hbz] at hO
  replace HO := Lib.hid (show Own w none0 x125 [rowRl (.slice none 0 0) [], resF f ⟨[], [], 1⟩, blkR bx (.cells #[.int .i64 6, .int .i64 1, .int .i64 5000, .int .i64 2, .int .i64 80, .bool false, .bool false, .bool false, .int .i64 0] 39), blkR bw (.cells #[.int .i64 6, .int .i64 1, .int .i64 5000, .int .i64 2, .int .i64 81, .bool false, .bool false, .bool false, .int .i64 0] 39), rowRl (.slice (some ⟨bb, 0, none⟩) 1 1) [⟨false, 0, 0, 0, 1, 0, false⟩], rowRl (.slice (some ⟨bg, 0, none⟩) 1 1) [rx], resF p ⟨[rx], [], 0⟩, blkR bz (.cells #[.int .i64 0, .int .i64 0, .int .i64 0, .int .i64 0, .int .i64 0, .bool false, .bool false, .bool false, .int .i64 0] 39)] from hO)
  clear hO
  have k7_0_126 : x125.cell? ⟨bz, 0, none⟩ = some (.int .i64 0) := HO.out.cell 7 rfl 0 rfl
  have lk7_0_126 : x125.frozen? ⟨bz, 0, none⟩ = false := HO.out.frz 7 rfl 0
  have k7_1_127 : x125.cell? ⟨bz, 1, none⟩ = some (.int .i64 0) := HO.out.cell 7 rfl 1 rfl
  have lk7_1_127 : x125.frozen? ⟨bz, 1, none⟩ = false := HO.out.frz 7 rfl 1
  have k7_2_128 : x125.cell? ⟨bz, 2, none⟩ = some (.int .i64 0) := HO.out.cell 7 rfl 2 rfl
  have lk7_2_128 : x125.frozen? ⟨bz, 2, none⟩ = false := HO.out.frz 7 rfl 2
  have k7_3_129 : x125.cell? ⟨bz, 3, none⟩ = some (.int .i64 0) := HO.out.cell 7 rfl 3 rfl
  have lk7_3_129 : x125.frozen? ⟨bz, 3, none⟩ = false := HO.out.frz 7 rfl 3
  have k7_4_130 : x125.cell? ⟨bz, 4, none⟩ = some (.int .i64 0) := HO.out.cell 7 rfl 4 rfl
  have lk7_4_130 : x125.frozen? ⟨bz, 4, none⟩ = false := HO.out.frz 7 rfl 4
  have k7_5_131 : x125.cell? ⟨bz, 5, none⟩ = some (.bool false) := HO.out.cell 7 rfl 5 rfl
  have lk7_5_131 : x125.frozen? ⟨bz, 5, none⟩ = false := HO.out.frz 7 rfl 5
  have k7_6_132 : x125.cell? ⟨bz, 6, none⟩ = some (.bool false) := HO.out.cell 7 rfl 6 rfl
  have lk7_6_132 : x125.frozen? ⟨bz, 6, none⟩ = false := HO.out.frz 7 rfl 6
  have k7_7_133 : x125.cell? ⟨bz, 7, none⟩ = some (.bool false) := HO.out.cell 7 rfl 7 rfl
  have lk7_7_133 : x125.frozen? ⟨bz, 7, none⟩ = false := HO.out.frz 7 rfl 7
  have k7_8_134 : x125.cell? ⟨bz, 8, none⟩ = some (.int .i64 0) := HO.out.cell 7 rfl 8 rfl
  have lk7_8_134 : x125.frozen? ⟨bz, 8, none⟩ = false := HO.out.frz 7 rfl 8
  obtain ⟨x135, hx135⟩ : ∃ y, x125.setCell ⟨bz, 0, none⟩ (.int .i64 6) = y := ⟨_, rfl⟩
  have hO := HO.out.setCell 7 rfl 0 (.int .i64 6)
  rw [hx135] at hO
  replace HO := Lib.hid (show Own w none0 x135 [rowRl (.slice none 0 0) [], resF f ⟨[], [], 1⟩, blkR bx (.cells #[.int .i64 6, .int .i64 1, .int .i64 5000, .int .i64 2, .int .i64 80, .bool false, .bool false, .bool false, .int .i64 0] 39), blkR bw (.cells #[.int .i64 6, .int .i64 1, .int .i64 5000, .int .i64 2, .int .i64 81, .bool false, .bool false, .bool false, .int .i64 0] 39), rowRl (.slice (some ⟨bb, 0, none⟩) 1 1) [⟨false, 0, 0, 0, 1, 0, false⟩], rowRl (.slice (some ⟨bg, 0, none⟩) 1 1) [rx], resF p ⟨[rx], [], 0⟩, blkR bz (.cells #[.int .i64 6, .int .i64 0, .int .i64 0, .int .i64 0, .int .i64 0, .bool false, .bool false, .bool false, .int .i64 0] 39)] from hO)
  clear hO
  have k7_1_136 : x135.cell? ⟨bz, 1, none⟩ = some (.int .i64 0) := HO.out.cell 7 rfl 1 rfl
  have lk7_1_136 : x135.frozen? ⟨bz, 1, none⟩ = false := HO.out.frz 7 rfl 1
  have k7_2_137 : x135.cell? ⟨bz, 2, none⟩ = some (.int .i64 0) := HO.out.cell 7 rfl 2 rfl
  have lk7_2_137 : x135.frozen? ⟨bz, 2, none⟩ = false := HO.out.frz 7 rfl 2
  have k7_3_138 : x135.cell? ⟨bz, 3, none⟩ = some (.int .i64 0) := HO.out.cell 7 rfl 3 rfl
  have lk7_3_138 : x135.frozen? ⟨bz, 3, none⟩ = false := HO.out.frz 7 rfl 3
  have k7_4_139 : x135.cell? ⟨bz, 4, none⟩ = some (.int .i64 0) := HO.out.cell 7 rfl 4 rfl
  have lk7_4_139 : x135.frozen? ⟨bz, 4, none⟩ = false := HO.out.frz 7 rfl 4
  have k7_5_140 : x135.cell? ⟨bz, 5, none⟩ = some (.bool false) := HO.out.cell 7 rfl 5 rfl
  have lk7_5_140 : x135.frozen? ⟨bz, 5, none⟩ = false := HO.out.frz 7 rfl 5
  have k7_6_141 : x135.cell? ⟨bz, 6, none⟩ = some (.bool false) := HO.out.cell 7 rfl 6 rfl
  have lk7_6_141 : x135.frozen? ⟨bz, 6, none⟩ = false := HO.out.frz 7 rfl 6
  have k7_7_142 : x135.cell? ⟨bz, 7, none⟩ = some (.bool false) := HO.out.cell 7 rfl 7 rfl
  have lk7_7_142 : x135.frozen? ⟨bz, 7, none⟩ = false := HO.out.frz 7 rfl 7
  have k7_8_143 : x135.cell? ⟨bz, 8, none⟩ = some (.int .i64 0) := HO.out.cell 7 rfl 8 rfl
  have lk7_8_143 : x135.frozen? ⟨bz, 8, none⟩ = false := HO.out.frz 7 rfl 8
  obtain ⟨x144, hx144⟩ : ∃ y, x135.setCell ⟨bz, 1, none⟩ (.int .i64 1) = y := ⟨_, rfl⟩
  have hO := HO.out.setCell 7 rfl 1 (.int .i64 1)
  rw [hx144] at hO
  replace HO := Lib.hid (show Own w none0 x144 [rowRl (.slice none 0 0) [], resF f ⟨[], [], 1⟩, blkR bx (.cells #[.int .i64 6, .int .i64 1, .int .i64 5000, .int .i64 2, .int .i64 80, .bool false, .bool false, .bool false, .int .i64 0] 39), blkR bw (.cells #[.int .i64 6, .int .i64 1, .int .i64 5000, .int .i64 2, .int .i64 81, .bool false, .bool false, .bool false, .int .i64 0] 39), rowRl (.slice (some ⟨bb, 0, none⟩) 1 1) [⟨false, 0, 0, 0, 1, 0, false⟩], rowRl (.slice (some ⟨bg, 0, none⟩) 1 1) [rx], resF p ⟨[rx], [], 0⟩, blkR bz (.cells #[.int .i64 6, .int .i64 1, .int .i64 0, .int .i64 0, .int .i64 0, .bool false, .bool false, .bool false, .int .i64 0] 39)] from hO)
  clear hO
  have k7_2_145 : x144.cell? ⟨bz, 2, none⟩ = some (.int .i64 0) := HO.out.cell 7 rfl 2 rfl
  have lk7_2_145 : x144.frozen? ⟨bz, 2, none⟩ = false := HO.out.frz 7 rfl 2
  have k7_3_146 : x144.cell? ⟨bz, 3, none⟩ = some (.int .i64 0) := HO.out.cell 7 rfl 3 rfl
  have lk7_3_146 : x144.frozen? ⟨bz, 3, none⟩ = false := HO.out.frz 7 rfl 3
  have k7_4_147 : x144.cell? ⟨bz, 4, none⟩ = some (.int .i64 0) := HO.out.cell 7 rfl 4 rfl
  have lk7_4_147 : x144.frozen? ⟨bz, 4, none⟩ = false := HO.out.frz 7 rfl 4
  have k7_5_148 : x144.cell? ⟨bz, 5, none⟩ = some (.bool false) := HO.out.cell 7 rfl 5 rfl
  have lk7_5_148 : x144.frozen? ⟨bz, 5, none⟩ = false := HO.out.frz 7 rfl 5
  have k7_6_149 : x144.cell? ⟨bz, 6, none⟩ = some (.bool false) := HO.out.cell 7 rfl 6 rfl
  have lk7_6_149 : x144.frozen? ⟨bz, 6, none⟩ = false := HO.out.frz 7 rfl 6
  have k7_7_150 : x144.cell? ⟨bz, 7, none⟩ = some (.bool false) := HO.out.cell 7 rfl 7 rfl
  have lk7_7_150 : x144.frozen? ⟨bz, 7, none⟩ = false := HO.out.frz 7 rfl 7
  have k7_8_151 : x144.cell? ⟨bz, 8, none⟩ = some (.int .i64 0) := HO.out.cell 7 rfl 8 rfl
  have lk7_8_151 : x144.frozen? ⟨bz, 8, none⟩ = false := HO.out.frz 7 rfl 8
  obtain ⟨x152, hx152⟩ : ∃ y, x144.setCell ⟨bz, 2, none⟩ (.int .i64 80) = y := ⟨_, rfl⟩
  have hO := HO.out.setCell 7 rfl 2 (.int .i64 80)
  rw [hx152] at hO
  replace HO := Lib.hid (show Own w none0 x152 [rowRl (.slice none 0 0) [], resF f ⟨[], [], 1⟩, blkR bx (.cells #[.int .i64 6, .int .i64 1, .int .i64 5000, .int .i64 2, .int .i64 80, .bool false, .bool false, .bool false, .int .i64 0] 39), blkR bw (.cells #[.int .i64 6, .int .i64 1, .int .i64 5000, .int .i64 2, .int .i64 81, .bool false, .bool false, .bool false, .int .i64 0] 39), rowRl (.slice (some ⟨bb, 0, none⟩) 1 1) [⟨false, 0, 0, 0, 1, 0, false⟩], rowRl (.slice (some ⟨bg, 0, none⟩) 1 1) [rx], resF p ⟨[rx], [], 0⟩, blkR bz (.cells #[.int .i64 6, .int .i64 1, .int .i64 80, .int .i64 0, .int .i64 0, .bool false, .bool false, .bool false, .int .i64 0] 39)] from hO)
  clear hO
  have k7_3_153 : x152.cell? ⟨bz, 3, none⟩ = some (.int .i64 0) := HO.out.cell 7 rfl 3 rfl
  have lk7_3_153 : x152.frozen? ⟨bz, 3, none⟩ = false := HO.out.frz 7 rfl 3
  have k7_4_154 : x152.cell? ⟨bz, 4, none⟩ = some (.int .i64 0) := HO.out.cell 7 rfl 4 rfl
  have lk7_4_154 : x152.frozen? ⟨bz, 4, none⟩ = false := HO.out.frz 7 rfl 4
  have k7_5_155 : x152.cell? ⟨bz, 5, none⟩ = some (.bool false) := HO.out.cell 7 rfl 5 rfl
  have lk7_5_155 : x152.frozen? ⟨bz, 5, none⟩ = false := HO.out.frz 7 rfl 5
  have k7_6_156 : x152.cell? ⟨bz, 6, none⟩ = some (.bool false) := HO.out.cell 7 rfl 6 rfl
  have lk7_6_156 : x152.frozen? ⟨bz, 6, none⟩ = false := HO.out.frz 7 rfl 6
  have k7_7_157 : x152.cell? ⟨bz, 7, none⟩ = some (.bool false) := HO.out.cell 7 rfl 7 rfl
  have lk7_7_157 : x152.frozen? ⟨bz, 7, none⟩ = false := HO.out.frz 7 rfl 7
  have k7_8_158 : x152.cell? ⟨bz, 8, none⟩ = some (.int .i64 0) := HO.out.cell 7 rfl 8 rfl
  have lk7_8_158 : x152.frozen? ⟨bz, 8, none⟩ = false := HO.out.frz 7 rfl 8
  obtain ⟨x159, hx159⟩ : ∃ y, x152.setCell ⟨bz, 3, none⟩ (.int .i64 2) = y := ⟨_, rfl⟩
  have hO := HO.out.setCell 7 rfl 3 (.int .i64 2)
  rw [hx159] at hO
  replace HO := Lib.hid (show Own w none0 x159 [rowRl (.slice none 0 0) [], resF f ⟨[], [], 1⟩, blkR bx (.cells #[.int .i64 6, .int .i64 1, .int .i64 5000, .int .i64 2, .int .i64 80, .bool false, .bool false, .bool false, .int .i64 0] 39), blkR bw (.cells #[.int .i64 6, .int .i64 1, .int .i64 5000, .int .i64 2, .int .i64 81, .bool false, .bool false, .bool false, .int .i64 0] 39), rowRl (.slice (some ⟨bb, 0, none⟩) 1 1) [⟨false, 0, 0, 0, 1, 0, false⟩], rowRl (.slice (some ⟨bg, 0, none⟩) 1 1) [rx], resF p ⟨[rx], [], 0⟩, blkR bz (.cells #[.int .i64 6, .int .i64 1, .int .i64 80, .int .i64 2, .int .i64 0, .bool false, .bool false, .bool false, .int .i64 0] 39)] from hO)
  clear hO
  have k7_4_160 : x159.cell? ⟨bz, 4, none⟩ = some (.int .i64 0) := HO.out.cell 7 rfl 4 rfl
  have lk7_4_160 : x159.frozen? ⟨bz, 4, none⟩ = false := HO.out.frz 7 rfl 4
  have k7_5_161 : x159.cell? ⟨bz, 5, none⟩ = some (.bool false) := HO.out.cell 7 rfl 5 rfl
  have lk7_5_161 : x159.frozen? ⟨bz, 5, none⟩ = false := HO.out.frz 7 rfl 5
  have k7_6_162 : x159.cell? ⟨bz, 6, none⟩ = some (.bool false) := HO.out.cell 7 rfl 6 rfl
  have lk7_6_162 : x159.frozen? ⟨bz, 6, none⟩ = false := HO.out.frz 7 rfl 6
  have k7_7_163 : x159.cell? ⟨bz, 7, none⟩ = some (.bool false) := HO.out.cell 7 rfl 7 rfl
  have lk7_7_163 : x159.frozen? ⟨bz, 7, none⟩ = false := HO.out.frz 7 rfl 7
  have k7_8_164 : x159.cell? ⟨bz, 8, none⟩ = some (.int .i64 0) := HO.out.cell 7 rfl 8 rfl
  have lk7_8_164 : x159.frozen? ⟨bz, 8, none⟩ = false := HO.out.frz 7 rfl 8
  obtain ⟨x165, hx165⟩ : ∃ y, x159.setCell ⟨bz, 4, none⟩ (.int .i64 5000) = y := ⟨_, rfl⟩
  have hO := HO.out.setCell 7 rfl 4 (.int .i64 5000)
  rw [hx165] at hO
  replace HO := Lib.hid (show Own w none0 x165 [rowRl (.slice none 0 0) [], resF f ⟨[], [], 1⟩, blkR bx (.cells #[.int .i64 6, .int .i64 1, .int .i64 5000, .int .i64 2, .int .i64 80, .bool false, .bool false, .bool false, .int .i64 0] 39), blkR bw (.cells #[.int .i64 6, .int .i64 1, .int .i64 5000, .int .i64 2, .int .i64 81, .bool false, .bool false, .bool false, .int .i64 0] 39), rowRl (.slice (some ⟨bb, 0, none⟩) 1 1) [⟨false, 0, 0, 0, 1, 0, false⟩], rowRl (.slice (some ⟨bg, 0, none⟩) 1 1) [rx], resF p ⟨[rx], [], 0⟩, blkR bz (.cells #[.int .i64 6, .int .i64 1, .int .i64 80, .int .i64 2, .int .i64 5000, .bool false, .bool false, .bool false, .int .i64 0] 39)] from hO)
  clear hO
  have k7_5_166 : x165.cell? ⟨bz, 5, none⟩ = some (.bool false) := HO.out.cell 7 rfl 5 rfl
  have lk7_5_166 : x165.frozen? ⟨bz, 5, none⟩ = false := HO.out.frz 7 rfl 5
  have k7_6_167 : x165.cell? ⟨bz, 6, none⟩ = some (.bool false) := HO.out.cell 7 rfl 6 rfl
  have lk7_6_167 : x165.frozen? ⟨bz, 6, none⟩ = false := HO.out.frz 7 rfl 6
  have k7_7_168 : x165.cell? ⟨bz, 7, none⟩ = some (.bool false) := HO.out.cell 7 rfl 7 rfl
  have lk7_7_168 : x165.frozen? ⟨bz, 7, none⟩ = false := HO.out.frz 7 rfl 7
  have k7_8_169 : x165.cell? ⟨bz, 8, none⟩ = some (.int .i64 0) := HO.out.cell 7 rfl 8 rfl
  have lk7_8_169 : x165.frozen? ⟨bz, 8, none⟩ = false := HO.out.frz 7 rfl 8
  obtain ⟨x170, hx170⟩ : ∃ y, x165.setCell ⟨bz, 5, none⟩ (.bool false) = y := ⟨_, rfl⟩
  have hO := HO.out.setCell 7 rfl 5 (.bool false)
  rw [hx170] at hO
  replace HO := Lib.hid (show Own w none0 x170 [rowRl (.slice none 0 0) [], resF f ⟨[], [], 1⟩, blkR bx (.cells #[.int .i64 6, .int .i64 1, .int .i64 5000, .int .i64 2, .int .i64 80, .bool false, .bool false, .bool false, .int .i64 0] 39), blkR bw (.cells #[.int .i64 6, .int .i64 1, .int .i64 5000, .int .i64 2, .int .i64 81, .bool false, .bool false, .bool false, .int .i64 0] 39), rowRl (.slice (some ⟨bb, 0, none⟩) 1 1) [⟨false, 0, 0, 0, 1, 0, false⟩], rowRl (.slice (some ⟨bg, 0, none⟩) 1 1) [rx], resF p ⟨[rx], [], 0⟩, blkR bz (.cells #[.int .i64 6, .int .i64 1, .int .i64 80, .int .i64 2, .int .i64 5000, .bool false, .bool false, .bool false, .int .i64 0] 39)] from hO)
  clear hO
  have k7_6_171 : x170.cell? ⟨bz, 6, none⟩ = some (.bool false) := HO.out.cell 7 rfl 6 rfl
  have lk7_6_171 : x170.frozen? ⟨bz, 6, none⟩ = false := HO.out.frz 7 rfl 6
  have k7_7_172 : x170.cell? ⟨bz, 7, none⟩ = some (.bool false) := HO.out.cell 7 rfl 7 rfl
  have lk7_7_172 : x170.frozen? ⟨bz, 7, none⟩ = false := HO.out.frz 7 rfl 7
  have k7_8_173 : x170.cell? ⟨bz, 8, none⟩ = some (.int .i64 0) := HO.out.cell 7 rfl 8 rfl
  have lk7_8_173 : x170.frozen? ⟨bz, 8, none⟩ = false := HO.out.frz 7 rfl 8
  obtain ⟨x174, hx174⟩ : ∃ y, x170.setCell ⟨bz, 6, none⟩ (.bool false) = y := ⟨_, rfl⟩
  have hO := HO.out.setCell 7 rfl 6 (.bool false)
  rw [hx174] at hO
  replace HO := Lib.hid (show Own w none0 x174 [rowRl (.slice none 0 0) [], resF f ⟨[], [], 1⟩, blkR bx (.cells #[.int .i64 6, .int .i64 1, .int .i64 5000, .int .i64 2, .int .i64 80, .bool false, .bool false, .bool false, .int .i64 0] 39), blkR bw (.cells #[.int .i64 6, .int .i64 1, .int .i64 5000, .int .i64 2, .int .i64 81, .bool false, .bool false, .bool false, .int .i64 0] 39), rowRl (.slice (some ⟨bb, 0, none⟩) 1 1) [⟨false, 0, 0, 0, 1, 0, false⟩], rowRl (.slice (some ⟨bg, 0, none⟩) 1 1) [rx], resF p ⟨[rx], [], 0⟩, blkR bz (.cells #[.int .i64 6, .int .i64 1, .int .i64 80, .int .i64 2, .int .i64 5000, .bool false, .bool false, .bool false, .int .i64 0] 39)] from hO)
  clear hO
  have k7_7_175 : x174.cell? ⟨bz, 7, none⟩ = some (.bool false) := HO.out.cell 7 rfl 7 rfl
  have lk7_7_175 : x174.frozen? ⟨bz, 7, none⟩ = false := HO.out.frz 7 rfl 7
  have k7_8_176 : x174.cell? ⟨bz, 8, none⟩ = some (.int .i64 0) := HO.out.cell 7 rfl 8 rfl
  have lk7_8_176 : x174.frozen? ⟨bz, 8, none⟩ = false := HO.out.frz 7 rfl 8
  obtain ⟨x177, hx177⟩ : ∃ y, x174.setCell ⟨bz, 7, none⟩ (.bool false) = y := ⟨_, rfl⟩
  have hO := HO.out.setCell 7 rfl 7 (.bool false)
  rw [hx177] at hO
  replace HO := Lib.hid (show Own w none0 x177 [rowRl (.slice none 0 0) [], resF f ⟨[], [], 1⟩, blkR bx (.cells #[.int .i64 6, .int .i64 1, .int .i64 5000, .int .i64 2, .int .i64 80, .bool false, .bool false, .bool false, .int .i64 0] 39), blkR bw (.cells #[.int .i64 6, .int .i64 1, .int .i64 5000, .int .i64 2, .int .i64 81, .bool false, .bool false, .bool false, .int .i64 0] 39), rowRl (.slice (some ⟨bb, 0, none⟩) 1 1) [⟨false, 0, 0, 0, 1, 0, false⟩], rowRl (.slice (some ⟨bg, 0, none⟩) 1 1) [rx], resF p ⟨[rx], [], 0⟩, blkR bz (.cells #[.int .i64 6, .int .i64 1, .int .i64 80, .int .i64 2, .int .i64 5000, .bool false, .bool false, .bool false, .int .i64 0] 39)] from hO)
  clear hO
  have k7_8_178 : x177.cell? ⟨bz, 8, none⟩ = some (.int .i64 0) := HO.out.cell 7 rfl 8 rfl
  have lk7_8_178 : x177.frozen? ⟨bz, 8, none⟩ = false := HO.out.frz 7 rfl 8
  obtain ⟨x179, hx179⟩ : ∃ y, x177.setCell ⟨bz, 8, none⟩ (.int .i64 0) = y := ⟨_, rfl⟩
  have hO := HO.out.setCell 7 rfl 8 (.int .i64 0)
  rw [hx179] at hO
  replace HO := Lib.hid (show Own w none0 x179 [rowRl (.slice none 0 0) [], resF f ⟨[], [], 1⟩, blkR bx (.cells #[.int .i64 6, .int .i64 1, .int .i64 5000, .int .i64 2, .int .i64 80, .bool false, .bool false, .bool false, .int .i64 0] 39), blkR bw (.cells #[.int .i64 6, .int .i64 1, .int .i64 5000, .int .i64 2, .int .i64 81, .bool false, .bool false, .bool false, .int .i64 0] 39), rowRl (.slice (some ⟨bb, 0, none⟩) 1 1) [⟨false, 0, 0, 0, 1, 0, false⟩], rowRl (.slice (some ⟨bg, 0, none⟩) 1 1) [rx], resF p ⟨[rx], [], 0⟩, blkR bz (.cells #[.int .i64 6, .int .i64 1, .int .i64 80, .int .i64 2, .int .i64 5000, .bool false, .bool false, .bool false, .int .i64 0] 39)] from hO)
  clear hO
  have z7_0 : x179.cell? ⟨bz, 0, none⟩ = some (.int .i64 6) := HO.out.cell 7 rfl 0 rfl
  have z7_1 : x179.cell? ⟨bz, 1, none⟩ = some (.int .i64 1) := HO.out.cell 7 rfl 1 rfl
  have z7_2 : x179.cell? ⟨bz, 2, none⟩ = some (.int .i64 80) := HO.out.cell 7 rfl 2 rfl
  have z7_3 : x179.cell? ⟨bz, 3, none⟩ = some (.int .i64 2) := HO.out.cell 7 rfl 3 rfl
  have z7_4 : x179.cell? ⟨bz, 4, none⟩ = some (.int .i64 5000) := HO.out.cell 7 rfl 4 rfl
  have z7_5 : x179.cell? ⟨bz, 5, none⟩ = some (.bool false) := HO.out.cell 7 rfl 5 rfl
  have z7_6 : x179.cell? ⟨bz, 6, none⟩ = some (.bool false) := HO.out.cell 7 rfl 6 rfl
  have z7_7 : x179.cell? ⟨bz, 7, none⟩ = some (.bool false) := HO.out.cell 7 rfl 7 rfl
  have z7_8 : x179.cell? ⟨bz, 8, none⟩ = some (.int .i64 0) := HO.out.cell 7 rfl 8 rfl
  go_wp2_with fail
  refine (in_f (T := 1000) (N := 1000) (x := ⟨6, 1, 80, 2, 5000, false, false, false, 0⟩) (b := true) (st' := ⟨[rx], [(kz, ⟨0, 1⟩)], 1⟩) HO.out 6 rfl (by kernel_rfl) (by kernel_rfl) (by decide) (by decide) (by unfold timeB; omega)).mono ?_
  rintro e x180 ⟨rfl, hO, -⟩
  replace HO := Lib.hid (show Own w none0 x180 [rowRl (.slice none 0 0) [], resF f ⟨[], [], 1⟩, blkR bx (.cells #[.int .i64 6, .int .i64 1, .int .i64 5000, .int .i64 2, .int .i64 80, .bool false, .bool false, .bool false, .int .i64 0] 39), blkR bw (.cells #[.int .i64 6, .int .i64 1, .int .i64 5000, .int .i64 2, .int .i64 81, .bool false, .bool false, .bool false, .int .i64 0] 39), rowRl (.slice (some ⟨bb, 0, none⟩) 1 1) [⟨false, 0, 0, 0, 1, 0, false⟩], rowRl (.slice (some ⟨bg, 0, none⟩) 1 1) [rx], resF p ⟨[rx], [(kz, ⟨0, 1⟩)], 1⟩, blkR bz (.cells #[.int .i64 6, .int .i64 1, .int .i64 80, .int .i64 2, .int .i64 5000, .bool false, .bool false, .bool false, .int .i64 0] 39)] from hO)
  clear hO
  clear hx125 hbz k7_0_126 lk7_0_126 k7_1_127 lk7_1_127 k7_2_128 lk7_2_128 k7_3_129 lk7_3_129 k7_4_130 lk7_4_130 k7_5_131 lk7_5_131 k7_6_132 lk7_6_132 k7_7_133 lk7_7_133 k7_8_134 lk7_8_134 hx135 k7_1_136 lk7_1_136 k7_2_137 lk7_2_137 k7_3_138 lk7_3_138 k7_4_139 lk7_4_139 k7_5_140 lk7_5_140 k7_6_141 lk7_6_141 k7_7_142 lk7_7_142 k7_8_143 lk7_8_143 hx144 k7_2_145 lk7_2_145 k7_3_146 lk7_3_146 k7_4_147 lk7_4_147 k7_5_148 lk7_5_148 k7_6_149 lk7_6_149 k7_7_150 lk7_7_150 k7_8_151 lk7_8_151 hx152 k7_3_153 lk7_3_153 k7_4_154 lk7_4_154 k7_5_155 lk7_5_155 k7_6_156 lk7_6_156 k7_7_157 lk7_7_157 k7_8_158 lk7_8_158 hx159 k7_4_160 lk7_4_160 k7_5_161 lk7_5_161 k7_6_162 lk7_6_162 k7_7_163 lk7_7_163 k7_8_164 lk7_8_164 hx165 k7_5_166 lk7_5_166 k7_6_167 lk7_6_167 k7_7_168 lk7_7_168 k7_8_169 lk7_8_169 hx170 k7_6_171 lk7_6_171 k7_7_172 lk7_7_172 k7_8_173 lk7_8_173 hx174 k7_7_175 lk7_7_175 k7_8_176 lk7_8_176 hx177 k7_8_178 lk7_8_178 hx179 z7_0 z7_1 z7_2 z7_3 z7_4 z7_5 z7_6 z7_7 z7_8
  have z2_0 : x180.cell? ⟨bx, 0, none⟩ = some (.int .i64 6) := HO.out.cell 2 rfl 0 rfl
  have z2_1 : x180.cell? ⟨bx, 1, none⟩ = some (.int .i64 1) := HO.out.cell 2 rfl 1 rfl
  have z2_2 : x180.cell? ⟨bx, 2, none⟩ = some (.int .i64 5000) := HO.out.cell 2 rfl 2 rfl
  have z2_3 : x180.cell? ⟨bx, 3, none⟩ = some (.int .i64 2) := HO.out.cell 2 rfl 3 rfl
  have z2_4 : x180.cell? ⟨bx, 4, none⟩ = some (.int .i64 80) := HO.out.cell 2 rfl 4 rfl
  have z2_5 : x180.cell? ⟨bx, 5, none⟩ = some (.bool false) := HO.out.cell 2 rfl 5 rfl
  have z2_6 : x180.cell? ⟨bx, 6, none⟩ = some (.bool false) := HO.out.cell 2 rfl 6 rfl
  have z2_7 : x180.cell? ⟨bx, 7, none⟩ = some (.bool false) := HO.out.cell 2 rfl 7 rfl
  have z2_8 : x180.cell? ⟨bx, 8, none⟩ = some (.int .i64 0) := HO.out.cell 2 rfl 8 rfl
  go_wp2_with fail
  refine (in_f (T := 1000) (N := 1000) (x := ⟨6, 1, 5000, 2, 80, false, false, false, 0⟩) (b := false) (st' := ⟨[rx], [(kz, ⟨0, 1⟩)], 1⟩) HO.out 6 rfl (by kernel_rfl) (by kernel_rfl) (by decide) (by decide) (by unfold timeB; omega)).mono ?_
  rintro e x181 ⟨rfl, hO, -⟩
  replace HO := Lib.hid (show Own w none0 x181 [rowRl (.slice none 0 0) [], resF f ⟨[], [], 1⟩, blkR bx (.cells #[.int .i64 6, .int .i64 1, .int .i64 5000, .int .i64 2, .int .i64 80, .bool false, .bool false, .bool false, .int .i64 0] 39), blkR bw (.cells #[.int .i64 6, .int .i64 1, .int .i64 5000, .int .i64 2, .int .i64 81, .bool false, .bool false, .bool false, .int .i64 0] 39), rowRl (.slice (some ⟨bb, 0, none⟩) 1 1) [⟨false, 0, 0, 0, 1, 0, false⟩], rowRl (.slice (some ⟨bg, 0, none⟩) 1 1) [rx], resF p ⟨[rx], [(kz, ⟨0, 1⟩)], 1⟩, blkR bz (.cells #[.int .i64 6, .int .i64 1, .int .i64 80, .int .i64 2, .int .i64 5000, .bool false, .bool false, .bool false, .int .i64 0] 39)] from hO)
  clear hO
  clear z2_0 z2_1 z2_2 z2_3 z2_4 z2_5 z2_6 z2_7 z2_8
  have z7_0 : x181.cell? ⟨bz, 0, none⟩ = some (.int .i64 6) := HO.out.cell 7 rfl 0 rfl
  have z7_1 : x181.cell? ⟨bz, 1, none⟩ = some (.int .i64 1) := HO.out.cell 7 rfl 1 rfl
  have z7_2 : x181.cell? ⟨bz, 2, none⟩ = some (.int .i64 80) := HO.out.cell 7 rfl 2 rfl
  have z7_3 : x181.cell? ⟨bz, 3, none⟩ = some (.int .i64 2) := HO.out.cell 7 rfl 3 rfl
  have z7_4 : x181.cell? ⟨bz, 4, none⟩ = some (.int .i64 5000) := HO.out.cell 7 rfl 4 rfl
  have z7_5 : x181.cell? ⟨bz, 5, none⟩ = some (.bool false) := HO.out.cell 7 rfl 5 rfl
  have z7_6 : x181.cell? ⟨bz, 6, none⟩ = some (.bool false) := HO.out.cell 7 rfl 6 rfl
  have z7_7 : x181.cell? ⟨bz, 7, none⟩ = some (.bool false) := HO.out.cell 7 rfl 7 rfl
  have z7_8 : x181.cell? ⟨bz, 8, none⟩ = some (.int .i64 0) := HO.out.cell 7 rfl 8 rfl
  go_wp2_with fail
  refine (out_f (T := 1000) (N := 1000) (x := ⟨6, 1, 80, 2, 5000, false, false, false, 0⟩) (b := true) (st' := ⟨[rx], [(kz, ⟨1, 1⟩)], 1⟩) HO.out 6 rfl (by kernel_rfl) (by kernel_rfl) (by decide) (by decide) (by unfold timeB; omega)).mono ?_
  rintro e x182 ⟨rfl, hO, -⟩
  replace HO := Lib.hid (show Own w none0 x182 [rowRl (.slice none 0 0) [], resF f ⟨[], [], 1⟩, blkR bx (.cells #[.int .i64 6, .int .i64 1, .int .i64 5000, .int .i64 2, .int .i64 80, .bool false, .bool false, .bool false, .int .i64 0] 39), blkR bw (.cells #[.int .i64 6, .int .i64 1, .int .i64 5000, .int .i64 2, .int .i64 81, .bool false, .bool false, .bool false, .int .i64 0] 39), rowRl (.slice (some ⟨bb, 0, none⟩) 1 1) [⟨false, 0, 0, 0, 1, 0, false⟩], rowRl (.slice (some ⟨bg, 0, none⟩) 1 1) [rx], resF p ⟨[rx], [(kz, ⟨1, 1⟩)], 1⟩, blkR bz (.cells #[.int .i64 6, .int .i64 1, .int .i64 80, .int .i64 2, .int .i64 5000, .bool false, .bool false, .bool false, .int .i64 0] 39)] from hO)
  clear hO
  clear z7_0 z7_1 z7_2 z7_3 z7_4 z7_5 z7_6 z7_7 z7_8
  have z2_0 : x182.cell? ⟨bx, 0, none⟩ = some (.int .i64 6) := HO.out.cell 2 rfl 0 rfl
  have z2_1 : x182.cell? ⟨bx, 1, none⟩ = some (.int .i64 1) := HO.out.cell 2 rfl 1 rfl
  have z2_2 : x182.cell? ⟨bx, 2, none⟩ = some (.int .i64 5000) := HO.out.cell 2 rfl 2 rfl
  have z2_3 : x182.cell? ⟨bx, 3, none⟩ = some (.int .i64 2) := HO.out.cell 2 rfl 3 rfl
  have z2_4 : x182.cell? ⟨bx, 4, none⟩ = some (.int .i64 80) := HO.out.cell 2 rfl 4 rfl
  have z2_5 : x182.cell? ⟨bx, 5, none⟩ = some (.bool false) := HO.out.cell 2 rfl 5 rfl
  have z2_6 : x182.cell? ⟨bx, 6, none⟩ = some (.bool false) := HO.out.cell 2 rfl 6 rfl
  have z2_7 : x182.cell? ⟨bx, 7, none⟩ = some (.bool false) := HO.out.cell 2 rfl 7 rfl
  have z2_8 : x182.cell? ⟨bx, 8, none⟩ = some (.int .i64 0) := HO.out.cell 2 rfl 8 rfl
  go_wp2_with fail
  refine (o_still HO.out (in_nil 0 ⟨6, 1, 5000, 2, 80, false, false, false, 0⟩ _)).mono ?_
  rintro e x183 ⟨rfl, hO, -⟩
  replace HO := Lib.hid (show Own w none0 x183 [rowRl (.slice none 0 0) [], resF f ⟨[], [], 1⟩, blkR bx (.cells #[.int .i64 6, .int .i64 1, .int .i64 5000, .int .i64 2, .int .i64 80, .bool false, .bool false, .bool false, .int .i64 0] 39), blkR bw (.cells #[.int .i64 6, .int .i64 1, .int .i64 5000, .int .i64 2, .int .i64 81, .bool false, .bool false, .bool false, .int .i64 0] 39), rowRl (.slice (some ⟨bb, 0, none⟩) 1 1) [⟨false, 0, 0, 0, 1, 0, false⟩], rowRl (.slice (some ⟨bg, 0, none⟩) 1 1) [rx], resF p ⟨[rx], [(kz, ⟨1, 1⟩)], 1⟩, blkR bz (.cells #[.int .i64 6, .int .i64 1, .int .i64 80, .int .i64 2, .int .i64 5000, .bool false, .bool false, .bool false, .int .i64 0] 39)] from hO)
  clear hO
  clear z2_0 z2_1 z2_2 z2_3 z2_4 z2_5 z2_6 z2_7 z2_8
  have z2_0 : x183.cell? ⟨bx, 0, none⟩ = some (.int .i64 6) := HO.out.cell 2 rfl 0 rfl
  have z2_1 : x183.cell? ⟨bx, 1, none⟩ = some (.int .i64 1) := HO.out.cell 2 rfl 1 rfl
  have z2_2 : x183.cell? ⟨bx, 2, none⟩ = some (.int .i64 5000) := HO.out.cell 2 rfl 2 rfl
  have z2_3 : x183.cell? ⟨bx, 3, none⟩ = some (.int .i64 2) := HO.out.cell 2 rfl 3 rfl
  have z2_4 : x183.cell? ⟨bx, 4, none⟩ = some (.int .i64 80) := HO.out.cell 2 rfl 4 rfl
  have z2_5 : x183.cell? ⟨bx, 5, none⟩ = some (.bool false) := HO.out.cell 2 rfl 5 rfl
  have z2_6 : x183.cell? ⟨bx, 6, none⟩ = some (.bool false) := HO.out.cell 2 rfl 6 rfl
  have z2_7 : x183.cell? ⟨bx, 7, none⟩ = some (.bool false) := HO.out.cell 2 rfl 7 rfl
  have z2_8 : x183.cell? ⟨bx, 8, none⟩ = some (.int .i64 0) := HO.out.cell 2 rfl 8 rfl
  go_wp2_with fail
  refine (o_still HO.out (out_nil 0 ⟨6, 1, 5000, 2, 80, false, false, false, 0⟩ _)).mono ?_
  rintro e x184 ⟨rfl, hO, -⟩
  replace HO := Lib.hid (show Own w none0 x184 [rowRl (.slice none 0 0) [], resF f ⟨[], [], 1⟩, blkR bx (.cells #[.int .i64 6, .int .i64 1, .int .i64 5000, .int .i64 2, .int .i64 80, .bool false, .bool false, .bool false, .int .i64 0] 39), blkR bw (.cells #[.int .i64 6, .int .i64 1, .int .i64 5000, .int .i64 2, .int .i64 81, .bool false, .bool false, .bool false, .int .i64 0] 39), rowRl (.slice (some ⟨bb, 0, none⟩) 1 1) [⟨false, 0, 0, 0, 1, 0, false⟩], rowRl (.slice (some ⟨bg, 0, none⟩) 1 1) [rx], resF p ⟨[rx], [(kz, ⟨1, 1⟩)], 1⟩, blkR bz (.cells #[.int .i64 6, .int .i64 1, .int .i64 80, .int .i64 2, .int .i64 5000, .bool false, .bool false, .bool false, .int .i64 0] 39)] from hO)
  clear hO
  clear z2_0 z2_1 z2_2 z2_3 z2_4 z2_5 z2_6 z2_7 z2_8
  have z2_0 : x184.cell? ⟨bx, 0, none⟩ = some (.int .i64 6) := HO.out.cell 2 rfl 0 rfl
  have z2_1 : x184.cell? ⟨bx, 1, none⟩ = some (.int .i64 1) := HO.out.cell 2 rfl 1 rfl
  have z2_2 : x184.cell? ⟨bx, 2, none⟩ = some (.int .i64 5000) := HO.out.cell 2 rfl 2 rfl
  have z2_3 : x184.cell? ⟨bx, 3, none⟩ = some (.int .i64 2) := HO.out.cell 2 rfl 3 rfl
  have z2_4 : x184.cell? ⟨bx, 4, none⟩ = some (.int .i64 80) := HO.out.cell 2 rfl 4 rfl
  have z2_5 : x184.cell? ⟨bx, 5, none⟩ = some (.bool false) := HO.out.cell 2 rfl 5 rfl
  have z2_6 : x184.cell? ⟨bx, 6, none⟩ = some (.bool false) := HO.out.cell 2 rfl 6 rfl
  have z2_7 : x184.cell? ⟨bx, 7, none⟩ = some (.bool false) := HO.out.cell 2 rfl 7 rfl
  have z2_8 : x184.cell? ⟨bx, 8, none⟩ = some (.int .i64 0) := HO.out.cell 2 rfl 8 rfl
  go_wp2_with fail
  refine (o_still HO.out (quoted_nil 0 ⟨6, 1, 5000, 2, 80, false, false, false, 0⟩ _)).mono ?_
  rintro e x185 ⟨rfl, hO, -⟩
  replace HO := Lib.hid (show Own w none0 x185 [rowRl (.slice none 0 0) [], resF f ⟨[], [], 1⟩, blkR bx (.cells #[.int .i64 6, .int .i64 1, .int .i64 5000, .int .i64 2, .int .i64 80, .bool false, .bool false, .bool false, .int .i64 0] 39), blkR bw (.cells #[.int .i64 6, .int .i64 1, .int .i64 5000, .int .i64 2, .int .i64 81, .bool false, .bool false, .bool false, .int .i64 0] 39), rowRl (.slice (some ⟨bb, 0, none⟩) 1 1) [⟨false, 0, 0, 0, 1, 0, false⟩], rowRl (.slice (some ⟨bg, 0, none⟩) 1 1) [rx], resF p ⟨[rx], [(kz, ⟨1, 1⟩)], 1⟩, blkR bz (.cells #[.int .i64 6, .int .i64 1, .int .i64 80, .int .i64 2, .int .i64 5000, .bool false, .bool false, .bool false, .int .i64 0] 39)] from hO)
  clear hO
  clear z2_0 z2_1 z2_2 z2_3 z2_4 z2_5 z2_6 z2_7 z2_8
  go_wp2_with fail
  refine (o_still HO.out (flen_nil _)).mono ?_
  rintro e x186 ⟨rfl, hO, -⟩
  replace HO := Lib.hid (show Own w none0 x186 [rowRl (.slice none 0 0) [], resF f ⟨[], [], 1⟩, blkR bx (.cells #[.int .i64 6, .int .i64 1, .int .i64 5000, .int .i64 2, .int .i64 80, .bool false, .bool false, .bool false, .int .i64 0] 39), blkR bw (.cells #[.int .i64 6, .int .i64 1, .int .i64 5000, .int .i64 2, .int .i64 81, .bool false, .bool false, .bool false, .int .i64 0] 39), rowRl (.slice (some ⟨bb, 0, none⟩) 1 1) [⟨false, 0, 0, 0, 1, 0, false⟩], rowRl (.slice (some ⟨bg, 0, none⟩) 1 1) [rx], resF p ⟨[rx], [(kz, ⟨1, 1⟩)], 1⟩, blkR bz (.cells #[.int .i64 6, .int .i64 1, .int .i64 80, .int .i64 2, .int .i64 5000, .bool false, .bool false, .bool false, .int .i64 0] 39)] from hO)
  clear hO
  go_wp2
  go_ret
  exact ⟨rfl, HO.out.below⟩

end Go.Proofs.YtbolfkojebbejaaGreatDoor

namespace Go.Proofs.YtbolfkojebbejaaGreatDoor
open Go.RowKit
set_option linter.unusedVariables false
set_option maxRecDepth 100000

def didF (st : FSt) (how now : Int) (x : Fl) : Bool × FSt :=
  if pk how 5 < 2 then passF st now x false else if pk how 5 < 4 then passF st now x true else (quoF now x st.m, ⟨st.rl, expF now st.m, st.ins⟩)
theorem didR_f {st st' : FSt} {how now : Int} {x : Fl} {r : Bool} (h : DidR st how now x r st') (hl : st.m.length < 32) : didF st how now x = (r, st') := by
  unfold didF
  rcases h with ⟨h1, hp⟩ | ⟨h1, h2, hp⟩ | ⟨h1, rfl, rfl⟩
  · obtain ⟨e1, e2⟩ := passR_f hp hl
    rw [if_pos h1, e1, e2]
  · obtain ⟨e1, e2⟩ := passR_f hp hl
    rw [if_neg (by omega), if_pos h2, e1, e2]
  · rw [if_neg (by omega), if_neg (by omega)]
section
variable {w0 w : World} {D : Nat → Prop} {L : List Res} {f : Nat} {st st' : FSt}
theorem did_f {T N how now : Int} {x : Fl} {r : Bool} (h : Own w0 D w L) (i : Nat) (hi : L[i]? = some (resF f st)) (hF : didF st how now x = (r, st')) (hW : FW T N st) (hl : st.m.length < 32) (hT : T ≤ 1000000000) (hN : N ≤ 1000000000) (hnow : timeB now) (hh : i64B how) :
    Calls Tryz.prog 17 #[.pointer (some ⟨f, 0, none⟩), .int .i64 how, .int .i64 now, flV x] w (OPost w0 D (L.set i (resF f st')) (.int .i64 (i01 r)) w) := by
  refine (did_o h i hi hW hT hN hnow hh).mono ?_
  rintro e w' ⟨⟨r2, st2⟩, v, ⟨hP, rfl⟩, rfl, hO, hs⟩
  have := didR_f hP hl
  rw [hF] at this
  cases this
  exact ⟨rfl, hO, hs⟩
end
end Go.Proofs.YtbolfkojebbejaaGreatDoor

namespace Go.Proofs.YtbolfkojebbejaaGreatDoor
open Go.RowKit
set_option linter.unusedVariables false
set_option maxRecDepth 100000

/-- The port of query i (from 0). -/
def dnPt (sd : Int) (i : Nat) : Int := 20000 + (sd + 101 * ((i : Int) + 1)) % 10000
/-- Its server. -/
def dnSv (i : Nat) : Int := 5 + (i : Int) % 3
def dnKy (sd : Int) (i : Nat) : FK := ⟨17, 9, dnPt sd i, dnSv i, 53⟩
def dnM (sd : Int) (k : Nat) : List (FK × Us) := (List.range k).map fun i => (dnKy sd i, ⟨10 * (i : Int) + 1, (i : Int) + 1⟩)
def dnF (sd : Int) (k : Nat) : FSt := ⟨[], dnM sd k, k⟩
def dnG (sd : Int) (k : Nat) : FSt := ⟨[], dnM sd k ++ [(dnKy sd k, ⟨10 * (k : Int), (k : Int) + 1⟩)], (k : Int) + 1⟩
def dnX (p s t : Int) : Fl := ⟨17, 9, p, s, t, false, false, false, 0⟩
section
variable {sd : Int} {k : Nat}
theorem dnPt_bd (sd : Int) (i : Nat) : 20000 ≤ dnPt sd i ∧ dnPt sd i ≤ 29999 := by
  unfold dnPt; omega
theorem dnPt_inj {i j : Nat} (hi : i < 20) (hj : j < 20) (h : dnPt sd i = dnPt sd j) : i = j := by
  unfold dnPt at h; omega
theorem dnSv_bd (i : Nat) : 5 ≤ dnSv i ∧ dnSv i ≤ 7 := by unfold dnSv; omega
theorem dnM_succ : dnM sd (k + 1) = dnM sd k ++ [(dnKy sd k, ⟨10 * (k : Int) + 1, (k : Int) + 1⟩)] := by simp [dnM, List.range_succ]
theorem dnM_len : (dnM sd k).length = k := by simp [dnM]
theorem dnM_mem {x : FK × Us} (h : x ∈ dnM sd k) : ∃ i : Nat, i < k ∧ x = (dnKy sd i, ⟨10 * (i : Int) + 1, (i : Int) + 1⟩) := by
  obtain ⟨i, hi, rfl⟩ := List.mem_map.1 h
  exact ⟨i, List.mem_range.1 hi, rfl⟩
theorem dnX_valid {p s t : Int} (hp : 1 ≤ p ∧ p ≤ 65535) (hs : 1 ≤ s ∧ s ≤ 65536) (ht : 1 ≤ t ∧ t ≤ 65535) : validF (dnX p s t) = true := by
  show (decide ((0:Int) ≤ 17 ∧ (17:Int) ≤ 255) && hostB 9 && hostB s && portB p && portB t) = true
  have h9 : hostB 9 = true := by decide
  have h8 : hostB s = true := by
    simp only [hostB, validB, Bool.and_eq_true, Bool.not_eq_true', beq_eq_false_iff_ne, decide_eq_true_eq]
    omega
  rw [h9, h8]
  simp [portB]; omega
theorem dn_none {k : FK} : ∀ {m : List (FK × Us)}, (∀ x ∈ m, x.1 ≠ k) → getU k m = none
  | [], _ => rfl
  | x :: m, h => by
    simp only [getU]
    rw [if_neg (fun e => h x List.mem_cons_self e.symm), dn_none (fun y hy => h y (List.mem_cons_of_mem _ hy))]
theorem dn_set {k : FK} {u : Us} : ∀ {m : List (FK × Us)}, (∀ x ∈ m, x.1 ≠ k) → setU k u m = m ++ [(k, u)]
  | [], _ => rfl
  | x :: m, h => by
    simp only [setU]
    rw [if_neg (fun e => h x List.mem_cons_self e.symm), dn_set (fun y hy => h y (List.mem_cons_of_mem _ hy))]; rfl
theorem dn_get2 {k : FK} {u : Us} : ∀ {m : List (FK × Us)}, (∀ x ∈ m, x.1 ≠ k) → getU k (m ++ [(k, u)]) = some u
  | [], _ => by simp [getU]
  | x :: m, h => by
    rw [List.cons_append]
    simp only [getU]
    rw [if_neg (fun e => h x List.mem_cons_self e.symm), dn_get2 (fun y hy => h y (List.mem_cons_of_mem _ hy))]
theorem dn_set2 {k : FK} {u v : Us} : ∀ {m : List (FK × Us)}, (∀ x ∈ m, x.1 ≠ k) → setU k u (m ++ [(k, v)]) = m ++ [(k, u)]
  | [], _ => by simp [setU]
  | x :: m, h => by
    rw [List.cons_append]
    simp only [setU]
    rw [if_neg (fun e => h x List.mem_cons_self e.symm), dn_set2 (fun y hy => h y (List.mem_cons_of_mem _ hy))]; rfl
theorem dn_exp {now : Int} {m : List (FK × Us)} (h : ∀ x ∈ m, now ≤ x.2.la + 400) : expF now m = m := by
  unfold expF
  rw [List.filter_eq_self]
  intro x hx
  have := h x hx
  simp [oldU]; omega
theorem dn_no (hk : k ≤ 12) : ∀ x ∈ dnM sd k, x.1 ≠ dnKy sd k := fun x hx e => by
  obtain ⟨i, hi, rfl⟩ := dnM_mem hx
  simp only [dnKy, FK.mk.injEq] at e
  have := dnPt_inj (by omega) (by omega) e.2.2.1
  omega
theorem dn_exp1 {now : Int} (h : now ≤ 400) : expF now (dnM sd k) = dnM sd k := dn_exp fun x hx => by
  obtain ⟨i, hi, rfl⟩ := dnM_mem hx
  simp only; omega
theorem dn_exp2 {now : Int} (h : now ≤ 400) : expF now (dnG sd k).m = (dnG sd k).m := dn_exp fun x hx => by
  rcases List.mem_append.1 hx with hx | hx
  · obtain ⟨i, hi, rfl⟩ := dnM_mem hx
    simp only; omega
  · rw [List.mem_singleton.1 hx]; simp only; omega
theorem dn_didI {st : FSt} {now : Int} {x : Fl} : didF st 2 now x = passF st now x true := by
  unfold didF; rw [if_neg (by decide), if_pos (by decide)]
theorem dn_didO {st : FSt} {now : Int} {x : Fl} : didF st 0 now x = passF st now x false := by
  unfold didF; rw [if_pos (by decide)]
theorem dn_refuse {st : FSt} {now : Int} {x : Fl} (hr : st.rl = []) (hv : validF x = true) (he : expF now st.m = st.m) (hn : ∀ y ∈ st.m, y.1 ≠ keyF x) : didF st 2 now x = (false, st) := by
  obtain ⟨rl, m, ins⟩ := st
  simp only at hr he hn
  subst hr
  rw [dn_didI]
  unfold passF
  rw [hv, if_pos rfl, he, dn_none hn]
  simp [admitF]
theorem dn_early (hk : k ≤ 12) : didF (dnF sd k) 2 (10 * (k : Int)) (dnX (dnPt sd k) (dnSv k) 53) = (false, dnF sd k) := by
  have h1 := dnPt_bd sd k
  have h2 := dnSv_bd k
  exact dn_refuse rfl (dnX_valid (by omega) (by omega) (by decide)) (dn_exp1 (by omega)) (dn_no hk)
theorem dn_went (hk : k ≤ 12) : didF (dnF sd k) 0 (10 * (k : Int)) (dnX (dnPt sd k) (dnSv k) 53) = (true, dnG sd k) := by
  have h1 := dnPt_bd sd k
  have h2 := dnSv_bd k
  have hv := dnX_valid (p := dnPt sd k) (s := dnSv k) (t := 53) (by omega) (by omega) (by decide)
  have hg : getU (keyF (dnX (dnPt sd k) (dnSv k) 53)) (expF (10 * (k : Int)) (dnF sd k).m) = none := by
    show getU _ (expF _ (dnM sd k)) = none
    rw [dn_exp1 (by omega)]; exact dn_none (dn_no hk)
  rw [dn_didO]
  unfold passF
  rw [hv, if_pos rfl, hg]
  show (if admitF [] _ false then (if false then _ else (true, (⟨[], setU (dnKy sd k) ⟨10 * (k : Int), (k : Int) + 1⟩ (expF _ (dnM sd k)), (k : Int) + 1⟩ : FSt))) else _) = _
  rw [dn_exp1 (by omega), dn_set (dn_no hk)]
  simp [admitF, dnG]
theorem dn_came (hk : k ≤ 12) : didF (dnG sd k) 2 (10 * (k : Int) + 1) (dnX (dnPt sd k) (dnSv k) 53) = (true, dnF sd (k + 1)) := by
  have h1 := dnPt_bd sd k
  have h2 := dnSv_bd k
  have hv := dnX_valid (p := dnPt sd k) (s := dnSv k) (t := 53) (by omega) (by omega) (by decide)
  have hg : getU (keyF (dnX (dnPt sd k) (dnSv k) 53)) (expF (10 * (k : Int) + 1) (dnG sd k).m) = some ⟨10 * (k : Int), (k : Int) + 1⟩ := by
    rw [dn_exp2 (by omega)]; exact dn_get2 (dn_no hk)
  rw [dn_didI]
  unfold passF
  rw [hv, if_pos rfl, hg]
  simp only
  rw [dn_exp2 (by omega)]
  show (true, (⟨[], setU (dnKy sd k) ⟨10 * (k : Int) + 1, (k : Int) + 1⟩ (dnM sd k ++ [(dnKy sd k, ⟨10 * (k : Int), (k : Int) + 1⟩)]), (k : Int) + 1⟩ : FSt)) = _
  rw [dn_set2 (dn_no hk)]
  unfold dnF
  rw [dnM_succ, Int.natCast_add]
  rfl
theorem dn_wrong (hk : k ≤ 11) {s : Int} (hs : 5 ≤ s ∧ s ≤ 7) (hne : s ≠ dnSv k) : didF (dnF sd (k + 1)) 2 (10 * (k : Int) + 1) (dnX (dnPt sd k) s 53) = (false, dnF sd (k + 1)) := by
  have h1 := dnPt_bd sd k
  refine dn_refuse rfl (dnX_valid (by omega) (by omega) (by decide)) (dn_exp1 (by omega)) fun x hx e => ?_
  obtain ⟨i, hi, rfl⟩ := dnM_mem hx
  simp only [dnKy, keyF, dnX, FK.mk.injEq] at e
  have := dnPt_inj (by omega) (by omega) e.2.2.1
  subst this
  exact hne e.2.2.2.1.symm
theorem dn_last (hk : k ≤ 11) : didF (dnF sd (k + 1)) 2 (10 * (k : Int) + 1) (dnX (dnPt sd k) (dnSv k) 54) = (false, dnF sd (k + 1)) := by
  have h1 := dnPt_bd sd k
  have h2 := dnSv_bd k
  refine dn_refuse rfl (dnX_valid (by omega) (by omega) (by decide)) (dn_exp1 (by omega)) fun x hx e => ?_
  obtain ⟨i, hi, rfl⟩ := dnM_mem hx
  simp only [dnKy, keyF, dnX, FK.mk.injEq] at e
  have := e.2.2.2.2
  omega
theorem dnK_nd (hk : k ≤ 13) : ((dnM sd k).map (·.1)).Nodup := by
  unfold dnM
  rw [List.map_map]
  rw [List.nodup_iff_pairwise_ne, List.pairwise_map]
  refine List.Pairwise.imp_of_mem (fun {i j} hi hj hij => ?_) (List.nodup_range (n := k))
  intro e
  simp only [Function.comp, dnKy, FK.mk.injEq] at e
  have h1 := List.mem_range.1 hi
  have h2 := List.mem_range.1 hj
  exact hij (dnPt_inj (by omega) (by omega) e.2.2.1)
theorem dnF_fw (hk : k ≤ 13) : FW 1000 20 (dnF sd k) ∧ (dnF sd k).m.length < 32 := by
  refine ⟨⟨dnK_nd hk, fun x hx => ?_, by simp [dnF]; omega, by simp [dnF], fun x hx => ?_, by show (dnM sd k).length ≤ 32; rw [dnM_len]; omega⟩, by show (dnM sd k).length < 32; rw [dnM_len]; omega⟩
  · obtain ⟨i, hi, rfl⟩ := dnM_mem hx
    simp only; omega
  · obtain ⟨i, hi, rfl⟩ := dnM_mem hx
    simp [dnKy]
theorem dnG_fw (hk : k ≤ 12) : FW 1000 20 (dnG sd k) ∧ (dnG sd k).m.length < 32 := by
  have hl : (dnG sd k).m.length = k + 1 := by simp [dnG, dnM_len]
  refine ⟨⟨?_, fun x hx => ?_, by simp only [dnG]; omega, by simp [dnG], fun x hx => ?_, by omega⟩, by omega⟩
  · show ((dnM sd k ++ [(dnKy sd k, (⟨10 * (k : Int), (k : Int) + 1⟩ : Us))]).map (fun x => x.1)).Nodup
    have := dnK_nd (sd := sd) (k := k + 1) (by omega)
    rw [dnM_succ] at this
    simpa using this
  · rcases List.mem_append.1 hx with hx | hx
    · obtain ⟨i, hi, rfl⟩ := dnM_mem hx
      simp only; omega
    · rw [List.mem_singleton.1 hx]; simp only; omega
  · rcases List.mem_append.1 hx with hx | hx
    · obtain ⟨i, hi, rfl⟩ := dnM_mem hx
      simp [dnKy]
    · rw [List.mem_singleton.1 hx]; simp [dnKy]
end

end Go.Proofs.YtbolfkojebbejaaGreatDoor
