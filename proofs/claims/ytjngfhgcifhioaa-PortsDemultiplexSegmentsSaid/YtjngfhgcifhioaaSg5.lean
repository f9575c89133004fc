/- segment.Decode, of the encoding of a segment without flags and blocks. Printed by wip/tools/gen23F.py. -/
import Derived.Test.YtjngfhgcifhioaaSg4
namespace Go.Proofs.Ytjngfhgcifhioaa
open Go.RowKit Go.Sort
set_option linter.unusedVariables false
set_option maxRecDepth 100000
attribute [local go_sem] Oper.semAt_some

set_option maxRecDepth 100000 in
set_option maxHeartbeats 4000000 in
theorem sdecode_r (fr to fp tp q : Int) (d : ByteArray) (w : World) (f0 : 0 ≤ fr) (f1 : fr ≤ 4294967295) (t0 : 0 ≤ to) (t1 : to ≤ 4294967295) (p0 : 1 ≤ fp) (p1 : fp ≤ 65535) (p2 : 1 ≤ tp) (p3 : tp ≤ 65535) (q0 : 0 ≤ q) (q1 : q ≤ 4294967295) (hd : d.size ≤ 1024) :
    Calls Try.prog 17 #[.int .i64 fr, .int .i64 to, .string (encSg fr to fp tp q d)] w fun e w' => e = .returned (.tuple #[.agg (sgC fp tp q d), .int .i64 0]) ∧ Below w.heap.size w w' := by
  have HO := Lib.hid (Own.nil w none0)
  have HA1 := Lib.hid (fun w => adrv_r fr w f0 f1)
  have HA2 := Lib.hid (fun w => adrv_r to w t0 t1)
  have hr := ckF_range (encSx fr to fp tp q d)
  have HR := Lib.hid (fun w => sread_r fp tp q _ d (encSg fr to fp tp q d) w p0 p1 p2 p3 q0 q1 hr.1 hr.2 hd rfl)
  have HE := Lib.hid (fun w => sencode_r fr to fp tp q d w f0 f1 t0 t1 p0 p1 p2 p3 q0 q1 hd)
  generalize encSg fr to fp tp q d = s at *
  unfold sgC at *
  clear hr f0 f1 t0 t1 p0 p1 p2 p3 q0 q1 hd
  obtain ⟨x1, hx1⟩ : ∃ y, w.alloc (.cells #[.int .i64 0, .int .i64 0, .int .i64 0, .int .i64 0, .bool false, .bool false, .bool false, .bool false, .int .i64 0, .int .i64 0, .bool false, .slice none 0 0, .string ⟨#[]⟩] 51) = y := ⟨_, rfl⟩
  obtain ⟨br, hbr⟩ : ∃ y, w.heap.size = y := ⟨_, rfl⟩
  have hO := HO.out.alloc (.cells #[.int .i64 0, .int .i64 0, .int .i64 0, .int .i64 0, .bool false, .bool false, .bool false, .bool false, .int .i64 0, .int .i64 0, .bool false, .slice none 0 0, .string ⟨#[]⟩] 51)
  rw [hx1, hbr] at hO
  replace HO := Lib.hid (show Own w none0 x1 [blkR br (.cells #[.int .i64 0, .int .i64 0, .int .i64 0, .int .i64 0, .bool false, .bool false, .bool false, .bool false, .int .i64 0, .int .i64 0, .bool false, .slice none 0 0, .string ⟨#[]⟩] 51)] from hO)
  clear hO
  go_enter Try.func17, Try.ntmps17
  go_wp2_with fail
  refine (HA1.out _).mono ?_
  rintro e xp ⟨rfl, rfl⟩
  go_wp2_with fail
  refine (HA2.out _).mono ?_
  rintro e xp ⟨rfl, rfl⟩
  go_wp2_with fail
  refine (o_still HO.out (HR.out _)).mono ?_
  rintro e x2 ⟨rfl, hO, -⟩
  replace HO := Lib.hid (show Own w none0 x2 [blkR br (.cells #[.int .i64 0, .int .i64 0, .int .i64 0, .int .i64 0, .bool false, .bool false, .bool false, .bool false, .int .i64 0, .int .i64 0, .bool false, .slice none 0 0, .string ⟨#[]⟩] 51)] from hO)
  clear hO
  clear hx1 hbr
  obtain ⟨x3, hx3⟩ : ∃ y, x2.alloc (.cells #[.int .i64 0, .int .i64 0, .int .i64 0, .int .i64 0, .bool false, .bool false, .bool false, .bool false, .int .i64 0, .int .i64 0, .bool false, .slice none 0 0, .string ⟨#[]⟩] 51) = y := ⟨_, rfl⟩
  obtain ⟨bs, hbs⟩ : ∃ y, x2.heap.size = y := ⟨_, rfl⟩
  have hO := HO.out.alloc (.cells #[.int .i64 0, .int .i64 0, .int .i64 0, .int .i64 0, .bool false, .bool false, .bool false, .bool false, .int .i64 0, .int .i64 0, .bool false, .slice none 0 0, .string ⟨#[]⟩] 51)
  rw [hx3, hbs] at hO
  replace HO := Lib.hid (show Own w none0 x3 [blkR br (.cells #[.int .i64 0, .int .i64 0, .int .i64 0, .int .i64 0, .bool false, .bool false, .bool false, .bool false, .int .i64 0, .int .i64 0, .bool false, .slice none 0 0, .string ⟨#[]⟩] 51), blkR bs (.cells #[.int .i64 0, .int .i64 0, .int .i64 0, .int .i64 0, .bool false, .bool false, .bool false, .bool false, .int .i64 0, .int .i64 0, .bool false, .slice none 0 0, .string ⟨#[]⟩] 51)] from hO)
  clear hO
  have k1_0_4 : x3.cell? ⟨bs, 0, none⟩ = some (.int .i64 0) := HO.out.cell 1 rfl 0 rfl
  have lk1_0_4 : x3.frozen? ⟨bs, 0, none⟩ = false := HO.out.frz 1 rfl 0
  have k1_1_5 : x3.cell? ⟨bs, 1, none⟩ = some (.int .i64 0) := HO.out.cell 1 rfl 1 rfl
  have lk1_1_5 : x3.frozen? ⟨bs, 1, none⟩ = false := HO.out.frz 1 rfl 1
  have k1_2_6 : x3.cell? ⟨bs, 2, none⟩ = some (.int .i64 0) := HO.out.cell 1 rfl 2 rfl
  have lk1_2_6 : x3.frozen? ⟨bs, 2, none⟩ = false := HO.out.frz 1 rfl 2
  have k1_3_7 : x3.cell? ⟨bs, 3, none⟩ = some (.int .i64 0) := HO.out.cell 1 rfl 3 rfl
  have lk1_3_7 : x3.frozen? ⟨bs, 3, none⟩ = false := HO.out.frz 1 rfl 3
  have k1_4_8 : x3.cell? ⟨bs, 4, none⟩ = some (.bool false) := HO.out.cell 1 rfl 4 rfl
  have lk1_4_8 : x3.frozen? ⟨bs, 4, none⟩ = false := HO.out.frz 1 rfl 4
  have k1_5_9 : x3.cell? ⟨bs, 5, none⟩ = some (.bool false) := HO.out.cell 1 rfl 5 rfl
  have lk1_5_9 : x3.frozen? ⟨bs, 5, none⟩ = false := HO.out.frz 1 rfl 5
  have k1_6_10 : x3.cell? ⟨bs, 6, none⟩ = some (.bool false) := HO.out.cell 1 rfl 6 rfl
  have lk1_6_10 : x3.frozen? ⟨bs, 6, none⟩ = false := HO.out.frz 1 rfl 6
  have k1_7_11 : x3.cell? ⟨bs, 7, none⟩ = some (.bool false) := HO.out.cell 1 rfl 7 rfl
  have lk1_7_11 : x3.frozen? ⟨bs, 7, none⟩ = false := HO.out.frz 1 rfl 7
  have k1_8_12 : x3.cell? ⟨bs, 8, none⟩ = some (.int .i64 0) := HO.out.cell 1 rfl 8 rfl
  have lk1_8_12 : x3.frozen? ⟨bs, 8, none⟩ = false := HO.out.frz 1 rfl 8
  have k1_9_13 : x3.cell? ⟨bs, 9, none⟩ = some (.int .i64 0) := HO.out.cell 1 rfl 9 rfl
  have lk1_9_13 : x3.frozen? ⟨bs, 9, none⟩ = false := HO.out.frz 1 rfl 9
  have k1_10_14 : x3.cell? ⟨bs, 10, none⟩ = some (.bool false) := HO.out.cell 1 rfl 10 rfl
  have lk1_10_14 : x3.frozen? ⟨bs, 10, none⟩ = false := HO.out.frz 1 rfl 10
  have k1_11_15 : x3.cell? ⟨bs, 11, none⟩ = some (.slice none 0 0) := HO.out.cell 1 rfl 11 rfl
  have lk1_11_15 : x3.frozen? ⟨bs, 11, none⟩ = false := HO.out.frz 1 rfl 11
  have k1_12_16 : x3.cell? ⟨bs, 12, none⟩ = some (.string ⟨#[]⟩) := HO.out.cell 1 rfl 12 rfl
  have lk1_12_16 : x3.frozen? ⟨bs, 12, none⟩ = false := HO.out.frz 1 rfl 12
  obtain ⟨x17, hx17⟩ : ∃ y, x3.setCell ⟨bs, 0, none⟩ (.int .i64 fp) = y := ⟨_, rfl⟩
  have hO := HO.out.setCell 1 rfl 0 (.int .i64 fp)
  rw [hx17] at hO
  replace HO := Lib.hid (show Own w none0 x17 [blkR br (.cells #[.int .i64 0, .int .i64 0, .int .i64 0, .int .i64 0, .bool false, .bool false, .bool false, .bool false, .int .i64 0, .int .i64 0, .bool false, .slice none 0 0, .string ⟨#[]⟩] 51), blkR bs (.cells #[.int .i64 fp, .int .i64 0, .int .i64 0, .int .i64 0, .bool false, .bool false, .bool false, .bool false, .int .i64 0, .int .i64 0, .bool false, .slice none 0 0, .string ⟨#[]⟩] 51)] from hO)
  clear hO
  have k1_1_18 : x17.cell? ⟨bs, 1, none⟩ = some (.int .i64 0) := HO.out.cell 1 rfl 1 rfl
  have lk1_1_18 : x17.frozen? ⟨bs, 1, none⟩ = false := HO.out.frz 1 rfl 1
  have k1_2_19 : x17.cell? ⟨bs, 2, none⟩ = some (.int .i64 0) := HO.out.cell 1 rfl 2 rfl
  have lk1_2_19 : x17.frozen? ⟨bs, 2, none⟩ = false := HO.out.frz 1 rfl 2
  have k1_3_20 : x17.cell? ⟨bs, 3, none⟩ = some (.int .i64 0) := HO.out.cell 1 rfl 3 rfl
  have lk1_3_20 : x17.frozen? ⟨bs, 3, none⟩ = false := HO.out.frz 1 rfl 3
  have k1_4_21 : x17.cell? ⟨bs, 4, none⟩ = some (.bool false) := HO.out.cell 1 rfl 4 rfl
  have lk1_4_21 : x17.frozen? ⟨bs, 4, none⟩ = false := HO.out.frz 1 rfl 4
  have k1_5_22 : x17.cell? ⟨bs, 5, none⟩ = some (.bool false) := HO.out.cell 1 rfl 5 rfl
  have lk1_5_22 : x17.frozen? ⟨bs, 5, none⟩ = false := HO.out.frz 1 rfl 5
  have k1_6_23 : x17.cell? ⟨bs, 6, none⟩ = some (.bool false) := HO.out.cell 1 rfl 6 rfl
  have lk1_6_23 : x17.frozen? ⟨bs, 6, none⟩ = false := HO.out.frz 1 rfl 6
  have k1_7_24 : x17.cell? ⟨bs, 7, none⟩ = some (.bool false) := HO.out.cell 1 rfl 7 rfl
  have lk1_7_24 : x17.frozen? ⟨bs, 7, none⟩ = false := HO.out.frz 1 rfl 7
  have k1_8_25 : x17.cell? ⟨bs, 8, none⟩ = some (.int .i64 0) := HO.out.cell 1 rfl 8 rfl
  have lk1_8_25 : x17.frozen? ⟨bs, 8, none⟩ = false := HO.out.frz 1 rfl 8
  have k1_9_26 : x17.cell? ⟨bs, 9, none⟩ = some (.int .i64 0) := HO.out.cell 1 rfl 9 rfl
  have lk1_9_26 : x17.frozen? ⟨bs, 9, none⟩ = false := HO.out.frz 1 rfl 9
  have k1_10_27 : x17.cell? ⟨bs, 10, none⟩ = some (.bool false) := HO.out.cell 1 rfl 10 rfl
  have lk1_10_27 : x17.frozen? ⟨bs, 10, none⟩ = false := HO.out.frz 1 rfl 10
  have k1_11_28 : x17.cell? ⟨bs, 11, none⟩ = some (.slice none 0 0) := HO.out.cell 1 rfl 11 rfl
  have lk1_11_28 : x17.frozen? ⟨bs, 11, none⟩ = false := HO.out.frz 1 rfl 11
  have k1_12_29 : x17.cell? ⟨bs, 12, none⟩ = some (.string ⟨#[]⟩) := HO.out.cell 1 rfl 12 rfl
  have lk1_12_29 : x17.frozen? ⟨bs, 12, none⟩ = false := HO.out.frz 1 rfl 12
  obtain ⟨x30, hx30⟩ : ∃ y, x17.setCell ⟨bs, 1, none⟩ (.int .i64 tp) = y := ⟨_, rfl⟩
  have hO := HO.out.setCell 1 rfl 1 (.int .i64 tp)
  rw [hx30] at hO
  replace HO := Lib.hid (show Own w none0 x30 [blkR br (.cells #[.int .i64 0, .int .i64 0, .int .i64 0, .int .i64 0, .bool false, .bool false, .bool false, .bool false, .int .i64 0, .int .i64 0, .bool false, .slice none 0 0, .string ⟨#[]⟩] 51), blkR bs (.cells #[.int .i64 fp, .int .i64 tp, .int .i64 0, .int .i64 0, .bool false, .bool false, .bool false, .bool false, .int .i64 0, .int .i64 0, .bool false, .slice none 0 0, .string ⟨#[]⟩] 51)] from hO)
  clear hO
  have k1_2_31 : x30.cell? ⟨bs, 2, none⟩ = some (.int .i64 0) := HO.out.cell 1 rfl 2 rfl
  have lk1_2_31 : x30.frozen? ⟨bs, 2, none⟩ = false := HO.out.frz 1 rfl 2
  have k1_3_32 : x30.cell? ⟨bs, 3, none⟩ = some (.int .i64 0) := HO.out.cell 1 rfl 3 rfl
  have lk1_3_32 : x30.frozen? ⟨bs, 3, none⟩ = false := HO.out.frz 1 rfl 3
  have k1_4_33 : x30.cell? ⟨bs, 4, none⟩ = some (.bool false) := HO.out.cell 1 rfl 4 rfl
  have lk1_4_33 : x30.frozen? ⟨bs, 4, none⟩ = false := HO.out.frz 1 rfl 4
  have k1_5_34 : x30.cell? ⟨bs, 5, none⟩ = some (.bool false) := HO.out.cell 1 rfl 5 rfl
  have lk1_5_34 : x30.frozen? ⟨bs, 5, none⟩ = false := HO.out.frz 1 rfl 5
  have k1_6_35 : x30.cell? ⟨bs, 6, none⟩ = some (.bool false) := HO.out.cell 1 rfl 6 rfl
  have lk1_6_35 : x30.frozen? ⟨bs, 6, none⟩ = false := HO.out.frz 1 rfl 6
  have k1_7_36 : x30.cell? ⟨bs, 7, none⟩ = some (.bool false) := HO.out.cell 1 rfl 7 rfl
  have lk1_7_36 : x30.frozen? ⟨bs, 7, none⟩ = false := HO.out.frz 1 rfl 7
  have k1_8_37 : x30.cell? ⟨bs, 8, none⟩ = some (.int .i64 0) := HO.out.cell 1 rfl 8 rfl
  have lk1_8_37 : x30.frozen? ⟨bs, 8, none⟩ = false := HO.out.frz 1 rfl 8
  have k1_9_38 : x30.cell? ⟨bs, 9, none⟩ = some (.int .i64 0) := HO.out.cell 1 rfl 9 rfl
  have lk1_9_38 : x30.frozen? ⟨bs, 9, none⟩ = false := HO.out.frz 1 rfl 9
  have k1_10_39 : x30.cell? ⟨bs, 10, none⟩ = some (.bool false) := HO.out.cell 1 rfl 10 rfl
  have lk1_10_39 : x30.frozen? ⟨bs, 10, none⟩ = false := HO.out.frz 1 rfl 10
  have k1_11_40 : x30.cell? ⟨bs, 11, none⟩ = some (.slice none 0 0) := HO.out.cell 1 rfl 11 rfl
  have lk1_11_40 : x30.frozen? ⟨bs, 11, none⟩ = false := HO.out.frz 1 rfl 11
  have k1_12_41 : x30.cell? ⟨bs, 12, none⟩ = some (.string ⟨#[]⟩) := HO.out.cell 1 rfl 12 rfl
  have lk1_12_41 : x30.frozen? ⟨bs, 12, none⟩ = false := HO.out.frz 1 rfl 12
  obtain ⟨x42, hx42⟩ : ∃ y, x30.setCell ⟨bs, 2, none⟩ (.int .i64 q) = y := ⟨_, rfl⟩
  have hO := HO.out.setCell 1 rfl 2 (.int .i64 q)
  rw [hx42] at hO
  replace HO := Lib.hid (show Own w none0 x42 [blkR br (.cells #[.int .i64 0, .int .i64 0, .int .i64 0, .int .i64 0, .bool false, .bool false, .bool false, .bool false, .int .i64 0, .int .i64 0, .bool false, .slice none 0 0, .string ⟨#[]⟩] 51), blkR bs (.cells #[.int .i64 fp, .int .i64 tp, .int .i64 q, .int .i64 0, .bool false, .bool false, .bool false, .bool false, .int .i64 0, .int .i64 0, .bool false, .slice none 0 0, .string ⟨#[]⟩] 51)] from hO)
  clear hO
  have k1_3_43 : x42.cell? ⟨bs, 3, none⟩ = some (.int .i64 0) := HO.out.cell 1 rfl 3 rfl
  have lk1_3_43 : x42.frozen? ⟨bs, 3, none⟩ = false := HO.out.frz 1 rfl 3
  have k1_4_44 : x42.cell? ⟨bs, 4, none⟩ = some (.bool false) := HO.out.cell 1 rfl 4 rfl
  have lk1_4_44 : x42.frozen? ⟨bs, 4, none⟩ = false := HO.out.frz 1 rfl 4
  have k1_5_45 : x42.cell? ⟨bs, 5, none⟩ = some (.bool false) := HO.out.cell 1 rfl 5 rfl
  have lk1_5_45 : x42.frozen? ⟨bs, 5, none⟩ = false := HO.out.frz 1 rfl 5
  have k1_6_46 : x42.cell? ⟨bs, 6, none⟩ = some (.bool false) := HO.out.cell 1 rfl 6 rfl
  have lk1_6_46 : x42.frozen? ⟨bs, 6, none⟩ = false := HO.out.frz 1 rfl 6
  have k1_7_47 : x42.cell? ⟨bs, 7, none⟩ = some (.bool false) := HO.out.cell 1 rfl 7 rfl
  have lk1_7_47 : x42.frozen? ⟨bs, 7, none⟩ = false := HO.out.frz 1 rfl 7
  have k1_8_48 : x42.cell? ⟨bs, 8, none⟩ = some (.int .i64 0) := HO.out.cell 1 rfl 8 rfl
  have lk1_8_48 : x42.frozen? ⟨bs, 8, none⟩ = false := HO.out.frz 1 rfl 8
  have k1_9_49 : x42.cell? ⟨bs, 9, none⟩ = some (.int .i64 0) := HO.out.cell 1 rfl 9 rfl
  have lk1_9_49 : x42.frozen? ⟨bs, 9, none⟩ = false := HO.out.frz 1 rfl 9
  have k1_10_50 : x42.cell? ⟨bs, 10, none⟩ = some (.bool false) := HO.out.cell 1 rfl 10 rfl
  have lk1_10_50 : x42.frozen? ⟨bs, 10, none⟩ = false := HO.out.frz 1 rfl 10
  have k1_11_51 : x42.cell? ⟨bs, 11, none⟩ = some (.slice none 0 0) := HO.out.cell 1 rfl 11 rfl
  have lk1_11_51 : x42.frozen? ⟨bs, 11, none⟩ = false := HO.out.frz 1 rfl 11
  have k1_12_52 : x42.cell? ⟨bs, 12, none⟩ = some (.string ⟨#[]⟩) := HO.out.cell 1 rfl 12 rfl
  have lk1_12_52 : x42.frozen? ⟨bs, 12, none⟩ = false := HO.out.frz 1 rfl 12
  obtain ⟨x53, hx53⟩ : ∃ y, x42.setCell ⟨bs, 3, none⟩ (.int .i64 0) = y := ⟨_, rfl⟩
  have hO := HO.out.setCell 1 rfl 3 (.int .i64 0)
  rw [hx53] at hO
  replace HO := Lib.hid (show Own w none0 x53 [blkR br (.cells #[.int .i64 0, .int .i64 0, .int .i64 0, .int .i64 0, .bool false, .bool false, .bool false, .bool false, .int .i64 0, .int .i64 0, .bool false, .slice none 0 0, .string ⟨#[]⟩] 51), blkR bs (.cells #[.int .i64 fp, .int .i64 tp, .int .i64 q, .int .i64 0, .bool false, .bool false, .bool false, .bool false, .int .i64 0, .int .i64 0, .bool false, .slice none 0 0, .string ⟨#[]⟩] 51)] from hO)
  clear hO
  have k1_4_54 : x53.cell? ⟨bs, 4, none⟩ = some (.bool false) := HO.out.cell 1 rfl 4 rfl
  have lk1_4_54 : x53.frozen? ⟨bs, 4, none⟩ = false := HO.out.frz 1 rfl 4
  have k1_5_55 : x53.cell? ⟨bs, 5, none⟩ = some (.bool false) := HO.out.cell 1 rfl 5 rfl
  have lk1_5_55 : x53.frozen? ⟨bs, 5, none⟩ = false := HO.out.frz 1 rfl 5
  have k1_6_56 : x53.cell? ⟨bs, 6, none⟩ = some (.bool false) := HO.out.cell 1 rfl 6 rfl
  have lk1_6_56 : x53.frozen? ⟨bs, 6, none⟩ = false := HO.out.frz 1 rfl 6
  have k1_7_57 : x53.cell? ⟨bs, 7, none⟩ = some (.bool false) := HO.out.cell 1 rfl 7 rfl
  have lk1_7_57 : x53.frozen? ⟨bs, 7, none⟩ = false := HO.out.frz 1 rfl 7
  have k1_8_58 : x53.cell? ⟨bs, 8, none⟩ = some (.int .i64 0) := HO.out.cell 1 rfl 8 rfl
  have lk1_8_58 : x53.frozen? ⟨bs, 8, none⟩ = false := HO.out.frz 1 rfl 8
  have k1_9_59 : x53.cell? ⟨bs, 9, none⟩ = some (.int .i64 0) := HO.out.cell 1 rfl 9 rfl
  have lk1_9_59 : x53.frozen? ⟨bs, 9, none⟩ = false := HO.out.frz 1 rfl 9
  have k1_10_60 : x53.cell? ⟨bs, 10, none⟩ = some (.bool false) := HO.out.cell 1 rfl 10 rfl
  have lk1_10_60 : x53.frozen? ⟨bs, 10, none⟩ = false := HO.out.frz 1 rfl 10
  have k1_11_61 : x53.cell? ⟨bs, 11, none⟩ = some (.slice none 0 0) := HO.out.cell 1 rfl 11 rfl
  have lk1_11_61 : x53.frozen? ⟨bs, 11, none⟩ = false := HO.out.frz 1 rfl 11
  have k1_12_62 : x53.cell? ⟨bs, 12, none⟩ = some (.string ⟨#[]⟩) := HO.out.cell 1 rfl 12 rfl
  have lk1_12_62 : x53.frozen? ⟨bs, 12, none⟩ = false := HO.out.frz 1 rfl 12
  obtain ⟨x63, hx63⟩ : ∃ y, x53.setCell ⟨bs, 4, none⟩ (.bool false) = y := ⟨_, rfl⟩
  have hO := HO.out.setCell 1 rfl 4 (.bool false)
  rw [hx63] at hO
  replace HO := Lib.hid (show Own w none0 x63 [blkR br (.cells #[.int .i64 0, .int .i64 0, .int .i64 0, .int .i64 0, .bool false, .bool false, .bool false, .bool false, .int .i64 0, .int .i64 0, .bool false, .slice none 0 0, .string ⟨#[]⟩] 51), blkR bs (.cells #[.int .i64 fp, .int .i64 tp, .int .i64 q, .int .i64 0, .bool false, .bool false, .bool false, .bool false, .int .i64 0, .int .i64 0, .bool false, .slice none 0 0, .string ⟨#[]⟩] 51)] from hO)
  clear hO
  have k1_5_64 : x63.cell? ⟨bs, 5, none⟩ = some (.bool false) := HO.out.cell 1 rfl 5 rfl
  have lk1_5_64 : x63.frozen? ⟨bs, 5, none⟩ = false := HO.out.frz 1 rfl 5
  have k1_6_65 : x63.cell? ⟨bs, 6, none⟩ = some (.bool false) := HO.out.cell 1 rfl 6 rfl
  have lk1_6_65 : x63.frozen? ⟨bs, 6, none⟩ = false := HO.out.frz 1 rfl 6
  have k1_7_66 : x63.cell? ⟨bs, 7, none⟩ = some (.bool false) := HO.out.cell 1 rfl 7 rfl
  have lk1_7_66 : x63.frozen? ⟨bs, 7, none⟩ = false := HO.out.frz 1 rfl 7
  have k1_8_67 : x63.cell? ⟨bs, 8, none⟩ = some (.int .i64 0) := HO.out.cell 1 rfl 8 rfl
  have lk1_8_67 : x63.frozen? ⟨bs, 8, none⟩ = false := HO.out.frz 1 rfl 8
  have k1_9_68 : x63.cell? ⟨bs, 9, none⟩ = some (.int .i64 0) := HO.out.cell 1 rfl 9 rfl
  have lk1_9_68 : x63.frozen? ⟨bs, 9, none⟩ = false := HO.out.frz 1 rfl 9
  have k1_10_69 : x63.cell? ⟨bs, 10, none⟩ = some (.bool false) := HO.out.cell 1 rfl 10 rfl
  have lk1_10_69 : x63.frozen? ⟨bs, 10, none⟩ = false := HO.out.frz 1 rfl 10
  have k1_11_70 : x63.cell? ⟨bs, 11, none⟩ = some (.slice none 0 0) := HO.out.cell 1 rfl 11 rfl
  have lk1_11_70 : x63.frozen? ⟨bs, 11, none⟩ = false := HO.out.frz 1 rfl 11
  have k1_12_71 : x63.cell? ⟨bs, 12, none⟩ = some (.string ⟨#[]⟩) := HO.out.cell 1 rfl 12 rfl
  have lk1_12_71 : x63.frozen? ⟨bs, 12, none⟩ = false := HO.out.frz 1 rfl 12
  obtain ⟨x72, hx72⟩ : ∃ y, x63.setCell ⟨bs, 5, none⟩ (.bool false) = y := ⟨_, rfl⟩
  have hO := HO.out.setCell 1 rfl 5 (.bool false)
  rw [hx72] at hO
  replace HO := Lib.hid (show Own w none0 x72 [blkR br (.cells #[.int .i64 0, .int .i64 0, .int .i64 0, .int .i64 0, .bool false, .bool false, .bool false, .bool false, .int .i64 0, .int .i64 0, .bool false, .slice none 0 0, .string ⟨#[]⟩] 51), blkR bs (.cells #[.int .i64 fp, .int .i64 tp, .int .i64 q, .int .i64 0, .bool false, .bool false, .bool false, .bool false, .int .i64 0, .int .i64 0, .bool false, .slice none 0 0, .string ⟨#[]⟩] 51)] from hO)
  clear hO
  have k1_6_73 : x72.cell? ⟨bs, 6, none⟩ = some (.bool false) := HO.out.cell 1 rfl 6 rfl
  have lk1_6_73 : x72.frozen? ⟨bs, 6, none⟩ = false := HO.out.frz 1 rfl 6
  have k1_7_74 : x72.cell? ⟨bs, 7, none⟩ = some (.bool false) := HO.out.cell 1 rfl 7 rfl
  have lk1_7_74 : x72.frozen? ⟨bs, 7, none⟩ = false := HO.out.frz 1 rfl 7
  have k1_8_75 : x72.cell? ⟨bs, 8, none⟩ = some (.int .i64 0) := HO.out.cell 1 rfl 8 rfl
  have lk1_8_75 : x72.frozen? ⟨bs, 8, none⟩ = false := HO.out.frz 1 rfl 8
  have k1_9_76 : x72.cell? ⟨bs, 9, none⟩ = some (.int .i64 0) := HO.out.cell 1 rfl 9 rfl
  have lk1_9_76 : x72.frozen? ⟨bs, 9, none⟩ = false := HO.out.frz 1 rfl 9
  have k1_10_77 : x72.cell? ⟨bs, 10, none⟩ = some (.bool false) := HO.out.cell 1 rfl 10 rfl
  have lk1_10_77 : x72.frozen? ⟨bs, 10, none⟩ = false := HO.out.frz 1 rfl 10
  have k1_11_78 : x72.cell? ⟨bs, 11, none⟩ = some (.slice none 0 0) := HO.out.cell 1 rfl 11 rfl
  have lk1_11_78 : x72.frozen? ⟨bs, 11, none⟩ = false := HO.out.frz 1 rfl 11
  have k1_12_79 : x72.cell? ⟨bs, 12, none⟩ = some (.string ⟨#[]⟩) := HO.out.cell 1 rfl 12 rfl
  have lk1_12_79 : x72.frozen? ⟨bs, 12, none⟩ = false := HO.out.frz 1 rfl 12
  obtain ⟨x80, hx80⟩ : ∃ y, x72.setCell ⟨bs, 6, none⟩ (.bool false) = y := ⟨_, rfl⟩
  have hO := HO.out.setCell 1 rfl 6 (.bool false)
  rw [hx80] at hO
  replace HO := Lib.hid (show Own w none0 x80 [blkR br (.cells #[.int .i64 0, .int .i64 0, .int .i64 0, .int .i64 0, .bool false, .bool false, .bool false, .bool false, .int .i64 0, .int .i64 0, .bool false, .slice none 0 0, .string ⟨#[]⟩] 51), blkR bs (.cells #[.int .i64 fp, .int .i64 tp, .int .i64 q, .int .i64 0, .bool false, .bool false, .bool false, .bool false, .int .i64 0, .int .i64 0, .bool false, .slice none 0 0, .string ⟨#[]⟩] 51)] from hO)
  clear hO
  have k1_7_81 : x80.cell? ⟨bs, 7, none⟩ = some (.bool false) := HO.out.cell 1 rfl 7 rfl
  have lk1_7_81 : x80.frozen? ⟨bs, 7, none⟩ = false := HO.out.frz 1 rfl 7
  have k1_8_82 : x80.cell? ⟨bs, 8, none⟩ = some (.int .i64 0) := HO.out.cell 1 rfl 8 rfl
  have lk1_8_82 : x80.frozen? ⟨bs, 8, none⟩ = false := HO.out.frz 1 rfl 8
  have k1_9_83 : x80.cell? ⟨bs, 9, none⟩ = some (.int .i64 0) := HO.out.cell 1 rfl 9 rfl
  have lk1_9_83 : x80.frozen? ⟨bs, 9, none⟩ = false := HO.out.frz 1 rfl 9
  have k1_10_84 : x80.cell? ⟨bs, 10, none⟩ = some (.bool false) := HO.out.cell 1 rfl 10 rfl
  have lk1_10_84 : x80.frozen? ⟨bs, 10, none⟩ = false := HO.out.frz 1 rfl 10
  have k1_11_85 : x80.cell? ⟨bs, 11, none⟩ = some (.slice none 0 0) := HO.out.cell 1 rfl 11 rfl
  have lk1_11_85 : x80.frozen? ⟨bs, 11, none⟩ = false := HO.out.frz 1 rfl 11
  have k1_12_86 : x80.cell? ⟨bs, 12, none⟩ = some (.string ⟨#[]⟩) := HO.out.cell 1 rfl 12 rfl
  have lk1_12_86 : x80.frozen? ⟨bs, 12, none⟩ = false := HO.out.frz 1 rfl 12
  obtain ⟨x87, hx87⟩ : ∃ y, x80.setCell ⟨bs, 7, none⟩ (.bool false) = y := ⟨_, rfl⟩
  have hO := HO.out.setCell 1 rfl 7 (.bool false)
  rw [hx87] at hO
  replace HO := Lib.hid (show Own w none0 x87 [blkR br (.cells #[.int .i64 0, .int .i64 0, .int .i64 0, .int .i64 0, .bool false, .bool false, .bool false, .bool false, .int .i64 0, .int .i64 0, .bool false, .slice none 0 0, .string ⟨#[]⟩] 51), blkR bs (.cells #[.int .i64 fp, .int .i64 tp, .int .i64 q, .int .i64 0, .bool false, .bool false, .bool false, .bool false, .int .i64 0, .int .i64 0, .bool false, .slice none 0 0, .string ⟨#[]⟩] 51)] from hO)
  clear hO
  have k1_8_88 : x87.cell? ⟨bs, 8, none⟩ = some (.int .i64 0) := HO.out.cell 1 rfl 8 rfl
  have lk1_8_88 : x87.frozen? ⟨bs, 8, none⟩ = false := HO.out.frz 1 rfl 8
  have k1_9_89 : x87.cell? ⟨bs, 9, none⟩ = some (.int .i64 0) := HO.out.cell 1 rfl 9 rfl
  have lk1_9_89 : x87.frozen? ⟨bs, 9, none⟩ = false := HO.out.frz 1 rfl 9
  have k1_10_90 : x87.cell? ⟨bs, 10, none⟩ = some (.bool false) := HO.out.cell 1 rfl 10 rfl
  have lk1_10_90 : x87.frozen? ⟨bs, 10, none⟩ = false := HO.out.frz 1 rfl 10
  have k1_11_91 : x87.cell? ⟨bs, 11, none⟩ = some (.slice none 0 0) := HO.out.cell 1 rfl 11 rfl
  have lk1_11_91 : x87.frozen? ⟨bs, 11, none⟩ = false := HO.out.frz 1 rfl 11
  have k1_12_92 : x87.cell? ⟨bs, 12, none⟩ = some (.string ⟨#[]⟩) := HO.out.cell 1 rfl 12 rfl
  have lk1_12_92 : x87.frozen? ⟨bs, 12, none⟩ = false := HO.out.frz 1 rfl 12
  obtain ⟨x93, hx93⟩ : ∃ y, x87.setCell ⟨bs, 8, none⟩ (.int .i64 0) = y := ⟨_, rfl⟩
  have hO := HO.out.setCell 1 rfl 8 (.int .i64 0)
  rw [hx93] at hO
  replace HO := Lib.hid (show Own w none0 x93 [blkR br (.cells #[.int .i64 0, .int .i64 0, .int .i64 0, .int .i64 0, .bool false, .bool false, .bool false, .bool false, .int .i64 0, .int .i64 0, .bool false, .slice none 0 0, .string ⟨#[]⟩] 51), blkR bs (.cells #[.int .i64 fp, .int .i64 tp, .int .i64 q, .int .i64 0, .bool false, .bool false, .bool false, .bool false, .int .i64 0, .int .i64 0, .bool false, .slice none 0 0, .string ⟨#[]⟩] 51)] from hO)
  clear hO
  have k1_9_94 : x93.cell? ⟨bs, 9, none⟩ = some (.int .i64 0) := HO.out.cell 1 rfl 9 rfl
  have lk1_9_94 : x93.frozen? ⟨bs, 9, none⟩ = false := HO.out.frz 1 rfl 9
  have k1_10_95 : x93.cell? ⟨bs, 10, none⟩ = some (.bool false) := HO.out.cell 1 rfl 10 rfl
  have lk1_10_95 : x93.frozen? ⟨bs, 10, none⟩ = false := HO.out.frz 1 rfl 10
  have k1_11_96 : x93.cell? ⟨bs, 11, none⟩ = some (.slice none 0 0) := HO.out.cell 1 rfl 11 rfl
  have lk1_11_96 : x93.frozen? ⟨bs, 11, none⟩ = false := HO.out.frz 1 rfl 11
  have k1_12_97 : x93.cell? ⟨bs, 12, none⟩ = some (.string ⟨#[]⟩) := HO.out.cell 1 rfl 12 rfl
  have lk1_12_97 : x93.frozen? ⟨bs, 12, none⟩ = false := HO.out.frz 1 rfl 12
  obtain ⟨x98, hx98⟩ : ∃ y, x93.setCell ⟨bs, 9, none⟩ (.int .i64 0) = y := ⟨_, rfl⟩
  have hO := HO.out.setCell 1 rfl 9 (.int .i64 0)
  rw [hx98] at hO
  replace HO := Lib.hid (show Own w none0 x98 [blkR br (.cells #[.int .i64 0, .int .i64 0, .int .i64 0, .int .i64 0, .bool false, .bool false, .bool false, .bool false, .int .i64 0, .int .i64 0, .bool false, .slice none 0 0, .string ⟨#[]⟩] 51), blkR bs (.cells #[.int .i64 fp, .int .i64 tp, .int .i64 q, .int .i64 0, .bool false, .bool false, .bool false, .bool false, .int .i64 0, .int .i64 0, .bool false, .slice none 0 0, .string ⟨#[]⟩] 51)] from hO)
  clear hO
  have k1_10_99 : x98.cell? ⟨bs, 10, none⟩ = some (.bool false) := HO.out.cell 1 rfl 10 rfl
  have lk1_10_99 : x98.frozen? ⟨bs, 10, none⟩ = false := HO.out.frz 1 rfl 10
  have k1_11_100 : x98.cell? ⟨bs, 11, none⟩ = some (.slice none 0 0) := HO.out.cell 1 rfl 11 rfl
  have lk1_11_100 : x98.frozen? ⟨bs, 11, none⟩ = false := HO.out.frz 1 rfl 11
  have k1_12_101 : x98.cell? ⟨bs, 12, none⟩ = some (.string ⟨#[]⟩) := HO.out.cell 1 rfl 12 rfl
  have lk1_12_101 : x98.frozen? ⟨bs, 12, none⟩ = false := HO.out.frz 1 rfl 12
  obtain ⟨x102, hx102⟩ : ∃ y, x98.setCell ⟨bs, 10, none⟩ (.bool false) = y := ⟨_, rfl⟩
  have hO := HO.out.setCell 1 rfl 10 (.bool false)
  rw [hx102] at hO
  replace HO := Lib.hid (show Own w none0 x102 [blkR br (.cells #[.int .i64 0, .int .i64 0, .int .i64 0, .int .i64 0, .bool false, .bool false, .bool false, .bool false, .int .i64 0, .int .i64 0, .bool false, .slice none 0 0, .string ⟨#[]⟩] 51), blkR bs (.cells #[.int .i64 fp, .int .i64 tp, .int .i64 q, .int .i64 0, .bool false, .bool false, .bool false, .bool false, .int .i64 0, .int .i64 0, .bool false, .slice none 0 0, .string ⟨#[]⟩] 51)] from hO)
  clear hO
  have k1_11_103 : x102.cell? ⟨bs, 11, none⟩ = some (.slice none 0 0) := HO.out.cell 1 rfl 11 rfl
  have lk1_11_103 : x102.frozen? ⟨bs, 11, none⟩ = false := HO.out.frz 1 rfl 11
  have k1_12_104 : x102.cell? ⟨bs, 12, none⟩ = some (.string ⟨#[]⟩) := HO.out.cell 1 rfl 12 rfl
  have lk1_12_104 : x102.frozen? ⟨bs, 12, none⟩ = false := HO.out.frz 1 rfl 12
  obtain ⟨x105, hx105⟩ : ∃ y, x102.setCell ⟨bs, 11, none⟩ (.slice none 0 0) = y := ⟨_, rfl⟩
  have hO := HO.out.setCell 1 rfl 11 (.slice none 0 0)
  rw [hx105] at hO
  replace HO := Lib.hid (show Own w none0 x105 [blkR br (.cells #[.int .i64 0, .int .i64 0, .int .i64 0, .int .i64 0, .bool false, .bool false, .bool false, .bool false, .int .i64 0, .int .i64 0, .bool false, .slice none 0 0, .string ⟨#[]⟩] 51), blkR bs (.cells #[.int .i64 fp, .int .i64 tp, .int .i64 q, .int .i64 0, .bool false, .bool false, .bool false, .bool false, .int .i64 0, .int .i64 0, .bool false, .slice none 0 0, .string ⟨#[]⟩] 51)] from hO)
  clear hO
  have k1_12_106 : x105.cell? ⟨bs, 12, none⟩ = some (.string ⟨#[]⟩) := HO.out.cell 1 rfl 12 rfl
  have lk1_12_106 : x105.frozen? ⟨bs, 12, none⟩ = false := HO.out.frz 1 rfl 12
  obtain ⟨x107, hx107⟩ : ∃ y, x105.setCell ⟨bs, 12, none⟩ (.string d) = y := ⟨_, rfl⟩
  have hO := HO.out.setCell 1 rfl 12 (.string d)
  rw [hx107] at hO
  replace HO := Lib.hid (show Own w none0 x107 [blkR br (.cells #[.int .i64 0, .int .i64 0, .int .i64 0, .int .i64 0, .bool false, .bool false, .bool false, .bool false, .int .i64 0, .int .i64 0, .bool false, .slice none 0 0, .string ⟨#[]⟩] 51), blkR bs (.cells #[.int .i64 fp, .int .i64 tp, .int .i64 q, .int .i64 0, .bool false, .bool false, .bool false, .bool false, .int .i64 0, .int .i64 0, .bool false, .slice none 0 0, .string d] 51)] from hO)
  clear hO
  have z1_0 : x107.cell? ⟨bs, 0, none⟩ = some (.int .i64 fp) := HO.out.cell 1 rfl 0 rfl
  have z1_1 : x107.cell? ⟨bs, 1, none⟩ = some (.int .i64 tp) := HO.out.cell 1 rfl 1 rfl
  have z1_2 : x107.cell? ⟨bs, 2, none⟩ = some (.int .i64 q) := HO.out.cell 1 rfl 2 rfl
  have z1_3 : x107.cell? ⟨bs, 3, none⟩ = some (.int .i64 0) := HO.out.cell 1 rfl 3 rfl
  have z1_4 : x107.cell? ⟨bs, 4, none⟩ = some (.bool false) := HO.out.cell 1 rfl 4 rfl
  have z1_5 : x107.cell? ⟨bs, 5, none⟩ = some (.bool false) := HO.out.cell 1 rfl 5 rfl
  have z1_6 : x107.cell? ⟨bs, 6, none⟩ = some (.bool false) := HO.out.cell 1 rfl 6 rfl
  have z1_7 : x107.cell? ⟨bs, 7, none⟩ = some (.bool false) := HO.out.cell 1 rfl 7 rfl
  have z1_8 : x107.cell? ⟨bs, 8, none⟩ = some (.int .i64 0) := HO.out.cell 1 rfl 8 rfl
  have z1_9 : x107.cell? ⟨bs, 9, none⟩ = some (.int .i64 0) := HO.out.cell 1 rfl 9 rfl
  have z1_10 : x107.cell? ⟨bs, 10, none⟩ = some (.bool false) := HO.out.cell 1 rfl 10 rfl
  have z1_11 : x107.cell? ⟨bs, 11, none⟩ = some (.slice none 0 0) := HO.out.cell 1 rfl 11 rfl
  have z1_12 : x107.cell? ⟨bs, 12, none⟩ = some (.string d) := HO.out.cell 1 rfl 12 rfl
  go_wp2_with fail
  refine (o_still HO.out (HE.out _)).mono ?_
  rintro e x108 ⟨rfl, hO, -⟩
  replace HO := Lib.hid (show Own w none0 x108 [blkR br (.cells #[.int .i64 0, .int .i64 0, .int .i64 0, .int .i64 0, .bool false, .bool false, .bool false, .bool false, .int .i64 0, .int .i64 0, .bool false, .slice none 0 0, .string ⟨#[]⟩] 51), blkR bs (.cells #[.int .i64 fp, .int .i64 tp, .int .i64 q, .int .i64 0, .bool false, .bool false, .bool false, .bool false, .int .i64 0, .int .i64 0, .bool false, .slice none 0 0, .string d] 51)] from hO)
  clear hO
  clear hx3 hbs k1_0_4 lk1_0_4 k1_1_5 lk1_1_5 k1_2_6 lk1_2_6 k1_3_7 lk1_3_7 k1_4_8 lk1_4_8 k1_5_9 lk1_5_9 k1_6_10 lk1_6_10 k1_7_11 lk1_7_11 k1_8_12 lk1_8_12 k1_9_13 lk1_9_13 k1_10_14 lk1_10_14 k1_11_15 lk1_11_15 k1_12_16 lk1_12_16 hx17 k1_1_18 lk1_1_18 k1_2_19 lk1_2_19 k1_3_20 lk1_3_20 k1_4_21 lk1_4_21 k1_5_22 lk1_5_22 k1_6_23 lk1_6_23 k1_7_24 lk1_7_24 k1_8_25 lk1_8_25 k1_9_26 lk1_9_26 k1_10_27 lk1_10_27 k1_11_28 lk1_11_28 k1_12_29 lk1_12_29 hx30 k1_2_31 lk1_2_31 k1_3_32 lk1_3_32 k1_4_33 lk1_4_33 k1_5_34 lk1_5_34 k1_6_35 lk1_6_35 k1_7_36 lk1_7_36 k1_8_37 lk1_8_37 k1_9_38 lk1_9_38 k1_10_39 lk1_10_39 k1_11_40 lk1_11_40 k1_12_41 lk1_12_41 hx42 k1_3_43 lk1_3_43 k1_4_44 lk1_4_44 k1_5_45 lk1_5_45 k1_6_46 lk1_6_46 k1_7_47 lk1_7_47 k1_8_48 lk1_8_48 k1_9_49 lk1_9_49 k1_10_50 lk1_10_50 k1_11_51 lk1_11_51 k1_12_52 lk1_12_52 hx53 k1_4_54 lk1_4_54 k1_5_55 lk1_5_55 k1_6_56 lk1_6_56 k1_7_57 lk1_7_57 k1_8_58 lk1_8_58 k1_9_59 lk1_9_59 k1_10_60 lk1_10_60 k1_11_61 lk1_11_61 k1_12_62 lk1_12_62 hx63 k1_5_64 lk1_5_64 k1_6_65 lk1_6_65 k1_7_66 lk1_7_66 k1_8_67 lk1_8_67 k1_9_68 lk1_9_68 k1_10_69 lk1_10_69 k1_11_70 lk1_11_70 k1_12_71 lk1_12_71 hx72 k1_6_73 lk1_6_73 k1_7_74 lk1_7_74 k1_8_75 lk1_8_75 k1_9_76 lk1_9_76 k1_10_77 lk1_10_77 k1_11_78 lk1_11_78 k1_12_79 lk1_12_79 hx80 k1_7_81 lk1_7_81 k1_8_82 lk1_8_82 k1_9_83 lk1_9_83 k1_10_84 lk1_10_84 k1_11_85 lk1_11_85 k1_12_86 lk1_12_86 hx87 k1_8_88 lk1_8_88 k1_9_89 lk1_9_89 k1_10_90 lk1_10_90 k1_11_91 lk1_11_91 k1_12_92 lk1_12_92 hx93 k1_9_94 lk1_9_94 k1_10_95 lk1_10_95 k1_11_96 lk1_11_96 k1_12_97 lk1_12_97 hx98 k1_10_99 lk1_10_99 k1_11_100 lk1_11_100 k1_12_101 lk1_12_101 hx102 k1_11_103 lk1_11_103 k1_12_104 lk1_12_104 hx105 k1_12_106 lk1_12_106 hx107 z1_0 z1_1 z1_2 z1_3 z1_4 z1_5 z1_6 z1_7 z1_8 z1_9 z1_10 z1_11 z1_12
  have z1_0 : x108.cell? ⟨bs, 0, none⟩ = some (.int .i64 fp) := HO.out.cell 1 rfl 0 rfl
  have z1_1 : x108.cell? ⟨bs, 1, none⟩ = some (.int .i64 tp) := HO.out.cell 1 rfl 1 rfl
  have z1_2 : x108.cell? ⟨bs, 2, none⟩ = some (.int .i64 q) := HO.out.cell 1 rfl 2 rfl
  have z1_3 : x108.cell? ⟨bs, 3, none⟩ = some (.int .i64 0) := HO.out.cell 1 rfl 3 rfl
  have z1_4 : x108.cell? ⟨bs, 4, none⟩ = some (.bool false) := HO.out.cell 1 rfl 4 rfl
  have z1_5 : x108.cell? ⟨bs, 5, none⟩ = some (.bool false) := HO.out.cell 1 rfl 5 rfl
  have z1_6 : x108.cell? ⟨bs, 6, none⟩ = some (.bool false) := HO.out.cell 1 rfl 6 rfl
  have z1_7 : x108.cell? ⟨bs, 7, none⟩ = some (.bool false) := HO.out.cell 1 rfl 7 rfl
  have z1_8 : x108.cell? ⟨bs, 8, none⟩ = some (.int .i64 0) := HO.out.cell 1 rfl 8 rfl
  have z1_9 : x108.cell? ⟨bs, 9, none⟩ = some (.int .i64 0) := HO.out.cell 1 rfl 9 rfl
  have z1_10 : x108.cell? ⟨bs, 10, none⟩ = some (.bool false) := HO.out.cell 1 rfl 10 rfl
  have z1_11 : x108.cell? ⟨bs, 11, none⟩ = some (.slice none 0 0) := HO.out.cell 1 rfl 11 rfl
  have z1_12 : x108.cell? ⟨bs, 12, none⟩ = some (.string d) := HO.out.cell 1 rfl 12 rfl
  have k0_0_109 : x108.cell? ⟨br, 0, none⟩ = some (.int .i64 0) := HO.out.cell 0 rfl 0 rfl
  have lk0_0_109 : x108.frozen? ⟨br, 0, none⟩ = false := HO.out.frz 0 rfl 0
  have k0_1_110 : x108.cell? ⟨br, 1, none⟩ = some (.int .i64 0) := HO.out.cell 0 rfl 1 rfl
  have lk0_1_110 : x108.frozen? ⟨br, 1, none⟩ = false := HO.out.frz 0 rfl 1
  have k0_2_111 : x108.cell? ⟨br, 2, none⟩ = some (.int .i64 0) := HO.out.cell 0 rfl 2 rfl
  have lk0_2_111 : x108.frozen? ⟨br, 2, none⟩ = false := HO.out.frz 0 rfl 2
  have k0_3_112 : x108.cell? ⟨br, 3, none⟩ = some (.int .i64 0) := HO.out.cell 0 rfl 3 rfl
  have lk0_3_112 : x108.frozen? ⟨br, 3, none⟩ = false := HO.out.frz 0 rfl 3
  have k0_4_113 : x108.cell? ⟨br, 4, none⟩ = some (.bool false) := HO.out.cell 0 rfl 4 rfl
  have lk0_4_113 : x108.frozen? ⟨br, 4, none⟩ = false := HO.out.frz 0 rfl 4
  have k0_5_114 : x108.cell? ⟨br, 5, none⟩ = some (.bool false) := HO.out.cell 0 rfl 5 rfl
  have lk0_5_114 : x108.frozen? ⟨br, 5, none⟩ = false := HO.out.frz 0 rfl 5
  have k0_6_115 : x108.cell? ⟨br, 6, none⟩ = some (.bool false) := HO.out.cell 0 rfl 6 rfl
  have lk0_6_115 : x108.frozen? ⟨br, 6, none⟩ = false := HO.out.frz 0 rfl 6
  have k0_7_116 : x108.cell? ⟨br, 7, none⟩ = some (.bool false) := HO.out.cell 0 rfl 7 rfl
  have lk0_7_116 : x108.frozen? ⟨br, 7, none⟩ = false := HO.out.frz 0 rfl 7
  have k0_8_117 : x108.cell? ⟨br, 8, none⟩ = some (.int .i64 0) := HO.out.cell 0 rfl 8 rfl
  have lk0_8_117 : x108.frozen? ⟨br, 8, none⟩ = false := HO.out.frz 0 rfl 8
  have k0_9_118 : x108.cell? ⟨br, 9, none⟩ = some (.int .i64 0) := HO.out.cell 0 rfl 9 rfl
  have lk0_9_118 : x108.frozen? ⟨br, 9, none⟩ = false := HO.out.frz 0 rfl 9
  have k0_10_119 : x108.cell? ⟨br, 10, none⟩ = some (.bool false) := HO.out.cell 0 rfl 10 rfl
  have lk0_10_119 : x108.frozen? ⟨br, 10, none⟩ = false := HO.out.frz 0 rfl 10
  have k0_11_120 : x108.cell? ⟨br, 11, none⟩ = some (.slice none 0 0) := HO.out.cell 0 rfl 11 rfl
  have lk0_11_120 : x108.frozen? ⟨br, 11, none⟩ = false := HO.out.frz 0 rfl 11
  have k0_12_121 : x108.cell? ⟨br, 12, none⟩ = some (.string ⟨#[]⟩) := HO.out.cell 0 rfl 12 rfl
  have lk0_12_121 : x108.frozen? ⟨br, 12, none⟩ = false := HO.out.frz 0 rfl 12
  obtain ⟨x122, hx122⟩ : ∃ y, x108.setCell ⟨br, 0, none⟩ (.int .i64 fp) = y := ⟨_, rfl⟩
  have hO := HO.out.setCell 0 rfl 0 (.int .i64 fp)
  rw [hx122] at hO
  replace HO := Lib.hid (show Own w none0 x122 [blkR br (.cells #[.int .i64 fp, .int .i64 0, .int .i64 0, .int .i64 0, .bool false, .bool false, .bool false, .bool false, .int .i64 0, .int .i64 0, .bool false, .slice none 0 0, .string ⟨#[]⟩] 51), blkR bs (.cells #[.int .i64 fp, .int .i64 tp, .int .i64 q, .int .i64 0, .bool false, .bool false, .bool false, .bool false, .int .i64 0, .int .i64 0, .bool false, .slice none 0 0, .string d] 51)] from hO)
  clear hO
  have k0_1_123 : x122.cell? ⟨br, 1, none⟩ = some (.int .i64 0) := HO.out.cell 0 rfl 1 rfl
  have lk0_1_123 : x122.frozen? ⟨br, 1, none⟩ = false := HO.out.frz 0 rfl 1
  have k0_2_124 : x122.cell? ⟨br, 2, none⟩ = some (.int .i64 0) := HO.out.cell 0 rfl 2 rfl
  have lk0_2_124 : x122.frozen? ⟨br, 2, none⟩ = false := HO.out.frz 0 rfl 2
  have k0_3_125 : x122.cell? ⟨br, 3, none⟩ = some (.int .i64 0) := HO.out.cell 0 rfl 3 rfl
  have lk0_3_125 : x122.frozen? ⟨br, 3, none⟩ = false := HO.out.frz 0 rfl 3
  have k0_4_126 : x122.cell? ⟨br, 4, none⟩ = some (.bool false) := HO.out.cell 0 rfl 4 rfl
  have lk0_4_126 : x122.frozen? ⟨br, 4, none⟩ = false := HO.out.frz 0 rfl 4
  have k0_5_127 : x122.cell? ⟨br, 5, none⟩ = some (.bool false) := HO.out.cell 0 rfl 5 rfl
  have lk0_5_127 : x122.frozen? ⟨br, 5, none⟩ = false := HO.out.frz 0 rfl 5
  have k0_6_128 : x122.cell? ⟨br, 6, none⟩ = some (.bool false) := HO.out.cell 0 rfl 6 rfl
  have lk0_6_128 : x122.frozen? ⟨br, 6, none⟩ = false := HO.out.frz 0 rfl 6
  have k0_7_129 : x122.cell? ⟨br, 7, none⟩ = some (.bool false) := HO.out.cell 0 rfl 7 rfl
  have lk0_7_129 : x122.frozen? ⟨br, 7, none⟩ = false := HO.out.frz 0 rfl 7
  have k0_8_130 : x122.cell? ⟨br, 8, none⟩ = some (.int .i64 0) := HO.out.cell 0 rfl 8 rfl
  have lk0_8_130 : x122.frozen? ⟨br, 8, none⟩ = false := HO.out.frz 0 rfl 8
  have k0_9_131 : x122.cell? ⟨br, 9, none⟩ = some (.int .i64 0) := HO.out.cell 0 rfl 9 rfl
  have lk0_9_131 : x122.frozen? ⟨br, 9, none⟩ = false := HO.out.frz 0 rfl 9
  have k0_10_132 : x122.cell? ⟨br, 10, none⟩ = some (.bool false) := HO.out.cell 0 rfl 10 rfl
  have lk0_10_132 : x122.frozen? ⟨br, 10, none⟩ = false := HO.out.frz 0 rfl 10
  have k0_11_133 : x122.cell? ⟨br, 11, none⟩ = some (.slice none 0 0) := HO.out.cell 0 rfl 11 rfl
  have lk0_11_133 : x122.frozen? ⟨br, 11, none⟩ = false := HO.out.frz 0 rfl 11
  have k0_12_134 : x122.cell? ⟨br, 12, none⟩ = some (.string ⟨#[]⟩) := HO.out.cell 0 rfl 12 rfl
  have lk0_12_134 : x122.frozen? ⟨br, 12, none⟩ = false := HO.out.frz 0 rfl 12
  obtain ⟨x135, hx135⟩ : ∃ y, x122.setCell ⟨br, 1, none⟩ (.int .i64 tp) = y := ⟨_, rfl⟩
  have hO := HO.out.setCell 0 rfl 1 (.int .i64 tp)
  rw [hx135] at hO
  replace HO := Lib.hid (show Own w none0 x135 [blkR br (.cells #[.int .i64 fp, .int .i64 tp, .int .i64 0, .int .i64 0, .bool false, .bool false, .bool false, .bool false, .int .i64 0, .int .i64 0, .bool false, .slice none 0 0, .string ⟨#[]⟩] 51), blkR bs (.cells #[.int .i64 fp, .int .i64 tp, .int .i64 q, .int .i64 0, .bool false, .bool false, .bool false, .bool false, .int .i64 0, .int .i64 0, .bool false, .slice none 0 0, .string d] 51)] from hO)
  clear hO
  have k0_2_136 : x135.cell? ⟨br, 2, none⟩ = some (.int .i64 0) := HO.out.cell 0 rfl 2 rfl
  have lk0_2_136 : x135.frozen? ⟨br, 2, none⟩ = false := HO.out.frz 0 rfl 2
  have k0_3_137 : x135.cell? ⟨br, 3, none⟩ = some (.int .i64 0) := HO.out.cell 0 rfl 3 rfl
  have lk0_3_137 : x135.frozen? ⟨br, 3, none⟩ = false := HO.out.frz 0 rfl 3
  have k0_4_138 : x135.cell? ⟨br, 4, none⟩ = some (.bool false) := HO.out.cell 0 rfl 4 rfl
  have lk0_4_138 : x135.frozen? ⟨br, 4, none⟩ = false := HO.out.frz 0 rfl 4
  have k0_5_139 : x135.cell? ⟨br, 5, none⟩ = some (.bool false) := HO.out.cell 0 rfl 5 rfl
  have lk0_5_139 : x135.frozen? ⟨br, 5, none⟩ = false := HO.out.frz 0 rfl 5
  have k0_6_140 : x135.cell? ⟨br, 6, none⟩ = some (.bool false) := HO.out.cell 0 rfl 6 rfl
  have lk0_6_140 : x135.frozen? ⟨br, 6, none⟩ = false := HO.out.frz 0 rfl 6
  have k0_7_141 : x135.cell? ⟨br, 7, none⟩ = some (.bool false) := HO.out.cell 0 rfl 7 rfl
  have lk0_7_141 : x135.frozen? ⟨br, 7, none⟩ = false := HO.out.frz 0 rfl 7
  have k0_8_142 : x135.cell? ⟨br, 8, none⟩ = some (.int .i64 0) := HO.out.cell 0 rfl 8 rfl
  have lk0_8_142 : x135.frozen? ⟨br, 8, none⟩ = false := HO.out.frz 0 rfl 8
  have k0_9_143 : x135.cell? ⟨br, 9, none⟩ = some (.int .i64 0) := HO.out.cell 0 rfl 9 rfl
  have lk0_9_143 : x135.frozen? ⟨br, 9, none⟩ = false := HO.out.frz 0 rfl 9
  have k0_10_144 : x135.cell? ⟨br, 10, none⟩ = some (.bool false) := HO.out.cell 0 rfl 10 rfl
  have lk0_10_144 : x135.frozen? ⟨br, 10, none⟩ = false := HO.out.frz 0 rfl 10
  have k0_11_145 : x135.cell? ⟨br, 11, none⟩ = some (.slice none 0 0) := HO.out.cell 0 rfl 11 rfl
  have lk0_11_145 : x135.frozen? ⟨br, 11, none⟩ = false := HO.out.frz 0 rfl 11
  have k0_12_146 : x135.cell? ⟨br, 12, none⟩ = some (.string ⟨#[]⟩) := HO.out.cell 0 rfl 12 rfl
  have lk0_12_146 : x135.frozen? ⟨br, 12, none⟩ = false := HO.out.frz 0 rfl 12
  obtain ⟨x147, hx147⟩ : ∃ y, x135.setCell ⟨br, 2, none⟩ (.int .i64 q) = y := ⟨_, rfl⟩
  have hO := HO.out.setCell 0 rfl 2 (.int .i64 q)
  rw [hx147] at hO
  replace HO := Lib.hid (show Own w none0 x147 [blkR br (.cells #[.int .i64 fp, .int .i64 tp, .int .i64 q, .int .i64 0, .bool false, .bool false, .bool false, .bool false, .int .i64 0, .int .i64 0, .bool false, .slice none 0 0, .string ⟨#[]⟩] 51), blkR bs (.cells #[.int .i64 fp, .int .i64 tp, .int .i64 q, .int .i64 0, .bool false, .bool false, .bool false, .bool false, .int .i64 0, .int .i64 0, .bool false, .slice none 0 0, .string d] 51)] from hO)
  clear hO
  have k0_3_148 : x147.cell? ⟨br, 3, none⟩ = some (.int .i64 0) := HO.out.cell 0 rfl 3 rfl
  have lk0_3_148 : x147.frozen? ⟨br, 3, none⟩ = false := HO.out.frz 0 rfl 3
  have k0_4_149 : x147.cell? ⟨br, 4, none⟩ = some (.bool false) := HO.out.cell 0 rfl 4 rfl
  have lk0_4_149 : x147.frozen? ⟨br, 4, none⟩ = false := HO.out.frz 0 rfl 4
  have k0_5_150 : x147.cell? ⟨br, 5, none⟩ = some (.bool false) := HO.out.cell 0 rfl 5 rfl
  have lk0_5_150 : x147.frozen? ⟨br, 5, none⟩ = false := HO.out.frz 0 rfl 5
  have k0_6_151 : x147.cell? ⟨br, 6, none⟩ = some (.bool false) := HO.out.cell 0 rfl 6 rfl
  have lk0_6_151 : x147.frozen? ⟨br, 6, none⟩ = false := HO.out.frz 0 rfl 6
  have k0_7_152 : x147.cell? ⟨br, 7, none⟩ = some (.bool false) := HO.out.cell 0 rfl 7 rfl
  have lk0_7_152 : x147.frozen? ⟨br, 7, none⟩ = false := HO.out.frz 0 rfl 7
  have k0_8_153 : x147.cell? ⟨br, 8, none⟩ = some (.int .i64 0) := HO.out.cell 0 rfl 8 rfl
  have lk0_8_153 : x147.frozen? ⟨br, 8, none⟩ = false := HO.out.frz 0 rfl 8
  have k0_9_154 : x147.cell? ⟨br, 9, none⟩ = some (.int .i64 0) := HO.out.cell 0 rfl 9 rfl
  have lk0_9_154 : x147.frozen? ⟨br, 9, none⟩ = false := HO.out.frz 0 rfl 9
  have k0_10_155 : x147.cell? ⟨br, 10, none⟩ = some (.bool false) := HO.out.cell 0 rfl 10 rfl
  have lk0_10_155 : x147.frozen? ⟨br, 10, none⟩ = false := HO.out.frz 0 rfl 10
  have k0_11_156 : x147.cell? ⟨br, 11, none⟩ = some (.slice none 0 0) := HO.out.cell 0 rfl 11 rfl
  have lk0_11_156 : x147.frozen? ⟨br, 11, none⟩ = false := HO.out.frz 0 rfl 11
  have k0_12_157 : x147.cell? ⟨br, 12, none⟩ = some (.string ⟨#[]⟩) := HO.out.cell 0 rfl 12 rfl
  have lk0_12_157 : x147.frozen? ⟨br, 12, none⟩ = false := HO.out.frz 0 rfl 12
  obtain ⟨x158, hx158⟩ : ∃ y, x147.setCell ⟨br, 3, none⟩ (.int .i64 0) = y := ⟨_, rfl⟩
  have hO := HO.out.setCell 0 rfl 3 (.int .i64 0)
  rw [hx158] at hO
  replace HO := Lib.hid (show Own w none0 x158 [blkR br (.cells #[.int .i64 fp, .int .i64 tp, .int .i64 q, .int .i64 0, .bool false, .bool false, .bool false, .bool false, .int .i64 0, .int .i64 0, .bool false, .slice none 0 0, .string ⟨#[]⟩] 51), blkR bs (.cells #[.int .i64 fp, .int .i64 tp, .int .i64 q, .int .i64 0, .bool false, .bool false, .bool false, .bool false, .int .i64 0, .int .i64 0, .bool false, .slice none 0 0, .string d] 51)] from hO)
  clear hO
  have k0_4_159 : x158.cell? ⟨br, 4, none⟩ = some (.bool false) := HO.out.cell 0 rfl 4 rfl
  have lk0_4_159 : x158.frozen? ⟨br, 4, none⟩ = false := HO.out.frz 0 rfl 4
  have k0_5_160 : x158.cell? ⟨br, 5, none⟩ = some (.bool false) := HO.out.cell 0 rfl 5 rfl
  have lk0_5_160 : x158.frozen? ⟨br, 5, none⟩ = false := HO.out.frz 0 rfl 5
  have k0_6_161 : x158.cell? ⟨br, 6, none⟩ = some (.bool false) := HO.out.cell 0 rfl 6 rfl
  have lk0_6_161 : x158.frozen? ⟨br, 6, none⟩ = false := HO.out.frz 0 rfl 6
  have k0_7_162 : x158.cell? ⟨br, 7, none⟩ = some (.bool false) := HO.out.cell 0 rfl 7 rfl
  have lk0_7_162 : x158.frozen? ⟨br, 7, none⟩ = false := HO.out.frz 0 rfl 7
  have k0_8_163 : x158.cell? ⟨br, 8, none⟩ = some (.int .i64 0) := HO.out.cell 0 rfl 8 rfl
  have lk0_8_163 : x158.frozen? ⟨br, 8, none⟩ = false := HO.out.frz 0 rfl 8
  have k0_9_164 : x158.cell? ⟨br, 9, none⟩ = some (.int .i64 0) := HO.out.cell 0 rfl 9 rfl
  have lk0_9_164 : x158.frozen? ⟨br, 9, none⟩ = false := HO.out.frz 0 rfl 9
  have k0_10_165 : x158.cell? ⟨br, 10, none⟩ = some (.bool false) := HO.out.cell 0 rfl 10 rfl
  have lk0_10_165 : x158.frozen? ⟨br, 10, none⟩ = false := HO.out.frz 0 rfl 10
  have k0_11_166 : x158.cell? ⟨br, 11, none⟩ = some (.slice none 0 0) := HO.out.cell 0 rfl 11 rfl
  have lk0_11_166 : x158.frozen? ⟨br, 11, none⟩ = false := HO.out.frz 0 rfl 11
  have k0_12_167 : x158.cell? ⟨br, 12, none⟩ = some (.string ⟨#[]⟩) := HO.out.cell 0 rfl 12 rfl
  have lk0_12_167 : x158.frozen? ⟨br, 12, none⟩ = false := HO.out.frz 0 rfl 12
  obtain ⟨x168, hx168⟩ : ∃ y, x158.setCell ⟨br, 4, none⟩ (.bool false) = y := ⟨_, rfl⟩
  have hO := HO.out.setCell 0 rfl 4 (.bool false)
  rw [hx168] at hO
  replace HO := Lib.hid (show Own w none0 x168 [blkR br (.cells #[.int .i64 fp, .int .i64 tp, .int .i64 q, .int .i64 0, .bool false, .bool false, .bool false, .bool false, .int .i64 0, .int .i64 0, .bool false, .slice none 0 0, .string ⟨#[]⟩] 51), blkR bs (.cells #[.int .i64 fp, .int .i64 tp, .int .i64 q, .int .i64 0, .bool false, .bool false, .bool false, .bool false, .int .i64 0, .int .i64 0, .bool false, .slice none 0 0, .string d] 51)] from hO)
  clear hO
  have k0_5_169 : x168.cell? ⟨br, 5, none⟩ = some (.bool false) := HO.out.cell 0 rfl 5 rfl
  have lk0_5_169 : x168.frozen? ⟨br, 5, none⟩ = false := HO.out.frz 0 rfl 5
  have k0_6_170 : x168.cell? ⟨br, 6, none⟩ = some (.bool false) := HO.out.cell 0 rfl 6 rfl
  have lk0_6_170 : x168.frozen? ⟨br, 6, none⟩ = false := HO.out.frz 0 rfl 6
  have k0_7_171 : x168.cell? ⟨br, 7, none⟩ = some (.bool false) := HO.out.cell 0 rfl 7 rfl
  have lk0_7_171 : x168.frozen? ⟨br, 7, none⟩ = false := HO.out.frz 0 rfl 7
  have k0_8_172 : x168.cell? ⟨br, 8, none⟩ = some (.int .i64 0) := HO.out.cell 0 rfl 8 rfl
  have lk0_8_172 : x168.frozen? ⟨br, 8, none⟩ = false := HO.out.frz 0 rfl 8
  have k0_9_173 : x168.cell? ⟨br, 9, none⟩ = some (.int .i64 0) := HO.out.cell 0 rfl 9 rfl
  have lk0_9_173 : x168.frozen? ⟨br, 9, none⟩ = false := HO.out.frz 0 rfl 9
  have k0_10_174 : x168.cell? ⟨br, 10, none⟩ = some (.bool false) := HO.out.cell 0 rfl 10 rfl
  have lk0_10_174 : x168.frozen? ⟨br, 10, none⟩ = false := HO.out.frz 0 rfl 10
  have k0_11_175 : x168.cell? ⟨br, 11, none⟩ = some (.slice none 0 0) := HO.out.cell 0 rfl 11 rfl
  have lk0_11_175 : x168.frozen? ⟨br, 11, none⟩ = false := HO.out.frz 0 rfl 11
  have k0_12_176 : x168.cell? ⟨br, 12, none⟩ = some (.string ⟨#[]⟩) := HO.out.cell 0 rfl 12 rfl
  have lk0_12_176 : x168.frozen? ⟨br, 12, none⟩ = false := HO.out.frz 0 rfl 12
  obtain ⟨x177, hx177⟩ : ∃ y, x168.setCell ⟨br, 5, none⟩ (.bool false) = y := ⟨_, rfl⟩
  have hO := HO.out.setCell 0 rfl 5 (.bool false)
  rw [hx177] at hO
  replace HO := Lib.hid (show Own w none0 x177 [blkR br (.cells #[.int .i64 fp, .int .i64 tp, .int .i64 q, .int .i64 0, .bool false, .bool false, .bool false, .bool false, .int .i64 0, .int .i64 0, .bool false, .slice none 0 0, .string ⟨#[]⟩] 51), blkR bs (.cells #[.int .i64 fp, .int .i64 tp, .int .i64 q, .int .i64 0, .bool false, .bool false, .bool false, .bool false, .int .i64 0, .int .i64 0, .bool false, .slice none 0 0, .string d] 51)] from hO)
  clear hO
  have k0_6_178 : x177.cell? ⟨br, 6, none⟩ = some (.bool false) := HO.out.cell 0 rfl 6 rfl
  have lk0_6_178 : x177.frozen? ⟨br, 6, none⟩ = false := HO.out.frz 0 rfl 6
  have k0_7_179 : x177.cell? ⟨br, 7, none⟩ = some (.bool false) := HO.out.cell 0 rfl 7 rfl
  have lk0_7_179 : x177.frozen? ⟨br, 7, none⟩ = false := HO.out.frz 0 rfl 7
  have k0_8_180 : x177.cell? ⟨br, 8, none⟩ = some (.int .i64 0) := HO.out.cell 0 rfl 8 rfl
  have lk0_8_180 : x177.frozen? ⟨br, 8, none⟩ = false := HO.out.frz 0 rfl 8
  have k0_9_181 : x177.cell? ⟨br, 9, none⟩ = some (.int .i64 0) := HO.out.cell 0 rfl 9 rfl
  have lk0_9_181 : x177.frozen? ⟨br, 9, none⟩ = false := HO.out.frz 0 rfl 9
  have k0_10_182 : x177.cell? ⟨br, 10, none⟩ = some (.bool false) := HO.out.cell 0 rfl 10 rfl
  have lk0_10_182 : x177.frozen? ⟨br, 10, none⟩ = false := HO.out.frz 0 rfl 10
  have k0_11_183 : x177.cell? ⟨br, 11, none⟩ = some (.slice none 0 0) := HO.out.cell 0 rfl 11 rfl
  have lk0_11_183 : x177.frozen? ⟨br, 11, none⟩ = false := HO.out.frz 0 rfl 11
  have k0_12_184 : x177.cell? ⟨br, 12, none⟩ = some (.string ⟨#[]⟩) := HO.out.cell 0 rfl 12 rfl
  have lk0_12_184 : x177.frozen? ⟨br, 12, none⟩ = false := HO.out.frz 0 rfl 12
  obtain ⟨x185, hx185⟩ : ∃ y, x177.setCell ⟨br, 6, none⟩ (.bool false) = y := ⟨_, rfl⟩
  have hO := HO.out.setCell 0 rfl 6 (.bool false)
  rw [hx185] at hO
  replace HO := Lib.hid (show Own w none0 x185 [blkR br (.cells #[.int .i64 fp, .int .i64 tp, .int .i64 q, .int .i64 0, .bool false, .bool false, .bool false, .bool false, .int .i64 0, .int .i64 0, .bool false, .slice none 0 0, .string ⟨#[]⟩] 51), blkR bs (.cells #[.int .i64 fp, .int .i64 tp, .int .i64 q, .int .i64 0, .bool false, .bool false, .bool false, .bool false, .int .i64 0, .int .i64 0, .bool false, .slice none 0 0, .string d] 51)] from hO)
  clear hO
  have k0_7_186 : x185.cell? ⟨br, 7, none⟩ = some (.bool false) := HO.out.cell 0 rfl 7 rfl
  have lk0_7_186 : x185.frozen? ⟨br, 7, none⟩ = false := HO.out.frz 0 rfl 7
  have k0_8_187 : x185.cell? ⟨br, 8, none⟩ = some (.int .i64 0) := HO.out.cell 0 rfl 8 rfl
  have lk0_8_187 : x185.frozen? ⟨br, 8, none⟩ = false := HO.out.frz 0 rfl 8
  have k0_9_188 : x185.cell? ⟨br, 9, none⟩ = some (.int .i64 0) := HO.out.cell 0 rfl 9 rfl
  have lk0_9_188 : x185.frozen? ⟨br, 9, none⟩ = false := HO.out.frz 0 rfl 9
  have k0_10_189 : x185.cell? ⟨br, 10, none⟩ = some (.bool false) := HO.out.cell 0 rfl 10 rfl
  have lk0_10_189 : x185.frozen? ⟨br, 10, none⟩ = false := HO.out.frz 0 rfl 10
  have k0_11_190 : x185.cell? ⟨br, 11, none⟩ = some (.slice none 0 0) := HO.out.cell 0 rfl 11 rfl
  have lk0_11_190 : x185.frozen? ⟨br, 11, none⟩ = false := HO.out.frz 0 rfl 11
  have k0_12_191 : x185.cell? ⟨br, 12, none⟩ = some (.string ⟨#[]⟩) := HO.out.cell 0 rfl 12 rfl
  have lk0_12_191 : x185.frozen? ⟨br, 12, none⟩ = false := HO.out.frz 0 rfl 12
  obtain ⟨x192, hx192⟩ : ∃ y, x185.setCell ⟨br, 7, none⟩ (.bool false) = y := ⟨_, rfl⟩
  have hO := HO.out.setCell 0 rfl 7 (.bool false)
  rw [hx192] at hO
  replace HO := Lib.hid (show Own w none0 x192 [blkR br (.cells #[.int .i64 fp, .int .i64 tp, .int .i64 q, .int .i64 0, .bool false, .bool false, .bool false, .bool false, .int .i64 0, .int .i64 0, .bool false, .slice none 0 0, .string ⟨#[]⟩] 51), blkR bs (.cells #[.int .i64 fp, .int .i64 tp, .int .i64 q, .int .i64 0, .bool false, .bool false, .bool false, .bool false, .int .i64 0, .int .i64 0, .bool false, .slice none 0 0, .string d] 51)] from hO)
  clear hO
  have k0_8_193 : x192.cell? ⟨br, 8, none⟩ = some (.int .i64 0) := HO.out.cell 0 rfl 8 rfl
  have lk0_8_193 : x192.frozen? ⟨br, 8, none⟩ = false := HO.out.frz 0 rfl 8
  have k0_9_194 : x192.cell? ⟨br, 9, none⟩ = some (.int .i64 0) := HO.out.cell 0 rfl 9 rfl
  have lk0_9_194 : x192.frozen? ⟨br, 9, none⟩ = false := HO.out.frz 0 rfl 9
  have k0_10_195 : x192.cell? ⟨br, 10, none⟩ = some (.bool false) := HO.out.cell 0 rfl 10 rfl
  have lk0_10_195 : x192.frozen? ⟨br, 10, none⟩ = false := HO.out.frz 0 rfl 10
  have k0_11_196 : x192.cell? ⟨br, 11, none⟩ = some (.slice none 0 0) := HO.out.cell 0 rfl 11 rfl
  have lk0_11_196 : x192.frozen? ⟨br, 11, none⟩ = false := HO.out.frz 0 rfl 11
  have k0_12_197 : x192.cell? ⟨br, 12, none⟩ = some (.string ⟨#[]⟩) := HO.out.cell 0 rfl 12 rfl
  have lk0_12_197 : x192.frozen? ⟨br, 12, none⟩ = false := HO.out.frz 0 rfl 12
  obtain ⟨x198, hx198⟩ : ∃ y, x192.setCell ⟨br, 8, none⟩ (.int .i64 0) = y := ⟨_, rfl⟩
  have hO := HO.out.setCell 0 rfl 8 (.int .i64 0)
  rw [hx198] at hO
  replace HO := Lib.hid (show Own w none0 x198 [blkR br (.cells #[.int .i64 fp, .int .i64 tp, .int .i64 q, .int .i64 0, .bool false, .bool false, .bool false, .bool false, .int .i64 0, .int .i64 0, .bool false, .slice none 0 0, .string ⟨#[]⟩] 51), blkR bs (.cells #[.int .i64 fp, .int .i64 tp, .int .i64 q, .int .i64 0, .bool false, .bool false, .bool false, .bool false, .int .i64 0, .int .i64 0, .bool false, .slice none 0 0, .string d] 51)] from hO)
  clear hO
  have k0_9_199 : x198.cell? ⟨br, 9, none⟩ = some (.int .i64 0) := HO.out.cell 0 rfl 9 rfl
  have lk0_9_199 : x198.frozen? ⟨br, 9, none⟩ = false := HO.out.frz 0 rfl 9
  have k0_10_200 : x198.cell? ⟨br, 10, none⟩ = some (.bool false) := HO.out.cell 0 rfl 10 rfl
  have lk0_10_200 : x198.frozen? ⟨br, 10, none⟩ = false := HO.out.frz 0 rfl 10
  have k0_11_201 : x198.cell? ⟨br, 11, none⟩ = some (.slice none 0 0) := HO.out.cell 0 rfl 11 rfl
  have lk0_11_201 : x198.frozen? ⟨br, 11, none⟩ = false := HO.out.frz 0 rfl 11
  have k0_12_202 : x198.cell? ⟨br, 12, none⟩ = some (.string ⟨#[]⟩) := HO.out.cell 0 rfl 12 rfl
  have lk0_12_202 : x198.frozen? ⟨br, 12, none⟩ = false := HO.out.frz 0 rfl 12
  obtain ⟨x203, hx203⟩ : ∃ y, x198.setCell ⟨br, 9, none⟩ (.int .i64 0) = y := ⟨_, rfl⟩
  have hO := HO.out.setCell 0 rfl 9 (.int .i64 0)
  rw [hx203] at hO
  replace HO := Lib.hid (show Own w none0 x203 [blkR br (.cells #[.int .i64 fp, .int .i64 tp, .int .i64 q, .int .i64 0, .bool false, .bool false, .bool false, .bool false, .int .i64 0, .int .i64 0, .bool false, .slice none 0 0, .string ⟨#[]⟩] 51), blkR bs (.cells #[.int .i64 fp, .int .i64 tp, .int .i64 q, .int .i64 0, .bool false, .bool false, .bool false, .bool false, .int .i64 0, .int .i64 0, .bool false, .slice none 0 0, .string d] 51)] from hO)
  clear hO
  have k0_10_204 : x203.cell? ⟨br, 10, none⟩ = some (.bool false) := HO.out.cell 0 rfl 10 rfl
  have lk0_10_204 : x203.frozen? ⟨br, 10, none⟩ = false := HO.out.frz 0 rfl 10
  have k0_11_205 : x203.cell? ⟨br, 11, none⟩ = some (.slice none 0 0) := HO.out.cell 0 rfl 11 rfl
  have lk0_11_205 : x203.frozen? ⟨br, 11, none⟩ = false := HO.out.frz 0 rfl 11
  have k0_12_206 : x203.cell? ⟨br, 12, none⟩ = some (.string ⟨#[]⟩) := HO.out.cell 0 rfl 12 rfl
  have lk0_12_206 : x203.frozen? ⟨br, 12, none⟩ = false := HO.out.frz 0 rfl 12
  obtain ⟨x207, hx207⟩ : ∃ y, x203.setCell ⟨br, 10, none⟩ (.bool false) = y := ⟨_, rfl⟩
  have hO := HO.out.setCell 0 rfl 10 (.bool false)
  rw [hx207] at hO
  replace HO := Lib.hid (show Own w none0 x207 [blkR br (.cells #[.int .i64 fp, .int .i64 tp, .int .i64 q, .int .i64 0, .bool false, .bool false, .bool false, .bool false, .int .i64 0, .int .i64 0, .bool false, .slice none 0 0, .string ⟨#[]⟩] 51), blkR bs (.cells #[.int .i64 fp, .int .i64 tp, .int .i64 q, .int .i64 0, .bool false, .bool false, .bool false, .bool false, .int .i64 0, .int .i64 0, .bool false, .slice none 0 0, .string d] 51)] from hO)
  clear hO
  have k0_11_208 : x207.cell? ⟨br, 11, none⟩ = some (.slice none 0 0) := HO.out.cell 0 rfl 11 rfl
  have lk0_11_208 : x207.frozen? ⟨br, 11, none⟩ = false := HO.out.frz 0 rfl 11
  have k0_12_209 : x207.cell? ⟨br, 12, none⟩ = some (.string ⟨#[]⟩) := HO.out.cell 0 rfl 12 rfl
  have lk0_12_209 : x207.frozen? ⟨br, 12, none⟩ = false := HO.out.frz 0 rfl 12
  obtain ⟨x210, hx210⟩ : ∃ y, x207.setCell ⟨br, 11, none⟩ (.slice none 0 0) = y := ⟨_, rfl⟩
  have hO := HO.out.setCell 0 rfl 11 (.slice none 0 0)
  rw [hx210] at hO
  replace HO := Lib.hid (show Own w none0 x210 [blkR br (.cells #[.int .i64 fp, .int .i64 tp, .int .i64 q, .int .i64 0, .bool false, .bool false, .bool false, .bool false, .int .i64 0, .int .i64 0, .bool false, .slice none 0 0, .string ⟨#[]⟩] 51), blkR bs (.cells #[.int .i64 fp, .int .i64 tp, .int .i64 q, .int .i64 0, .bool false, .bool false, .bool false, .bool false, .int .i64 0, .int .i64 0, .bool false, .slice none 0 0, .string d] 51)] from hO)
  clear hO
  have k0_12_211 : x210.cell? ⟨br, 12, none⟩ = some (.string ⟨#[]⟩) := HO.out.cell 0 rfl 12 rfl
  have lk0_12_211 : x210.frozen? ⟨br, 12, none⟩ = false := HO.out.frz 0 rfl 12
  obtain ⟨x212, hx212⟩ : ∃ y, x210.setCell ⟨br, 12, none⟩ (.string d) = y := ⟨_, rfl⟩
  have hO := HO.out.setCell 0 rfl 12 (.string d)
  rw [hx212] at hO
  replace HO := Lib.hid (show Own w none0 x212 [blkR br (.cells #[.int .i64 fp, .int .i64 tp, .int .i64 q, .int .i64 0, .bool false, .bool false, .bool false, .bool false, .int .i64 0, .int .i64 0, .bool false, .slice none 0 0, .string d] 51), blkR bs (.cells #[.int .i64 fp, .int .i64 tp, .int .i64 q, .int .i64 0, .bool false, .bool false, .bool false, .bool false, .int .i64 0, .int .i64 0, .bool false, .slice none 0 0, .string d] 51)] from hO)
  clear hO
  go_wp2
  refine bodyPost_ret (results_row_tmp rfl _ _ _ br 51 _ _ _ rfl (HO.out.blk 0 rfl) Try.underlying51 rfl infoSg) rfl ?_
  exact ⟨rfl, HO.out.below⟩
end Go.Proofs.Ytjngfhgcifhioaa
