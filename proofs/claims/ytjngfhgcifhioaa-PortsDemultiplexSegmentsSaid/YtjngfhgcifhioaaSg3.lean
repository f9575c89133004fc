/- segment.Encode, at a segment without flags and blocks. Printed by wip/tools/gen23D.py. -/
import Derived.Test.YtjngfhgcifhioaaSg2
import Derived.Test.YtjngfhgcifhioaaCks
namespace Go.Proofs.Ytjngfhgcifhioaa
open Go.RowKit Go.Sort
set_option linter.unusedVariables false
set_option maxRecDepth 100000
attribute [local go_sem] Oper.semAt_some

theorem adrv_r (n : Int) (w : World) (h0 : 0 ≤ n) (h1 : n ≤ 4294967295) : Calls Try.prog 13 #[.int .i64 n] w fun e w' => e = .returned (.bool true) ∧ w = w' := by
  have d1 : decide (n ≥ 0) = true := decide_eq_true h0
  have d2 : decide (n ≤ 4294967295) = true := decide_eq_true h1
  have d3 : decide (0 ≤ n) = true := decide_eq_true h0
  go_enter Try.func13, Try.ntmps13
  go_wp2
  go_ret
  simp [*]
theorem segB_len (fp tp q sum : Int) (d : ByteArray) : (segB fp tp q sum d).length = 20 + d.data.toList.length := by
  unfold segB
  simp only [List.length_append, putL_len, List.length_cons, List.length_nil]
/-- What the checksum covers. -/
def encSx (fr to fp tp q : Int) (d : ByteArray) : ByteArray := ⟨(putL 4 [fr, to]).toArray⟩ ++ ⟨(putL 2 [6, ((⟨(segB fp tp q 0 d).toArray⟩ : ByteArray).size : Int)]).toArray⟩ ++ ⟨(segB fp tp q 0 d).toArray⟩
/-- The encoding. -/
def encSg (fr to fp tp q : Int) (d : ByteArray) : ByteArray := ⟨(segB fp tp q (ckF (encSx fr to fp tp q d)) d).toArray⟩
set_option maxRecDepth 100000 in
set_option maxHeartbeats 4000000 in
theorem sencode_r (fr to fp tp q : Int) (d : ByteArray) (w : World) (f0 : 0 ≤ fr) (f1 : fr ≤ 4294967295) (t0 : 0 ≤ to) (t1 : to ≤ 4294967295) (p0 : 1 ≤ fp) (p1 : fp ≤ 65535) (p2 : 1 ≤ tp) (p3 : tp ≤ 65535) (q0 : 0 ≤ q) (q1 : q ≤ 4294967295) (hd : d.size ≤ 1024) :
    Calls Try.prog 16 #[.int .i64 fr, .int .i64 to, .agg (sgC fp tp q d)] w fun e w' => e = .returned (.tuple #[.string (encSg fr to fp tp q d), .int .i64 0]) ∧ Below w.heap.size w w' := by
  have HO := Lib.hid (Own.nil w none0)
  have HV := Lib.hid (fun w => svalid_r fp tp q d w p0 p1 p2 p3 q0 q1 hd)
  have HW := Lib.hid (fun sum (s0 : 0 ≤ sum) (s1 : sum ≤ 65535) w => swrite_r fp tp q sum d w p0 p1 p2 p3 q0 q1 s0 s1 hd)
  have HA1 := Lib.hid (fun w => adrv_r fr w f0 f1)
  have HA2 := Lib.hid (fun w => adrv_r to w t0 t1)
  have HE := Lib.hid (show encSg fr to fp tp q d = ⟨(segB fp tp q (ckF (encSx fr to fp tp q d)) d).toArray⟩ from rfl)
  have HX := Lib.hid (show encSx fr to fp tp q d = ⟨(putL 4 [fr, to]).toArray⟩ ++ ⟨(putL 2 [6, ((⟨(segB fp tp q 0 d).toArray⟩ : ByteArray).size : Int)]).toArray⟩ ++ ⟨(segB fp tp q 0 d).toArray⟩ from rfl)
  obtain ⟨b, hb1, hb2⟩ : ∃ b : ByteArray, (⟨(segB fp tp q 0 d).toArray⟩ : ByteArray) = b ∧ b.size = 20 + d.size := ⟨_, rfl, by rw [bytes_sz, segB_len, ← Lib.size_eq]⟩
  rw [hb1] at HX
  have HB0 := HW.out 0 (by decide) (by decide)
  rw [hb1] at HB0
  have HB := Lib.hid HB0
  have P1 := Lib.hid (sput 4 (by decide) [fr, to] 2 rfl (by decide) (by decide) (in2 (fun w => put_4 fr w (by omega) (by omega)) (fun w => put_4 to w (by omega) (by omega))))
  have P2 := Lib.hid (sput 2 (by decide) [6, (b.size : Int)] 2 rfl (by decide) (by decide) (in2 (fun w => put_2 6 w (by omega) (by omega)) (fun w => put_2 _ w (by omega) (by omega))))
  obtain ⟨e1, E1, a1⟩ := putS 4 [fr, to] 8 rfl
  obtain ⟨e2, E2, a2⟩ := putS 2 [6, (b.size : Int)] 4 rfl
  obtain ⟨m, hm⟩ : ∃ m, b.size = m := ⟨_, rfl⟩
  have U1 := Lib.hid a1.2.2
  have U2 := Lib.hid a2.2.2
  have U3 := Lib.hid hm
  have U4 := Lib.hid (show m ≤ 2000 by omega)
  rw [E1] at P1 HX
  rw [E2] at P2 HX
  have hsz : (e1 ++ e2 ++ b).size ≤ 100000 := by rw [ByteArray.size_append, ByteArray.size_append]; have := a1.2.2; have := a2.2.2; omega
  have hc := fun w => cksum_r (e1 ++ e2 ++ b) hsz w
  rw [← HX.out] at hc
  have hr := ckF_range (encSx fr to fp tp q d)
  obtain ⟨sm, hsm⟩ : ∃ y, ckF (encSx fr to fp tp q d) = y := ⟨_, rfl⟩
  rw [hsm] at hc hr HE
  have hw2 := HW.out sm hr.1 hr.2
  rw [← HE.out] at hw2
  have HW2 := Lib.hid hw2
  have HC := Lib.hid hc
  rw [HX.out] at HC
  obtain ⟨en, hen⟩ : ∃ y, encSg fr to fp tp q d = y := ⟨_, rfl⟩
  rw [hen] at HW2 ⊢
  rw [hm] at P2
  clear hm hen hw2 hc HE HX hr hsm hsz E1 E2 a1 a2 HB0 HW hb1 hb2 f0 f1 t0 t1 p0 p1 p2 p3 q0 q1 hd
  unfold sgC at *
  obtain ⟨x1, hx1⟩ : ∃ y, w.alloc (.cells #[.int .i64 fp, .int .i64 tp, .int .i64 q, .int .i64 0, .bool false, .bool false, .bool false, .bool false, .int .i64 0, .int .i64 0, .bool false, .slice none 0 0, .string d] 51) = y := ⟨_, rfl⟩
  obtain ⟨bs, hbs⟩ : ∃ y, w.heap.size = y := ⟨_, rfl⟩
  have hO := HO.out.alloc (.cells #[.int .i64 fp, .int .i64 tp, .int .i64 q, .int .i64 0, .bool false, .bool false, .bool false, .bool false, .int .i64 0, .int .i64 0, .bool false, .slice none 0 0, .string d] 51)
  rw [hx1, hbs] at hO
  replace HO := Lib.hid (show Own w none0 x1 [blkR bs (.cells #[.int .i64 fp, .int .i64 tp, .int .i64 q, .int .i64 0, .bool false, .bool false, .bool false, .bool false, .int .i64 0, .int .i64 0, .bool false, .slice none 0 0, .string d] 51)] from hO)
  clear hO
  have z0_0 : x1.cell? ⟨bs, 0, none⟩ = some (.int .i64 fp) := HO.out.cell 0 rfl 0 rfl
  have z0_1 : x1.cell? ⟨bs, 1, none⟩ = some (.int .i64 tp) := HO.out.cell 0 rfl 1 rfl
  have z0_2 : x1.cell? ⟨bs, 2, none⟩ = some (.int .i64 q) := HO.out.cell 0 rfl 2 rfl
  have z0_3 : x1.cell? ⟨bs, 3, none⟩ = some (.int .i64 0) := HO.out.cell 0 rfl 3 rfl
  have z0_4 : x1.cell? ⟨bs, 4, none⟩ = some (.bool false) := HO.out.cell 0 rfl 4 rfl
  have z0_5 : x1.cell? ⟨bs, 5, none⟩ = some (.bool false) := HO.out.cell 0 rfl 5 rfl
  have z0_6 : x1.cell? ⟨bs, 6, none⟩ = some (.bool false) := HO.out.cell 0 rfl 6 rfl
  have z0_7 : x1.cell? ⟨bs, 7, none⟩ = some (.bool false) := HO.out.cell 0 rfl 7 rfl
  have z0_8 : x1.cell? ⟨bs, 8, none⟩ = some (.int .i64 0) := HO.out.cell 0 rfl 8 rfl
  have z0_9 : x1.cell? ⟨bs, 9, none⟩ = some (.int .i64 0) := HO.out.cell 0 rfl 9 rfl
  have z0_10 : x1.cell? ⟨bs, 10, none⟩ = some (.bool false) := HO.out.cell 0 rfl 10 rfl
  have z0_11 : x1.cell? ⟨bs, 11, none⟩ = some (.slice none 0 0) := HO.out.cell 0 rfl 11 rfl
  have z0_12 : x1.cell? ⟨bs, 12, none⟩ = some (.string d) := HO.out.cell 0 rfl 12 rfl
  go_enter Try.func16, Try.ntmps16
  have u1 : e1.size = 8 := U1.out
  have u2 : e2.size = 4 := U2.out
  have u3 : b.size = m := U3.out
  have u4 : (9223372036854775807 < 12 + m) = False := eq_false (by have := U4.out; omega)
  go_wp2_with fail
  refine (HA1.out _).mono ?_
  rintro e xp ⟨rfl, rfl⟩
  go_wp2_with fail
  refine (HA2.out _).mono ?_
  rintro e xp ⟨rfl, rfl⟩
  go_wp2_with fail
  refine (o_still HO.out (HV.out _)).mono ?_
  rintro e x2 ⟨rfl, hO, -⟩
  replace HO := Lib.hid (show Own w none0 x2 [blkR bs (.cells #[.int .i64 fp, .int .i64 tp, .int .i64 q, .int .i64 0, .bool false, .bool false, .bool false, .bool false, .int .i64 0, .int .i64 0, .bool false, .slice none 0 0, .string d] 51)] from hO)
  clear hO
  clear hx1 hbs z0_0 z0_1 z0_2 z0_3 z0_4 z0_5 z0_6 z0_7 z0_8 z0_9 z0_10 z0_11 z0_12
  have z0_0 : x2.cell? ⟨bs, 0, none⟩ = some (.int .i64 fp) := HO.out.cell 0 rfl 0 rfl
  have z0_1 : x2.cell? ⟨bs, 1, none⟩ = some (.int .i64 tp) := HO.out.cell 0 rfl 1 rfl
  have z0_2 : x2.cell? ⟨bs, 2, none⟩ = some (.int .i64 q) := HO.out.cell 0 rfl 2 rfl
  have z0_3 : x2.cell? ⟨bs, 3, none⟩ = some (.int .i64 0) := HO.out.cell 0 rfl 3 rfl
  have z0_4 : x2.cell? ⟨bs, 4, none⟩ = some (.bool false) := HO.out.cell 0 rfl 4 rfl
  have z0_5 : x2.cell? ⟨bs, 5, none⟩ = some (.bool false) := HO.out.cell 0 rfl 5 rfl
  have z0_6 : x2.cell? ⟨bs, 6, none⟩ = some (.bool false) := HO.out.cell 0 rfl 6 rfl
  have z0_7 : x2.cell? ⟨bs, 7, none⟩ = some (.bool false) := HO.out.cell 0 rfl 7 rfl
  have z0_8 : x2.cell? ⟨bs, 8, none⟩ = some (.int .i64 0) := HO.out.cell 0 rfl 8 rfl
  have z0_9 : x2.cell? ⟨bs, 9, none⟩ = some (.int .i64 0) := HO.out.cell 0 rfl 9 rfl
  have z0_10 : x2.cell? ⟨bs, 10, none⟩ = some (.bool false) := HO.out.cell 0 rfl 10 rfl
  have z0_11 : x2.cell? ⟨bs, 11, none⟩ = some (.slice none 0 0) := HO.out.cell 0 rfl 11 rfl
  have z0_12 : x2.cell? ⟨bs, 12, none⟩ = some (.string d) := HO.out.cell 0 rfl 12 rfl
  go_wp2_with fail
  refine (o_still HO.out (HB.out _)).mono ?_
  rintro e x3 ⟨rfl, hO, -⟩
  replace HO := Lib.hid (show Own w none0 x3 [blkR bs (.cells #[.int .i64 fp, .int .i64 tp, .int .i64 q, .int .i64 0, .bool false, .bool false, .bool false, .bool false, .int .i64 0, .int .i64 0, .bool false, .slice none 0 0, .string d] 51)] from hO)
  clear hO
  clear z0_0 z0_1 z0_2 z0_3 z0_4 z0_5 z0_6 z0_7 z0_8 z0_9 z0_10 z0_11 z0_12
  have z0_0 : x3.cell? ⟨bs, 0, none⟩ = some (.int .i64 fp) := HO.out.cell 0 rfl 0 rfl
  have z0_1 : x3.cell? ⟨bs, 1, none⟩ = some (.int .i64 tp) := HO.out.cell 0 rfl 1 rfl
  have z0_2 : x3.cell? ⟨bs, 2, none⟩ = some (.int .i64 q) := HO.out.cell 0 rfl 2 rfl
  have z0_3 : x3.cell? ⟨bs, 3, none⟩ = some (.int .i64 0) := HO.out.cell 0 rfl 3 rfl
  have z0_4 : x3.cell? ⟨bs, 4, none⟩ = some (.bool false) := HO.out.cell 0 rfl 4 rfl
  have z0_5 : x3.cell? ⟨bs, 5, none⟩ = some (.bool false) := HO.out.cell 0 rfl 5 rfl
  have z0_6 : x3.cell? ⟨bs, 6, none⟩ = some (.bool false) := HO.out.cell 0 rfl 6 rfl
  have z0_7 : x3.cell? ⟨bs, 7, none⟩ = some (.bool false) := HO.out.cell 0 rfl 7 rfl
  have z0_8 : x3.cell? ⟨bs, 8, none⟩ = some (.int .i64 0) := HO.out.cell 0 rfl 8 rfl
  have z0_9 : x3.cell? ⟨bs, 9, none⟩ = some (.int .i64 0) := HO.out.cell 0 rfl 9 rfl
  have z0_10 : x3.cell? ⟨bs, 10, none⟩ = some (.bool false) := HO.out.cell 0 rfl 10 rfl
  have z0_11 : x3.cell? ⟨bs, 11, none⟩ = some (.slice none 0 0) := HO.out.cell 0 rfl 11 rfl
  have z0_12 : x3.cell? ⟨bs, 12, none⟩ = some (.string d) := HO.out.cell 0 rfl 12 rfl
  obtain ⟨x4, hx4⟩ : ∃ y, x3.alloc (.cells #[.int .i64 fr, .int .i64 to] 3) = y := ⟨_, rfl⟩
  obtain ⟨r1, hr1⟩ : ∃ y, x3.heap.size = y := ⟨_, rfl⟩
  have hO := HO.out.alloc (.cells #[.int .i64 fr, .int .i64 to] 3)
  rw [hx4, hr1] at hO
  replace HO := Lib.hid (show Own w none0 x4 [blkR bs (.cells #[.int .i64 fp, .int .i64 tp, .int .i64 q, .int .i64 0, .bool false, .bool false, .bool false, .bool false, .int .i64 0, .int .i64 0, .bool false, .slice none 0 0, .string d] 51), blkR r1 (.cells #[.int .i64 fr, .int .i64 to] 3)] from hO)
  clear hO
  go_wp2_with fail
  refine (o_still HO.out (P1.out _ r1 (HO.out.blk 1 rfl))).mono ?_
  rintro e x5 ⟨rfl, hO, -⟩
  replace HO := Lib.hid (show Own w none0 x5 [blkR bs (.cells #[.int .i64 fp, .int .i64 tp, .int .i64 q, .int .i64 0, .bool false, .bool false, .bool false, .bool false, .int .i64 0, .int .i64 0, .bool false, .slice none 0 0, .string d] 51), blkR r1 (.cells #[.int .i64 fr, .int .i64 to] 3)] from hO)
  clear hO
  clear z0_0 z0_1 z0_2 z0_3 z0_4 z0_5 z0_6 z0_7 z0_8 z0_9 z0_10 z0_11 z0_12 hx4 hr1
  obtain ⟨x6, hx6⟩ : ∃ y, x5.alloc (.cells #[.int .i64 6, .int .i64 (m : Int)] 3) = y := ⟨_, rfl⟩
  obtain ⟨r2, hr2⟩ : ∃ y, x5.heap.size = y := ⟨_, rfl⟩
  have hO := HO.out.alloc (.cells #[.int .i64 6, .int .i64 (m : Int)] 3)
  rw [hx6, hr2] at hO
  replace HO := Lib.hid (show Own w none0 x6 [blkR bs (.cells #[.int .i64 fp, .int .i64 tp, .int .i64 q, .int .i64 0, .bool false, .bool false, .bool false, .bool false, .int .i64 0, .int .i64 0, .bool false, .slice none 0 0, .string d] 51), blkR r1 (.cells #[.int .i64 fr, .int .i64 to] 3), blkR r2 (.cells #[.int .i64 6, .int .i64 (m : Int)] 3)] from hO)
  clear hO
  go_wp2_with fail
  refine (o_still HO.out (P2.out _ r2 (HO.out.blk 2 rfl))).mono ?_
  rintro e x7 ⟨rfl, hO, -⟩
  replace HO := Lib.hid (show Own w none0 x7 [blkR bs (.cells #[.int .i64 fp, .int .i64 tp, .int .i64 q, .int .i64 0, .bool false, .bool false, .bool false, .bool false, .int .i64 0, .int .i64 0, .bool false, .slice none 0 0, .string d] 51), blkR r1 (.cells #[.int .i64 fr, .int .i64 to] 3), blkR r2 (.cells #[.int .i64 6, .int .i64 (m : Int)] 3)] from hO)
  clear hO
  clear hx6 hr2
  go_wp2_with fail
  refine (o_still HO.out (HC.out _)).mono ?_
  rintro e x8 ⟨rfl, hO, -⟩
  replace HO := Lib.hid (show Own w none0 x8 [blkR bs (.cells #[.int .i64 fp, .int .i64 tp, .int .i64 q, .int .i64 0, .bool false, .bool false, .bool false, .bool false, .int .i64 0, .int .i64 0, .bool false, .slice none 0 0, .string d] 51), blkR r1 (.cells #[.int .i64 fr, .int .i64 to] 3), blkR r2 (.cells #[.int .i64 6, .int .i64 (m : Int)] 3)] from hO)
  clear hO
  have z0_0 : x8.cell? ⟨bs, 0, none⟩ = some (.int .i64 fp) := HO.out.cell 0 rfl 0 rfl
  have z0_1 : x8.cell? ⟨bs, 1, none⟩ = some (.int .i64 tp) := HO.out.cell 0 rfl 1 rfl
  have z0_2 : x8.cell? ⟨bs, 2, none⟩ = some (.int .i64 q) := HO.out.cell 0 rfl 2 rfl
  have z0_3 : x8.cell? ⟨bs, 3, none⟩ = some (.int .i64 0) := HO.out.cell 0 rfl 3 rfl
  have z0_4 : x8.cell? ⟨bs, 4, none⟩ = some (.bool false) := HO.out.cell 0 rfl 4 rfl
  have z0_5 : x8.cell? ⟨bs, 5, none⟩ = some (.bool false) := HO.out.cell 0 rfl 5 rfl
  have z0_6 : x8.cell? ⟨bs, 6, none⟩ = some (.bool false) := HO.out.cell 0 rfl 6 rfl
  have z0_7 : x8.cell? ⟨bs, 7, none⟩ = some (.bool false) := HO.out.cell 0 rfl 7 rfl
  have z0_8 : x8.cell? ⟨bs, 8, none⟩ = some (.int .i64 0) := HO.out.cell 0 rfl 8 rfl
  have z0_9 : x8.cell? ⟨bs, 9, none⟩ = some (.int .i64 0) := HO.out.cell 0 rfl 9 rfl
  have z0_10 : x8.cell? ⟨bs, 10, none⟩ = some (.bool false) := HO.out.cell 0 rfl 10 rfl
  have z0_11 : x8.cell? ⟨bs, 11, none⟩ = some (.slice none 0 0) := HO.out.cell 0 rfl 11 rfl
  have z0_12 : x8.cell? ⟨bs, 12, none⟩ = some (.string d) := HO.out.cell 0 rfl 12 rfl
  go_wp2_with fail
  refine (o_still HO.out (HW2.out _)).mono ?_
  rintro e x9 ⟨rfl, hO, -⟩
  replace HO := Lib.hid (show Own w none0 x9 [blkR bs (.cells #[.int .i64 fp, .int .i64 tp, .int .i64 q, .int .i64 0, .bool false, .bool false, .bool false, .bool false, .int .i64 0, .int .i64 0, .bool false, .slice none 0 0, .string d] 51), blkR r1 (.cells #[.int .i64 fr, .int .i64 to] 3), blkR r2 (.cells #[.int .i64 6, .int .i64 (m : Int)] 3)] from hO)
  clear hO
  clear z0_0 z0_1 z0_2 z0_3 z0_4 z0_5 z0_6 z0_7 z0_8 z0_9 z0_10 z0_11 z0_12
  go_wp2
  go_ret2
  exact ⟨rfl, HO.out.below⟩
end Go.Proofs.Ytjngfhgcifhioaa
