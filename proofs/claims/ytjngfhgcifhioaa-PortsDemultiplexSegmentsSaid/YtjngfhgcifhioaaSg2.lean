/- Package segment: flags, flagByte, write, at a segment without flags and blocks. Printed by wip/tools/gen23C.py. -/
import Derived.Test.YtjngfhgcifhioaaSg1
namespace Go.Proofs.Ytjngfhgcifhioaa
open Go.RowKit Go.Sort
set_option linter.unusedVariables false
set_option maxRecDepth 100000
attribute [local go_sem] Oper.semAt_some

theorem info5b : (Try.prog.info? 137).map (·.size) = some 5 := by kernel_rfl
theorem wp_of_callS {P : Program} {o : Oper} {a : Act} {w : World} {f : FuncId} {args : Array Value} {K : Value → World → Prop} {next : Act → World → Prop} {Q : Exit → Act → World → Prop} (h : (execOp a.eval o).run P w = .ok (.enter f args) w)
    (hc : Calls P f args w fun e w' => ∃ v, e = .returned v ∧ K v w') (hn : ∀ v w', K v w' → next (a.put o.dst v) w') : o.wp P a w next Q := by
  unfold Oper.wp; rw [h]; exact hc.mono fun e w' ⟨v, he, hk⟩ => by subst he; exact hn v w' hk
theorem ix5_0 (w : World) : (Instr.index 137 (.agg #[.bool false, .bool false, .bool false, .bool false, .bool false]) (.int .i64 0)).run Try.prog w = .ok (.bool false) w := by kernel_rfl
theorem ix5_1 (w : World) : (Instr.index 137 (.agg #[.bool false, .bool false, .bool false, .bool false, .bool false]) (.int .i64 1)).run Try.prog w = .ok (.bool false) w := by kernel_rfl
theorem ix5_2 (w : World) : (Instr.index 137 (.agg #[.bool false, .bool false, .bool false, .bool false, .bool false]) (.int .i64 2)).run Try.prog w = .ok (.bool false) w := by kernel_rfl
theorem ix5_3 (w : World) : (Instr.index 137 (.agg #[.bool false, .bool false, .bool false, .bool false, .bool false]) (.int .i64 3)).run Try.prog w = .ok (.bool false) w := by kernel_rfl
theorem ix5_4 (w : World) : (Instr.index 137 (.agg #[.bool false, .bool false, .bool false, .bool false, .bool false]) (.int .i64 4)).run Try.prog w = .ok (.bool false) w := by kernel_rfl
set_option maxHeartbeats 4000000 in
theorem sflags_r (fp tp q : Int) (d : ByteArray) (w : World) : Calls Try.prog 65 #[.agg (sgC fp tp q d)] w fun e w' => e = .returned (.agg #[.bool false, .bool false, .bool false, .bool false, .bool false]) ∧ Below w.heap.size w w' := by
  have HO := Lib.hid (Own.nil w none0)
  unfold sgC
  obtain ⟨x1, hx1⟩ : ∃ y, w.alloc (.cells #[.int .i64 fp, .int .i64 tp, .int .i64 q, .int .i64 0, .bool false, .bool false, .bool false, .bool false, .int .i64 0, .int .i64 0, .bool false, .slice none 0 0, .string d] 51) = y := ⟨_, rfl⟩
  obtain ⟨bs, hbs⟩ : ∃ y, w.heap.size = y := ⟨_, rfl⟩
  have hO := HO.out.alloc (.cells #[.int .i64 fp, .int .i64 tp, .int .i64 q, .int .i64 0, .bool false, .bool false, .bool false, .bool false, .int .i64 0, .int .i64 0, .bool false, .slice none 0 0, .string d] 51)
  rw [hx1, hbs] at hO
  replace HO := Lib.hid (show Own w none0 x1 [blkR bs (.cells #[.int .i64 fp, .int .i64 tp, .int .i64 q, .int .i64 0, .bool false, .bool false, .bool false, .bool false, .int .i64 0, .int .i64 0, .bool false, .slice none 0 0, .string d] 51)] from hO)
  clear hO
  obtain ⟨x2, hx2⟩ : ∃ y, x1.alloc (.cells #[.bool false, .bool false, .bool false, .bool false, .bool false] 137) = y := ⟨_, rfl⟩
  obtain ⟨bf, hbf⟩ : ∃ y, x1.heap.size = y := ⟨_, rfl⟩
  have hO := HO.out.alloc (.cells #[.bool false, .bool false, .bool false, .bool false, .bool false] 137)
  rw [hx2, hbf] at hO
  replace HO := Lib.hid (show Own w none0 x2 [blkR bs (.cells #[.int .i64 fp, .int .i64 tp, .int .i64 q, .int .i64 0, .bool false, .bool false, .bool false, .bool false, .int .i64 0, .int .i64 0, .bool false, .slice none 0 0, .string d] 51), blkR bf (.cells #[.bool false, .bool false, .bool false, .bool false, .bool false] 137)] from hO)
  clear hO
  have z0_0 : x2.cell? ⟨bs, 0, none⟩ = some (.int .i64 fp) := HO.out.cell 0 rfl 0 rfl
  have z0_1 : x2.cell? ⟨bs, 1, none⟩ = some (.int .i64 tp) := HO.out.cell 0 rfl 1 rfl
  have z0_2 : x2.cell? ⟨bs, 2, none⟩ = some (.int .i64 q) := HO.out.cell 0 rfl 2 rfl
  have z0_3 : x2.cell? ⟨bs, 3, none⟩ = some (.int .i64 0) := HO.out.cell 0 rfl 3 rfl
  have z0_4 : x2.cell? ⟨bs, 4, none⟩ = some (.bool false) := HO.out.cell 0 rfl 4 rfl
  have z0_5 : x2.cell? ⟨bs, 5, none⟩ = some (.bool false) := HO.out.cell 0 rfl 5 rfl
  have z0_6 : x2.cell? ⟨bs, 6, none⟩ = some (.bool false) := HO.out.cell 0 rfl 6 rfl
  have z0_7 : x2.cell? ⟨bs, 7, none⟩ = some (.bool false) := HO.out.cell 0 rfl 7 rfl
  have z0_8 : x2.cell? ⟨bs, 8, none⟩ = some (.int .i64 0) := HO.out.cell 0 rfl 8 rfl
  have z0_9 : x2.cell? ⟨bs, 9, none⟩ = some (.int .i64 0) := HO.out.cell 0 rfl 9 rfl
  have z0_10 : x2.cell? ⟨bs, 10, none⟩ = some (.bool false) := HO.out.cell 0 rfl 10 rfl
  have z0_11 : x2.cell? ⟨bs, 11, none⟩ = some (.slice none 0 0) := HO.out.cell 0 rfl 11 rfl
  have z0_12 : x2.cell? ⟨bs, 12, none⟩ = some (.string d) := HO.out.cell 0 rfl 12 rfl
  have k1_0_3 : x2.cell? ⟨bf, 0, none⟩ = some (.bool false) := HO.out.cell 1 rfl 0 rfl
  have lk1_0_3 : x2.frozen? ⟨bf, 0, none⟩ = false := HO.out.frz 1 rfl 0
  have k1_1_4 : x2.cell? ⟨bf, 1, none⟩ = some (.bool false) := HO.out.cell 1 rfl 1 rfl
  have lk1_1_4 : x2.frozen? ⟨bf, 1, none⟩ = false := HO.out.frz 1 rfl 1
  have k1_2_5 : x2.cell? ⟨bf, 2, none⟩ = some (.bool false) := HO.out.cell 1 rfl 2 rfl
  have lk1_2_5 : x2.frozen? ⟨bf, 2, none⟩ = false := HO.out.frz 1 rfl 2
  have k1_3_6 : x2.cell? ⟨bf, 3, none⟩ = some (.bool false) := HO.out.cell 1 rfl 3 rfl
  have lk1_3_6 : x2.frozen? ⟨bf, 3, none⟩ = false := HO.out.frz 1 rfl 3
  have k1_4_7 : x2.cell? ⟨bf, 4, none⟩ = some (.bool false) := HO.out.cell 1 rfl 4 rfl
  have lk1_4_7 : x2.frozen? ⟨bf, 4, none⟩ = false := HO.out.frz 1 rfl 4
  obtain ⟨x8, hx8⟩ : ∃ y, x2.setCell ⟨bf, 0, none⟩ (.bool false) = y := ⟨_, rfl⟩
  have hO := HO.out.setCell 1 rfl 0 (.bool false)
  rw [hx8] at hO
  replace HO := Lib.hid (show Own w none0 x8 [blkR bs (.cells #[.int .i64 fp, .int .i64 tp, .int .i64 q, .int .i64 0, .bool false, .bool false, .bool false, .bool false, .int .i64 0, .int .i64 0, .bool false, .slice none 0 0, .string d] 51), blkR bf (.cells #[.bool false, .bool false, .bool false, .bool false, .bool false] 137)] from hO)
  clear hO
  have k1_1_9 : x8.cell? ⟨bf, 1, none⟩ = some (.bool false) := HO.out.cell 1 rfl 1 rfl
  have lk1_1_9 : x8.frozen? ⟨bf, 1, none⟩ = false := HO.out.frz 1 rfl 1
  have k1_2_10 : x8.cell? ⟨bf, 2, none⟩ = some (.bool false) := HO.out.cell 1 rfl 2 rfl
  have lk1_2_10 : x8.frozen? ⟨bf, 2, none⟩ = false := HO.out.frz 1 rfl 2
  have k1_3_11 : x8.cell? ⟨bf, 3, none⟩ = some (.bool false) := HO.out.cell 1 rfl 3 rfl
  have lk1_3_11 : x8.frozen? ⟨bf, 3, none⟩ = false := HO.out.frz 1 rfl 3
  have k1_4_12 : x8.cell? ⟨bf, 4, none⟩ = some (.bool false) := HO.out.cell 1 rfl 4 rfl
  have lk1_4_12 : x8.frozen? ⟨bf, 4, none⟩ = false := HO.out.frz 1 rfl 4
  obtain ⟨x13, hx13⟩ : ∃ y, x8.setCell ⟨bf, 1, none⟩ (.bool false) = y := ⟨_, rfl⟩
  have hO := HO.out.setCell 1 rfl 1 (.bool false)
  rw [hx13] at hO
  replace HO := Lib.hid (show Own w none0 x13 [blkR bs (.cells #[.int .i64 fp, .int .i64 tp, .int .i64 q, .int .i64 0, .bool false, .bool false, .bool false, .bool false, .int .i64 0, .int .i64 0, .bool false, .slice none 0 0, .string d] 51), blkR bf (.cells #[.bool false, .bool false, .bool false, .bool false, .bool false] 137)] from hO)
  clear hO
  have k1_2_14 : x13.cell? ⟨bf, 2, none⟩ = some (.bool false) := HO.out.cell 1 rfl 2 rfl
  have lk1_2_14 : x13.frozen? ⟨bf, 2, none⟩ = false := HO.out.frz 1 rfl 2
  have k1_3_15 : x13.cell? ⟨bf, 3, none⟩ = some (.bool false) := HO.out.cell 1 rfl 3 rfl
  have lk1_3_15 : x13.frozen? ⟨bf, 3, none⟩ = false := HO.out.frz 1 rfl 3
  have k1_4_16 : x13.cell? ⟨bf, 4, none⟩ = some (.bool false) := HO.out.cell 1 rfl 4 rfl
  have lk1_4_16 : x13.frozen? ⟨bf, 4, none⟩ = false := HO.out.frz 1 rfl 4
  obtain ⟨x17, hx17⟩ : ∃ y, x13.setCell ⟨bf, 2, none⟩ (.bool false) = y := ⟨_, rfl⟩
  have hO := HO.out.setCell 1 rfl 2 (.bool false)
  rw [hx17] at hO
  replace HO := Lib.hid (show Own w none0 x17 [blkR bs (.cells #[.int .i64 fp, .int .i64 tp, .int .i64 q, .int .i64 0, .bool false, .bool false, .bool false, .bool false, .int .i64 0, .int .i64 0, .bool false, .slice none 0 0, .string d] 51), blkR bf (.cells #[.bool false, .bool false, .bool false, .bool false, .bool false] 137)] from hO)
  clear hO
  have k1_3_18 : x17.cell? ⟨bf, 3, none⟩ = some (.bool false) := HO.out.cell 1 rfl 3 rfl
  have lk1_3_18 : x17.frozen? ⟨bf, 3, none⟩ = false := HO.out.frz 1 rfl 3
  have k1_4_19 : x17.cell? ⟨bf, 4, none⟩ = some (.bool false) := HO.out.cell 1 rfl 4 rfl
  have lk1_4_19 : x17.frozen? ⟨bf, 4, none⟩ = false := HO.out.frz 1 rfl 4
  obtain ⟨x20, hx20⟩ : ∃ y, x17.setCell ⟨bf, 3, none⟩ (.bool false) = y := ⟨_, rfl⟩
  have hO := HO.out.setCell 1 rfl 3 (.bool false)
  rw [hx20] at hO
  replace HO := Lib.hid (show Own w none0 x20 [blkR bs (.cells #[.int .i64 fp, .int .i64 tp, .int .i64 q, .int .i64 0, .bool false, .bool false, .bool false, .bool false, .int .i64 0, .int .i64 0, .bool false, .slice none 0 0, .string d] 51), blkR bf (.cells #[.bool false, .bool false, .bool false, .bool false, .bool false] 137)] from hO)
  clear hO
  have k1_4_21 : x20.cell? ⟨bf, 4, none⟩ = some (.bool false) := HO.out.cell 1 rfl 4 rfl
  have lk1_4_21 : x20.frozen? ⟨bf, 4, none⟩ = false := HO.out.frz 1 rfl 4
  obtain ⟨x22, hx22⟩ : ∃ y, x20.setCell ⟨bf, 4, none⟩ (.bool false) = y := ⟨_, rfl⟩
  have hO := HO.out.setCell 1 rfl 4 (.bool false)
  rw [hx22] at hO
  replace HO := Lib.hid (show Own w none0 x22 [blkR bs (.cells #[.int .i64 fp, .int .i64 tp, .int .i64 q, .int .i64 0, .bool false, .bool false, .bool false, .bool false, .int .i64 0, .int .i64 0, .bool false, .slice none 0 0, .string d] 51), blkR bf (.cells #[.bool false, .bool false, .bool false, .bool false, .bool false] 137)] from hO)
  clear hO
  go_enter Try.func65, Try.ntmps65
  go_wp2
  refine bodyPost_ret (results_cell_row (P := Try.prog) rfl _ _ bf 137 _ _ _ rfl (HO.out.blk 1 rfl) Try.underlying137 rfl info5b) rfl ?_
  exact ⟨rfl, HO.out.below⟩
set_option maxHeartbeats 4000000 in
theorem sfbyte_r (fp tp q : Int) (d : ByteArray) (w : World) : Calls Try.prog 49 #[.agg (sgC fp tp q d)] w fun e w' => e = .returned (.int .i64 0) ∧ Below w.heap.size w w' := by
  have HO := Lib.hid (Own.nil w none0)
  unfold sgC
  obtain ⟨x1, hx1⟩ : ∃ y, w.alloc (.cells #[.int .i64 fp, .int .i64 tp, .int .i64 q, .int .i64 0, .bool false, .bool false, .bool false, .bool false, .int .i64 0, .int .i64 0, .bool false, .slice none 0 0, .string d] 51) = y := ⟨_, rfl⟩
  obtain ⟨bs, hbs⟩ : ∃ y, w.heap.size = y := ⟨_, rfl⟩
  have hO := HO.out.alloc (.cells #[.int .i64 fp, .int .i64 tp, .int .i64 q, .int .i64 0, .bool false, .bool false, .bool false, .bool false, .int .i64 0, .int .i64 0, .bool false, .slice none 0 0, .string d] 51)
  rw [hx1, hbs] at hO
  replace HO := Lib.hid (show Own w none0 x1 [blkR bs (.cells #[.int .i64 fp, .int .i64 tp, .int .i64 q, .int .i64 0, .bool false, .bool false, .bool false, .bool false, .int .i64 0, .int .i64 0, .bool false, .slice none 0 0, .string d] 51)] from hO)
  clear hO
  have z0_0 : x1.cell? ⟨bs, 0, none⟩ = some (.int .i64 fp) := HO.out.cell 0 rfl 0 rfl
  have z0_1 : x1.cell? ⟨bs, 1, none⟩ = some (.int .i64 tp) := HO.out.cell 0 rfl 1 rfl
  have z0_2 : x1.cell? ⟨bs, 2, none⟩ = some (.int .i64 q) := HO.out.cell 0 rfl 2 rfl
  have z0_3 : x1.cell? ⟨bs, 3, none⟩ = some (.int .i64 0) := HO.out.cell 0 rfl 3 rfl
  have z0_4 : x1.cell? ⟨bs, 4, none⟩ = some (.bool false) := HO.out.cell 0 rfl 4 rfl
  have z0_5 : x1.cell? ⟨bs, 5, none⟩ = some (.bool false) := HO.out.cell 0 rfl 5 rfl
  have z0_6 : x1.cell? ⟨bs, 6, none⟩ = some (.bool false) := HO.out.cell 0 rfl 6 rfl
  have z0_7 : x1.cell? ⟨bs, 7, none⟩ = some (.bool false) := HO.out.cell 0 rfl 7 rfl
  have z0_8 : x1.cell? ⟨bs, 8, none⟩ = some (.int .i64 0) := HO.out.cell 0 rfl 8 rfl
  have z0_9 : x1.cell? ⟨bs, 9, none⟩ = some (.int .i64 0) := HO.out.cell 0 rfl 9 rfl
  have z0_10 : x1.cell? ⟨bs, 10, none⟩ = some (.bool false) := HO.out.cell 0 rfl 10 rfl
  have z0_11 : x1.cell? ⟨bs, 11, none⟩ = some (.slice none 0 0) := HO.out.cell 0 rfl 11 rfl
  have z0_12 : x1.cell? ⟨bs, 12, none⟩ = some (.string d) := HO.out.cell 0 rfl 12 rfl
  obtain ⟨x2, hx2⟩ : ∃ y, x1.alloc (.cells #[.int .i64 0, .int .i64 0, .int .i64 0, .int .i64 0, .int .i64 0] 136) = y := ⟨_, rfl⟩
  obtain ⟨bi, hbi⟩ : ∃ y, x1.heap.size = y := ⟨_, rfl⟩
  have hO := HO.out.alloc (.cells #[.int .i64 0, .int .i64 0, .int .i64 0, .int .i64 0, .int .i64 0] 136)
  rw [hx2, hbi] at hO
  replace HO := Lib.hid (show Own w none0 x2 [blkR bs (.cells #[.int .i64 fp, .int .i64 tp, .int .i64 q, .int .i64 0, .bool false, .bool false, .bool false, .bool false, .int .i64 0, .int .i64 0, .bool false, .slice none 0 0, .string d] 51), blkR bi (.cells #[.int .i64 0, .int .i64 0, .int .i64 0, .int .i64 0, .int .i64 0] 136)] from hO)
  clear hO
  have k1_0_3 : x2.cell? ⟨bi, 0, none⟩ = some (.int .i64 0) := HO.out.cell 1 rfl 0 rfl
  have lk1_0_3 : x2.frozen? ⟨bi, 0, none⟩ = false := HO.out.frz 1 rfl 0
  have k1_1_4 : x2.cell? ⟨bi, 1, none⟩ = some (.int .i64 0) := HO.out.cell 1 rfl 1 rfl
  have lk1_1_4 : x2.frozen? ⟨bi, 1, none⟩ = false := HO.out.frz 1 rfl 1
  have k1_2_5 : x2.cell? ⟨bi, 2, none⟩ = some (.int .i64 0) := HO.out.cell 1 rfl 2 rfl
  have lk1_2_5 : x2.frozen? ⟨bi, 2, none⟩ = false := HO.out.frz 1 rfl 2
  have k1_3_6 : x2.cell? ⟨bi, 3, none⟩ = some (.int .i64 0) := HO.out.cell 1 rfl 3 rfl
  have lk1_3_6 : x2.frozen? ⟨bi, 3, none⟩ = false := HO.out.frz 1 rfl 3
  have k1_4_7 : x2.cell? ⟨bi, 4, none⟩ = some (.int .i64 0) := HO.out.cell 1 rfl 4 rfl
  have lk1_4_7 : x2.frozen? ⟨bi, 4, none⟩ = false := HO.out.frz 1 rfl 4
  obtain ⟨x8, hx8⟩ : ∃ y, x2.setCell ⟨bi, 0, none⟩ (.int .i64 1) = y := ⟨_, rfl⟩
  have hO := HO.out.setCell 1 rfl 0 (.int .i64 1)
  rw [hx8] at hO
  replace HO := Lib.hid (show Own w none0 x8 [blkR bs (.cells #[.int .i64 fp, .int .i64 tp, .int .i64 q, .int .i64 0, .bool false, .bool false, .bool false, .bool false, .int .i64 0, .int .i64 0, .bool false, .slice none 0 0, .string d] 51), blkR bi (.cells #[.int .i64 1, .int .i64 0, .int .i64 0, .int .i64 0, .int .i64 0] 136)] from hO)
  clear hO
  have k1_1_9 : x8.cell? ⟨bi, 1, none⟩ = some (.int .i64 0) := HO.out.cell 1 rfl 1 rfl
  have lk1_1_9 : x8.frozen? ⟨bi, 1, none⟩ = false := HO.out.frz 1 rfl 1
  have k1_2_10 : x8.cell? ⟨bi, 2, none⟩ = some (.int .i64 0) := HO.out.cell 1 rfl 2 rfl
  have lk1_2_10 : x8.frozen? ⟨bi, 2, none⟩ = false := HO.out.frz 1 rfl 2
  have k1_3_11 : x8.cell? ⟨bi, 3, none⟩ = some (.int .i64 0) := HO.out.cell 1 rfl 3 rfl
  have lk1_3_11 : x8.frozen? ⟨bi, 3, none⟩ = false := HO.out.frz 1 rfl 3
  have k1_4_12 : x8.cell? ⟨bi, 4, none⟩ = some (.int .i64 0) := HO.out.cell 1 rfl 4 rfl
  have lk1_4_12 : x8.frozen? ⟨bi, 4, none⟩ = false := HO.out.frz 1 rfl 4
  obtain ⟨x13, hx13⟩ : ∃ y, x8.setCell ⟨bi, 1, none⟩ (.int .i64 2) = y := ⟨_, rfl⟩
  have hO := HO.out.setCell 1 rfl 1 (.int .i64 2)
  rw [hx13] at hO
  replace HO := Lib.hid (show Own w none0 x13 [blkR bs (.cells #[.int .i64 fp, .int .i64 tp, .int .i64 q, .int .i64 0, .bool false, .bool false, .bool false, .bool false, .int .i64 0, .int .i64 0, .bool false, .slice none 0 0, .string d] 51), blkR bi (.cells #[.int .i64 1, .int .i64 2, .int .i64 0, .int .i64 0, .int .i64 0] 136)] from hO)
  clear hO
  have k1_2_14 : x13.cell? ⟨bi, 2, none⟩ = some (.int .i64 0) := HO.out.cell 1 rfl 2 rfl
  have lk1_2_14 : x13.frozen? ⟨bi, 2, none⟩ = false := HO.out.frz 1 rfl 2
  have k1_3_15 : x13.cell? ⟨bi, 3, none⟩ = some (.int .i64 0) := HO.out.cell 1 rfl 3 rfl
  have lk1_3_15 : x13.frozen? ⟨bi, 3, none⟩ = false := HO.out.frz 1 rfl 3
  have k1_4_16 : x13.cell? ⟨bi, 4, none⟩ = some (.int .i64 0) := HO.out.cell 1 rfl 4 rfl
  have lk1_4_16 : x13.frozen? ⟨bi, 4, none⟩ = false := HO.out.frz 1 rfl 4
  obtain ⟨x17, hx17⟩ : ∃ y, x13.setCell ⟨bi, 2, none⟩ (.int .i64 4) = y := ⟨_, rfl⟩
  have hO := HO.out.setCell 1 rfl 2 (.int .i64 4)
  rw [hx17] at hO
  replace HO := Lib.hid (show Own w none0 x17 [blkR bs (.cells #[.int .i64 fp, .int .i64 tp, .int .i64 q, .int .i64 0, .bool false, .bool false, .bool false, .bool false, .int .i64 0, .int .i64 0, .bool false, .slice none 0 0, .string d] 51), blkR bi (.cells #[.int .i64 1, .int .i64 2, .int .i64 4, .int .i64 0, .int .i64 0] 136)] from hO)
  clear hO
  have k1_3_18 : x17.cell? ⟨bi, 3, none⟩ = some (.int .i64 0) := HO.out.cell 1 rfl 3 rfl
  have lk1_3_18 : x17.frozen? ⟨bi, 3, none⟩ = false := HO.out.frz 1 rfl 3
  have k1_4_19 : x17.cell? ⟨bi, 4, none⟩ = some (.int .i64 0) := HO.out.cell 1 rfl 4 rfl
  have lk1_4_19 : x17.frozen? ⟨bi, 4, none⟩ = false := HO.out.frz 1 rfl 4
  obtain ⟨x20, hx20⟩ : ∃ y, x17.setCell ⟨bi, 3, none⟩ (.int .i64 8) = y := ⟨_, rfl⟩
  have hO := HO.out.setCell 1 rfl 3 (.int .i64 8)
  rw [hx20] at hO
  replace HO := Lib.hid (show Own w none0 x20 [blkR bs (.cells #[.int .i64 fp, .int .i64 tp, .int .i64 q, .int .i64 0, .bool false, .bool false, .bool false, .bool false, .int .i64 0, .int .i64 0, .bool false, .slice none 0 0, .string d] 51), blkR bi (.cells #[.int .i64 1, .int .i64 2, .int .i64 4, .int .i64 8, .int .i64 0] 136)] from hO)
  clear hO
  have k1_4_21 : x20.cell? ⟨bi, 4, none⟩ = some (.int .i64 0) := HO.out.cell 1 rfl 4 rfl
  have lk1_4_21 : x20.frozen? ⟨bi, 4, none⟩ = false := HO.out.frz 1 rfl 4
  obtain ⟨x22, hx22⟩ : ∃ y, x20.setCell ⟨bi, 4, none⟩ (.int .i64 16) = y := ⟨_, rfl⟩
  have hO := HO.out.setCell 1 rfl 4 (.int .i64 16)
  rw [hx22] at hO
  replace HO := Lib.hid (show Own w none0 x22 [blkR bs (.cells #[.int .i64 fp, .int .i64 tp, .int .i64 q, .int .i64 0, .bool false, .bool false, .bool false, .bool false, .int .i64 0, .int .i64 0, .bool false, .slice none 0 0, .string d] 51), blkR bi (.cells #[.int .i64 1, .int .i64 2, .int .i64 4, .int .i64 8, .int .i64 16] 136)] from hO)
  clear hO
  have z0_0t : x22.cell? ⟨bs, 0, none⟩ = some (.int .i64 fp) := HO.out.cell 0 rfl 0 rfl
  have z0_1t : x22.cell? ⟨bs, 1, none⟩ = some (.int .i64 tp) := HO.out.cell 0 rfl 1 rfl
  have z0_2t : x22.cell? ⟨bs, 2, none⟩ = some (.int .i64 q) := HO.out.cell 0 rfl 2 rfl
  have z0_3t : x22.cell? ⟨bs, 3, none⟩ = some (.int .i64 0) := HO.out.cell 0 rfl 3 rfl
  have z0_4t : x22.cell? ⟨bs, 4, none⟩ = some (.bool false) := HO.out.cell 0 rfl 4 rfl
  have z0_5t : x22.cell? ⟨bs, 5, none⟩ = some (.bool false) := HO.out.cell 0 rfl 5 rfl
  have z0_6t : x22.cell? ⟨bs, 6, none⟩ = some (.bool false) := HO.out.cell 0 rfl 6 rfl
  have z0_7t : x22.cell? ⟨bs, 7, none⟩ = some (.bool false) := HO.out.cell 0 rfl 7 rfl
  have z0_8t : x22.cell? ⟨bs, 8, none⟩ = some (.int .i64 0) := HO.out.cell 0 rfl 8 rfl
  have z0_9t : x22.cell? ⟨bs, 9, none⟩ = some (.int .i64 0) := HO.out.cell 0 rfl 9 rfl
  have z0_10t : x22.cell? ⟨bs, 10, none⟩ = some (.bool false) := HO.out.cell 0 rfl 10 rfl
  have z0_11t : x22.cell? ⟨bs, 11, none⟩ = some (.slice none 0 0) := HO.out.cell 0 rfl 11 rfl
  have z0_12t : x22.cell? ⟨bs, 12, none⟩ = some (.string d) := HO.out.cell 0 rfl 12 rfl
  go_enter Try.func49, Try.ntmps49
  go_wp2_with fail
  refine (o_still HO.out (sflags_r fp tp q d _)).mono ?_
  rintro e x23 ⟨rfl, hO, -⟩
  replace HO := Lib.hid (show Own w none0 x23 [blkR bs (.cells #[.int .i64 fp, .int .i64 tp, .int .i64 q, .int .i64 0, .bool false, .bool false, .bool false, .bool false, .int .i64 0, .int .i64 0, .bool false, .slice none 0 0, .string d] 51), blkR bi (.cells #[.int .i64 1, .int .i64 2, .int .i64 4, .int .i64 8, .int .i64 16] 136)] from hO)
  clear hO
  clear hx1 hbs z0_0 z0_1 z0_2 z0_3 z0_4 z0_5 z0_6 z0_7 z0_8 z0_9 z0_10 z0_11 z0_12 hx2 hbi k1_0_3 lk1_0_3 k1_1_4 lk1_1_4 k1_2_5 lk1_2_5 k1_3_6 lk1_3_6 k1_4_7 lk1_4_7 hx8 k1_1_9 lk1_1_9 k1_2_10 lk1_2_10 k1_3_11 lk1_3_11 k1_4_12 lk1_4_12 hx13 k1_2_14 lk1_2_14 k1_3_15 lk1_3_15 k1_4_16 lk1_4_16 hx17 k1_3_18 lk1_3_18 k1_4_19 lk1_4_19 hx20 k1_4_21 lk1_4_21 hx22 z0_0t z0_1t z0_2t z0_3t z0_4t z0_5t z0_6t z0_7t z0_8t z0_9t z0_10t z0_11t z0_12t
  go_wp2
  go_loopw [4, 10] (fun sv iv wr => sv = .int .i64 0 ∧ ∃ k : Nat, k ≤ 5 ∧ iv = .int .i64 k ∧ Own w none0 wr [blkR bs (.cells #[.int .i64 fp, .int .i64 tp, .int .i64 q, .int .i64 0, .bool false, .bool false, .bool false, .bool false, .int .i64 0, .int .i64 0, .bool false, .slice none 0 0, .string d] 51), blkR bi (.cells #[.int .i64 1, .int .i64 2, .int .i64 4, .int .i64 8, .int .i64 16] 136)]) (fun sv iv _ => 5 - (intOf iv).toNat)
  case atStart => exact ⟨rfl, 0, by decide, rfl, HO.out⟩
  case round =>
    obtain ⟨rfl, k, hk, rfl, hO⟩ := hrel
    replace HO := Lib.hid hO
    clear hO
    have i0 := ix5_0 wr
    have i1 := ix5_1 wr
    have i2 := ix5_2 wr
    have i3 := ix5_3 wr
    have i4 := ix5_4 wr
    obtain rfl | rfl | rfl | rfl | rfl | rfl : k = 0 ∨ k = 1 ∨ k = 2 ∨ k = 3 ∨ k = 4 ∨ k = 5 := by omega
    · go_wp2
      go_roundw
      case rel => exact ⟨rfl, 1, by decide, rfl, HO.out⟩
      case measure => simp [intOf]
    · go_wp2
      go_roundw
      case rel => exact ⟨rfl, 2, by decide, rfl, HO.out⟩
      case measure => simp [intOf]
    · go_wp2
      go_roundw
      case rel => exact ⟨rfl, 3, by decide, rfl, HO.out⟩
      case measure => simp [intOf]
    · go_wp2
      go_roundw
      case rel => exact ⟨rfl, 4, by decide, rfl, HO.out⟩
      case measure => simp [intOf]
    · go_wp2
      go_roundw
      case rel => exact ⟨rfl, 5, by decide, rfl, HO.out⟩
      case measure => simp [intOf]
    · go_wp2
      go_ret
      exact ⟨rfl, HO.out.below⟩
/-- The bytes of a segment without flags and blocks. -/
def segB (fp tp q sum : Int) (d : ByteArray) : List UInt8 := putL 2 [fp, tp] ++ putL 4 [q, 0] ++ putL 1 [0, 0] ++ putL 2 [0, 0, sum] ++ d.data.toList
theorem in2 {P : Int → Prop} {a b : Int} (ha : P a) (hb : P b) : ∀ n ∈ [a, b], P n := by
  intro n hn
  rcases List.mem_cons.1 hn with rfl | hn
  · exact ha
  · rw [List.mem_singleton.1 hn]; exact hb
theorem in3 {P : Int → Prop} {a b c : Int} (ha : P a) (hb : P b) (hc : P c) : ∀ n ∈ [a, b, c], P n := by
  intro n hn
  rcases List.mem_cons.1 hn with rfl | hn
  · exact ha
  · exact in2 hb hc n hn
theorem putS (K : Nat) (ns : List Int) (N : Nat) (h : ns.length * K = N) : ∃ s : ByteArray, (⟨(putL K ns).toArray⟩ : ByteArray) = s ∧ s.data.toList = putL K ns ∧ s.data.toList.length = N ∧ s.size = N :=
  ⟨_, rfl, rfl, by rw [bytes_mk, putL_len, h], by rw [bytes_sz, putL_len, h]⟩
set_option maxRecDepth 100000 in
set_option maxHeartbeats 4000000 in
theorem swrite_r (fp tp q sum : Int) (d : ByteArray) (w : World) (p0 : 1 ≤ fp) (p1 : fp ≤ 65535) (p2 : 1 ≤ tp) (p3 : tp ≤ 65535) (q0 : 0 ≤ q) (q1 : q ≤ 4294967295) (s0 : 0 ≤ sum) (s1 : sum ≤ 65535) (hd : d.size ≤ 1024) : Calls Try.prog 30 #[.agg (sgC fp tp q d), .int .i64 sum] w fun e w' => e = .returned (.string ⟨(segB fp tp q sum d).toArray⟩) ∧ Below w.heap.size w w' := by
  have HO := Lib.hid (Own.nil w none0)
  unfold sgC
  have P1 := Lib.hid (sput 2 (by decide) [fp, tp] 2 rfl (by decide) (by decide) (in2 (fun w => put_2 fp w (by omega) (by omega)) (fun w => put_2 tp w (by omega) (by omega))))
  have P2 := Lib.hid (sput 4 (by decide) [q, 0] 2 rfl (by decide) (by decide) (in2 (fun w => put_4 q w (by omega) (by omega)) (fun w => put_4 0 w (by omega) (by omega))))
  have P3 := Lib.hid (sput 1 (by decide) [0, 0] 2 rfl (by decide) (by decide) (in2 (fun w => put_1 0 w (by omega) (by omega)) (fun w => put_1 0 w (by omega) (by omega))))
  have P4 := Lib.hid (sput 2 (by decide) [0, 0, sum] 3 rfl (by decide) (by decide) (in3 (fun w => put_2 0 w (by omega) (by omega)) (fun w => put_2 0 w (by omega) (by omega)) (fun w => put_2 sum w (by omega) (by omega))))
  have HG := Lib.hid (show segB fp tp q sum d = putL 2 [fp, tp] ++ putL 4 [q, 0] ++ putL 1 [0, 0] ++ putL 2 [0, 0, sum] ++ d.data.toList from rfl)
  obtain ⟨e1, E1, a1⟩ := putS 2 [fp, tp] 4 rfl
  obtain ⟨e2, E2, a2⟩ := putS 4 [q, 0] 8 rfl
  obtain ⟨e3, E3, a3⟩ := putS 1 [0, 0] 2 rfl
  obtain ⟨e4, E4, a4⟩ := putS 2 [0, 0, sum] 6 rfl
  rw [E1] at P1
  rw [E2] at P2
  rw [E3] at P3
  rw [E4] at P4
  rw [← a1.1, ← a2.1, ← a3.1, ← a4.1] at HG
  simp only [List.append_assoc] at HG
  have A1 := Lib.hid a1
  have A2 := Lib.hid a2
  have A3 := Lib.hid a3
  have A4 := Lib.hid a4
  have A5 := Lib.hid (show d.size ≤ 1024 ∧ d.data.toList.length = d.size from ⟨hd, (Lib.size_eq d).symm⟩)
  rw [HG.out]
  clear a1 a2 a3 a4 E1 E2 E3 E4 HG p0 p1 p2 p3 q0 q1 s0 s1 hd
  obtain ⟨x1, hx1⟩ : ∃ y, w.alloc (.cells #[.int .i64 fp, .int .i64 tp, .int .i64 q, .int .i64 0, .bool false, .bool false, .bool false, .bool false, .int .i64 0, .int .i64 0, .bool false, .slice none 0 0, .string d] 51) = y := ⟨_, rfl⟩
  obtain ⟨bs, hbs⟩ : ∃ y, w.heap.size = y := ⟨_, rfl⟩
  have hO := HO.out.alloc (.cells #[.int .i64 fp, .int .i64 tp, .int .i64 q, .int .i64 0, .bool false, .bool false, .bool false, .bool false, .int .i64 0, .int .i64 0, .bool false, .slice none 0 0, .string d] 51)
  rw [hx1, hbs] at hO
  replace HO := Lib.hid (show Own w none0 x1 [blkR bs (.cells #[.int .i64 fp, .int .i64 tp, .int .i64 q, .int .i64 0, .bool false, .bool false, .bool false, .bool false, .int .i64 0, .int .i64 0, .bool false, .slice none 0 0, .string d] 51)] from hO)
  clear hO
  obtain ⟨x2, hx2⟩ : ∃ y, x1.alloc (.cells #[.pointer none, .slice none 0 0] 115) = y := ⟨_, rfl⟩
  obtain ⟨bb, hbb⟩ : ∃ y, x1.heap.size = y := ⟨_, rfl⟩
  have hO := newBb HO.out
  rw [hx2, hbb] at hO
  replace HO := Lib.hid (show Own w none0 x2 [blkR bs (.cells #[.int .i64 fp, .int .i64 tp, .int .i64 q, .int .i64 0, .bool false, .bool false, .bool false, .bool false, .int .i64 0, .int .i64 0, .bool false, .slice none 0 0, .string d] 51), resB bb []] from hO)
  clear hO
  have z0_0 : x2.cell? ⟨bs, 0, none⟩ = some (.int .i64 fp) := HO.out.cell 0 rfl 0 rfl
  have z0_1 : x2.cell? ⟨bs, 1, none⟩ = some (.int .i64 tp) := HO.out.cell 0 rfl 1 rfl
  have z0_2 : x2.cell? ⟨bs, 2, none⟩ = some (.int .i64 q) := HO.out.cell 0 rfl 2 rfl
  have z0_3 : x2.cell? ⟨bs, 3, none⟩ = some (.int .i64 0) := HO.out.cell 0 rfl 3 rfl
  have z0_4 : x2.cell? ⟨bs, 4, none⟩ = some (.bool false) := HO.out.cell 0 rfl 4 rfl
  have z0_5 : x2.cell? ⟨bs, 5, none⟩ = some (.bool false) := HO.out.cell 0 rfl 5 rfl
  have z0_6 : x2.cell? ⟨bs, 6, none⟩ = some (.bool false) := HO.out.cell 0 rfl 6 rfl
  have z0_7 : x2.cell? ⟨bs, 7, none⟩ = some (.bool false) := HO.out.cell 0 rfl 7 rfl
  have z0_8 : x2.cell? ⟨bs, 8, none⟩ = some (.int .i64 0) := HO.out.cell 0 rfl 8 rfl
  have z0_9 : x2.cell? ⟨bs, 9, none⟩ = some (.int .i64 0) := HO.out.cell 0 rfl 9 rfl
  have z0_10 : x2.cell? ⟨bs, 10, none⟩ = some (.bool false) := HO.out.cell 0 rfl 10 rfl
  have z0_11 : x2.cell? ⟨bs, 11, none⟩ = some (.slice none 0 0) := HO.out.cell 0 rfl 11 rfl
  have z0_12 : x2.cell? ⟨bs, 12, none⟩ = some (.string d) := HO.out.cell 0 rfl 12 rfl
  go_enter Try.func30, Try.ntmps30
  obtain ⟨x3, hx3⟩ : ∃ y, x2.alloc (.cells #[.int .i64 fp, .int .i64 tp] 3) = y := ⟨_, rfl⟩
  obtain ⟨r1, hr1⟩ : ∃ y, x2.heap.size = y := ⟨_, rfl⟩
  have hO := HO.out.alloc (.cells #[.int .i64 fp, .int .i64 tp] 3)
  rw [hx3, hr1] at hO
  replace HO := Lib.hid (show Own w none0 x3 [blkR bs (.cells #[.int .i64 fp, .int .i64 tp, .int .i64 q, .int .i64 0, .bool false, .bool false, .bool false, .bool false, .int .i64 0, .int .i64 0, .bool false, .slice none 0 0, .string d] 51), resB bb [], blkR r1 (.cells #[.int .i64 fp, .int .i64 tp] 3)] from hO)
  clear hO
  go_wp2_with fail
  refine (o_still HO.out (P1.out _ r1 (HO.out.blk 2 rfl))).mono ?_
  rintro e x4 ⟨rfl, hO, -⟩
  replace HO := Lib.hid (show Own w none0 x4 [blkR bs (.cells #[.int .i64 fp, .int .i64 tp, .int .i64 q, .int .i64 0, .bool false, .bool false, .bool false, .bool false, .int .i64 0, .int .i64 0, .bool false, .slice none 0 0, .string d] 51), resB bb [], blkR r1 (.cells #[.int .i64 fp, .int .i64 tp] 3)] from hO)
  clear hO
  clear hx1 hbs hx2 hbb z0_0 z0_1 z0_2 z0_3 z0_4 z0_5 z0_6 z0_7 z0_8 z0_9 z0_10 z0_11 z0_12 hx3 hr1
  go_wp2_with fail
  refine (writeStrB e1 HO.out 1 rfl (by simp only [List.length_nil]; have h1 := A1.out.2; have h2 := A2.out.2; have h3 := A3.out.2; have h4 := A4.out.2; have h5 := A5.out; omega)).mono ?_
  rintro e x5 ⟨rfl, hO, -⟩
  replace HO := Lib.hid (show Own w none0 x5 [blkR bs (.cells #[.int .i64 fp, .int .i64 tp, .int .i64 q, .int .i64 0, .bool false, .bool false, .bool false, .bool false, .int .i64 0, .int .i64 0, .bool false, .slice none 0 0, .string d] 51), resB bb ([] ++ e1.data.toList), blkR r1 (.cells #[.int .i64 fp, .int .i64 tp] 3)] from hO)
  clear hO
  have z0_0 : x5.cell? ⟨bs, 0, none⟩ = some (.int .i64 fp) := HO.out.cell 0 rfl 0 rfl
  have z0_1 : x5.cell? ⟨bs, 1, none⟩ = some (.int .i64 tp) := HO.out.cell 0 rfl 1 rfl
  have z0_2 : x5.cell? ⟨bs, 2, none⟩ = some (.int .i64 q) := HO.out.cell 0 rfl 2 rfl
  have z0_3 : x5.cell? ⟨bs, 3, none⟩ = some (.int .i64 0) := HO.out.cell 0 rfl 3 rfl
  have z0_4 : x5.cell? ⟨bs, 4, none⟩ = some (.bool false) := HO.out.cell 0 rfl 4 rfl
  have z0_5 : x5.cell? ⟨bs, 5, none⟩ = some (.bool false) := HO.out.cell 0 rfl 5 rfl
  have z0_6 : x5.cell? ⟨bs, 6, none⟩ = some (.bool false) := HO.out.cell 0 rfl 6 rfl
  have z0_7 : x5.cell? ⟨bs, 7, none⟩ = some (.bool false) := HO.out.cell 0 rfl 7 rfl
  have z0_8 : x5.cell? ⟨bs, 8, none⟩ = some (.int .i64 0) := HO.out.cell 0 rfl 8 rfl
  have z0_9 : x5.cell? ⟨bs, 9, none⟩ = some (.int .i64 0) := HO.out.cell 0 rfl 9 rfl
  have z0_10 : x5.cell? ⟨bs, 10, none⟩ = some (.bool false) := HO.out.cell 0 rfl 10 rfl
  have z0_11 : x5.cell? ⟨bs, 11, none⟩ = some (.slice none 0 0) := HO.out.cell 0 rfl 11 rfl
  have z0_12 : x5.cell? ⟨bs, 12, none⟩ = some (.string d) := HO.out.cell 0 rfl 12 rfl
  obtain ⟨x6, hx6⟩ : ∃ y, x5.alloc (.cells #[.int .i64 q, .int .i64 0] 3) = y := ⟨_, rfl⟩
  obtain ⟨r2, hr2⟩ : ∃ y, x5.heap.size = y := ⟨_, rfl⟩
  have hO := HO.out.alloc (.cells #[.int .i64 q, .int .i64 0] 3)
  rw [hx6, hr2] at hO
  replace HO := Lib.hid (show Own w none0 x6 [blkR bs (.cells #[.int .i64 fp, .int .i64 tp, .int .i64 q, .int .i64 0, .bool false, .bool false, .bool false, .bool false, .int .i64 0, .int .i64 0, .bool false, .slice none 0 0, .string d] 51), resB bb ([] ++ e1.data.toList), blkR r1 (.cells #[.int .i64 fp, .int .i64 tp] 3), blkR r2 (.cells #[.int .i64 q, .int .i64 0] 3)] from hO)
  clear hO
  go_wp2_with fail
  refine (o_still HO.out (P2.out _ r2 (HO.out.blk 3 rfl))).mono ?_
  rintro e x7 ⟨rfl, hO, -⟩
  replace HO := Lib.hid (show Own w none0 x7 [blkR bs (.cells #[.int .i64 fp, .int .i64 tp, .int .i64 q, .int .i64 0, .bool false, .bool false, .bool false, .bool false, .int .i64 0, .int .i64 0, .bool false, .slice none 0 0, .string d] 51), resB bb ([] ++ e1.data.toList), blkR r1 (.cells #[.int .i64 fp, .int .i64 tp] 3), blkR r2 (.cells #[.int .i64 q, .int .i64 0] 3)] from hO)
  clear hO
  clear z0_0 z0_1 z0_2 z0_3 z0_4 z0_5 z0_6 z0_7 z0_8 z0_9 z0_10 z0_11 z0_12 hx6 hr2
  go_wp2_with fail
  refine (writeStrB e2 HO.out 1 rfl (by simp only [List.length_append, List.length_nil]; have h1 := A1.out.2; have h2 := A2.out.2; have h3 := A3.out.2; have h4 := A4.out.2; have h5 := A5.out; omega)).mono ?_
  rintro e x8 ⟨rfl, hO, -⟩
  replace HO := Lib.hid (show Own w none0 x8 [blkR bs (.cells #[.int .i64 fp, .int .i64 tp, .int .i64 q, .int .i64 0, .bool false, .bool false, .bool false, .bool false, .int .i64 0, .int .i64 0, .bool false, .slice none 0 0, .string d] 51), resB bb (([] ++ e1.data.toList) ++ e2.data.toList), blkR r1 (.cells #[.int .i64 fp, .int .i64 tp] 3), blkR r2 (.cells #[.int .i64 q, .int .i64 0] 3)] from hO)
  clear hO
  go_wp2
  have g0_0 := cell_regrown (show x8.cell? ⟨bs, 0, none⟩ = some (.int .i64 fp) from HO.out.cell 0 rfl 0 rfl)
  have g0_1 := cell_regrown (show x8.cell? ⟨bs, 1, none⟩ = some (.int .i64 tp) from HO.out.cell 0 rfl 1 rfl)
  have g0_2 := cell_regrown (show x8.cell? ⟨bs, 2, none⟩ = some (.int .i64 q) from HO.out.cell 0 rfl 2 rfl)
  have g0_3 := cell_regrown (show x8.cell? ⟨bs, 3, none⟩ = some (.int .i64 0) from HO.out.cell 0 rfl 3 rfl)
  have g0_4 := cell_regrown (show x8.cell? ⟨bs, 4, none⟩ = some (.bool false) from HO.out.cell 0 rfl 4 rfl)
  have g0_5 := cell_regrown (show x8.cell? ⟨bs, 5, none⟩ = some (.bool false) from HO.out.cell 0 rfl 5 rfl)
  have g0_6 := cell_regrown (show x8.cell? ⟨bs, 6, none⟩ = some (.bool false) from HO.out.cell 0 rfl 6 rfl)
  have g0_7 := cell_regrown (show x8.cell? ⟨bs, 7, none⟩ = some (.bool false) from HO.out.cell 0 rfl 7 rfl)
  have g0_8 := cell_regrown (show x8.cell? ⟨bs, 8, none⟩ = some (.int .i64 0) from HO.out.cell 0 rfl 8 rfl)
  have g0_9 := cell_regrown (show x8.cell? ⟨bs, 9, none⟩ = some (.int .i64 0) from HO.out.cell 0 rfl 9 rfl)
  have g0_10 := cell_regrown (show x8.cell? ⟨bs, 10, none⟩ = some (.bool false) from HO.out.cell 0 rfl 10 rfl)
  have g0_11 := cell_regrown (show x8.cell? ⟨bs, 11, none⟩ = some (.slice none 0 0) from HO.out.cell 0 rfl 11 rfl)
  have g0_12 := cell_regrown (show x8.cell? ⟨bs, 12, none⟩ = some (.string d) from HO.out.cell 0 rfl 12 rfl)
  refine wp_region_R 7 (by kernel_rfl) (by kernel_rfl) ?_
  simp only [List.take, List.drop]
  iterate 1 (first | (refine wpR_want (by kernel_rfl) rfl rfl ?_; intro K hK; go_big_quiet_op; go_big_quiet_on) | (refine wpR_is (by kernel_rfl) rfl _ (fun w _ => rfl) ?_; simp only [Act.put, List.setIfInBounds_toArray, List.set_cons_succ, List.set_cons_zero]))
  refine wpR_call (by kernel_rfl) rfl 49 #[.agg #[.int .i64 fp, .int .i64 tp, .int .i64 q, .int .i64 0, .bool false, .bool false, .bool false, .bool false, .int .i64 0, .int .i64 0, .bool false, .slice none 0 0, .string d]] (.int .i64 0) (fun w => by simp [go_sem]) (fun w _ => sfbyte_r fp tp q d w) ?_
  simp only [Act.put, List.setIfInBounds_toArray, List.set_cons_succ, List.set_cons_zero]
  iterate 3 (first | (refine wpR_want (by kernel_rfl) rfl rfl ?_; intro K hK; go_big_quiet_op; go_big_quiet_on) | (refine wpR_is (by kernel_rfl) rfl _ (fun w _ => rfl) ?_; simp only [Act.put, List.setIfInBounds_toArray, List.set_cons_succ, List.set_cons_zero]))
  refine wpR_ex (rowOf 2 #[.int .i64 0, .int .i64 0] 3) (rowOf_lasts _ _ _) (by kernel_rfl) (fun a' w' hw' he => ?_) (fun d hd => ?_)
  · obtain ⟨h23, h26, _⟩ := he
    have h23' : a'.tmps[23]?.getD undef = .int .i64 0 := by rw [← Array.getD_eq_getD_getElem?]; exact h23
    have h26' : a'.tmps[26]?.getD undef = .int .i64 0 := by rw [← Array.getD_eq_getD_getElem?]; exact h26
    clear h23 h26 g0_0 g0_1 g0_2 g0_3 g0_4 g0_5 g0_6 g0_7 g0_8 g0_9 g0_10 g0_11 g0_12
    simp [go_sem, h23', h26']
    exact ⟨_, rfl, (Below.refl _ _).alloc (Nat.le_refl _) _, ⟨w'.heap.size, rfl, new_block _ _⟩⟩
  cases hd
  simp only [List.nil_append]
  refine wpR_known (.string e3) (by kernel_rfl) (fun a' w' hw' he => ?_) ?_
  · obtain ⟨⟨tb, hta, htb⟩, _⟩ := he
    have hta' : a'.tmps[27]?.getD undef = .slice (some ⟨tb, 0, none⟩) 2 2 := by rw [← Array.getD_eq_getD_getElem?]; exact hta
    clear hta g0_0 g0_1 g0_2 g0_3 g0_4 g0_5 g0_6 g0_7 g0_8 g0_9 g0_10 g0_11 g0_12
    refine wp_of_callS (K := fun v w1 => v = .string e3 ∧ Below w'.heap.size w' w1) (f := 32) (args := #[.int .i64 1, .slice (some ⟨tb, 0, none⟩) 2 2]) (by simp [go_sem, hta']) ((P3.out w' tb htb).mono fun e w1 h => ⟨.string e3, h.1, rfl, h.2⟩) ?_
    rintro v w1 ⟨hv, hb⟩
    cases hv
    exact ⟨rfl, hb⟩
  simp only [Act.put, List.setIfInBounds_toArray, List.set_cons_succ, List.set_cons_zero]
  refine wpR_nil (by kernel_rfl) (by simp) ?_
  rintro xg hbw
  simp only [exAll]
  rintro u27 -
  simp only [Act.put, List.setIfInBounds_toArray, List.set_cons_succ, List.set_cons_zero, List.drop]
  have hO := HO.out.stay hbw
  replace HO := Lib.hid (show Own w none0 xg [blkR bs (.cells #[.int .i64 fp, .int .i64 tp, .int .i64 q, .int .i64 0, .bool false, .bool false, .bool false, .bool false, .int .i64 0, .int .i64 0, .bool false, .slice none 0 0, .string d] 51), resB bb (([] ++ e1.data.toList) ++ e2.data.toList), blkR r1 (.cells #[.int .i64 fp, .int .i64 tp] 3), blkR r2 (.cells #[.int .i64 q, .int .i64 0] 3)] from hO)
  clear hO hbw g0_0 g0_1 g0_2 g0_3 g0_4 g0_5 g0_6 g0_7 g0_8 g0_9 g0_10 g0_11 g0_12 
  go_wp2_with fail
  refine (writeStrB e3 HO.out 1 rfl (by simp only [List.length_append, List.length_nil]; have h1 := A1.out.2; have h2 := A2.out.2; have h3 := A3.out.2; have h4 := A4.out.2; have h5 := A5.out; omega)).mono ?_
  rintro e x59 ⟨rfl, hO, -⟩
  replace HO := Lib.hid (show Own w none0 x59 [blkR bs (.cells #[.int .i64 fp, .int .i64 tp, .int .i64 q, .int .i64 0, .bool false, .bool false, .bool false, .bool false, .int .i64 0, .int .i64 0, .bool false, .slice none 0 0, .string d] 51), resB bb ((([] ++ e1.data.toList) ++ e2.data.toList) ++ e3.data.toList), blkR r1 (.cells #[.int .i64 fp, .int .i64 tp] 3), blkR r2 (.cells #[.int .i64 q, .int .i64 0] 3)] from hO)
  clear hO
  have z0_0 : x59.cell? ⟨bs, 0, none⟩ = some (.int .i64 fp) := HO.out.cell 0 rfl 0 rfl
  have z0_1 : x59.cell? ⟨bs, 1, none⟩ = some (.int .i64 tp) := HO.out.cell 0 rfl 1 rfl
  have z0_2 : x59.cell? ⟨bs, 2, none⟩ = some (.int .i64 q) := HO.out.cell 0 rfl 2 rfl
  have z0_3 : x59.cell? ⟨bs, 3, none⟩ = some (.int .i64 0) := HO.out.cell 0 rfl 3 rfl
  have z0_4 : x59.cell? ⟨bs, 4, none⟩ = some (.bool false) := HO.out.cell 0 rfl 4 rfl
  have z0_5 : x59.cell? ⟨bs, 5, none⟩ = some (.bool false) := HO.out.cell 0 rfl 5 rfl
  have z0_6 : x59.cell? ⟨bs, 6, none⟩ = some (.bool false) := HO.out.cell 0 rfl 6 rfl
  have z0_7 : x59.cell? ⟨bs, 7, none⟩ = some (.bool false) := HO.out.cell 0 rfl 7 rfl
  have z0_8 : x59.cell? ⟨bs, 8, none⟩ = some (.int .i64 0) := HO.out.cell 0 rfl 8 rfl
  have z0_9 : x59.cell? ⟨bs, 9, none⟩ = some (.int .i64 0) := HO.out.cell 0 rfl 9 rfl
  have z0_10 : x59.cell? ⟨bs, 10, none⟩ = some (.bool false) := HO.out.cell 0 rfl 10 rfl
  have z0_11 : x59.cell? ⟨bs, 11, none⟩ = some (.slice none 0 0) := HO.out.cell 0 rfl 11 rfl
  have z0_12 : x59.cell? ⟨bs, 12, none⟩ = some (.string d) := HO.out.cell 0 rfl 12 rfl
  obtain ⟨x60, hx60⟩ : ∃ y, x59.alloc (.cells #[.int .i64 0, .int .i64 0, .int .i64 sum] 3) = y := ⟨_, rfl⟩
  obtain ⟨r4, hr4⟩ : ∃ y, x59.heap.size = y := ⟨_, rfl⟩
  have hO := HO.out.alloc (.cells #[.int .i64 0, .int .i64 0, .int .i64 sum] 3)
  rw [hx60, hr4] at hO
  replace HO := Lib.hid (show Own w none0 x60 [blkR bs (.cells #[.int .i64 fp, .int .i64 tp, .int .i64 q, .int .i64 0, .bool false, .bool false, .bool false, .bool false, .int .i64 0, .int .i64 0, .bool false, .slice none 0 0, .string d] 51), resB bb ((([] ++ e1.data.toList) ++ e2.data.toList) ++ e3.data.toList), blkR r1 (.cells #[.int .i64 fp, .int .i64 tp] 3), blkR r2 (.cells #[.int .i64 q, .int .i64 0] 3), blkR r4 (.cells #[.int .i64 0, .int .i64 0, .int .i64 sum] 3)] from hO)
  clear hO
  go_wp2_with fail
  refine (o_still HO.out (P4.out _ r4 (HO.out.blk 4 rfl))).mono ?_
  rintro e x61 ⟨rfl, hO, -⟩
  replace HO := Lib.hid (show Own w none0 x61 [blkR bs (.cells #[.int .i64 fp, .int .i64 tp, .int .i64 q, .int .i64 0, .bool false, .bool false, .bool false, .bool false, .int .i64 0, .int .i64 0, .bool false, .slice none 0 0, .string d] 51), resB bb ((([] ++ e1.data.toList) ++ e2.data.toList) ++ e3.data.toList), blkR r1 (.cells #[.int .i64 fp, .int .i64 tp] 3), blkR r2 (.cells #[.int .i64 q, .int .i64 0] 3), blkR r4 (.cells #[.int .i64 0, .int .i64 0, .int .i64 sum] 3)] from hO)
  clear hO
  clear z0_0 z0_1 z0_2 z0_3 z0_4 z0_5 z0_6 z0_7 z0_8 z0_9 z0_10 z0_11 z0_12 hx60 hr4
  go_wp2_with fail
  refine (writeStrB e4 HO.out 1 rfl (by simp only [List.length_append, List.length_nil]; have h1 := A1.out.2; have h2 := A2.out.2; have h3 := A3.out.2; have h4 := A4.out.2; have h5 := A5.out; omega)).mono ?_
  rintro e x62 ⟨rfl, hO, -⟩
  replace HO := Lib.hid (show Own w none0 x62 [blkR bs (.cells #[.int .i64 fp, .int .i64 tp, .int .i64 q, .int .i64 0, .bool false, .bool false, .bool false, .bool false, .int .i64 0, .int .i64 0, .bool false, .slice none 0 0, .string d] 51), resB bb (((([] ++ e1.data.toList) ++ e2.data.toList) ++ e3.data.toList) ++ e4.data.toList), blkR r1 (.cells #[.int .i64 fp, .int .i64 tp] 3), blkR r2 (.cells #[.int .i64 q, .int .i64 0] 3), blkR r4 (.cells #[.int .i64 0, .int .i64 0, .int .i64 sum] 3)] from hO)
  clear hO
  have z0_0 : x62.cell? ⟨bs, 0, none⟩ = some (.int .i64 fp) := HO.out.cell 0 rfl 0 rfl
  have z0_1 : x62.cell? ⟨bs, 1, none⟩ = some (.int .i64 tp) := HO.out.cell 0 rfl 1 rfl
  have z0_2 : x62.cell? ⟨bs, 2, none⟩ = some (.int .i64 q) := HO.out.cell 0 rfl 2 rfl
  have z0_3 : x62.cell? ⟨bs, 3, none⟩ = some (.int .i64 0) := HO.out.cell 0 rfl 3 rfl
  have z0_4 : x62.cell? ⟨bs, 4, none⟩ = some (.bool false) := HO.out.cell 0 rfl 4 rfl
  have z0_5 : x62.cell? ⟨bs, 5, none⟩ = some (.bool false) := HO.out.cell 0 rfl 5 rfl
  have z0_6 : x62.cell? ⟨bs, 6, none⟩ = some (.bool false) := HO.out.cell 0 rfl 6 rfl
  have z0_7 : x62.cell? ⟨bs, 7, none⟩ = some (.bool false) := HO.out.cell 0 rfl 7 rfl
  have z0_8 : x62.cell? ⟨bs, 8, none⟩ = some (.int .i64 0) := HO.out.cell 0 rfl 8 rfl
  have z0_9 : x62.cell? ⟨bs, 9, none⟩ = some (.int .i64 0) := HO.out.cell 0 rfl 9 rfl
  have z0_10 : x62.cell? ⟨bs, 10, none⟩ = some (.bool false) := HO.out.cell 0 rfl 10 rfl
  have z0_11 : x62.cell? ⟨bs, 11, none⟩ = some (.slice none 0 0) := HO.out.cell 0 rfl 11 rfl
  have z0_12 : x62.cell? ⟨bs, 12, none⟩ = some (.string d) := HO.out.cell 0 rfl 12 rfl
  go_wp2
  go_loopw [41] (fun iv wr => iv = .int .i64 0 ∧ Own w none0 wr [blkR bs (.cells #[.int .i64 fp, .int .i64 tp, .int .i64 q, .int .i64 0, .bool false, .bool false, .bool false, .bool false, .int .i64 0, .int .i64 0, .bool false, .slice none 0 0, .string d] 51), resB bb (((([] ++ e1.data.toList) ++ e2.data.toList) ++ e3.data.toList) ++ e4.data.toList), blkR r1 (.cells #[.int .i64 fp, .int .i64 tp] 3), blkR r2 (.cells #[.int .i64 q, .int .i64 0] 3), blkR r4 (.cells #[.int .i64 0, .int .i64 0, .int .i64 sum] 3)]) (fun iv _ => 0)
  case atStart => exact ⟨rfl, HO.out⟩
  case round =>
    obtain ⟨rfl, hO⟩ := hrel
    replace HO := Lib.hid hO
    clear hO
    clear z0_0 z0_1 z0_2 z0_3 z0_4 z0_5 z0_6 z0_7 z0_8 z0_9 z0_10 z0_11 z0_12
    have z0_0 : wr.cell? ⟨bs, 0, none⟩ = some (.int .i64 fp) := HO.out.cell 0 rfl 0 rfl
    have z0_1 : wr.cell? ⟨bs, 1, none⟩ = some (.int .i64 tp) := HO.out.cell 0 rfl 1 rfl
    have z0_2 : wr.cell? ⟨bs, 2, none⟩ = some (.int .i64 q) := HO.out.cell 0 rfl 2 rfl
    have z0_3 : wr.cell? ⟨bs, 3, none⟩ = some (.int .i64 0) := HO.out.cell 0 rfl 3 rfl
    have z0_4 : wr.cell? ⟨bs, 4, none⟩ = some (.bool false) := HO.out.cell 0 rfl 4 rfl
    have z0_5 : wr.cell? ⟨bs, 5, none⟩ = some (.bool false) := HO.out.cell 0 rfl 5 rfl
    have z0_6 : wr.cell? ⟨bs, 6, none⟩ = some (.bool false) := HO.out.cell 0 rfl 6 rfl
    have z0_7 : wr.cell? ⟨bs, 7, none⟩ = some (.bool false) := HO.out.cell 0 rfl 7 rfl
    have z0_8 : wr.cell? ⟨bs, 8, none⟩ = some (.int .i64 0) := HO.out.cell 0 rfl 8 rfl
    have z0_9 : wr.cell? ⟨bs, 9, none⟩ = some (.int .i64 0) := HO.out.cell 0 rfl 9 rfl
    have z0_10 : wr.cell? ⟨bs, 10, none⟩ = some (.bool false) := HO.out.cell 0 rfl 10 rfl
    have z0_11 : wr.cell? ⟨bs, 11, none⟩ = some (.slice none 0 0) := HO.out.cell 0 rfl 11 rfl
    have z0_12 : wr.cell? ⟨bs, 12, none⟩ = some (.string d) := HO.out.cell 0 rfl 12 rfl
    go_wp2_with fail
    refine (writeStrB d HO.out 1 rfl (by simp only [List.length_append, List.length_nil]; have h1 := A1.out.2; have h2 := A2.out.2; have h3 := A3.out.2; have h4 := A4.out.2; have h5 := A5.out; omega)).mono ?_
    rintro e x63 ⟨rfl, hO, -⟩
    replace HO := Lib.hid (show Own w none0 x63 [blkR bs (.cells #[.int .i64 fp, .int .i64 tp, .int .i64 q, .int .i64 0, .bool false, .bool false, .bool false, .bool false, .int .i64 0, .int .i64 0, .bool false, .slice none 0 0, .string d] 51), resB bb ((((([] ++ e1.data.toList) ++ e2.data.toList) ++ e3.data.toList) ++ e4.data.toList) ++ d.data.toList), blkR r1 (.cells #[.int .i64 fp, .int .i64 tp] 3), blkR r2 (.cells #[.int .i64 q, .int .i64 0] 3), blkR r4 (.cells #[.int .i64 0, .int .i64 0, .int .i64 sum] 3)] from hO)
    clear hO
    clear z0_0 z0_1 z0_2 z0_3 z0_4 z0_5 z0_6 z0_7 z0_8 z0_9 z0_10 z0_11 z0_12
    simp only [List.nil_append] at HO
    go_wp2_with fail
    refine (bStringB HO.out 1 rfl (by simp only [List.length_append]; have h1 := A1.out.2; have h2 := A2.out.2; have h3 := A3.out.2; have h4 := A4.out.2; have h5 := A5.out; omega) (fun h => by have h1 := congrArg List.length h; simp only [List.length_append, List.length_nil] at h1; have := A1.out.2; omega)).mono ?_
    rintro e xz ⟨rfl, hO, -⟩
    go_wp2
    go_ret
    exact ⟨rfl, hO.below⟩
end Go.Proofs.Ytjngfhgcifhioaa
