/- Contract of expire. Printed by wip/tools/gen22c.py. -/
import Derived.Test.YtjngfhgcifhioaaFw2
import Derived.Test.YtjngfhgcifhioaaFexp
namespace Go.Proofs.Ytjngfhgcifhioaa
open Go.RowKit Go.Sort
set_option linter.unusedVariables false
set_option maxRecDepth 100000

/-- Times that the filter can bear. -/
def timeB (n : Int) : Prop := 0 ≤ n ∧ n ≤ 1000000000
structure FI (st : FSt) : Prop where
  nd : (keysU st.m).Nodup
  tm : ∀ x ∈ st.m, timeB x.2.la
  ins : timeB st.ins
  rl : st.rl.length ≤ 1000
section
variable {w0 w : World} {D : Nat → Prop} {L : List Res} {f : Nat} {st : FSt}
set_option maxRecDepth 100000 in
set_option maxHeartbeats 4000000 in
theorem expire_o {now : Int} (h : Own w0 D w L) (i : Nat) (hi : L[i]? = some (resF f st)) (hI : FI st) (hnow : timeB now) :
    Calls Try.prog 40 #[.pointer (some ⟨f, 0, none⟩), .int .i64 now] w (OPost w0 D (L.set i (resF f { st with m := expF now st.m })) (.tuple #[]) w) := by
  refine o_one h hi fun D HO0 => ?_
  clear h hi
  obtain ⟨vr, om, HO0⟩ := openF HO0
  obtain ⟨rl, m, ins⟩ := st
  obtain ⟨nw0, nw1⟩ := hnow
  simp only at HO0
  rcases mapO_open HO0 2 rfl with ⟨rfl, rfl⟩ | ⟨b, rfl, HO1⟩
  · have HO := Lib.hid (show Own w D w [blkF f vr (.map none) ins, rowRl vr rl, mapO (.map none) []] from HO0)
    clear HO0 hI
    have c1 : w.cell? ⟨f, 1, none⟩ = some (.map none) := HO.out.cell 0 rfl 1 rfl
    have hrg := run_range_nilMap (P := Try.prog) w 75 105 108 Try.underlying75
    obtain ⟨x1, hx1⟩ : ∃ y, w.alloc (.mapIter none 0 #[] 0) = y := ⟨_, rfl⟩
    obtain ⟨r, hr⟩ : ∃ y, w.heap.size = y := ⟨_, rfl⟩
    have hO := HO.out.alloc (.mapIter none 0 #[] 0)
    rw [hx1, hr] at hO
    have HO2 := Lib.hid hO
    clear hO
    go_enter Try.func40, Try.ntmps40
    go_wp2
    clear hx1 c1 hrg hr
    go_loopw [4, 5] (fun _ _ wr => wr = x1) (fun _ _ _ => 0)
    case atStart => rfl
    case round =>
      subst hrel
      have hnx : ∀ ty, (Instr.next (.pointer (some ⟨r, 0, none⟩)) false ty).run Try.prog wr = .ok (.tuple #[.bool false]) wr := fun ty => run_next_nil Try.prog (HO2.out.blk 3 rfl) ty
      go_wp2
      go_end0
      exact ⟨rfl, shutF (st := ⟨rl, [], ins⟩) (HO2.out.take 3), HO2.out.size⟩
  · have HO := Lib.hid (show Own w D w [blkF f vr (.map (some b)) ins, rowRl vr rl, mapR encK b (mapU m)] from HO1)
    have HND := Lib.hid hI.nd
    have HTM := Lib.hid hI.tm
    clear HO0 HO1 hI
    have c1 : w.cell? ⟨f, 1, none⟩ = some (.map (some b)) := HO.out.cell 0 rfl 1 rfl
    obtain ⟨x1, hrg, hO⟩ := HO.out.rngStart (P := Try.prog) 2 rfl Try.underlying75
    obtain ⟨r, hr⟩ : ∃ y, w.heap.size = y := ⟨_, rfl⟩
    rw [hr] at hO hrg
    replace HO := Lib.hid (show Own w D x1 [blkF f vr (.map (some b)) ins, rowRl vr rl, rngR encK b r (mapU (expD now m [])) []] by rw [expD_nil]; exact hO)
    clear hO
    go_enter Try.func40, Try.ntmps40
    go_wp2
    clear c1 hrg hr
    go_loopw [4, 5] (fun _ _ wr => ∃ done : List FK, Own w D wr [blkF f vr (.map (some b)) ins, rowRl vr rl, rngR encK b r (mapU (expD now m done)) done]) (fun _ _ wr => leftN wr b r)
    case atStart => exact ⟨[], HO.out⟩
    case round =>
      obtain ⟨done, hO⟩ := hrel
      replace HO := Lib.hid hO
      clear hO
      have HLN := Lib.hid (leftN_eq HO.out 2 rfl encK_inj)
      rcases HO.out.rngNext (P := Try.prog) 2 rfl encK_inj (by rw [mapU_keys]; exact expD_keys HND.out) 0 with ⟨hall, hrun⟩ | ⟨k, v, w1, hm, hkd, hrun, hent, hO⟩
      · have HE := Lib.hid (exp_all hall)
        have hnx : ∀ ty, (Instr.next (.pointer (some ⟨r, 0, none⟩)) false ty).run Try.prog wr = .ok (.tuple #[.bool false]) wr := fun ty => hrun
        clear hall hrun
        go_wp2
        go_end0
        exact ⟨rfl, shutF (st := ⟨rl, expF now m, ins⟩) (by rw [← HE.out]; exact mapO_shut (HO.out.rngEnd 2 rfl) 2 rfl), HO.out.size⟩
      · obtain ⟨⟨k', u⟩, hmem, e⟩ := List.mem_map.1 hm
        simp only [Prod.mk.injEq] at e
        obtain ⟨rfl, rfl⟩ := e
        have HMEM := Lib.hid hmem
        have HKD := Lib.hid hkd
        obtain ⟨t0, t1⟩ := HTM.out _ (List.mem_filter.1 hmem).1
        have HND2 := Lib.hid (show (keysU (expD now m done)).Nodup from expD_keys HND.out)
        obtain ⟨a0, a1, a2, a3, a4⟩ := k'
        obtain ⟨la, nu⟩ := u
        simp only at t0 t1
        have hnx : ∀ ty, (Instr.next (.pointer (some ⟨r, 0, none⟩)) false ty).run Try.prog wr = .ok (.tuple #[.bool true, encK ⟨a0, a1, a2, a3, a4⟩, valU ⟨la, nu⟩]) w1 := fun ty => hrun
        clear hm hmem hkd hrun
        replace HO := Lib.hid (show Own w D w1 [blkF f vr (.map (some b)) ins, rowRl vr rl, rngR encK b r (mapU (expD now m done)) (⟨a0, a1, a2, a3, a4⟩ :: done)] from hO)
        clear hO
        obtain ⟨x11, hx11⟩ : ∃ y, w1.alloc (.cells #[.int .i64 0, .int .i64 0, .int .i64 0, .int .i64 0, .int .i64 0] 105) = y := ⟨_, rfl⟩
        obtain ⟨bk, hbk⟩ : ∃ y, w1.heap.size = y := ⟨_, rfl⟩
        have hO := HO.out.alloc (.cells #[.int .i64 0, .int .i64 0, .int .i64 0, .int .i64 0, .int .i64 0] 105)
        rw [hx11, hbk] at hO
        replace HO := Lib.hid (show Own w D x11 [blkF f vr (.map (some b)) ins, rowRl vr rl, rngR encK b r (mapU (expD now m done)) (⟨a0, a1, a2, a3, a4⟩ :: done), blkR bk (.cells #[.int .i64 0, .int .i64 0, .int .i64 0, .int .i64 0, .int .i64 0] 105)] from hO)
        clear hO
        obtain ⟨x12, hx12⟩ : ∃ y, x11.alloc (.cells #[.int .i64 0, .int .i64 0] 108) = y := ⟨_, rfl⟩
        obtain ⟨bu, hbu⟩ : ∃ y, x11.heap.size = y := ⟨_, rfl⟩
        have hO := HO.out.alloc (.cells #[.int .i64 0, .int .i64 0] 108)
        rw [hx12, hbu] at hO
        replace HO := Lib.hid (show Own w D x12 [blkF f vr (.map (some b)) ins, rowRl vr rl, rngR encK b r (mapU (expD now m done)) (⟨a0, a1, a2, a3, a4⟩ :: done), blkR bk (.cells #[.int .i64 0, .int .i64 0, .int .i64 0, .int .i64 0, .int .i64 0] 105), blkR bu (.cells #[.int .i64 0, .int .i64 0] 108)] from hO)
        clear hO
        have k3_0_0 : x12.cell? ⟨bk, 0, none⟩ = some (.int .i64 0) := HO.out.cell 3 rfl 0 rfl
        have lk3_0_0 : x12.frozen? ⟨bk, 0, none⟩ = false := HO.out.frz 3 rfl 0
        have k3_0_1 : x12.cell? ⟨bk, 1, none⟩ = some (.int .i64 0) := HO.out.cell 3 rfl 1 rfl
        have lk3_0_1 : x12.frozen? ⟨bk, 1, none⟩ = false := HO.out.frz 3 rfl 1
        have k3_0_2 : x12.cell? ⟨bk, 2, none⟩ = some (.int .i64 0) := HO.out.cell 3 rfl 2 rfl
        have lk3_0_2 : x12.frozen? ⟨bk, 2, none⟩ = false := HO.out.frz 3 rfl 2
        have k3_0_3 : x12.cell? ⟨bk, 3, none⟩ = some (.int .i64 0) := HO.out.cell 3 rfl 3 rfl
        have lk3_0_3 : x12.frozen? ⟨bk, 3, none⟩ = false := HO.out.frz 3 rfl 3
        have k3_0_4 : x12.cell? ⟨bk, 4, none⟩ = some (.int .i64 0) := HO.out.cell 3 rfl 4 rfl
        have lk3_0_4 : x12.frozen? ⟨bk, 4, none⟩ = false := HO.out.frz 3 rfl 4
        obtain ⟨x13, hx13⟩ : ∃ y, x12.setCell ⟨bk, 0, none⟩ (.int .i64 a0) = y := ⟨_, rfl⟩
        have hO := HO.out.setCell 3 rfl 0 (.int .i64 a0)
        rw [hx13] at hO
        replace HO := Lib.hid (show Own w D x13 [blkF f vr (.map (some b)) ins, rowRl vr rl, rngR encK b r (mapU (expD now m done)) (⟨a0, a1, a2, a3, a4⟩ :: done), blkR bk (.cells #[.int .i64 a0, .int .i64 0, .int .i64 0, .int .i64 0, .int .i64 0] 105), blkR bu (.cells #[.int .i64 0, .int .i64 0] 108)] from hO)
        clear hO
        have k3_1_1 : x13.cell? ⟨bk, 1, none⟩ = some (.int .i64 0) := HO.out.cell 3 rfl 1 rfl
        have lk3_1_1 : x13.frozen? ⟨bk, 1, none⟩ = false := HO.out.frz 3 rfl 1
        have k3_1_2 : x13.cell? ⟨bk, 2, none⟩ = some (.int .i64 0) := HO.out.cell 3 rfl 2 rfl
        have lk3_1_2 : x13.frozen? ⟨bk, 2, none⟩ = false := HO.out.frz 3 rfl 2
        have k3_1_3 : x13.cell? ⟨bk, 3, none⟩ = some (.int .i64 0) := HO.out.cell 3 rfl 3 rfl
        have lk3_1_3 : x13.frozen? ⟨bk, 3, none⟩ = false := HO.out.frz 3 rfl 3
        have k3_1_4 : x13.cell? ⟨bk, 4, none⟩ = some (.int .i64 0) := HO.out.cell 3 rfl 4 rfl
        have lk3_1_4 : x13.frozen? ⟨bk, 4, none⟩ = false := HO.out.frz 3 rfl 4
        obtain ⟨x14, hx14⟩ : ∃ y, x13.setCell ⟨bk, 1, none⟩ (.int .i64 a1) = y := ⟨_, rfl⟩
        have hO := HO.out.setCell 3 rfl 1 (.int .i64 a1)
        rw [hx14] at hO
        replace HO := Lib.hid (show Own w D x14 [blkF f vr (.map (some b)) ins, rowRl vr rl, rngR encK b r (mapU (expD now m done)) (⟨a0, a1, a2, a3, a4⟩ :: done), blkR bk (.cells #[.int .i64 a0, .int .i64 a1, .int .i64 0, .int .i64 0, .int .i64 0] 105), blkR bu (.cells #[.int .i64 0, .int .i64 0] 108)] from hO)
        clear hO
        have k3_2_2 : x14.cell? ⟨bk, 2, none⟩ = some (.int .i64 0) := HO.out.cell 3 rfl 2 rfl
        have lk3_2_2 : x14.frozen? ⟨bk, 2, none⟩ = false := HO.out.frz 3 rfl 2
        have k3_2_3 : x14.cell? ⟨bk, 3, none⟩ = some (.int .i64 0) := HO.out.cell 3 rfl 3 rfl
        have lk3_2_3 : x14.frozen? ⟨bk, 3, none⟩ = false := HO.out.frz 3 rfl 3
        have k3_2_4 : x14.cell? ⟨bk, 4, none⟩ = some (.int .i64 0) := HO.out.cell 3 rfl 4 rfl
        have lk3_2_4 : x14.frozen? ⟨bk, 4, none⟩ = false := HO.out.frz 3 rfl 4
        obtain ⟨x15, hx15⟩ : ∃ y, x14.setCell ⟨bk, 2, none⟩ (.int .i64 a2) = y := ⟨_, rfl⟩
        have hO := HO.out.setCell 3 rfl 2 (.int .i64 a2)
        rw [hx15] at hO
        replace HO := Lib.hid (show Own w D x15 [blkF f vr (.map (some b)) ins, rowRl vr rl, rngR encK b r (mapU (expD now m done)) (⟨a0, a1, a2, a3, a4⟩ :: done), blkR bk (.cells #[.int .i64 a0, .int .i64 a1, .int .i64 a2, .int .i64 0, .int .i64 0] 105), blkR bu (.cells #[.int .i64 0, .int .i64 0] 108)] from hO)
        clear hO
        have k3_3_3 : x15.cell? ⟨bk, 3, none⟩ = some (.int .i64 0) := HO.out.cell 3 rfl 3 rfl
        have lk3_3_3 : x15.frozen? ⟨bk, 3, none⟩ = false := HO.out.frz 3 rfl 3
        have k3_3_4 : x15.cell? ⟨bk, 4, none⟩ = some (.int .i64 0) := HO.out.cell 3 rfl 4 rfl
        have lk3_3_4 : x15.frozen? ⟨bk, 4, none⟩ = false := HO.out.frz 3 rfl 4
        obtain ⟨x16, hx16⟩ : ∃ y, x15.setCell ⟨bk, 3, none⟩ (.int .i64 a3) = y := ⟨_, rfl⟩
        have hO := HO.out.setCell 3 rfl 3 (.int .i64 a3)
        rw [hx16] at hO
        replace HO := Lib.hid (show Own w D x16 [blkF f vr (.map (some b)) ins, rowRl vr rl, rngR encK b r (mapU (expD now m done)) (⟨a0, a1, a2, a3, a4⟩ :: done), blkR bk (.cells #[.int .i64 a0, .int .i64 a1, .int .i64 a2, .int .i64 a3, .int .i64 0] 105), blkR bu (.cells #[.int .i64 0, .int .i64 0] 108)] from hO)
        clear hO
        have k3_4_4 : x16.cell? ⟨bk, 4, none⟩ = some (.int .i64 0) := HO.out.cell 3 rfl 4 rfl
        have lk3_4_4 : x16.frozen? ⟨bk, 4, none⟩ = false := HO.out.frz 3 rfl 4
        obtain ⟨x17, hx17⟩ : ∃ y, x16.setCell ⟨bk, 4, none⟩ (.int .i64 a4) = y := ⟨_, rfl⟩
        have hO := HO.out.setCell 3 rfl 4 (.int .i64 a4)
        rw [hx17] at hO
        replace HO := Lib.hid (show Own w D x17 [blkF f vr (.map (some b)) ins, rowRl vr rl, rngR encK b r (mapU (expD now m done)) (⟨a0, a1, a2, a3, a4⟩ :: done), blkR bk (.cells #[.int .i64 a0, .int .i64 a1, .int .i64 a2, .int .i64 a3, .int .i64 a4] 105), blkR bu (.cells #[.int .i64 0, .int .i64 0] 108)] from hO)
        clear hO
        have k4_0_0 : x17.cell? ⟨bu, 0, none⟩ = some (.int .i64 0) := HO.out.cell 4 rfl 0 rfl
        have lk4_0_0 : x17.frozen? ⟨bu, 0, none⟩ = false := HO.out.frz 4 rfl 0
        have k4_0_1 : x17.cell? ⟨bu, 1, none⟩ = some (.int .i64 0) := HO.out.cell 4 rfl 1 rfl
        have lk4_0_1 : x17.frozen? ⟨bu, 1, none⟩ = false := HO.out.frz 4 rfl 1
        obtain ⟨x18, hx18⟩ : ∃ y, x17.setCell ⟨bu, 0, none⟩ (.int .i64 la) = y := ⟨_, rfl⟩
        have hO := HO.out.setCell 4 rfl 0 (.int .i64 la)
        rw [hx18] at hO
        replace HO := Lib.hid (show Own w D x18 [blkF f vr (.map (some b)) ins, rowRl vr rl, rngR encK b r (mapU (expD now m done)) (⟨a0, a1, a2, a3, a4⟩ :: done), blkR bk (.cells #[.int .i64 a0, .int .i64 a1, .int .i64 a2, .int .i64 a3, .int .i64 a4] 105), blkR bu (.cells #[.int .i64 la, .int .i64 0] 108)] from hO)
        clear hO
        have k4_1_1 : x18.cell? ⟨bu, 1, none⟩ = some (.int .i64 0) := HO.out.cell 4 rfl 1 rfl
        have lk4_1_1 : x18.frozen? ⟨bu, 1, none⟩ = false := HO.out.frz 4 rfl 1
        obtain ⟨x19, hx19⟩ : ∃ y, x18.setCell ⟨bu, 1, none⟩ (.int .i64 nu) = y := ⟨_, rfl⟩
        have hO := HO.out.setCell 4 rfl 1 (.int .i64 nu)
        rw [hx19] at hO
        replace HO := Lib.hid (show Own w D x19 [blkF f vr (.map (some b)) ins, rowRl vr rl, rngR encK b r (mapU (expD now m done)) (⟨a0, a1, a2, a3, a4⟩ :: done), blkR bk (.cells #[.int .i64 a0, .int .i64 a1, .int .i64 a2, .int .i64 a3, .int .i64 a4] 105), blkR bu (.cells #[.int .i64 la, .int .i64 nu] 108)] from hO)
        clear hO
        have z4_0 : x19.cell? ⟨bu, 0, none⟩ = some (.int .i64 la) := HO.out.cell 4 rfl 0 rfl
        by_cases hl : la < now
        · by_cases hq : 400 < now - la
          · have HOL := Lib.hid (show oldU now ⟨la, nu⟩ = true by simp [oldU, hl, hq])
            have hd : decide (la < now) = true := by simpa using hl
            have hd2 : decide (400 < now - la) = true := by simpa using hq
            go_wp2
            clear hx11 hbk hx12 hbu k3_0_0 lk3_0_0 k3_0_1 lk3_0_1 k3_0_2 lk3_0_2 k3_0_3 lk3_0_3 k3_0_4 lk3_0_4 hx13 k3_1_1 lk3_1_1 k3_1_2 lk3_1_2 k3_1_3 lk3_1_3 k3_1_4 lk3_1_4 hx14 k3_2_2 lk3_2_2 k3_2_3 lk3_2_3 k3_2_4 lk3_2_4 hx15 k3_3_3 lk3_3_3 k3_3_4 lk3_3_4 hx16 k3_4_4 lk3_4_4 hx17 k4_0_0 lk4_0_0 k4_0_1 lk4_0_1 hx18 k4_1_1 lk4_1_1 hx19 z4_0
            clear hnx hent
            have c1 := cell_regrown (show x19.cell? ⟨f, 1, none⟩ = some (.map (some b)) from HO.out.cell 0 rfl 1 rfl)
            have e0 := cell_regrown (show x19.cell? ⟨bk, 0, none⟩ = some (.int .i64 a0) from HO.out.cell 3 rfl 0 rfl)
            have e1 := cell_regrown (show x19.cell? ⟨bk, 1, none⟩ = some (.int .i64 a1) from HO.out.cell 3 rfl 1 rfl)
            have e2 := cell_regrown (show x19.cell? ⟨bk, 2, none⟩ = some (.int .i64 a2) from HO.out.cell 3 rfl 2 rfl)
            have e3 := cell_regrown (show x19.cell? ⟨bk, 3, none⟩ = some (.int .i64 a3) from HO.out.cell 3 rfl 3 rfl)
            have e4 := cell_regrown (show x19.cell? ⟨bk, 4, none⟩ = some (.int .i64 a4) from HO.out.cell 3 rfl 4 rfl)
            refine wp_region_R 5 (by kernel_rfl) (by kernel_rfl) ?_
            simp only [List.take, List.drop]
            iterate 5 (first | (refine wpR_want (by kernel_rfl) rfl rfl ?_; intro K hK; go_big_quiet_op; go_big_quiet_on) | (refine wpR_is (by kernel_rfl) rfl _ (fun w _ => rfl) ?_; simp only [Act.put, List.setIfInBounds_toArray, List.set_cons_succ, List.set_cons_zero]))
            refine wpR_nil (by kernel_rfl) (by simp) ?_
            rintro w5 hb5
            simp only [exAll, List.drop]
            clear c1 e0 e1 e2 e3 e4
            replace HO := Lib.hid (HO.out.stay hb5)
            clear hb5
            obtain ⟨w6, hdel, hO⟩ := HO.out.rngDel (P := Try.prog) 2 rfl keyK Try.underlying75 ⟨a0, a1, a2, a3, a4⟩ 0 105
            rw [mapU_del HND2.out, exp_del HND.out HMEM.out HOL.out] at hO
            replace HO := Lib.hid (show Own w D w6 [blkF f vr (.map (some b)) ins, rowRl vr rl, rngR encK b r (mapU (expD now m (⟨a0, a1, a2, a3, a4⟩ :: done))) (⟨a0, a1, a2, a3, a4⟩ :: done)] from hO.take 3)
            clear hO
            have HLT := Lib.hid (show leftN w6 b r < leftN wr b r by rw [leftN_eq HO.out 2 rfl encK_inj, HLN.out]; exact meas_lt (.inr (exp_del HND.out HMEM.out HOL.out).symm) HMEM.out HKD.out)
            go_wp2
            go_roundw
            case rel => exact ⟨_, HO.out⟩
            case measure => exact HLT.out
          · have HOL := Lib.hid (show oldU now ⟨la, nu⟩ = false by simp [oldU, hl, hq])
            have hd : decide (la < now) = true := by simpa using hl
            have hd2 : decide (400 < now - la) = false := by simpa using hq
            have HO3 := Lib.hid (show Own w D x19 [blkF f vr (.map (some b)) ins, rowRl vr rl, rngR encK b r (mapU (expD now m (⟨a0, a1, a2, a3, a4⟩ :: done))) (⟨a0, a1, a2, a3, a4⟩ :: done)] by rw [← exp_keep HND.out HMEM.out HOL.out]; exact HO.out.take 3)
            have HLT := Lib.hid (show leftN x19 b r < leftN wr b r by rw [leftN_eq HO3.out 2 rfl encK_inj, HLN.out]; exact meas_lt (.inl (exp_keep HND.out HMEM.out HOL.out).symm) HMEM.out HKD.out)
            go_wp2
            go_roundw
            case rel => exact ⟨_, HO3.out⟩
            case measure => exact HLT.out
        · have HOL := Lib.hid (show oldU now ⟨la, nu⟩ = false by simp [oldU, hl])
          have hd : decide (la < now) = false := by simpa using hl
          have HO3 := Lib.hid (show Own w D x19 [blkF f vr (.map (some b)) ins, rowRl vr rl, rngR encK b r (mapU (expD now m (⟨a0, a1, a2, a3, a4⟩ :: done))) (⟨a0, a1, a2, a3, a4⟩ :: done)] by rw [← exp_keep HND.out HMEM.out HOL.out]; exact HO.out.take 3)
          have HLT := Lib.hid (show leftN x19 b r < leftN wr b r by rw [leftN_eq HO3.out 2 rfl encK_inj, HLN.out]; exact meas_lt (.inl (exp_keep HND.out HMEM.out HOL.out).symm) HMEM.out HKD.out)
          go_wp2
          go_roundw
          case rel => exact ⟨_, HO3.out⟩
          case measure => exact HLT.out
end

end Go.Proofs.Ytjngfhgcifhioaa
