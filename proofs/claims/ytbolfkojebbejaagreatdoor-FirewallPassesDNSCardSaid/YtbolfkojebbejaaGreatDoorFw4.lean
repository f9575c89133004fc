/- Contract of oldest. Printed by wip/tools/gen22d.py. -/
import Derived.Test.YtbolfkojebbejaaGreatDoorBi
namespace Go.Proofs.YtbolfkojebbejaaGreatDoor
open Go.RowKit Go.Sort
set_option linter.unusedVariables false
set_option maxRecDepth 100000

def fblk (B : Nat) (o : Obj) : Pred := fun v w => ∃ b, v = .pointer (some ⟨b, 0, none⟩) ∧ B ≤ b ∧ w.heap[b]? = some o
theorem fblk_lasts (B : Nat) (o : Obj) : Lasts (fblk B o) := by
  rintro v w w' ⟨b, rfl, hB, hb⟩ hbl
  exact ⟨b, rfl, hB, (hbl.block b (Array.getElem?_eq_some_iff.1 hb).1).trans hb⟩
theorem fnew_blk (w : World) (o : Obj) : (w.alloc o).heap[w.heap.size]? = some o := by show (w.heap.push _)[w.heap.size]? = _; simp
theorem old_blk {w0 w : World} {L : List Res} {b : Nat} {o : Obj} (h : Own w0 none0 w L) (hb : w0.heap[b]? = some o) : w.heap[b]? = some o := (h.below.block b (Array.getElem?_eq_some_iff.1 hb).1).trans hb
theorem run_eqlK' (a0 a1 a2 a3 a4 b0 b1 b2 b3 b4 : Int) (w : World) : (binOp .eql 192 (.agg #[.int .i64 a0, .int .i64 a1, .int .i64 a2, .int .i64 a3, .int .i64 a4]) (.agg #[.int .i64 b0, .int .i64 b1, .int .i64 b2, .int .i64 b3, .int .i64 b4])).run Tryz.prog w = .ok (.bool ((a0 == b0) && ((a1 == b1) && ((a2 == b2) && ((a3 == b3) && (a4 == b4)))))) w := by
  have := run_eqlK ⟨a0, a1, a2, a3, a4⟩ ⟨b0, b1, b2, b3, b4⟩ w
  have hd : decide ((⟨a0, a1, a2, a3, a4⟩ : FK) = ⟨b0, b1, b2, b3, b4⟩) = ((a0 == b0) && ((a1 == b1) && ((a2 == b2) && ((a3 == b3) && (a4 == b4))))) := by
    rw [Bool.eq_iff_iff]; simp
  rw [hd] at this
  exact this
theorem kz_false {a0 a1 a2 a3 a4 : Int} (h : (⟨a0, a1, a2, a3, a4⟩ : FK) ≠ ⟨0, 0, 0, 0, 0⟩) : ((a0 == 0) && ((a1 == 0) && ((a2 == 0) && ((a3 == 0) && (a4 == 0))))) = false := by
  rw [Bool.eq_false_iff]
  intro hc
  apply h
  simp only [Bool.and_eq_true, beq_iff_eq] at hc
  obtain ⟨rfl, rfl, rfl, rfl, rfl⟩ := hc
  rfl
def OldPost (w : World) (m : List (FK × Us)) (e : Ending) (w' : World) : Prop := ∃ k, k ∈ keysU m ∧ e = .returned (encK k) ∧ Below w.heap.size w w'
section
attribute [local go_sem ↓] run_eqlK'
set_option maxRecDepth 100000 in
set_option maxHeartbeats 8000000 in
theorem oldest_any {w : World} {f b clk : Nat} {es : Array MapEntry} {m : List (FK × Us)} (hf : w.cell? ⟨f, 1, none⟩ = some (.map (some b))) (hb : w.heap[b]? = some (.map es clk)) (he : entR encK es.toList (mapU m)) (hs : Stamped es.toList clk) (hnd : (keysU m).Nodup) (hz : ∀ x ∈ m, x.1 ≠ ⟨0, 0, 0, 0, 0⟩) (hne : m ≠ []) :
    Calls Tryz.prog 181 #[.pointer (some ⟨f, 0, none⟩)] w (OldPost w m) := by
  have HF := Lib.hid hf
  have HBK := Lib.hid hb
  have HES := Lib.hid he
  have HS := Lib.hid hs
  have HND := Lib.hid hnd
  have HZ := Lib.hid hz
  have HNE := Lib.hid hne
  clear hf hb he hs hnd hz hne
  have HO := Lib.hid (show Own w none0 w [] from Own.nil w none0)
  obtain ⟨x1, hx1⟩ : ∃ y, w.alloc (.cells #[.int .i64 0, .int .i64 0, .int .i64 0, .int .i64 0, .int .i64 0] 192) = y := ⟨_, rfl⟩
  obtain ⟨br, hbr⟩ : ∃ y, w.heap.size = y := ⟨_, rfl⟩
  have hO := HO.out.alloc (.cells #[.int .i64 0, .int .i64 0, .int .i64 0, .int .i64 0, .int .i64 0] 192)
  rw [hx1, hbr] at hO
  replace HO := Lib.hid (show Own w none0 x1 [blkR br (.cells #[.int .i64 0, .int .i64 0, .int .i64 0, .int .i64 0, .int .i64 0] 192)] from hO)
  clear hO
  obtain ⟨x2, hx2⟩ : ∃ y, x1.alloc (.cells #[.int .i64 0, .int .i64 0, .int .i64 0, .int .i64 0, .int .i64 0] 192) = y := ⟨_, rfl⟩
  obtain ⟨bf, hbf⟩ : ∃ y, x1.heap.size = y := ⟨_, rfl⟩
  have hO := HO.out.alloc (.cells #[.int .i64 0, .int .i64 0, .int .i64 0, .int .i64 0, .int .i64 0] 192)
  rw [hx2, hbf] at hO
  replace HO := Lib.hid (show Own w none0 x2 [blkR br (.cells #[.int .i64 0, .int .i64 0, .int .i64 0, .int .i64 0, .int .i64 0] 192), blkR bf (.cells #[.int .i64 0, .int .i64 0, .int .i64 0, .int .i64 0, .int .i64 0] 192)] from hO)
  clear hO
  have c1 : x2.cell? ⟨f, 1, none⟩ = some (.map (some b)) := keep HO.out.below HF.out
  obtain ⟨x3, hrg, hO, -⟩ := HO.out.itStart (P := Tryz.prog) Tryz.underlying119 (old_blk HO.out HBK.out) encK
  obtain ⟨r, hr⟩ : ∃ y, x2.heap.size = y := ⟨_, rfl⟩
  rw [hr] at hO hrg
  replace HO := Lib.hid (show Own w none0 x3 [blkR br (.cells #[.int .i64 0, .int .i64 0, .int .i64 0, .int .i64 0, .int .i64 0] 192), blkR bf (.cells #[.int .i64 0, .int .i64 0, .int .i64 0, .int .i64 0, .int .i64 0] 192), itrR encK b r clk es []] from hO)
  clear hO
  go_enter Tryz.func181, Tryz.ntmps181
  go_wp2
  clear c1 hrg hr
  clear hx1 hbr hx2 hbf
  go_loopw [4, 5, 6] (fun _ _ _ wr => ∃ (done : List FK) (f0 f1 f2 f3 f4 : Int), Own w none0 wr [blkR br (.cells #[.int .i64 0, .int .i64 0, .int .i64 0, .int .i64 0, .int .i64 0] 192), blkR bf (.cells #[.int .i64 f0, .int .i64 f1, .int .i64 f2, .int .i64 f3, .int .i64 f4] 192), itrR encK b r clk es done] ∧ ((⟨f0, f1, f2, f3, f4⟩ : FK) ∈ keysU m ∨ (⟨f0, f1, f2, f3, f4⟩ : FK) = ⟨0, 0, 0, 0, 0⟩ ∧ done = [])) (fun _ _ _ wr => leftN wr b r)
  case atStart => exact ⟨[], 0, 0, 0, 0, 0, HO.out, .inr ⟨rfl, rfl⟩⟩
  case round =>
    obtain ⟨done, f0, f1, f2, f3, f4, hO, hfk⟩ := hrel
    replace HO := Lib.hid hO
    have HFK := Lib.hid hfk
    clear hO hfk
    have HLN := Lib.hid (leftN_it HO.out 2 rfl (old_blk HO.out HBK.out) HES.out encK_inj)
    rcases HO.out.itNext (P := Tryz.prog) 2 rfl (old_blk HO.out HBK.out) HES.out HS.out encK_inj (by rw [mapU_keys]; exact HND.out) 0 with ⟨hall, hrun⟩ | ⟨k, v, w1, hm, hkd, hrun, hent, hO⟩
    · have HIN := Lib.hid (show (⟨f0, f1, f2, f3, f4⟩ : FK) ∈ keysU m from by
        rcases HFK.out with h | ⟨_, h⟩
        · exact h
        · exfalso
          subst h
          cases hm : m with
          | nil => exact HNE.out hm
          | cons x l => exact absurd (hall (x.1, valU x.2) (by rw [hm]; exact List.mem_cons_self)) (by simp))
      have hnx : ∀ ty, (Instr.next (.pointer (some ⟨r, 0, none⟩)) false ty).run Tryz.prog wr = .ok (.tuple #[.bool false]) wr := fun ty => hrun
      clear hall hrun HFK
      have z1_0 : wr.cell? ⟨bf, 0, none⟩ = some (.int .i64 f0) := HO.out.cell 1 rfl 0 rfl
      have z1_1 : wr.cell? ⟨bf, 1, none⟩ = some (.int .i64 f1) := HO.out.cell 1 rfl 1 rfl
      have z1_2 : wr.cell? ⟨bf, 2, none⟩ = some (.int .i64 f2) := HO.out.cell 1 rfl 2 rfl
      have z1_3 : wr.cell? ⟨bf, 3, none⟩ = some (.int .i64 f3) := HO.out.cell 1 rfl 3 rfl
      have z1_4 : wr.cell? ⟨bf, 4, none⟩ = some (.int .i64 f4) := HO.out.cell 1 rfl 4 rfl
      have k0_0_0_50 : wr.cell? ⟨br, 0, none⟩ = some (.int .i64 0) := HO.out.cell 0 rfl 0 rfl
      have lk0_0_0_50 : wr.frozen? ⟨br, 0, none⟩ = false := HO.out.frz 0 rfl 0
      have k0_0_1_50 : wr.cell? ⟨br, 1, none⟩ = some (.int .i64 0) := HO.out.cell 0 rfl 1 rfl
      have lk0_0_1_50 : wr.frozen? ⟨br, 1, none⟩ = false := HO.out.frz 0 rfl 1
      have k0_0_2_50 : wr.cell? ⟨br, 2, none⟩ = some (.int .i64 0) := HO.out.cell 0 rfl 2 rfl
      have lk0_0_2_50 : wr.frozen? ⟨br, 2, none⟩ = false := HO.out.frz 0 rfl 2
      have k0_0_3_50 : wr.cell? ⟨br, 3, none⟩ = some (.int .i64 0) := HO.out.cell 0 rfl 3 rfl
      have lk0_0_3_50 : wr.frozen? ⟨br, 3, none⟩ = false := HO.out.frz 0 rfl 3
      have k0_0_4_50 : wr.cell? ⟨br, 4, none⟩ = some (.int .i64 0) := HO.out.cell 0 rfl 4 rfl
      have lk0_0_4_50 : wr.frozen? ⟨br, 4, none⟩ = false := HO.out.frz 0 rfl 4
      obtain ⟨x51, hx51⟩ : ∃ y, wr.setCell ⟨br, 0, none⟩ (.int .i64 f0) = y := ⟨_, rfl⟩
      have hO := HO.out.setCell 0 rfl 0 (.int .i64 f0)
      rw [hx51] at hO
      replace HO := Lib.hid (show Own w none0 x51 [blkR br (.cells #[.int .i64 f0, .int .i64 0, .int .i64 0, .int .i64 0, .int .i64 0] 192), blkR bf (.cells #[.int .i64 f0, .int .i64 f1, .int .i64 f2, .int .i64 f3, .int .i64 f4] 192), itrR encK b r clk es done] from hO)
      clear hO
      have k0_1_1_51 : x51.cell? ⟨br, 1, none⟩ = some (.int .i64 0) := HO.out.cell 0 rfl 1 rfl
      have lk0_1_1_51 : x51.frozen? ⟨br, 1, none⟩ = false := HO.out.frz 0 rfl 1
      have k0_1_2_51 : x51.cell? ⟨br, 2, none⟩ = some (.int .i64 0) := HO.out.cell 0 rfl 2 rfl
      have lk0_1_2_51 : x51.frozen? ⟨br, 2, none⟩ = false := HO.out.frz 0 rfl 2
      have k0_1_3_51 : x51.cell? ⟨br, 3, none⟩ = some (.int .i64 0) := HO.out.cell 0 rfl 3 rfl
      have lk0_1_3_51 : x51.frozen? ⟨br, 3, none⟩ = false := HO.out.frz 0 rfl 3
      have k0_1_4_51 : x51.cell? ⟨br, 4, none⟩ = some (.int .i64 0) := HO.out.cell 0 rfl 4 rfl
      have lk0_1_4_51 : x51.frozen? ⟨br, 4, none⟩ = false := HO.out.frz 0 rfl 4
      obtain ⟨x52, hx52⟩ : ∃ y, x51.setCell ⟨br, 1, none⟩ (.int .i64 f1) = y := ⟨_, rfl⟩
      have hO := HO.out.setCell 0 rfl 1 (.int .i64 f1)
      rw [hx52] at hO
      replace HO := Lib.hid (show Own w none0 x52 [blkR br (.cells #[.int .i64 f0, .int .i64 f1, .int .i64 0, .int .i64 0, .int .i64 0] 192), blkR bf (.cells #[.int .i64 f0, .int .i64 f1, .int .i64 f2, .int .i64 f3, .int .i64 f4] 192), itrR encK b r clk es done] from hO)
      clear hO
      have k0_2_2_52 : x52.cell? ⟨br, 2, none⟩ = some (.int .i64 0) := HO.out.cell 0 rfl 2 rfl
      have lk0_2_2_52 : x52.frozen? ⟨br, 2, none⟩ = false := HO.out.frz 0 rfl 2
      have k0_2_3_52 : x52.cell? ⟨br, 3, none⟩ = some (.int .i64 0) := HO.out.cell 0 rfl 3 rfl
      have lk0_2_3_52 : x52.frozen? ⟨br, 3, none⟩ = false := HO.out.frz 0 rfl 3
      have k0_2_4_52 : x52.cell? ⟨br, 4, none⟩ = some (.int .i64 0) := HO.out.cell 0 rfl 4 rfl
      have lk0_2_4_52 : x52.frozen? ⟨br, 4, none⟩ = false := HO.out.frz 0 rfl 4
      obtain ⟨x53, hx53⟩ : ∃ y, x52.setCell ⟨br, 2, none⟩ (.int .i64 f2) = y := ⟨_, rfl⟩
      have hO := HO.out.setCell 0 rfl 2 (.int .i64 f2)
      rw [hx53] at hO
      replace HO := Lib.hid (show Own w none0 x53 [blkR br (.cells #[.int .i64 f0, .int .i64 f1, .int .i64 f2, .int .i64 0, .int .i64 0] 192), blkR bf (.cells #[.int .i64 f0, .int .i64 f1, .int .i64 f2, .int .i64 f3, .int .i64 f4] 192), itrR encK b r clk es done] from hO)
      clear hO
      have k0_3_3_53 : x53.cell? ⟨br, 3, none⟩ = some (.int .i64 0) := HO.out.cell 0 rfl 3 rfl
      have lk0_3_3_53 : x53.frozen? ⟨br, 3, none⟩ = false := HO.out.frz 0 rfl 3
      have k0_3_4_53 : x53.cell? ⟨br, 4, none⟩ = some (.int .i64 0) := HO.out.cell 0 rfl 4 rfl
      have lk0_3_4_53 : x53.frozen? ⟨br, 4, none⟩ = false := HO.out.frz 0 rfl 4
      obtain ⟨x54, hx54⟩ : ∃ y, x53.setCell ⟨br, 3, none⟩ (.int .i64 f3) = y := ⟨_, rfl⟩
      have hO := HO.out.setCell 0 rfl 3 (.int .i64 f3)
      rw [hx54] at hO
      replace HO := Lib.hid (show Own w none0 x54 [blkR br (.cells #[.int .i64 f0, .int .i64 f1, .int .i64 f2, .int .i64 f3, .int .i64 0] 192), blkR bf (.cells #[.int .i64 f0, .int .i64 f1, .int .i64 f2, .int .i64 f3, .int .i64 f4] 192), itrR encK b r clk es done] from hO)
      clear hO
      have k0_4_4_54 : x54.cell? ⟨br, 4, none⟩ = some (.int .i64 0) := HO.out.cell 0 rfl 4 rfl
      have lk0_4_4_54 : x54.frozen? ⟨br, 4, none⟩ = false := HO.out.frz 0 rfl 4
      obtain ⟨x55, hx55⟩ : ∃ y, x54.setCell ⟨br, 4, none⟩ (.int .i64 f4) = y := ⟨_, rfl⟩
      have hO := HO.out.setCell 0 rfl 4 (.int .i64 f4)
      rw [hx55] at hO
      replace HO := Lib.hid (show Own w none0 x55 [blkR br (.cells #[.int .i64 f0, .int .i64 f1, .int .i64 f2, .int .i64 f3, .int .i64 f4] 192), blkR bf (.cells #[.int .i64 f0, .int .i64 f1, .int .i64 f2, .int .i64 f3, .int .i64 f4] 192), itrR encK b r clk es done] from hO)
      clear hO
      go_wp2
      have r0 : x55.cell? ⟨br, 0, none⟩ = some (.int .i64 f0) := HO.out.cell 0 rfl 0 rfl
      have r1 : x55.cell? ⟨br, 1, none⟩ = some (.int .i64 f1) := HO.out.cell 0 rfl 1 rfl
      have r2 : x55.cell? ⟨br, 2, none⟩ = some (.int .i64 f2) := HO.out.cell 0 rfl 2 rfl
      have r3 : x55.cell? ⟨br, 3, none⟩ = some (.int .i64 f3) := HO.out.cell 0 rfl 3 rfl
      have r4 : x55.cell? ⟨br, 4, none⟩ = some (.int .i64 f4) := HO.out.cell 0 rfl 4 rfl
      exact bodyPost_ret (v := encK ⟨f0, f1, f2, f3, f4⟩) (by simp [results, Tryz.results181, go_sem, r0, r1, r2, r3, r4]) rfl ⟨⟨f0, f1, f2, f3, f4⟩, HIN.out, rfl, HO.out.below⟩
    · obtain ⟨⟨k', u⟩, hmem, e⟩ := List.mem_map.1 hm
      simp only [Prod.mk.injEq] at e
      obtain ⟨rfl, rfl⟩ := e
      have HMEM := Lib.hid hmem
      have HKD := Lib.hid hkd
      have HIK := Lib.hid (show k' ∈ keysU m from List.mem_map_of_mem (f := fun x : FK × Us => x.1) hmem)
      obtain ⟨a0, a1, a2, a3, a4⟩ := k'
      obtain ⟨la, nu⟩ := u
      have hnx : ∀ ty, (Instr.next (.pointer (some ⟨r, 0, none⟩)) false ty).run Tryz.prog wr = .ok (.tuple #[.bool true, encK ⟨a0, a1, a2, a3, a4⟩, valU ⟨la, nu⟩]) w1 := fun ty => hrun
      clear hm hmem hkd hrun
      replace HO := Lib.hid (show Own w none0 w1 [blkR br (.cells #[.int .i64 0, .int .i64 0, .int .i64 0, .int .i64 0, .int .i64 0] 192), blkR bf (.cells #[.int .i64 f0, .int .i64 f1, .int .i64 f2, .int .i64 f3, .int .i64 f4] 192), itrR encK b r clk es (⟨a0, a1, a2, a3, a4⟩ :: done)] from hO)
      clear hO
      have HLT := Lib.hid (show ∀ (x : World) (L : List Res) (i : Nat), Own w none0 x L → L[i]? = some (itrR encK b r clk es (⟨a0, a1, a2, a3, a4⟩ :: done)) → leftN x b r < leftN wr b r from fun x L i ho hi => by rw [leftN_it ho _ hi (old_blk ho HBK.out) HES.out encK_inj, HLN.out]; exact meas_lt (.inl rfl) HMEM.out HKD.out)
      obtain ⟨x101, hx101⟩ : ∃ y, w1.alloc (.cells #[.int .i64 0, .int .i64 0, .int .i64 0, .int .i64 0, .int .i64 0] 192) = y := ⟨_, rfl⟩
      obtain ⟨bk, hbk⟩ : ∃ y, w1.heap.size = y := ⟨_, rfl⟩
      have hO := HO.out.alloc (.cells #[.int .i64 0, .int .i64 0, .int .i64 0, .int .i64 0, .int .i64 0] 192)
      rw [hx101, hbk] at hO
      replace HO := Lib.hid (show Own w none0 x101 [blkR br (.cells #[.int .i64 0, .int .i64 0, .int .i64 0, .int .i64 0, .int .i64 0] 192), blkR bf (.cells #[.int .i64 f0, .int .i64 f1, .int .i64 f2, .int .i64 f3, .int .i64 f4] 192), itrR encK b r clk es (⟨a0, a1, a2, a3, a4⟩ :: done), blkR bk (.cells #[.int .i64 0, .int .i64 0, .int .i64 0, .int .i64 0, .int .i64 0] 192)] from hO)
      clear hO
      obtain ⟨x102, hx102⟩ : ∃ y, x101.alloc (.cells #[.int .i64 0, .int .i64 0] 189) = y := ⟨_, rfl⟩
      obtain ⟨bu, hbu⟩ : ∃ y, x101.heap.size = y := ⟨_, rfl⟩
      have hO := HO.out.alloc (.cells #[.int .i64 0, .int .i64 0] 189)
      rw [hx102, hbu] at hO
      replace HO := Lib.hid (show Own w none0 x102 [blkR br (.cells #[.int .i64 0, .int .i64 0, .int .i64 0, .int .i64 0, .int .i64 0] 192), blkR bf (.cells #[.int .i64 f0, .int .i64 f1, .int .i64 f2, .int .i64 f3, .int .i64 f4] 192), itrR encK b r clk es (⟨a0, a1, a2, a3, a4⟩ :: done), blkR bk (.cells #[.int .i64 0, .int .i64 0, .int .i64 0, .int .i64 0, .int .i64 0] 192), blkR bu (.cells #[.int .i64 0, .int .i64 0] 189)] from hO)
      clear hO
      have k3_0_0_102 : x102.cell? ⟨bk, 0, none⟩ = some (.int .i64 0) := HO.out.cell 3 rfl 0 rfl
      have lk3_0_0_102 : x102.frozen? ⟨bk, 0, none⟩ = false := HO.out.frz 3 rfl 0
      have k3_0_1_102 : x102.cell? ⟨bk, 1, none⟩ = some (.int .i64 0) := HO.out.cell 3 rfl 1 rfl
      have lk3_0_1_102 : x102.frozen? ⟨bk, 1, none⟩ = false := HO.out.frz 3 rfl 1
      have k3_0_2_102 : x102.cell? ⟨bk, 2, none⟩ = some (.int .i64 0) := HO.out.cell 3 rfl 2 rfl
      have lk3_0_2_102 : x102.frozen? ⟨bk, 2, none⟩ = false := HO.out.frz 3 rfl 2
      have k3_0_3_102 : x102.cell? ⟨bk, 3, none⟩ = some (.int .i64 0) := HO.out.cell 3 rfl 3 rfl
      have lk3_0_3_102 : x102.frozen? ⟨bk, 3, none⟩ = false := HO.out.frz 3 rfl 3
      have k3_0_4_102 : x102.cell? ⟨bk, 4, none⟩ = some (.int .i64 0) := HO.out.cell 3 rfl 4 rfl
      have lk3_0_4_102 : x102.frozen? ⟨bk, 4, none⟩ = false := HO.out.frz 3 rfl 4
      obtain ⟨x103, hx103⟩ : ∃ y, x102.setCell ⟨bk, 0, none⟩ (.int .i64 a0) = y := ⟨_, rfl⟩
      have hO := HO.out.setCell 3 rfl 0 (.int .i64 a0)
      rw [hx103] at hO
      replace HO := Lib.hid (show Own w none0 x103 [blkR br (.cells #[.int .i64 0, .int .i64 0, .int .i64 0, .int .i64 0, .int .i64 0] 192), blkR bf (.cells #[.int .i64 f0, .int .i64 f1, .int .i64 f2, .int .i64 f3, .int .i64 f4] 192), itrR encK b r clk es (⟨a0, a1, a2, a3, a4⟩ :: done), blkR bk (.cells #[.int .i64 a0, .int .i64 0, .int .i64 0, .int .i64 0, .int .i64 0] 192), blkR bu (.cells #[.int .i64 0, .int .i64 0] 189)] from hO)
      clear hO
      have k3_1_1_103 : x103.cell? ⟨bk, 1, none⟩ = some (.int .i64 0) := HO.out.cell 3 rfl 1 rfl
      have lk3_1_1_103 : x103.frozen? ⟨bk, 1, none⟩ = false := HO.out.frz 3 rfl 1
      have k3_1_2_103 : x103.cell? ⟨bk, 2, none⟩ = some (.int .i64 0) := HO.out.cell 3 rfl 2 rfl
      have lk3_1_2_103 : x103.frozen? ⟨bk, 2, none⟩ = false := HO.out.frz 3 rfl 2
      have k3_1_3_103 : x103.cell? ⟨bk, 3, none⟩ = some (.int .i64 0) := HO.out.cell 3 rfl 3 rfl
      have lk3_1_3_103 : x103.frozen? ⟨bk, 3, none⟩ = false := HO.out.frz 3 rfl 3
      have k3_1_4_103 : x103.cell? ⟨bk, 4, none⟩ = some (.int .i64 0) := HO.out.cell 3 rfl 4 rfl
      have lk3_1_4_103 : x103.frozen? ⟨bk, 4, none⟩ = false := HO.out.frz 3 rfl 4
      obtain ⟨x104, hx104⟩ : ∃ y, x103.setCell ⟨bk, 1, none⟩ (.int .i64 a1) = y := ⟨_, rfl⟩
      have hO := HO.out.setCell 3 rfl 1 (.int .i64 a1)
      rw [hx104] at hO
      replace HO := Lib.hid (show Own w none0 x104 [blkR br (.cells #[.int .i64 0, .int .i64 0, .int .i64 0, .int .i64 0, .int .i64 0] 192), blkR bf (.cells #[.int .i64 f0, .int .i64 f1, .int .i64 f2, .int .i64 f3, .int .i64 f4] 192), itrR encK b r clk es (⟨a0, a1, a2, a3, a4⟩ :: done), blkR bk (.cells #[.int .i64 a0, .int .i64 a1, .int .i64 0, .int .i64 0, .int .i64 0] 192), blkR bu (.cells #[.int .i64 0, .int .i64 0] 189)] from hO)
      clear hO
      have k3_2_2_104 : x104.cell? ⟨bk, 2, none⟩ = some (.int .i64 0) := HO.out.cell 3 rfl 2 rfl
      have lk3_2_2_104 : x104.frozen? ⟨bk, 2, none⟩ = false := HO.out.frz 3 rfl 2
      have k3_2_3_104 : x104.cell? ⟨bk, 3, none⟩ = some (.int .i64 0) := HO.out.cell 3 rfl 3 rfl
      have lk3_2_3_104 : x104.frozen? ⟨bk, 3, none⟩ = false := HO.out.frz 3 rfl 3
      have k3_2_4_104 : x104.cell? ⟨bk, 4, none⟩ = some (.int .i64 0) := HO.out.cell 3 rfl 4 rfl
      have lk3_2_4_104 : x104.frozen? ⟨bk, 4, none⟩ = false := HO.out.frz 3 rfl 4
      obtain ⟨x105, hx105⟩ : ∃ y, x104.setCell ⟨bk, 2, none⟩ (.int .i64 a2) = y := ⟨_, rfl⟩
      have hO := HO.out.setCell 3 rfl 2 (.int .i64 a2)
      rw [hx105] at hO
      replace HO := Lib.hid (show Own w none0 x105 [blkR br (.cells #[.int .i64 0, .int .i64 0, .int .i64 0, .int .i64 0, .int .i64 0] 192), blkR bf (.cells #[.int .i64 f0, .int .i64 f1, .int .i64 f2, .int .i64 f3, .int .i64 f4] 192), itrR encK b r clk es (⟨a0, a1, a2, a3, a4⟩ :: done), blkR bk (.cells #[.int .i64 a0, .int .i64 a1, .int .i64 a2, .int .i64 0, .int .i64 0] 192), blkR bu (.cells #[.int .i64 0, .int .i64 0] 189)] from hO)
      clear hO
      have k3_3_3_105 : x105.cell? ⟨bk, 3, none⟩ = some (.int .i64 0) := HO.out.cell 3 rfl 3 rfl
      have lk3_3_3_105 : x105.frozen? ⟨bk, 3, none⟩ = false := HO.out.frz 3 rfl 3
      have k3_3_4_105 : x105.cell? ⟨bk, 4, none⟩ = some (.int .i64 0) := HO.out.cell 3 rfl 4 rfl
      have lk3_3_4_105 : x105.frozen? ⟨bk, 4, none⟩ = false := HO.out.frz 3 rfl 4
      obtain ⟨x106, hx106⟩ : ∃ y, x105.setCell ⟨bk, 3, none⟩ (.int .i64 a3) = y := ⟨_, rfl⟩
      have hO := HO.out.setCell 3 rfl 3 (.int .i64 a3)
      rw [hx106] at hO
      replace HO := Lib.hid (show Own w none0 x106 [blkR br (.cells #[.int .i64 0, .int .i64 0, .int .i64 0, .int .i64 0, .int .i64 0] 192), blkR bf (.cells #[.int .i64 f0, .int .i64 f1, .int .i64 f2, .int .i64 f3, .int .i64 f4] 192), itrR encK b r clk es (⟨a0, a1, a2, a3, a4⟩ :: done), blkR bk (.cells #[.int .i64 a0, .int .i64 a1, .int .i64 a2, .int .i64 a3, .int .i64 0] 192), blkR bu (.cells #[.int .i64 0, .int .i64 0] 189)] from hO)
      clear hO
      have k3_4_4_106 : x106.cell? ⟨bk, 4, none⟩ = some (.int .i64 0) := HO.out.cell 3 rfl 4 rfl
      have lk3_4_4_106 : x106.frozen? ⟨bk, 4, none⟩ = false := HO.out.frz 3 rfl 4
      obtain ⟨x107, hx107⟩ : ∃ y, x106.setCell ⟨bk, 4, none⟩ (.int .i64 a4) = y := ⟨_, rfl⟩
      have hO := HO.out.setCell 3 rfl 4 (.int .i64 a4)
      rw [hx107] at hO
      replace HO := Lib.hid (show Own w none0 x107 [blkR br (.cells #[.int .i64 0, .int .i64 0, .int .i64 0, .int .i64 0, .int .i64 0] 192), blkR bf (.cells #[.int .i64 f0, .int .i64 f1, .int .i64 f2, .int .i64 f3, .int .i64 f4] 192), itrR encK b r clk es (⟨a0, a1, a2, a3, a4⟩ :: done), blkR bk (.cells #[.int .i64 a0, .int .i64 a1, .int .i64 a2, .int .i64 a3, .int .i64 a4] 192), blkR bu (.cells #[.int .i64 0, .int .i64 0] 189)] from hO)
      clear hO
      have k4_0_0_107 : x107.cell? ⟨bu, 0, none⟩ = some (.int .i64 0) := HO.out.cell 4 rfl 0 rfl
      have lk4_0_0_107 : x107.frozen? ⟨bu, 0, none⟩ = false := HO.out.frz 4 rfl 0
      have k4_0_1_107 : x107.cell? ⟨bu, 1, none⟩ = some (.int .i64 0) := HO.out.cell 4 rfl 1 rfl
      have lk4_0_1_107 : x107.frozen? ⟨bu, 1, none⟩ = false := HO.out.frz 4 rfl 1
      obtain ⟨x108, hx108⟩ : ∃ y, x107.setCell ⟨bu, 0, none⟩ (.int .i64 la) = y := ⟨_, rfl⟩
      have hO := HO.out.setCell 4 rfl 0 (.int .i64 la)
      rw [hx108] at hO
      replace HO := Lib.hid (show Own w none0 x108 [blkR br (.cells #[.int .i64 0, .int .i64 0, .int .i64 0, .int .i64 0, .int .i64 0] 192), blkR bf (.cells #[.int .i64 f0, .int .i64 f1, .int .i64 f2, .int .i64 f3, .int .i64 f4] 192), itrR encK b r clk es (⟨a0, a1, a2, a3, a4⟩ :: done), blkR bk (.cells #[.int .i64 a0, .int .i64 a1, .int .i64 a2, .int .i64 a3, .int .i64 a4] 192), blkR bu (.cells #[.int .i64 la, .int .i64 0] 189)] from hO)
      clear hO
      have k4_1_1_108 : x108.cell? ⟨bu, 1, none⟩ = some (.int .i64 0) := HO.out.cell 4 rfl 1 rfl
      have lk4_1_1_108 : x108.frozen? ⟨bu, 1, none⟩ = false := HO.out.frz 4 rfl 1
      obtain ⟨x109, hx109⟩ : ∃ y, x108.setCell ⟨bu, 1, none⟩ (.int .i64 nu) = y := ⟨_, rfl⟩
      have hO := HO.out.setCell 4 rfl 1 (.int .i64 nu)
      rw [hx109] at hO
      replace HO := Lib.hid (show Own w none0 x109 [blkR br (.cells #[.int .i64 0, .int .i64 0, .int .i64 0, .int .i64 0, .int .i64 0] 192), blkR bf (.cells #[.int .i64 f0, .int .i64 f1, .int .i64 f2, .int .i64 f3, .int .i64 f4] 192), itrR encK b r clk es (⟨a0, a1, a2, a3, a4⟩ :: done), blkR bk (.cells #[.int .i64 a0, .int .i64 a1, .int .i64 a2, .int .i64 a3, .int .i64 a4] 192), blkR bu (.cells #[.int .i64 la, .int .i64 nu] 189)] from hO)
      clear hO
      go_wp2
      clear hx101 hbk hx102 hbu k3_0_0_102 lk3_0_0_102 k3_0_1_102 lk3_0_1_102 k3_0_2_102 lk3_0_2_102 k3_0_3_102 lk3_0_3_102 k3_0_4_102 lk3_0_4_102 hx103 k3_1_1_103 lk3_1_1_103 k3_1_2_103 lk3_1_2_103 k3_1_3_103 lk3_1_3_103 k3_1_4_103 lk3_1_4_103 hx104 k3_2_2_104 lk3_2_2_104 k3_2_3_104 lk3_2_3_104 k3_2_4_104 lk3_2_4_104 hx105 k3_3_3_105 lk3_3_3_105 k3_3_4_105 lk3_3_4_105 hx106 k3_4_4_106 lk3_4_4_106 hx107 k4_0_0_107 lk4_0_0_107 k4_0_1_107 lk4_0_1_107 hx108 k4_1_1_108 lk4_1_1_108 hx109
      clear hnx hent
      obtain ⟨⟨ba, bn⟩, hbu⟩ : ∃ u : Us, (getU ⟨f0, f1, f2, f3, f4⟩ m).getD ⟨0, 0⟩ = u := ⟨_, rfl⟩
      have HMB := Lib.hid (show MapB encK w b (mapU m) from ⟨es, clk, HBK.out, HES.out⟩)
      have hl : ∀ q : Regrown, (Instr.lookup 119 (.map (some b)) (.agg #[.int .i64 f0, .int .i64 f1, .int .i64 f2, .int .i64 f3, .int .i64 f4]) false).run Tryz.prog (grow (redrawn x109 q.d) q.os) = .ok (.agg #[.int .i64 ba, .int .i64 bn]) (grow (redrawn x109 q.d) q.os) := fun q => by
        have := keyK.lookup Tryz.underlying119 (zeroU _) ((HMB.out.stay HO.out.below).stay (below_regrown x109 q.d q.os)) ⟨f0, f1, f2, f3, f4⟩ false
        rw [mapU_get] at this
        have e : lookV (.agg #[.int .i64 0, .int .i64 0]) false ((getU ⟨f0, f1, f2, f3, f4⟩ m).map valU) = .agg #[.int .i64 ba, .int .i64 bn] := by
          revert hbu
          cases getU ⟨f0, f1, f2, f3, f4⟩ m with
          | none => intro h; cases h; rfl
          | some u => intro h; cases h; rfl
        rw [e] at this
        exact this
      have c1 := cell_regrown (show x109.cell? ⟨f, 1, none⟩ = some (.map (some b)) from keep HO.out.below HF.out)
      clear hbu
      have e0 := cell_regrown (show x109.cell? ⟨bf, 0, none⟩ = some (.int .i64 f0) from HO.out.cell 1 rfl 0 rfl)
      have e1 := cell_regrown (show x109.cell? ⟨bf, 1, none⟩ = some (.int .i64 f1) from HO.out.cell 1 rfl 1 rfl)
      have e2 := cell_regrown (show x109.cell? ⟨bf, 2, none⟩ = some (.int .i64 f2) from HO.out.cell 1 rfl 2 rfl)
      have e3 := cell_regrown (show x109.cell? ⟨bf, 3, none⟩ = some (.int .i64 f3) from HO.out.cell 1 rfl 3 rfl)
      have e4 := cell_regrown (show x109.cell? ⟨bf, 4, none⟩ = some (.int .i64 f4) from HO.out.cell 1 rfl 4 rfl)
      refine wp_region_R 7 (by kernel_rfl) (by kernel_rfl) ?_
      simp only [List.take, List.drop]
      iterate 6 (first | (refine wpR_want (by kernel_rfl) rfl rfl ?_; intro K hK; go_big_quiet_op; go_big_quiet_on) | (refine wpR_is (by kernel_rfl) rfl _ (fun w _ => rfl) ?_; simp only [Act.put, List.setIfInBounds_toArray, List.set_cons_succ, List.set_cons_zero]))
      refine wpR_ex (fblk x109.heap.size (.cells #[.int .i64 0, .int .i64 0] 189)) (fblk_lasts _ _) (by kernel_rfl) (fun a' w' hw' he => ?_) (fun d hd => ?_)
      · have hs := hw'.size
        simp [go_sem]
        exact ⟨_, rfl, (Below.refl _ _).alloc (Nat.le_refl _) _, ⟨w'.heap.size, rfl, hs, fnew_blk _ _⟩⟩
      cases hd
      simp only [List.nil_append]
      refine wpR_nil (by kernel_rfl) (by simp) ?_
      rintro w5 hb5
      simp only [exAll]
      rintro u6' ⟨bb, rfl, hge, hbb⟩
      simp only [Act.put, List.setIfInBounds_toArray, List.set_cons_succ, List.set_cons_zero, List.drop]
      have hO := HO.out.push (R := blkR bb (.cells #[.int .i64 0, .int .i64 0] 189)) (F := fun z => z = bb) ⟨fun _ => Iff.rfl, hbb⟩ (fun z hz => hz ▸ hge) hb5
      clear c1 e0 e1 e2 e3 e4 hl hb5 hge hbb HMB
      replace HO := Lib.hid (show Own w none0 w5 [blkR br (.cells #[.int .i64 0, .int .i64 0, .int .i64 0, .int .i64 0, .int .i64 0] 192), blkR bf (.cells #[.int .i64 f0, .int .i64 f1, .int .i64 f2, .int .i64 f3, .int .i64 f4] 192), itrR encK b r clk es (⟨a0, a1, a2, a3, a4⟩ :: done), blkR bk (.cells #[.int .i64 a0, .int .i64 a1, .int .i64 a2, .int .i64 a3, .int .i64 a4] 192), blkR bu (.cells #[.int .i64 la, .int .i64 nu] 189), blkR bb (.cells #[.int .i64 0, .int .i64 0] 189)] from hO)
      clear hO
      have k5_0_0_109 : w5.cell? ⟨bb, 0, none⟩ = some (.int .i64 0) := HO.out.cell 5 rfl 0 rfl
      have lk5_0_0_109 : w5.frozen? ⟨bb, 0, none⟩ = false := HO.out.frz 5 rfl 0
      have k5_0_1_109 : w5.cell? ⟨bb, 1, none⟩ = some (.int .i64 0) := HO.out.cell 5 rfl 1 rfl
      have lk5_0_1_109 : w5.frozen? ⟨bb, 1, none⟩ = false := HO.out.frz 5 rfl 1
      obtain ⟨x110, hx110⟩ : ∃ y, w5.setCell ⟨bb, 0, none⟩ (.int .i64 ba) = y := ⟨_, rfl⟩
      have hO := HO.out.setCell 5 rfl 0 (.int .i64 ba)
      rw [hx110] at hO
      replace HO := Lib.hid (show Own w none0 x110 [blkR br (.cells #[.int .i64 0, .int .i64 0, .int .i64 0, .int .i64 0, .int .i64 0] 192), blkR bf (.cells #[.int .i64 f0, .int .i64 f1, .int .i64 f2, .int .i64 f3, .int .i64 f4] 192), itrR encK b r clk es (⟨a0, a1, a2, a3, a4⟩ :: done), blkR bk (.cells #[.int .i64 a0, .int .i64 a1, .int .i64 a2, .int .i64 a3, .int .i64 a4] 192), blkR bu (.cells #[.int .i64 la, .int .i64 nu] 189), blkR bb (.cells #[.int .i64 ba, .int .i64 0] 189)] from hO)
      clear hO
      have k5_1_1_110 : x110.cell? ⟨bb, 1, none⟩ = some (.int .i64 0) := HO.out.cell 5 rfl 1 rfl
      have lk5_1_1_110 : x110.frozen? ⟨bb, 1, none⟩ = false := HO.out.frz 5 rfl 1
      obtain ⟨x111, hx111⟩ : ∃ y, x110.setCell ⟨bb, 1, none⟩ (.int .i64 bn) = y := ⟨_, rfl⟩
      have hO := HO.out.setCell 5 rfl 1 (.int .i64 bn)
      rw [hx111] at hO
      replace HO := Lib.hid (show Own w none0 x111 [blkR br (.cells #[.int .i64 0, .int .i64 0, .int .i64 0, .int .i64 0, .int .i64 0] 192), blkR bf (.cells #[.int .i64 f0, .int .i64 f1, .int .i64 f2, .int .i64 f3, .int .i64 f4] 192), itrR encK b r clk es (⟨a0, a1, a2, a3, a4⟩ :: done), blkR bk (.cells #[.int .i64 a0, .int .i64 a1, .int .i64 a2, .int .i64 a3, .int .i64 a4] 192), blkR bu (.cells #[.int .i64 la, .int .i64 nu] 189), blkR bb (.cells #[.int .i64 ba, .int .i64 bn] 189)] from hO)
      clear hO
      have z1_0 : x111.cell? ⟨bf, 0, none⟩ = some (.int .i64 f0) := HO.out.cell 1 rfl 0 rfl
      have z1_1 : x111.cell? ⟨bf, 1, none⟩ = some (.int .i64 f1) := HO.out.cell 1 rfl 1 rfl
      have z1_2 : x111.cell? ⟨bf, 2, none⟩ = some (.int .i64 f2) := HO.out.cell 1 rfl 2 rfl
      have z1_3 : x111.cell? ⟨bf, 3, none⟩ = some (.int .i64 f3) := HO.out.cell 1 rfl 3 rfl
      have z1_4 : x111.cell? ⟨bf, 4, none⟩ = some (.int .i64 f4) := HO.out.cell 1 rfl 4 rfl
      have z4_0 : x111.cell? ⟨bu, 0, none⟩ = some (.int .i64 la) := HO.out.cell 4 rfl 0 rfl
      have z4_1 : x111.cell? ⟨bu, 1, none⟩ = some (.int .i64 nu) := HO.out.cell 4 rfl 1 rfl
      have z5_0 : x111.cell? ⟨bb, 0, none⟩ = some (.int .i64 ba) := HO.out.cell 5 rfl 0 rfl
      have z5_1 : x111.cell? ⟨bb, 1, none⟩ = some (.int .i64 bn) := HO.out.cell 5 rfl 1 rfl
      have z3_0 : x111.cell? ⟨bk, 0, none⟩ = some (.int .i64 a0) := HO.out.cell 3 rfl 0 rfl
      have z3_1 : x111.cell? ⟨bk, 1, none⟩ = some (.int .i64 a1) := HO.out.cell 3 rfl 1 rfl
      have z3_2 : x111.cell? ⟨bk, 2, none⟩ = some (.int .i64 a2) := HO.out.cell 3 rfl 2 rfl
      have z3_3 : x111.cell? ⟨bk, 3, none⟩ = some (.int .i64 a3) := HO.out.cell 3 rfl 3 rfl
      have z3_4 : x111.cell? ⟨bk, 4, none⟩ = some (.int .i64 a4) := HO.out.cell 3 rfl 4 rfl
      by_cases hk0 : (⟨f0, f1, f2, f3, f4⟩ : FK) = ⟨0, 0, 0, 0, 0⟩
      · have hz0 : ((f0 == 0) && ((f1 == 0) && ((f2 == 0) && ((f3 == 0) && (f4 == 0))))) = true := by cases hk0; rfl
        clear hk0
        have k1_0_0_111 : x111.cell? ⟨bf, 0, none⟩ = some (.int .i64 f0) := HO.out.cell 1 rfl 0 rfl
        have lk1_0_0_111 : x111.frozen? ⟨bf, 0, none⟩ = false := HO.out.frz 1 rfl 0
        have k1_0_1_111 : x111.cell? ⟨bf, 1, none⟩ = some (.int .i64 f1) := HO.out.cell 1 rfl 1 rfl
        have lk1_0_1_111 : x111.frozen? ⟨bf, 1, none⟩ = false := HO.out.frz 1 rfl 1
        have k1_0_2_111 : x111.cell? ⟨bf, 2, none⟩ = some (.int .i64 f2) := HO.out.cell 1 rfl 2 rfl
        have lk1_0_2_111 : x111.frozen? ⟨bf, 2, none⟩ = false := HO.out.frz 1 rfl 2
        have k1_0_3_111 : x111.cell? ⟨bf, 3, none⟩ = some (.int .i64 f3) := HO.out.cell 1 rfl 3 rfl
        have lk1_0_3_111 : x111.frozen? ⟨bf, 3, none⟩ = false := HO.out.frz 1 rfl 3
        have k1_0_4_111 : x111.cell? ⟨bf, 4, none⟩ = some (.int .i64 f4) := HO.out.cell 1 rfl 4 rfl
        have lk1_0_4_111 : x111.frozen? ⟨bf, 4, none⟩ = false := HO.out.frz 1 rfl 4
        obtain ⟨x112, hx112⟩ : ∃ y, x111.setCell ⟨bf, 0, none⟩ (.int .i64 a0) = y := ⟨_, rfl⟩
        have hO := HO.out.setCell 1 rfl 0 (.int .i64 a0)
        rw [hx112] at hO
        replace HO := Lib.hid (show Own w none0 x112 [blkR br (.cells #[.int .i64 0, .int .i64 0, .int .i64 0, .int .i64 0, .int .i64 0] 192), blkR bf (.cells #[.int .i64 a0, .int .i64 f1, .int .i64 f2, .int .i64 f3, .int .i64 f4] 192), itrR encK b r clk es (⟨a0, a1, a2, a3, a4⟩ :: done), blkR bk (.cells #[.int .i64 a0, .int .i64 a1, .int .i64 a2, .int .i64 a3, .int .i64 a4] 192), blkR bu (.cells #[.int .i64 la, .int .i64 nu] 189), blkR bb (.cells #[.int .i64 ba, .int .i64 bn] 189)] from hO)
        clear hO
        have k1_1_1_112 : x112.cell? ⟨bf, 1, none⟩ = some (.int .i64 f1) := HO.out.cell 1 rfl 1 rfl
        have lk1_1_1_112 : x112.frozen? ⟨bf, 1, none⟩ = false := HO.out.frz 1 rfl 1
        have k1_1_2_112 : x112.cell? ⟨bf, 2, none⟩ = some (.int .i64 f2) := HO.out.cell 1 rfl 2 rfl
        have lk1_1_2_112 : x112.frozen? ⟨bf, 2, none⟩ = false := HO.out.frz 1 rfl 2
        have k1_1_3_112 : x112.cell? ⟨bf, 3, none⟩ = some (.int .i64 f3) := HO.out.cell 1 rfl 3 rfl
        have lk1_1_3_112 : x112.frozen? ⟨bf, 3, none⟩ = false := HO.out.frz 1 rfl 3
        have k1_1_4_112 : x112.cell? ⟨bf, 4, none⟩ = some (.int .i64 f4) := HO.out.cell 1 rfl 4 rfl
        have lk1_1_4_112 : x112.frozen? ⟨bf, 4, none⟩ = false := HO.out.frz 1 rfl 4
        obtain ⟨x113, hx113⟩ : ∃ y, x112.setCell ⟨bf, 1, none⟩ (.int .i64 a1) = y := ⟨_, rfl⟩
        have hO := HO.out.setCell 1 rfl 1 (.int .i64 a1)
        rw [hx113] at hO
        replace HO := Lib.hid (show Own w none0 x113 [blkR br (.cells #[.int .i64 0, .int .i64 0, .int .i64 0, .int .i64 0, .int .i64 0] 192), blkR bf (.cells #[.int .i64 a0, .int .i64 a1, .int .i64 f2, .int .i64 f3, .int .i64 f4] 192), itrR encK b r clk es (⟨a0, a1, a2, a3, a4⟩ :: done), blkR bk (.cells #[.int .i64 a0, .int .i64 a1, .int .i64 a2, .int .i64 a3, .int .i64 a4] 192), blkR bu (.cells #[.int .i64 la, .int .i64 nu] 189), blkR bb (.cells #[.int .i64 ba, .int .i64 bn] 189)] from hO)
        clear hO
        have k1_2_2_113 : x113.cell? ⟨bf, 2, none⟩ = some (.int .i64 f2) := HO.out.cell 1 rfl 2 rfl
        have lk1_2_2_113 : x113.frozen? ⟨bf, 2, none⟩ = false := HO.out.frz 1 rfl 2
        have k1_2_3_113 : x113.cell? ⟨bf, 3, none⟩ = some (.int .i64 f3) := HO.out.cell 1 rfl 3 rfl
        have lk1_2_3_113 : x113.frozen? ⟨bf, 3, none⟩ = false := HO.out.frz 1 rfl 3
        have k1_2_4_113 : x113.cell? ⟨bf, 4, none⟩ = some (.int .i64 f4) := HO.out.cell 1 rfl 4 rfl
        have lk1_2_4_113 : x113.frozen? ⟨bf, 4, none⟩ = false := HO.out.frz 1 rfl 4
        obtain ⟨x114, hx114⟩ : ∃ y, x113.setCell ⟨bf, 2, none⟩ (.int .i64 a2) = y := ⟨_, rfl⟩
        have hO := HO.out.setCell 1 rfl 2 (.int .i64 a2)
        rw [hx114] at hO
        replace HO := Lib.hid (show Own w none0 x114 [blkR br (.cells #[.int .i64 0, .int .i64 0, .int .i64 0, .int .i64 0, .int .i64 0] 192), blkR bf (.cells #[.int .i64 a0, .int .i64 a1, .int .i64 a2, .int .i64 f3, .int .i64 f4] 192), itrR encK b r clk es (⟨a0, a1, a2, a3, a4⟩ :: done), blkR bk (.cells #[.int .i64 a0, .int .i64 a1, .int .i64 a2, .int .i64 a3, .int .i64 a4] 192), blkR bu (.cells #[.int .i64 la, .int .i64 nu] 189), blkR bb (.cells #[.int .i64 ba, .int .i64 bn] 189)] from hO)
        clear hO
        have k1_3_3_114 : x114.cell? ⟨bf, 3, none⟩ = some (.int .i64 f3) := HO.out.cell 1 rfl 3 rfl
        have lk1_3_3_114 : x114.frozen? ⟨bf, 3, none⟩ = false := HO.out.frz 1 rfl 3
        have k1_3_4_114 : x114.cell? ⟨bf, 4, none⟩ = some (.int .i64 f4) := HO.out.cell 1 rfl 4 rfl
        have lk1_3_4_114 : x114.frozen? ⟨bf, 4, none⟩ = false := HO.out.frz 1 rfl 4
        obtain ⟨x115, hx115⟩ : ∃ y, x114.setCell ⟨bf, 3, none⟩ (.int .i64 a3) = y := ⟨_, rfl⟩
        have hO := HO.out.setCell 1 rfl 3 (.int .i64 a3)
        rw [hx115] at hO
        replace HO := Lib.hid (show Own w none0 x115 [blkR br (.cells #[.int .i64 0, .int .i64 0, .int .i64 0, .int .i64 0, .int .i64 0] 192), blkR bf (.cells #[.int .i64 a0, .int .i64 a1, .int .i64 a2, .int .i64 a3, .int .i64 f4] 192), itrR encK b r clk es (⟨a0, a1, a2, a3, a4⟩ :: done), blkR bk (.cells #[.int .i64 a0, .int .i64 a1, .int .i64 a2, .int .i64 a3, .int .i64 a4] 192), blkR bu (.cells #[.int .i64 la, .int .i64 nu] 189), blkR bb (.cells #[.int .i64 ba, .int .i64 bn] 189)] from hO)
        clear hO
        have k1_4_4_115 : x115.cell? ⟨bf, 4, none⟩ = some (.int .i64 f4) := HO.out.cell 1 rfl 4 rfl
        have lk1_4_4_115 : x115.frozen? ⟨bf, 4, none⟩ = false := HO.out.frz 1 rfl 4
        obtain ⟨x116, hx116⟩ : ∃ y, x115.setCell ⟨bf, 4, none⟩ (.int .i64 a4) = y := ⟨_, rfl⟩
        have hO := HO.out.setCell 1 rfl 4 (.int .i64 a4)
        rw [hx116] at hO
        replace HO := Lib.hid (show Own w none0 x116 [blkR br (.cells #[.int .i64 0, .int .i64 0, .int .i64 0, .int .i64 0, .int .i64 0] 192), blkR bf (.cells #[.int .i64 a0, .int .i64 a1, .int .i64 a2, .int .i64 a3, .int .i64 a4] 192), itrR encK b r clk es (⟨a0, a1, a2, a3, a4⟩ :: done), blkR bk (.cells #[.int .i64 a0, .int .i64 a1, .int .i64 a2, .int .i64 a3, .int .i64 a4] 192), blkR bu (.cells #[.int .i64 la, .int .i64 nu] 189), blkR bb (.cells #[.int .i64 ba, .int .i64 bn] 189)] from hO)
        clear hO
        go_wp2
        go_roundw
        case rel => exact ⟨⟨a0, a1, a2, a3, a4⟩ :: done, a0, a1, a2, a3, a4, HO.out.take 3, .inl HIK.out⟩
        case measure => exact HLT.out _ _ 2 HO.out rfl
      · have HFM := Lib.hid (show (⟨f0, f1, f2, f3, f4⟩ : FK) ∈ keysU m from HFK.out.elim id (fun h => absurd h.1 hk0))
        have hz0 := kz_false hk0
        clear hk0
        by_cases h1 : la < ba
        · have d1 : decide (la < ba) = true := by simpa using h1
          have k1_0_0_111 : x111.cell? ⟨bf, 0, none⟩ = some (.int .i64 f0) := HO.out.cell 1 rfl 0 rfl
          have lk1_0_0_111 : x111.frozen? ⟨bf, 0, none⟩ = false := HO.out.frz 1 rfl 0
          have k1_0_1_111 : x111.cell? ⟨bf, 1, none⟩ = some (.int .i64 f1) := HO.out.cell 1 rfl 1 rfl
          have lk1_0_1_111 : x111.frozen? ⟨bf, 1, none⟩ = false := HO.out.frz 1 rfl 1
          have k1_0_2_111 : x111.cell? ⟨bf, 2, none⟩ = some (.int .i64 f2) := HO.out.cell 1 rfl 2 rfl
          have lk1_0_2_111 : x111.frozen? ⟨bf, 2, none⟩ = false := HO.out.frz 1 rfl 2
          have k1_0_3_111 : x111.cell? ⟨bf, 3, none⟩ = some (.int .i64 f3) := HO.out.cell 1 rfl 3 rfl
          have lk1_0_3_111 : x111.frozen? ⟨bf, 3, none⟩ = false := HO.out.frz 1 rfl 3
          have k1_0_4_111 : x111.cell? ⟨bf, 4, none⟩ = some (.int .i64 f4) := HO.out.cell 1 rfl 4 rfl
          have lk1_0_4_111 : x111.frozen? ⟨bf, 4, none⟩ = false := HO.out.frz 1 rfl 4
          obtain ⟨x112, hx112⟩ : ∃ y, x111.setCell ⟨bf, 0, none⟩ (.int .i64 a0) = y := ⟨_, rfl⟩
          have hO := HO.out.setCell 1 rfl 0 (.int .i64 a0)
          rw [hx112] at hO
          replace HO := Lib.hid (show Own w none0 x112 [blkR br (.cells #[.int .i64 0, .int .i64 0, .int .i64 0, .int .i64 0, .int .i64 0] 192), blkR bf (.cells #[.int .i64 a0, .int .i64 f1, .int .i64 f2, .int .i64 f3, .int .i64 f4] 192), itrR encK b r clk es (⟨a0, a1, a2, a3, a4⟩ :: done), blkR bk (.cells #[.int .i64 a0, .int .i64 a1, .int .i64 a2, .int .i64 a3, .int .i64 a4] 192), blkR bu (.cells #[.int .i64 la, .int .i64 nu] 189), blkR bb (.cells #[.int .i64 ba, .int .i64 bn] 189)] from hO)
          clear hO
          have k1_1_1_112 : x112.cell? ⟨bf, 1, none⟩ = some (.int .i64 f1) := HO.out.cell 1 rfl 1 rfl
          have lk1_1_1_112 : x112.frozen? ⟨bf, 1, none⟩ = false := HO.out.frz 1 rfl 1
          have k1_1_2_112 : x112.cell? ⟨bf, 2, none⟩ = some (.int .i64 f2) := HO.out.cell 1 rfl 2 rfl
          have lk1_1_2_112 : x112.frozen? ⟨bf, 2, none⟩ = false := HO.out.frz 1 rfl 2
          have k1_1_3_112 : x112.cell? ⟨bf, 3, none⟩ = some (.int .i64 f3) := HO.out.cell 1 rfl 3 rfl
          have lk1_1_3_112 : x112.frozen? ⟨bf, 3, none⟩ = false := HO.out.frz 1 rfl 3
          have k1_1_4_112 : x112.cell? ⟨bf, 4, none⟩ = some (.int .i64 f4) := HO.out.cell 1 rfl 4 rfl
          have lk1_1_4_112 : x112.frozen? ⟨bf, 4, none⟩ = false := HO.out.frz 1 rfl 4
          obtain ⟨x113, hx113⟩ : ∃ y, x112.setCell ⟨bf, 1, none⟩ (.int .i64 a1) = y := ⟨_, rfl⟩
          have hO := HO.out.setCell 1 rfl 1 (.int .i64 a1)
          rw [hx113] at hO
          replace HO := Lib.hid (show Own w none0 x113 [blkR br (.cells #[.int .i64 0, .int .i64 0, .int .i64 0, .int .i64 0, .int .i64 0] 192), blkR bf (.cells #[.int .i64 a0, .int .i64 a1, .int .i64 f2, .int .i64 f3, .int .i64 f4] 192), itrR encK b r clk es (⟨a0, a1, a2, a3, a4⟩ :: done), blkR bk (.cells #[.int .i64 a0, .int .i64 a1, .int .i64 a2, .int .i64 a3, .int .i64 a4] 192), blkR bu (.cells #[.int .i64 la, .int .i64 nu] 189), blkR bb (.cells #[.int .i64 ba, .int .i64 bn] 189)] from hO)
          clear hO
          have k1_2_2_113 : x113.cell? ⟨bf, 2, none⟩ = some (.int .i64 f2) := HO.out.cell 1 rfl 2 rfl
          have lk1_2_2_113 : x113.frozen? ⟨bf, 2, none⟩ = false := HO.out.frz 1 rfl 2
          have k1_2_3_113 : x113.cell? ⟨bf, 3, none⟩ = some (.int .i64 f3) := HO.out.cell 1 rfl 3 rfl
          have lk1_2_3_113 : x113.frozen? ⟨bf, 3, none⟩ = false := HO.out.frz 1 rfl 3
          have k1_2_4_113 : x113.cell? ⟨bf, 4, none⟩ = some (.int .i64 f4) := HO.out.cell 1 rfl 4 rfl
          have lk1_2_4_113 : x113.frozen? ⟨bf, 4, none⟩ = false := HO.out.frz 1 rfl 4
          obtain ⟨x114, hx114⟩ : ∃ y, x113.setCell ⟨bf, 2, none⟩ (.int .i64 a2) = y := ⟨_, rfl⟩
          have hO := HO.out.setCell 1 rfl 2 (.int .i64 a2)
          rw [hx114] at hO
          replace HO := Lib.hid (show Own w none0 x114 [blkR br (.cells #[.int .i64 0, .int .i64 0, .int .i64 0, .int .i64 0, .int .i64 0] 192), blkR bf (.cells #[.int .i64 a0, .int .i64 a1, .int .i64 a2, .int .i64 f3, .int .i64 f4] 192), itrR encK b r clk es (⟨a0, a1, a2, a3, a4⟩ :: done), blkR bk (.cells #[.int .i64 a0, .int .i64 a1, .int .i64 a2, .int .i64 a3, .int .i64 a4] 192), blkR bu (.cells #[.int .i64 la, .int .i64 nu] 189), blkR bb (.cells #[.int .i64 ba, .int .i64 bn] 189)] from hO)
          clear hO
          have k1_3_3_114 : x114.cell? ⟨bf, 3, none⟩ = some (.int .i64 f3) := HO.out.cell 1 rfl 3 rfl
          have lk1_3_3_114 : x114.frozen? ⟨bf, 3, none⟩ = false := HO.out.frz 1 rfl 3
          have k1_3_4_114 : x114.cell? ⟨bf, 4, none⟩ = some (.int .i64 f4) := HO.out.cell 1 rfl 4 rfl
          have lk1_3_4_114 : x114.frozen? ⟨bf, 4, none⟩ = false := HO.out.frz 1 rfl 4
          obtain ⟨x115, hx115⟩ : ∃ y, x114.setCell ⟨bf, 3, none⟩ (.int .i64 a3) = y := ⟨_, rfl⟩
          have hO := HO.out.setCell 1 rfl 3 (.int .i64 a3)
          rw [hx115] at hO
          replace HO := Lib.hid (show Own w none0 x115 [blkR br (.cells #[.int .i64 0, .int .i64 0, .int .i64 0, .int .i64 0, .int .i64 0] 192), blkR bf (.cells #[.int .i64 a0, .int .i64 a1, .int .i64 a2, .int .i64 a3, .int .i64 f4] 192), itrR encK b r clk es (⟨a0, a1, a2, a3, a4⟩ :: done), blkR bk (.cells #[.int .i64 a0, .int .i64 a1, .int .i64 a2, .int .i64 a3, .int .i64 a4] 192), blkR bu (.cells #[.int .i64 la, .int .i64 nu] 189), blkR bb (.cells #[.int .i64 ba, .int .i64 bn] 189)] from hO)
          clear hO
          have k1_4_4_115 : x115.cell? ⟨bf, 4, none⟩ = some (.int .i64 f4) := HO.out.cell 1 rfl 4 rfl
          have lk1_4_4_115 : x115.frozen? ⟨bf, 4, none⟩ = false := HO.out.frz 1 rfl 4
          obtain ⟨x116, hx116⟩ : ∃ y, x115.setCell ⟨bf, 4, none⟩ (.int .i64 a4) = y := ⟨_, rfl⟩
          have hO := HO.out.setCell 1 rfl 4 (.int .i64 a4)
          rw [hx116] at hO
          replace HO := Lib.hid (show Own w none0 x116 [blkR br (.cells #[.int .i64 0, .int .i64 0, .int .i64 0, .int .i64 0, .int .i64 0] 192), blkR bf (.cells #[.int .i64 a0, .int .i64 a1, .int .i64 a2, .int .i64 a3, .int .i64 a4] 192), itrR encK b r clk es (⟨a0, a1, a2, a3, a4⟩ :: done), blkR bk (.cells #[.int .i64 a0, .int .i64 a1, .int .i64 a2, .int .i64 a3, .int .i64 a4] 192), blkR bu (.cells #[.int .i64 la, .int .i64 nu] 189), blkR bb (.cells #[.int .i64 ba, .int .i64 bn] 189)] from hO)
          clear hO
          go_wp2
          go_roundw
          case rel => exact ⟨⟨a0, a1, a2, a3, a4⟩ :: done, a0, a1, a2, a3, a4, HO.out.take 3, .inl HIK.out⟩
          case measure => exact HLT.out _ _ 2 HO.out rfl
        · have d1 : decide (la < ba) = false := by simpa using h1
          clear h1
          cases h2 : (la == ba) with
          | false =>
            skip
            go_wp2
            go_roundw
            case rel => exact ⟨⟨a0, a1, a2, a3, a4⟩ :: done, f0, f1, f2, f3, f4, HO.out.take 3, .inl HFM.out⟩
            case measure => exact HLT.out _ _ 2 HO.out rfl
          | true =>
            by_cases h3 : nu < bn
            · have d3 : decide (nu < bn) = true := by simpa using h3
              have k1_0_0_111 : x111.cell? ⟨bf, 0, none⟩ = some (.int .i64 f0) := HO.out.cell 1 rfl 0 rfl
              have lk1_0_0_111 : x111.frozen? ⟨bf, 0, none⟩ = false := HO.out.frz 1 rfl 0
              have k1_0_1_111 : x111.cell? ⟨bf, 1, none⟩ = some (.int .i64 f1) := HO.out.cell 1 rfl 1 rfl
              have lk1_0_1_111 : x111.frozen? ⟨bf, 1, none⟩ = false := HO.out.frz 1 rfl 1
              have k1_0_2_111 : x111.cell? ⟨bf, 2, none⟩ = some (.int .i64 f2) := HO.out.cell 1 rfl 2 rfl
              have lk1_0_2_111 : x111.frozen? ⟨bf, 2, none⟩ = false := HO.out.frz 1 rfl 2
              have k1_0_3_111 : x111.cell? ⟨bf, 3, none⟩ = some (.int .i64 f3) := HO.out.cell 1 rfl 3 rfl
              have lk1_0_3_111 : x111.frozen? ⟨bf, 3, none⟩ = false := HO.out.frz 1 rfl 3
              have k1_0_4_111 : x111.cell? ⟨bf, 4, none⟩ = some (.int .i64 f4) := HO.out.cell 1 rfl 4 rfl
              have lk1_0_4_111 : x111.frozen? ⟨bf, 4, none⟩ = false := HO.out.frz 1 rfl 4
              obtain ⟨x112, hx112⟩ : ∃ y, x111.setCell ⟨bf, 0, none⟩ (.int .i64 a0) = y := ⟨_, rfl⟩
              have hO := HO.out.setCell 1 rfl 0 (.int .i64 a0)
              rw [hx112] at hO
              replace HO := Lib.hid (show Own w none0 x112 [blkR br (.cells #[.int .i64 0, .int .i64 0, .int .i64 0, .int .i64 0, .int .i64 0] 192), blkR bf (.cells #[.int .i64 a0, .int .i64 f1, .int .i64 f2, .int .i64 f3, .int .i64 f4] 192), itrR encK b r clk es (⟨a0, a1, a2, a3, a4⟩ :: done), blkR bk (.cells #[.int .i64 a0, .int .i64 a1, .int .i64 a2, .int .i64 a3, .int .i64 a4] 192), blkR bu (.cells #[.int .i64 la, .int .i64 nu] 189), blkR bb (.cells #[.int .i64 ba, .int .i64 bn] 189)] from hO)
              clear hO
              have k1_1_1_112 : x112.cell? ⟨bf, 1, none⟩ = some (.int .i64 f1) := HO.out.cell 1 rfl 1 rfl
              have lk1_1_1_112 : x112.frozen? ⟨bf, 1, none⟩ = false := HO.out.frz 1 rfl 1
              have k1_1_2_112 : x112.cell? ⟨bf, 2, none⟩ = some (.int .i64 f2) := HO.out.cell 1 rfl 2 rfl
              have lk1_1_2_112 : x112.frozen? ⟨bf, 2, none⟩ = false := HO.out.frz 1 rfl 2
              have k1_1_3_112 : x112.cell? ⟨bf, 3, none⟩ = some (.int .i64 f3) := HO.out.cell 1 rfl 3 rfl
              have lk1_1_3_112 : x112.frozen? ⟨bf, 3, none⟩ = false := HO.out.frz 1 rfl 3
              have k1_1_4_112 : x112.cell? ⟨bf, 4, none⟩ = some (.int .i64 f4) := HO.out.cell 1 rfl 4 rfl
              have lk1_1_4_112 : x112.frozen? ⟨bf, 4, none⟩ = false := HO.out.frz 1 rfl 4
              obtain ⟨x113, hx113⟩ : ∃ y, x112.setCell ⟨bf, 1, none⟩ (.int .i64 a1) = y := ⟨_, rfl⟩
              have hO := HO.out.setCell 1 rfl 1 (.int .i64 a1)
              rw [hx113] at hO
              replace HO := Lib.hid (show Own w none0 x113 [blkR br (.cells #[.int .i64 0, .int .i64 0, .int .i64 0, .int .i64 0, .int .i64 0] 192), blkR bf (.cells #[.int .i64 a0, .int .i64 a1, .int .i64 f2, .int .i64 f3, .int .i64 f4] 192), itrR encK b r clk es (⟨a0, a1, a2, a3, a4⟩ :: done), blkR bk (.cells #[.int .i64 a0, .int .i64 a1, .int .i64 a2, .int .i64 a3, .int .i64 a4] 192), blkR bu (.cells #[.int .i64 la, .int .i64 nu] 189), blkR bb (.cells #[.int .i64 ba, .int .i64 bn] 189)] from hO)
              clear hO
              have k1_2_2_113 : x113.cell? ⟨bf, 2, none⟩ = some (.int .i64 f2) := HO.out.cell 1 rfl 2 rfl
              have lk1_2_2_113 : x113.frozen? ⟨bf, 2, none⟩ = false := HO.out.frz 1 rfl 2
              have k1_2_3_113 : x113.cell? ⟨bf, 3, none⟩ = some (.int .i64 f3) := HO.out.cell 1 rfl 3 rfl
              have lk1_2_3_113 : x113.frozen? ⟨bf, 3, none⟩ = false := HO.out.frz 1 rfl 3
              have k1_2_4_113 : x113.cell? ⟨bf, 4, none⟩ = some (.int .i64 f4) := HO.out.cell 1 rfl 4 rfl
              have lk1_2_4_113 : x113.frozen? ⟨bf, 4, none⟩ = false := HO.out.frz 1 rfl 4
              obtain ⟨x114, hx114⟩ : ∃ y, x113.setCell ⟨bf, 2, none⟩ (.int .i64 a2) = y := ⟨_, rfl⟩
              have hO := HO.out.setCell 1 rfl 2 (.int .i64 a2)
              rw [hx114] at hO
              replace HO := Lib.hid (show Own w none0 x114 [blkR br (.cells #[.int .i64 0, .int .i64 0, .int .i64 0, .int .i64 0, .int .i64 0] 192), blkR bf (.cells #[.int .i64 a0, .int .i64 a1, .int .i64 a2, .int .i64 f3, .int .i64 f4] 192), itrR encK b r clk es (⟨a0, a1, a2, a3, a4⟩ :: done), blkR bk (.cells #[.int .i64 a0, .int .i64 a1, .int .i64 a2, .int .i64 a3, .int .i64 a4] 192), blkR bu (.cells #[.int .i64 la, .int .i64 nu] 189), blkR bb (.cells #[.int .i64 ba, .int .i64 bn] 189)] from hO)
              clear hO
              have k1_3_3_114 : x114.cell? ⟨bf, 3, none⟩ = some (.int .i64 f3) := HO.out.cell 1 rfl 3 rfl
              have lk1_3_3_114 : x114.frozen? ⟨bf, 3, none⟩ = false := HO.out.frz 1 rfl 3
              have k1_3_4_114 : x114.cell? ⟨bf, 4, none⟩ = some (.int .i64 f4) := HO.out.cell 1 rfl 4 rfl
              have lk1_3_4_114 : x114.frozen? ⟨bf, 4, none⟩ = false := HO.out.frz 1 rfl 4
              obtain ⟨x115, hx115⟩ : ∃ y, x114.setCell ⟨bf, 3, none⟩ (.int .i64 a3) = y := ⟨_, rfl⟩
              have hO := HO.out.setCell 1 rfl 3 (.int .i64 a3)
              rw [hx115] at hO
              replace HO := Lib.hid (show Own w none0 x115 [blkR br (.cells #[.int .i64 0, .int .i64 0, .int .i64 0, .int .i64 0, .int .i64 0] 192), blkR bf (.cells #[.int .i64 a0, .int .i64 a1, .int .i64 a2, .int .i64 a3, .int .i64 f4] 192), itrR encK b r clk es (⟨a0, a1, a2, a3, a4⟩ :: done), blkR bk (.cells #[.int .i64 a0, .int .i64 a1, .int .i64 a2, .int .i64 a3, .int .i64 a4] 192), blkR bu (.cells #[.int .i64 la, .int .i64 nu] 189), blkR bb (.cells #[.int .i64 ba, .int .i64 bn] 189)] from hO)
              clear hO
              have k1_4_4_115 : x115.cell? ⟨bf, 4, none⟩ = some (.int .i64 f4) := HO.out.cell 1 rfl 4 rfl
              have lk1_4_4_115 : x115.frozen? ⟨bf, 4, none⟩ = false := HO.out.frz 1 rfl 4
              obtain ⟨x116, hx116⟩ : ∃ y, x115.setCell ⟨bf, 4, none⟩ (.int .i64 a4) = y := ⟨_, rfl⟩
              have hO := HO.out.setCell 1 rfl 4 (.int .i64 a4)
              rw [hx116] at hO
              replace HO := Lib.hid (show Own w none0 x116 [blkR br (.cells #[.int .i64 0, .int .i64 0, .int .i64 0, .int .i64 0, .int .i64 0] 192), blkR bf (.cells #[.int .i64 a0, .int .i64 a1, .int .i64 a2, .int .i64 a3, .int .i64 a4] 192), itrR encK b r clk es (⟨a0, a1, a2, a3, a4⟩ :: done), blkR bk (.cells #[.int .i64 a0, .int .i64 a1, .int .i64 a2, .int .i64 a3, .int .i64 a4] 192), blkR bu (.cells #[.int .i64 la, .int .i64 nu] 189), blkR bb (.cells #[.int .i64 ba, .int .i64 bn] 189)] from hO)
              clear hO
              go_wp2
              go_roundw
              case rel => exact ⟨⟨a0, a1, a2, a3, a4⟩ :: done, a0, a1, a2, a3, a4, HO.out.take 3, .inl HIK.out⟩
              case measure => exact HLT.out _ _ 2 HO.out rfl
            · have d3 : decide (nu < bn) = false := by simpa using h3
              clear h3
              go_wp2
              go_roundw
              case rel => exact ⟨⟨a0, a1, a2, a3, a4⟩ :: done, f0, f1, f2, f3, f4, HO.out.take 3, .inl HFM.out⟩
              case measure => exact HLT.out _ _ 2 HO.out rfl
end

end Go.Proofs.YtbolfkojebbejaaGreatDoor
