/- Contract of insert. Printed by wip/tools/gen22e.py. Contract of admits. Printed by wip/tools/gen22f.py. Contract of passes. Printed by wip/tools/gen22g.py. Contracts of In, Out, Len. Printed by wip/tools/gen22h.py. Contract of Quoted. Printed by wip/tools/gen22i.py. A rule as an element of a row. Contracts of Clone and New; In, Out and Quoted while the table has room. Printed by wip/tools/gen22l.py. In, Out and Quoted while the table has room: the deterministic forms. Contracts of the laws' helpers of chapter 22: pick, five, FlowFrom. Printed by wip/tools/gen22j.py. -/
import Derived.Test.YtbolfkojebbejaaGreatDoorFw4
import Derived.Test.YtbolfkojebbejaaGreatDoorBb
import Derived.Test.YtbolfkojebbejaaGreatDoorBi
import Derived.Test.YtbolfkojebbejaaGreatDoorBc
namespace Go.Proofs.YtbolfkojebbejaaGreatDoor
open Go.RowKit Go.Sort
set_option linter.unusedVariables false
set_option maxRecDepth 100000

theorem wp_callX {P : Program} {o : Oper} {a : Act} {w : World} {f : FuncId} {args : Array Value} {A : Pred} (hrun : (execOp a.eval o).run P w = .ok (.enter f args) w) (hc : Calls P f args w fun e w' => ∃ v, e = .returned v ∧ Below w.heap.size w w' ∧ A v w') :
    o.wp P a w (fun a' w' => ∃ v, a' = a.put o.dst v ∧ Below w.heap.size w w' ∧ A v w') (fun _ _ _ => False) := by
  unfold Oper.wp
  rw [hrun]
  refine hc.mono fun e w' ⟨v, he, hb, hA⟩ => ?_
  subst he
  exact ⟨v, rfl, hb, hA⟩
/-- One thing, changed to one of several. -/
theorem o_oneE {P : Program} {f : FuncId} {args : Array Value} {w0 w : World} {D : Nat → Prop} {L : List Res} {i : Nat} {R : Res} {α : Type} {Q : α → Value → Prop} {R' : α → Res} (h : Own w0 D w L) (hi : L[i]? = some R)
    (hc : ∀ D, Own w D w [R] → Calls P f args w fun e w' => ∃ x v, Q x v ∧ e = .returned v ∧ Own w D w' [R' x] ∧ w.heap.size ≤ w'.heap.size) : Calls P f args w fun e w' => ∃ x v, Q x v ∧ e = .returned v ∧ Own w0 D w' (L.set i (R' x)) ∧ w.heap.size ≤ w'.heap.size := by
  obtain ⟨F, h1, _, h3⟩ := h.step hi
  refine (hc F (Own.one h1)).mono fun e w' ⟨x, v, hq, he, ho, hs⟩ => ?_
  obtain ⟨F', g1, g2, _⟩ := ho.step (i := 0) rfl
  exact ⟨x, v, hq, he, h3 g1 g2 ho.upd, hs⟩
theorem Own.mapS {α : Type} [DecidableEq α] {enc : α → Value} {w0 w : World} {D : Nat → Prop} {L : List Res} (h : Own w0 D w L) (i : Nat) {b : Nat} {m : List (α × Value)} (hi : L[i]? = some (mapR enc b m)) : MapS enc w b m := by
  obtain ⟨F, h1, _⟩ := h.step hi; exact h1.2
/-- What insert makes room for. -/
def RoomU (m m1 : List (FK × Us)) : Prop := (m.length < 32 ∧ m1 = m) ∨ (32 ≤ m.length ∧ ∃ k ∈ keysU m, m1 = delU k m)
def InsO (w0 : World) (D : Nat → Prop) (L : List Res) (i : Nat) (f : Nat) (st : FSt) (now : Int) (k : FK) (w : World) (e : Ending) (w' : World) : Prop :=
  ∃ (m1 : List (FK × Us)) (v : Value), (RoomU st.m m1 ∧ v = .tuple #[]) ∧ e = .returned v ∧ Own w0 D w' (L.set i (resF f ⟨st.rl, setU k ⟨now, st.ins + 1⟩ m1, st.ins + 1⟩)) ∧ w.heap.size ≤ w'.heap.size
section
variable {w0 w : World} {D : Nat → Prop} {L : List Res} {f : Nat} {st : FSt}
set_option maxRecDepth 100000 in
set_option maxHeartbeats 8000000 in
theorem insert_o {now : Int} {k : FK} (h : Own w0 D w L) (i : Nat) (hi : L[i]? = some (resF f st)) (hI : FI st) (hz : ∀ x ∈ st.m, x.1 ≠ ⟨0, 0, 0, 0, 0⟩) (hml : st.m.length ≤ 1000) :
    Calls Tryz.prog 142 #[.pointer (some ⟨f, 0, none⟩), .int .i64 now, encK k] w (InsO w0 D L i f st now k w) := by
  refine o_oneE (Q := fun m1 v => RoomU st.m m1 ∧ v = .tuple #[]) (R' := fun m1 => resF f ⟨st.rl, setU k ⟨now, st.ins + 1⟩ m1, st.ins + 1⟩) h hi fun D HO0 => ?_
  clear h hi
  obtain ⟨vr, om, HO0⟩ := openF HO0
  obtain ⟨rl, m, ins⟩ := st
  obtain ⟨a0, a1, a2, a3, a4⟩ := k
  simp only at HO0 hml
  obtain ⟨i0, i1⟩ := hI.ins
  simp only at i0 i1
  have HZ := Lib.hid hz
  have HND := Lib.hid hI.nd
  clear hI hz
  rcases mapO_open HO0 2 rfl with ⟨rfl, rfl⟩ | ⟨b, rfl, HO1⟩
  · have HO := Lib.hid (show Own w D w [blkR f (.cells #[vr, .map none, .int .i64 ins] 121), rowRl vr rl, mapO (.map none) []] from HO0)
    clear HO0 hml
    obtain ⟨x1, hx1⟩ : ∃ y, w.alloc (.cells #[.int .i64 a0, .int .i64 a1, .int .i64 a2, .int .i64 a3, .int .i64 a4] 192) = y := ⟨_, rfl⟩
    obtain ⟨bk, hbk⟩ : ∃ y, w.heap.size = y := ⟨_, rfl⟩
    have hO := HO.out.alloc (.cells #[.int .i64 a0, .int .i64 a1, .int .i64 a2, .int .i64 a3, .int .i64 a4] 192)
    rw [hx1, hbk] at hO
    replace HO := Lib.hid (show Own w D x1 [blkR f (.cells #[vr, .map none, .int .i64 ins] 121), rowRl vr rl, mapO (.map none) [], blkR bk (.cells #[.int .i64 a0, .int .i64 a1, .int .i64 a2, .int .i64 a3, .int .i64 a4] 192)] from hO)
    clear hO
    have c1 : x1.cell? ⟨f, 1, none⟩ = some (.map none) := HO.out.cell 0 rfl 1 rfl
    have y1 : x1.frozen? ⟨f, 1, none⟩ = false := HO.out.frz 0 rfl 1
    have hmk := @run_makeMap Tryz.prog
    have e0 : ∀ w, (binOp .eql 119 (.map none) (.map none)).run Tryz.prog w = .ok (.bool true) w := fun w => by kernel_rfl
    obtain ⟨x2, hx2⟩ : ∃ y, x1.alloc (.map #[] 0) = y := ⟨_, rfl⟩
    obtain ⟨bm, hbm⟩ : ∃ y, x1.heap.size = y := ⟨_, rfl⟩
    have hO := HO.out.mapNew encK
    rw [hx2, hbm] at hO
    replace HO := Lib.hid (show Own w D x2 [blkR f (.cells #[vr, .map none, .int .i64 ins] 121), rowRl vr rl, mapO (.map none) [], blkR bk (.cells #[.int .i64 a0, .int .i64 a1, .int .i64 a2, .int .i64 a3, .int .i64 a4] 192), mapR encK bm (mapU [])] from hO)
    clear hO
    have c3 : x2.cell? ⟨f, 1, none⟩ = some (.map none) := HO.out.cell 0 rfl 1 rfl
    have y3 : x2.frozen? ⟨f, 1, none⟩ = false := HO.out.frz 0 rfl 1
    obtain ⟨x3, hx3⟩ : ∃ y, x2.setCell ⟨f, 1, none⟩ (.map (some bm)) = y := ⟨_, rfl⟩
    have hO := HO.out.setCell 0 rfl 1 (.map (some bm))
    rw [hx3] at hO
    replace HO := Lib.hid (show Own w D x3 [blkR f (.cells #[vr, .map (some bm), .int .i64 ins] 121), rowRl vr rl, mapO (.map none) [], blkR bk (.cells #[.int .i64 a0, .int .i64 a1, .int .i64 a2, .int .i64 a3, .int .i64 a4] 192), mapR encK bm (mapU [])] from hO)
    clear hO
    have c4 : x3.cell? ⟨f, 1, none⟩ = some (.map (some bm)) := HO.out.cell 0 rfl 1 rfl
    have hln := fun ty => run_len_map (P := Tryz.prog) Tryz.underlying119 (HO.out.mapB 4 rfl) ty
    simp only [mapU, List.map_nil, List.length_nil] at hln
    go_enter Tryz.func142, Tryz.ntmps142
    have zf : x3.cell? ⟨f, 2, none⟩ = some (.int .i64 ins) := HO.out.cell 0 rfl 2 rfl
    have yf : x3.frozen? ⟨f, 2, none⟩ = false := HO.out.frz 0 rfl 2
    obtain ⟨x4, hx4⟩ : ∃ y, x3.setCell ⟨f, 2, none⟩ (.int .i64 (ins + 1)) = y := ⟨_, rfl⟩
    have hO := HO.out.setCell 0 rfl 2 (.int .i64 (ins + 1))
    rw [hx4] at hO
    replace HO := Lib.hid (show Own w D x4 [blkR f (.cells #[vr, .map (some bm), .int .i64 (ins + 1)] 121), rowRl vr rl, mapO (.map none) [], blkR bk (.cells #[.int .i64 a0, .int .i64 a1, .int .i64 a2, .int .i64 a3, .int .i64 a4] 192), mapR encK bm (mapU [])] from hO)
    clear hO
    go_wp2
    clear hx1 hbk c1 y1 hmk e0 hx2 hbm c3 y3 hx3 c4 hln zf yf hx4
    have c1 := cell_regrown (show x4.cell? ⟨f, 1, none⟩ = some (.map (some bm)) from HO.out.cell 0 rfl 1 rfl)
    have c2 := cell_regrown (show x4.cell? ⟨f, 2, none⟩ = some (.int .i64 (ins + 1)) from HO.out.cell 0 rfl 2 rfl)
    have e0 := cell_regrown (show x4.cell? ⟨bk, 0, none⟩ = some (.int .i64 a0) from HO.out.cell 3 rfl 0 rfl)
    have e1 := cell_regrown (show x4.cell? ⟨bk, 1, none⟩ = some (.int .i64 a1) from HO.out.cell 3 rfl 1 rfl)
    have e2 := cell_regrown (show x4.cell? ⟨bk, 2, none⟩ = some (.int .i64 a2) from HO.out.cell 3 rfl 2 rfl)
    have e3 := cell_regrown (show x4.cell? ⟨bk, 3, none⟩ = some (.int .i64 a3) from HO.out.cell 3 rfl 3 rfl)
    have e4 := cell_regrown (show x4.cell? ⟨bk, 4, none⟩ = some (.int .i64 a4) from HO.out.cell 3 rfl 4 rfl)
    refine wp_region_R 11 (by kernel_rfl) (by kernel_rfl) ?_
    simp only [List.take, List.drop]
    iterate 11 (first | (refine wpR_want (by kernel_rfl) rfl rfl ?_; intro K hK; go_big_quiet_op; go_big_quiet_on) | (refine wpR_is (by kernel_rfl) rfl _ (fun w _ => rfl) ?_; simp only [Act.put, List.setIfInBounds_toArray, List.set_cons_succ, List.set_cons_zero]))
    refine wpR_nil (by kernel_rfl) (by simp) ?_
    rintro w8 hb8
    simp only [exAll, List.drop]
    clear c1 c2 e0 e1 e2 e3 e4
    replace HO := Lib.hid (HO.out.stay hb8)
    clear hb8
    obtain ⟨w9, hrun, hO⟩ := HO.out.mapSet (P := Tryz.prog) 4 rfl keyK Tryz.underlying119 ⟨a0, a1, a2, a3, a4⟩ (valU ⟨now, ins + 1⟩)
    rw [mapU_set] at hO
    have hO2 := mapO_shut hO 4 rfl
    have HO3 := Lib.hid (show Own w D w9 [blkF f vr (.map (some bm)) (ins + 1), rowRl vr rl, mapO (.map (some bm)) (setU ⟨a0, a1, a2, a3, a4⟩ ⟨now, ins + 1⟩ ([]))] from hO2.pick [0, 1, 4] (by decide) (fun k R hk => by
      match k, hk with
      | 0, hk => exact ⟨0, rfl, hk⟩
      | 1, hk => exact ⟨1, rfl, hk⟩
      | 2, hk => exact ⟨4, rfl, hk⟩))
    clear hO hO2 HO
    go_wp2
    go_end0
    exact ⟨[], _, ⟨.inl ⟨by decide, rfl⟩, rfl⟩, rfl, shutF (st := ⟨rl, setU ⟨a0, a1, a2, a3, a4⟩ ⟨now, ins + 1⟩ ([]), ins + 1⟩) HO3.out, HO3.out.size⟩
  · have HO := Lib.hid (show Own w D w [blkR f (.cells #[vr, .map (some b), .int .i64 ins] 121), rowRl vr rl, mapR encK b (mapU m)] from HO1)
    clear HO0 HO1
    obtain ⟨x1, hx1⟩ : ∃ y, w.alloc (.cells #[.int .i64 a0, .int .i64 a1, .int .i64 a2, .int .i64 a3, .int .i64 a4] 192) = y := ⟨_, rfl⟩
    obtain ⟨bk, hbk⟩ : ∃ y, w.heap.size = y := ⟨_, rfl⟩
    have hO := HO.out.alloc (.cells #[.int .i64 a0, .int .i64 a1, .int .i64 a2, .int .i64 a3, .int .i64 a4] 192)
    rw [hx1, hbk] at hO
    replace HO := Lib.hid (show Own w D x1 [blkR f (.cells #[vr, .map (some b), .int .i64 ins] 121), rowRl vr rl, mapR encK b (mapU m), blkR bk (.cells #[.int .i64 a0, .int .i64 a1, .int .i64 a2, .int .i64 a3, .int .i64 a4] 192)] from hO)
    clear hO
    have c1 : x1.cell? ⟨f, 1, none⟩ = some (.map (some b)) := HO.out.cell 0 rfl 1 rfl
    have e0 : ∀ w, (binOp .eql 119 (.map (some b)) (.map none)).run Tryz.prog w = .ok (.bool false) w := fun w => by kernel_rfl
    have hln := fun ty => run_len_map (P := Tryz.prog) Tryz.underlying119 (HO.out.mapB 2 rfl) ty
    rw [show (mapU m).length = m.length by simp [mapU]] at hln
    go_enter Tryz.func142, Tryz.ntmps142
    by_cases hfull : 32 ≤ m.length
    · have hd : decide ((32 : Int) ≤ (m.length : Int)) = true := by simp; omega
      have HFU := Lib.hid hfull
      clear hfull
      go_wp2
      clear hx1 hbk c1 e0 hln
      clear hd
      have c1 := cell_regrown (show x1.cell? ⟨f, 1, none⟩ = some (.map (some b)) from HO.out.cell 0 rfl 1 rfl)
      refine wp_region_R 6 (by kernel_rfl) (by kernel_rfl) ?_
      simp only [List.take, List.drop]
      iterate 5 (first | (refine wpR_want (by kernel_rfl) rfl rfl ?_; intro K hK; go_big_quiet_op; go_big_quiet_on) | (refine wpR_is (by kernel_rfl) rfl _ (fun w _ => rfl) ?_; simp only [Act.put, List.setIfInBounds_toArray, List.set_cons_succ, List.set_cons_zero]))
      refine wpR_ex (fun v _ => ∃ k, k ∈ keysU m ∧ v = encK k) (fun _ _ _ h _ => h) (by kernel_rfl) (fun a' w' hw' he => ?_) (fun d hd => ?_)
      · obtain ⟨h25, _⟩ := he
        replace h25 : a'.eval (.tmp 25) = .pointer (some ⟨f, 0, none⟩) := h25
        refine wp_callX (f := 181) (args := #[a'.eval (.tmp 25)]) (by simp [go_sem, Act.eval]) ?_
        rw [h25]
        obtain ⟨es, clk, g1, g2, g3⟩ := (HO.out.stay hw').mapS 2 rfl
        refine (oldest_any ((HO.out.stay hw').cell 0 rfl 1 rfl) g1 g2 g3 HND.out HZ.out (fun e => by have := HFU.out; rw [e] at this; simp at this)).mono ?_
        rintro e w'' ⟨k, hk, rfl, hb⟩
        exact ⟨_, rfl, hb, k, hk, rfl⟩
      cases hd
      simp only [List.nil_append]
      refine wpR_nil (by kernel_rfl) (by simp) ?_
      rintro w5 hb5
      simp only [exAll]
      rintro u26 ⟨ek, hek, rfl⟩
      simp only [Act.put, List.setIfInBounds_toArray, List.set_cons_succ, List.set_cons_zero, List.drop]
      clear c1
      replace HO := Lib.hid (HO.out.stay hb5)
      clear hb5
      have HEK := Lib.hid hek
      clear hek
      obtain ⟨w6, hdel, hO⟩ := HO.out.mapDel (P := Tryz.prog) 2 rfl keyK Tryz.underlying119 ek 0 192
      rw [mapU_del HND.out] at hO
      replace HO := Lib.hid (show Own w D w6 [blkR f (.cells #[vr, .map (some b), .int .i64 ins] 121), rowRl vr rl, mapR encK b (mapU (delU ek m)), blkR bk (.cells #[.int .i64 a0, .int .i64 a1, .int .i64 a2, .int .i64 a3, .int .i64 a4] 192)] from hO)
      clear hO
      have zf : w6.cell? ⟨f, 2, none⟩ = some (.int .i64 ins) := HO.out.cell 0 rfl 2 rfl
      have yf : w6.frozen? ⟨f, 2, none⟩ = false := HO.out.frz 0 rfl 2
      obtain ⟨x31, hx31⟩ : ∃ y, w6.setCell ⟨f, 2, none⟩ (.int .i64 (ins + 1)) = y := ⟨_, rfl⟩
      have hO := HO.out.setCell 0 rfl 2 (.int .i64 (ins + 1))
      rw [hx31] at hO
      replace HO := Lib.hid (show Own w D x31 [blkR f (.cells #[vr, .map (some b), .int .i64 (ins + 1)] 121), rowRl vr rl, mapR encK b (mapU (delU ek m)), blkR bk (.cells #[.int .i64 a0, .int .i64 a1, .int .i64 a2, .int .i64 a3, .int .i64 a4] 192)] from hO)
      clear hO
      go_wp2
      clear hdel zf yf hx31
      have c1 := cell_regrown (show x31.cell? ⟨f, 1, none⟩ = some (.map (some b)) from HO.out.cell 0 rfl 1 rfl)
      have c2 := cell_regrown (show x31.cell? ⟨f, 2, none⟩ = some (.int .i64 (ins + 1)) from HO.out.cell 0 rfl 2 rfl)
      have e0 := cell_regrown (show x31.cell? ⟨bk, 0, none⟩ = some (.int .i64 a0) from HO.out.cell 3 rfl 0 rfl)
      have e1 := cell_regrown (show x31.cell? ⟨bk, 1, none⟩ = some (.int .i64 a1) from HO.out.cell 3 rfl 1 rfl)
      have e2 := cell_regrown (show x31.cell? ⟨bk, 2, none⟩ = some (.int .i64 a2) from HO.out.cell 3 rfl 2 rfl)
      have e3 := cell_regrown (show x31.cell? ⟨bk, 3, none⟩ = some (.int .i64 a3) from HO.out.cell 3 rfl 3 rfl)
      have e4 := cell_regrown (show x31.cell? ⟨bk, 4, none⟩ = some (.int .i64 a4) from HO.out.cell 3 rfl 4 rfl)
      refine wp_region_R 11 (by kernel_rfl) (by kernel_rfl) ?_
      simp only [List.take, List.drop]
      iterate 11 (first | (refine wpR_want (by kernel_rfl) rfl rfl ?_; intro K hK; go_big_quiet_op; go_big_quiet_on) | (refine wpR_is (by kernel_rfl) rfl _ (fun w _ => rfl) ?_; simp only [Act.put, List.setIfInBounds_toArray, List.set_cons_succ, List.set_cons_zero]))
      refine wpR_nil (by kernel_rfl) (by simp) ?_
      rintro w8 hb8
      simp only [exAll, List.drop]
      clear c1 c2 e0 e1 e2 e3 e4
      replace HO := Lib.hid (HO.out.stay hb8)
      clear hb8
      obtain ⟨w9, hrun, hO⟩ := HO.out.mapSet (P := Tryz.prog) 2 rfl keyK Tryz.underlying119 ⟨a0, a1, a2, a3, a4⟩ (valU ⟨now, ins + 1⟩)
      rw [mapU_set] at hO
      have hO2 := mapO_shut hO 2 rfl
      have HO3 := Lib.hid (show Own w D w9 [blkF f vr (.map (some b)) (ins + 1), rowRl vr rl, mapO (.map (some b)) (setU ⟨a0, a1, a2, a3, a4⟩ ⟨now, ins + 1⟩ (delU ek m))] from hO2.pick [0, 1, 2] (by decide) (fun k R hk => by
        match k, hk with
        | 0, hk => exact ⟨0, rfl, hk⟩
        | 1, hk => exact ⟨1, rfl, hk⟩
        | 2, hk => exact ⟨2, rfl, hk⟩))
      clear hO hO2 HO
      go_wp2
      go_end0
      exact ⟨delU ek m, _, ⟨.inr ⟨HFU.out, ek, HEK.out, rfl⟩, rfl⟩, rfl, shutF (st := ⟨rl, setU ⟨a0, a1, a2, a3, a4⟩ ⟨now, ins + 1⟩ (delU ek m), ins + 1⟩) HO3.out, HO3.out.size⟩
    · have hd : decide ((32 : Int) ≤ (m.length : Int)) = false := by simp; omega
      have HFU := Lib.hid hfull
      clear hfull
      have zf : x1.cell? ⟨f, 2, none⟩ = some (.int .i64 ins) := HO.out.cell 0 rfl 2 rfl
      have yf : x1.frozen? ⟨f, 2, none⟩ = false := HO.out.frz 0 rfl 2
      obtain ⟨x2, hx2⟩ : ∃ y, x1.setCell ⟨f, 2, none⟩ (.int .i64 (ins + 1)) = y := ⟨_, rfl⟩
      have hO := HO.out.setCell 0 rfl 2 (.int .i64 (ins + 1))
      rw [hx2] at hO
      replace HO := Lib.hid (show Own w D x2 [blkR f (.cells #[vr, .map (some b), .int .i64 (ins + 1)] 121), rowRl vr rl, mapR encK b (mapU m), blkR bk (.cells #[.int .i64 a0, .int .i64 a1, .int .i64 a2, .int .i64 a3, .int .i64 a4] 192)] from hO)
      clear hO
      go_wp2
      clear hx1 hbk c1 e0 hln hd zf yf hx2
      have c1 := cell_regrown (show x2.cell? ⟨f, 1, none⟩ = some (.map (some b)) from HO.out.cell 0 rfl 1 rfl)
      have c2 := cell_regrown (show x2.cell? ⟨f, 2, none⟩ = some (.int .i64 (ins + 1)) from HO.out.cell 0 rfl 2 rfl)
      have e0 := cell_regrown (show x2.cell? ⟨bk, 0, none⟩ = some (.int .i64 a0) from HO.out.cell 3 rfl 0 rfl)
      have e1 := cell_regrown (show x2.cell? ⟨bk, 1, none⟩ = some (.int .i64 a1) from HO.out.cell 3 rfl 1 rfl)
      have e2 := cell_regrown (show x2.cell? ⟨bk, 2, none⟩ = some (.int .i64 a2) from HO.out.cell 3 rfl 2 rfl)
      have e3 := cell_regrown (show x2.cell? ⟨bk, 3, none⟩ = some (.int .i64 a3) from HO.out.cell 3 rfl 3 rfl)
      have e4 := cell_regrown (show x2.cell? ⟨bk, 4, none⟩ = some (.int .i64 a4) from HO.out.cell 3 rfl 4 rfl)
      refine wp_region_R 11 (by kernel_rfl) (by kernel_rfl) ?_
      simp only [List.take, List.drop]
      iterate 11 (first | (refine wpR_want (by kernel_rfl) rfl rfl ?_; intro K hK; go_big_quiet_op; go_big_quiet_on) | (refine wpR_is (by kernel_rfl) rfl _ (fun w _ => rfl) ?_; simp only [Act.put, List.setIfInBounds_toArray, List.set_cons_succ, List.set_cons_zero]))
      refine wpR_nil (by kernel_rfl) (by simp) ?_
      rintro w8 hb8
      simp only [exAll, List.drop]
      clear c1 c2 e0 e1 e2 e3 e4
      replace HO := Lib.hid (HO.out.stay hb8)
      clear hb8
      obtain ⟨w9, hrun, hO⟩ := HO.out.mapSet (P := Tryz.prog) 2 rfl keyK Tryz.underlying119 ⟨a0, a1, a2, a3, a4⟩ (valU ⟨now, ins + 1⟩)
      rw [mapU_set] at hO
      have hO2 := mapO_shut hO 2 rfl
      have HO3 := Lib.hid (show Own w D w9 [blkF f vr (.map (some b)) (ins + 1), rowRl vr rl, mapO (.map (some b)) (setU ⟨a0, a1, a2, a3, a4⟩ ⟨now, ins + 1⟩ (m))] from hO2.pick [0, 1, 2] (by decide) (fun k R hk => by
        match k, hk with
        | 0, hk => exact ⟨0, rfl, hk⟩
        | 1, hk => exact ⟨1, rfl, hk⟩
        | 2, hk => exact ⟨2, rfl, hk⟩))
      clear hO hO2 HO
      go_wp2
      go_end0
      exact ⟨m, _, ⟨.inl ⟨by have := HFU.out; omega, rfl⟩, rfl⟩, rfl, shutF (st := ⟨rl, setU ⟨a0, a1, a2, a3, a4⟩ ⟨now, ins + 1⟩ (m), ins + 1⟩) HO3.out, HO3.out.size⟩
end

end Go.Proofs.YtbolfkojebbejaaGreatDoor

namespace Go.Proofs.YtbolfkojebbejaaGreatDoor
open Go.RowKit Go.Sort
set_option linter.unusedVariables false
set_option maxRecDepth 100000

theorem mtB_eq (x : Fl) (inn : Bool) (r : Rl) : mtB ⟨inn, x.pr, x.th, if inn then x.hp else x.tp⟩ r = matchR x inn r := by
  unfold mtB matchR; rfl
theorem admit_hit {rl : List Rl} {x : Fl} {inn : Bool} {i : Nat} (hi : i < rl.length) (h : rl.findIdx? (matchR x inn) = some i) : admitF rl x inn = rl[i].ps := by
  unfold admitF
  rw [List.findIdx?_eq_some_iff_getElem] at h
  obtain ⟨_, h2, h3⟩ := h
  have : rl.find? (matchR x inn) = some rl[i] := by
    rw [List.find?_eq_some_iff_getElem]
    exact ⟨h2, i, hi, rfl, fun j hj => by simpa using h3 j hj⟩
  rw [this]
theorem admit_none {rl : List Rl} {x : Fl} {inn : Bool} (h : rl.findIdx? (matchR x inn) = none) : admitF rl x inn = !inn := by
  unfold admitF
  have : rl.find? (matchR x inn) = none := by
    rw [List.findIdx?_eq_none_iff] at h
    rw [List.find?_eq_none]
    intro y hy
    simpa using h y hy
  rw [this]
theorem ownsRow_below2 {w w' : World} {base : Nat} {e : TypeId} {size : Nat} {v : Value} {n : Nat} {xs : List Value} (hb : Below w.heap.size w w') (h : w.ownsRow base e size v n xs) : w'.ownsRow base e size v n xs := (Upd.of_below (F := fun _ => False) hb).row h (fun _ _ h => h)
set_option maxRecDepth 100000 in
set_option maxHeartbeats 4000000 in
theorem admits_any {w : World} {f : Nat} {vr om : Value} {ins : Int} {rl : List Rl} (hb : w.heap[f]? = some (.cells #[vr, om, .int .i64 ins] 121)) (hr : w.ownsRow 0 115 7 vr rl.length (rl.flatMap cRl)) (hl : rl.length ≤ 1000) (x : Fl) (inn : Bool) :
    Calls Tryz.prog 141 #[.pointer (some ⟨f, 0, none⟩), flV x, .bool inn] w fun e w' => e = .returned (.bool (admitF rl x inn)) ∧ Below w.heap.size w w' := by
  have HFB := Lib.hid hb
  have HR := Lib.hid hr
  obtain ⟨a, cap, hv, hcell⟩ := row_at (c := cRl) (fun x => rfl) hr rfl
  have HC := Lib.hid hcell
  subst hv
  have HXM := Lib.hid (fun (i : Nat) (hi : i < rl.length) (h : rl.findIdx? (matchR x inn) = some i) => admit_hit hi h)
  have HXN := Lib.hid (admit_none (rl := rl) (x := x) (inn := inn))
  have HMT := Lib.hid (show mtB ⟨inn, x.pr, x.th, if inn then x.hp else x.tp⟩ = matchR x inn from funext (mtB_eq x inn))
  clear hb hr hcell
  obtain ⟨pr, he, hp, th, tp, sy, fi, rs, sq⟩ := x
  have HO := Lib.hid (show Own w none0 w [] from Own.nil w none0)
  obtain ⟨x1, hx1⟩ : ∃ y, w.alloc (.cells #[.int .i64 pr, .int .i64 he, .int .i64 hp, .int .i64 th, .int .i64 tp, .bool sy, .bool fi, .bool rs, .int .i64 sq] 39) = y := ⟨_, rfl⟩
  obtain ⟨bf, hbf⟩ : ∃ y, w.heap.size = y := ⟨_, rfl⟩
  have hO := HO.out.alloc (.cells #[.int .i64 pr, .int .i64 he, .int .i64 hp, .int .i64 th, .int .i64 tp, .bool sy, .bool fi, .bool rs, .int .i64 sq] 39)
  rw [hx1, hbf] at hO
  replace HO := Lib.hid (show Own w none0 x1 [blkR bf (.cells #[.int .i64 pr, .int .i64 he, .int .i64 hp, .int .i64 th, .int .i64 tp, .bool sy, .bool fi, .bool rs, .int .i64 sq] 39)] from hO)
  clear hO
  obtain ⟨x2, hx2⟩ : ∃ y, x1.alloc (.cells #[.bool inn] 4) = y := ⟨_, rfl⟩
  obtain ⟨bi, hbi⟩ : ∃ y, x1.heap.size = y := ⟨_, rfl⟩
  have hO := HO.out.alloc (.cells #[.bool inn] 4)
  rw [hx2, hbi] at hO
  replace HO := Lib.hid (show Own w none0 x2 [blkR bf (.cells #[.int .i64 pr, .int .i64 he, .int .i64 hp, .int .i64 th, .int .i64 tp, .bool sy, .bool fi, .bool rs, .int .i64 sq] 39), blkR bi (.cells #[.bool inn] 4)] from hO)
  clear hO
  have z0_0 : x2.cell? ⟨bf, 0, none⟩ = some (.int .i64 pr) := HO.out.cell 0 rfl 0 rfl
  have z0_1 : x2.cell? ⟨bf, 1, none⟩ = some (.int .i64 he) := HO.out.cell 0 rfl 1 rfl
  have z0_2 : x2.cell? ⟨bf, 2, none⟩ = some (.int .i64 hp) := HO.out.cell 0 rfl 2 rfl
  have z0_3 : x2.cell? ⟨bf, 3, none⟩ = some (.int .i64 th) := HO.out.cell 0 rfl 3 rfl
  have z0_4 : x2.cell? ⟨bf, 4, none⟩ = some (.int .i64 tp) := HO.out.cell 0 rfl 4 rfl
  have z0_5 : x2.cell? ⟨bf, 5, none⟩ = some (.bool sy) := HO.out.cell 0 rfl 5 rfl
  have z0_6 : x2.cell? ⟨bf, 6, none⟩ = some (.bool fi) := HO.out.cell 0 rfl 6 rfl
  have z0_7 : x2.cell? ⟨bf, 7, none⟩ = some (.bool rs) := HO.out.cell 0 rfl 7 rfl
  have z0_8 : x2.cell? ⟨bf, 8, none⟩ = some (.int .i64 sq) := HO.out.cell 0 rfl 8 rfl
  obtain ⟨x3, hx3⟩ : ∃ y, x2.alloc (.cells #[.int .i64 tp] 3) = y := ⟨_, rfl⟩
  obtain ⟨bp, hbp⟩ : ∃ y, x2.heap.size = y := ⟨_, rfl⟩
  have hO := HO.out.alloc (.cells #[.int .i64 tp] 3)
  rw [hx3, hbp] at hO
  replace HO := Lib.hid (show Own w none0 x3 [blkR bf (.cells #[.int .i64 pr, .int .i64 he, .int .i64 hp, .int .i64 th, .int .i64 tp, .bool sy, .bool fi, .bool rs, .int .i64 sq] 39), blkR bi (.cells #[.bool inn] 4), blkR bp (.cells #[.int .i64 tp] 3)] from hO)
  clear hO
  cases inn with
  | false =>
    have z0_0t : x3.cell? ⟨bf, 0, none⟩ = some (.int .i64 pr) := HO.out.cell 0 rfl 0 rfl
    have z0_1t : x3.cell? ⟨bf, 1, none⟩ = some (.int .i64 he) := HO.out.cell 0 rfl 1 rfl
    have z0_2t : x3.cell? ⟨bf, 2, none⟩ = some (.int .i64 hp) := HO.out.cell 0 rfl 2 rfl
    have z0_3t : x3.cell? ⟨bf, 3, none⟩ = some (.int .i64 th) := HO.out.cell 0 rfl 3 rfl
    have z0_4t : x3.cell? ⟨bf, 4, none⟩ = some (.int .i64 tp) := HO.out.cell 0 rfl 4 rfl
    have z0_5t : x3.cell? ⟨bf, 5, none⟩ = some (.bool sy) := HO.out.cell 0 rfl 5 rfl
    have z0_6t : x3.cell? ⟨bf, 6, none⟩ = some (.bool fi) := HO.out.cell 0 rfl 6 rfl
    have z0_7t : x3.cell? ⟨bf, 7, none⟩ = some (.bool rs) := HO.out.cell 0 rfl 7 rfl
    have z0_8t : x3.cell? ⟨bf, 8, none⟩ = some (.int .i64 sq) := HO.out.cell 0 rfl 8 rfl
    have z1_0 : x3.cell? ⟨bi, 0, none⟩ = some (.bool false) := HO.out.cell 1 rfl 0 rfl
    have z2_0 : x3.cell? ⟨bp, 0, none⟩ = some (.int .i64 tp) := HO.out.cell 2 rfl 0 rfl
    have y2_0 : x3.frozen? ⟨bp, 0, none⟩ = false := HO.out.frz 2 rfl 0
    have cf : x3.cell? ⟨f, 0, none⟩ = some (.slice a rl.length cap) := keep HO.out.below (by simp [World.cell?, HFB.out])
    go_enter Tryz.func141, Tryz.ntmps141
    go_wp2_with fail
    have HIX := Lib.hid (indexM rl ⟨false, pr, th, tp⟩ bi bf bp ⟨HO.out.cell 1 rfl 0 rfl, HO.out.cell 0 rfl 0 rfl, HO.out.cell 0 rfl 3 rfl, HO.out.cell 2 rfl 0 rfl⟩ (ownsRow_below2 HO.out.below HR.out) hl)
    replace HMT := Lib.hid (show mtB ⟨false, pr, th, tp⟩ = matchR ⟨pr, he, hp, th, tp, sy, fi, rs, sq⟩ false from HMT.out)
    rw [HMT.out] at HIX
    clear hx1 hbf hx2 hbi z0_0 z0_1 z0_2 z0_3 z0_4 z0_5 z0_6 z0_7 z0_8 hx3 hbp z0_0t z0_1t z0_2t z0_3t z0_4t z0_5t z0_6t z0_7t z0_8t z1_0 z2_0 y2_0 cf
    refine HIX.out.mono ?_
    rintro e w5 ⟨rfl, hb⟩
    replace HO := Lib.hid (HO.out.stay hb)
    clear hb HIX
    have cf : w5.cell? ⟨f, 0, none⟩ = some (.slice a rl.length cap) := keep HO.out.below (by simp [World.cell?, HFB.out])
    have ci : w5.cell? ⟨bi, 0, none⟩ = some (.bool false) := HO.out.cell 1 rfl 0 rfl
    cases hfi : rl.findIdx? (matchR ⟨pr, he, hp, th, tp, sy, fi, rs, sq⟩ false) with
    | none =>
      have HA := Lib.hid (HXN.out hfi)
      have hix : ixF (matchR ⟨pr, he, hp, th, tp, sy, fi, rs, sq⟩ false) rl = -1 := by unfold ixF; rw [hfi]
      rw [hix]
      clear hix hfi
      go_wp2
      go_ret
      exact ⟨by rw [HA.out]; rfl, HO.out.below⟩
    | some i =>
      obtain ⟨hil, _⟩ := List.findIdx?_eq_some_iff_getElem.1 hfi
      have HA := Lib.hid (HXM.out i hil hfi)
      have hix : ixF (matchR ⟨pr, he, hp, th, tp, sy, fi, rs, sq⟩ false) rl = i := by unfold ixF; rw [hfi]
      rw [hix]
      obtain ⟨g, hg, hcc⟩ := HC.out (by omega)
      have hp6 : w5.cell? ⟨g, i * 7 + 6, none⟩ = some (.bool rl[i].ps) := keep HO.out.below (hcc i hil 6 (by decide))
      obtain ⟨ps, hps⟩ : ∃ p, rl[i].ps = p := ⟨_, rfl⟩
      rw [hps] at hp6 HA
      have hneg : decide ((i : Int) < 0) = false := by simp
      subst hg
      clear hix hfi hcc hps
      go_wp2
      go_ret
      exact ⟨by rw [HA.out]; rfl, HO.out.below⟩
  | true =>
    have z0_0t : x3.cell? ⟨bf, 0, none⟩ = some (.int .i64 pr) := HO.out.cell 0 rfl 0 rfl
    have z0_1t : x3.cell? ⟨bf, 1, none⟩ = some (.int .i64 he) := HO.out.cell 0 rfl 1 rfl
    have z0_2t : x3.cell? ⟨bf, 2, none⟩ = some (.int .i64 hp) := HO.out.cell 0 rfl 2 rfl
    have z0_3t : x3.cell? ⟨bf, 3, none⟩ = some (.int .i64 th) := HO.out.cell 0 rfl 3 rfl
    have z0_4t : x3.cell? ⟨bf, 4, none⟩ = some (.int .i64 tp) := HO.out.cell 0 rfl 4 rfl
    have z0_5t : x3.cell? ⟨bf, 5, none⟩ = some (.bool sy) := HO.out.cell 0 rfl 5 rfl
    have z0_6t : x3.cell? ⟨bf, 6, none⟩ = some (.bool fi) := HO.out.cell 0 rfl 6 rfl
    have z0_7t : x3.cell? ⟨bf, 7, none⟩ = some (.bool rs) := HO.out.cell 0 rfl 7 rfl
    have z0_8t : x3.cell? ⟨bf, 8, none⟩ = some (.int .i64 sq) := HO.out.cell 0 rfl 8 rfl
    have z1_0 : x3.cell? ⟨bi, 0, none⟩ = some (.bool true) := HO.out.cell 1 rfl 0 rfl
    have z2_0 : x3.cell? ⟨bp, 0, none⟩ = some (.int .i64 tp) := HO.out.cell 2 rfl 0 rfl
    have y2_0 : x3.frozen? ⟨bp, 0, none⟩ = false := HO.out.frz 2 rfl 0
    have cf : x3.cell? ⟨f, 0, none⟩ = some (.slice a rl.length cap) := keep HO.out.below (by simp [World.cell?, HFB.out])
    obtain ⟨x4, hx4⟩ : ∃ y, x3.setCell ⟨bp, 0, none⟩ (.int .i64 hp) = y := ⟨_, rfl⟩
    have hO := HO.out.setCell 2 rfl 0 (.int .i64 hp)
    rw [hx4] at hO
    replace HO := Lib.hid (show Own w none0 x4 [blkR bf (.cells #[.int .i64 pr, .int .i64 he, .int .i64 hp, .int .i64 th, .int .i64 tp, .bool sy, .bool fi, .bool rs, .int .i64 sq] 39), blkR bi (.cells #[.bool true] 4), blkR bp (.cells #[.int .i64 hp] 3)] from hO)
    clear hO
    have z0_0tt : x4.cell? ⟨bf, 0, none⟩ = some (.int .i64 pr) := HO.out.cell 0 rfl 0 rfl
    have z0_1tt : x4.cell? ⟨bf, 1, none⟩ = some (.int .i64 he) := HO.out.cell 0 rfl 1 rfl
    have z0_2tt : x4.cell? ⟨bf, 2, none⟩ = some (.int .i64 hp) := HO.out.cell 0 rfl 2 rfl
    have z0_3tt : x4.cell? ⟨bf, 3, none⟩ = some (.int .i64 th) := HO.out.cell 0 rfl 3 rfl
    have z0_4tt : x4.cell? ⟨bf, 4, none⟩ = some (.int .i64 tp) := HO.out.cell 0 rfl 4 rfl
    have z0_5tt : x4.cell? ⟨bf, 5, none⟩ = some (.bool sy) := HO.out.cell 0 rfl 5 rfl
    have z0_6tt : x4.cell? ⟨bf, 6, none⟩ = some (.bool fi) := HO.out.cell 0 rfl 6 rfl
    have z0_7tt : x4.cell? ⟨bf, 7, none⟩ = some (.bool rs) := HO.out.cell 0 rfl 7 rfl
    have z0_8tt : x4.cell? ⟨bf, 8, none⟩ = some (.int .i64 sq) := HO.out.cell 0 rfl 8 rfl
    have z1_0t : x4.cell? ⟨bi, 0, none⟩ = some (.bool true) := HO.out.cell 1 rfl 0 rfl
    have cf2 : x4.cell? ⟨f, 0, none⟩ = some (.slice a rl.length cap) := keep HO.out.below (by simp [World.cell?, HFB.out])
    go_enter Tryz.func141, Tryz.ntmps141
    go_wp2_with fail
    have HIX := Lib.hid (indexM rl ⟨true, pr, th, hp⟩ bi bf bp ⟨HO.out.cell 1 rfl 0 rfl, HO.out.cell 0 rfl 0 rfl, HO.out.cell 0 rfl 3 rfl, HO.out.cell 2 rfl 0 rfl⟩ (ownsRow_below2 HO.out.below HR.out) hl)
    replace HMT := Lib.hid (show mtB ⟨true, pr, th, hp⟩ = matchR ⟨pr, he, hp, th, tp, sy, fi, rs, sq⟩ true from HMT.out)
    rw [HMT.out] at HIX
    clear hx1 hbf hx2 hbi z0_0 z0_1 z0_2 z0_3 z0_4 z0_5 z0_6 z0_7 z0_8 hx3 hbp z0_0t z0_1t z0_2t z0_3t z0_4t z0_5t z0_6t z0_7t z0_8t z1_0 z2_0 y2_0 cf hx4 z0_0tt z0_1tt z0_2tt z0_3tt z0_4tt z0_5tt z0_6tt z0_7tt z0_8tt z1_0t cf2
    refine HIX.out.mono ?_
    rintro e w5 ⟨rfl, hb⟩
    replace HO := Lib.hid (HO.out.stay hb)
    clear hb HIX
    have cf : w5.cell? ⟨f, 0, none⟩ = some (.slice a rl.length cap) := keep HO.out.below (by simp [World.cell?, HFB.out])
    have ci : w5.cell? ⟨bi, 0, none⟩ = some (.bool true) := HO.out.cell 1 rfl 0 rfl
    cases hfi : rl.findIdx? (matchR ⟨pr, he, hp, th, tp, sy, fi, rs, sq⟩ true) with
    | none =>
      have HA := Lib.hid (HXN.out hfi)
      have hix : ixF (matchR ⟨pr, he, hp, th, tp, sy, fi, rs, sq⟩ true) rl = -1 := by unfold ixF; rw [hfi]
      rw [hix]
      clear hix hfi
      go_wp2
      go_ret
      exact ⟨by rw [HA.out]; rfl, HO.out.below⟩
    | some i =>
      obtain ⟨hil, _⟩ := List.findIdx?_eq_some_iff_getElem.1 hfi
      have HA := Lib.hid (HXM.out i hil hfi)
      have hix : ixF (matchR ⟨pr, he, hp, th, tp, sy, fi, rs, sq⟩ true) rl = i := by unfold ixF; rw [hfi]
      rw [hix]
      obtain ⟨g, hg, hcc⟩ := HC.out (by omega)
      have hp6 : w5.cell? ⟨g, i * 7 + 6, none⟩ = some (.bool rl[i].ps) := keep HO.out.below (hcc i hil 6 (by decide))
      obtain ⟨ps, hps⟩ : ∃ p, rl[i].ps = p := ⟨_, rfl⟩
      rw [hps] at hp6 HA
      have hneg : decide ((i : Int) < 0) = false := by simp
      subst hg
      clear hix hfi hcc hps
      go_wp2
      go_ret
      exact ⟨by rw [HA.out]; rfl, HO.out.below⟩

end Go.Proofs.YtbolfkojebbejaaGreatDoor

namespace Go.Proofs.YtbolfkojebbejaaGreatDoor
open Go.RowKit Go.Sort
set_option linter.unusedVariables false
set_option maxRecDepth 100000

/-- What passes answers, and what it leaves. -/
def PassR (st : FSt) (now : Int) (x : Fl) (inn : Bool) (r : Bool) (st' : FSt) : Prop :=
  (validF x = false ∧ r = false ∧ st' = { st with m := expF now st.m }) ∨
  (validF x = true ∧ ∃ u, getU (keyF x) (expF now st.m) = some u ∧ r = true ∧ st' = ⟨st.rl, setU (keyF x) ⟨now, u.nu⟩ (expF now st.m), st.ins⟩) ∨
  (validF x = true ∧ getU (keyF x) (expF now st.m) = none ∧ admitF st.rl x inn = false ∧ r = false ∧ st' = { st with m := expF now st.m }) ∨
  (validF x = true ∧ getU (keyF x) (expF now st.m) = none ∧ admitF st.rl x inn = true ∧ r = true ∧ x.rs = true ∧ st' = { st with m := expF now st.m }) ∨
  (validF x = true ∧ getU (keyF x) (expF now st.m) = none ∧ admitF st.rl x inn = true ∧ r = true ∧ x.rs = false ∧ ∃ m1, RoomU (expF now st.m) m1 ∧ st' = ⟨st.rl, setU (keyF x) ⟨now, st.ins + 1⟩ m1, st.ins + 1⟩)
def PassO (w0 : World) (D : Nat → Prop) (L : List Res) (i f : Nat) (st : FSt) (now : Int) (x : Fl) (inn : Bool) (w : World) (e : Ending) (w' : World) : Prop :=
  ∃ (s : Bool × FSt) (v : Value), (PassR st now x inn s.1 s.2 ∧ v = .bool s.1) ∧ e = .returned v ∧ Own w0 D w' (L.set i (resF f s.2)) ∧ w.heap.size ≤ w'.heap.size
theorem fi_exp {st : FSt} (h : FI st) (now : Int) : FI { st with m := expF now st.m } := ⟨keysU_filter _ h.nd, fun x hx => h.tm x (List.mem_filter.1 hx).1, h.ins, h.rl⟩
theorem exp_len (now : Int) (m : List (FK × Us)) : (expF now m).length ≤ m.length := List.length_filter_le _ _
theorem keyOf_l (pr he hp th tp : Int) (sy fi rs : Bool) (sq : Int) (w : World) : Calls Tryz.prog 105 #[flV ⟨pr, he, hp, th, tp, sy, fi, rs, sq⟩] w fun e w' => e = .returned (.agg #[.int .i64 pr, .int .i64 he, .int .i64 hp, .int .i64 th, .int .i64 tp]) ∧ Below w.heap.size w w' := keyOf_any _ w
theorem validF_r {x : Fl} {b : Bool} (h : validF x = b) (w : World) : Calls Tryz.prog 104 #[flV x] w fun e w' => e = .returned (.bool b) ∧ Below w.heap.size w w' := h ▸ validF_any x w
theorem admits_r {w : World} {f : Nat} {vr om : Value} {ins : Int} {rl : List Rl} (hb : w.heap[f]? = some (.cells #[vr, om, .int .i64 ins] 121)) (hr : w.ownsRow 0 115 7 vr rl.length (rl.flatMap cRl)) (hl : rl.length ≤ 1000) {x : Fl} {inn b : Bool} (h : admitF rl x inn = b) :
    Calls Tryz.prog 141 #[.pointer (some ⟨f, 0, none⟩), flV x, .bool inn] w fun e w' => e = .returned (.bool b) ∧ Below w.heap.size w w' := h ▸ admits_any hb hr hl x inn
section
variable {w0 w : World} {D : Nat → Prop} {L : List Res} {f : Nat} {st : FSt}
theorem openF' {L : List Res} (h : Own w0 D w (resF f st :: L)) : ∃ vr om, Own w0 D w (blkF f vr om st.ins :: rowRl vr st.rl :: mapO om st.m :: L) := by
  obtain ⟨⟨vr, om⟩, h⟩ := h.openExC
  exact ⟨vr, om, h.openC⟩
theorem shutF' {L : List Res} {vr om : Value} (h : Own w0 D w (blkF f vr om st.ins :: rowRl vr st.rl :: mapO om st.m :: L)) : Own w0 D w (resF f st :: L) := Own.shutExC (f := fun vs : Value × Value => sepR [blkF f vs.1 vs.2 st.ins, rowRl vs.1 st.rl, mapO vs.2 st.m]) (vr, om) (Own.shutC (Rs := [blkF f vr om st.ins, rowRl vr st.rl, mapO om st.m]) h)
set_option maxRecDepth 100000 in
set_option maxHeartbeats 8000000 in
theorem passes_o {now : Int} {x : Fl} {inn : Bool} (h : Own w0 D w L) (i : Nat) (hi : L[i]? = some (resF f st)) (hI : FI st) (hz : ∀ x ∈ st.m, x.1 ≠ ⟨0, 0, 0, 0, 0⟩) (hml : st.m.length ≤ 1000) (hnow : timeB now) :
    Calls Tryz.prog 102 #[.pointer (some ⟨f, 0, none⟩), .int .i64 now, flV x, .bool inn] w (PassO w0 D L i f st now x inn w) := by
  refine o_oneE (Q := fun (s : Bool × FSt) v => PassR st now x inn s.1 s.2 ∧ v = .bool s.1) (R' := fun s => resF f s.2) h hi fun D HO0 => ?_
  clear h hi
  have HI := Lib.hid hI
  have HI1 := Lib.hid (fi_exp hI now)
  have HZ1 := Lib.hid (show ∀ x ∈ expF now st.m, x.1 ≠ ⟨0, 0, 0, 0, 0⟩ from fun x hx => hz x (List.mem_filter.1 hx).1)
  have HML := Lib.hid (Nat.le_trans (exp_len now st.m) hml)
  have HNW := Lib.hid hnow
  have HRL := Lib.hid hI.rl
  clear hI hz hml hnow
  obtain ⟨rl, m, ins⟩ := st
  obtain ⟨m1, hm1⟩ : ∃ m1, expF now m = m1 := ⟨_, rfl⟩
  have HM1 := Lib.hid hm1
  simp only [hm1] at HI1 HZ1 HML
  obtain ⟨pr, he, hp, th, tp, sy, fi, rs, sq⟩ := x
  have HPI := Lib.hid (show validF ⟨pr, he, hp, th, tp, sy, fi, rs, sq⟩ = false → PassR ⟨rl, m, ins⟩ now ⟨pr, he, hp, th, tp, sy, fi, rs, sq⟩ inn false ⟨rl, m1, ins⟩ from fun h => .inl ⟨h, rfl, by rw [← hm1]⟩)
  have HPK := Lib.hid (show validF ⟨pr, he, hp, th, tp, sy, fi, rs, sq⟩ = true → ∀ u, getU ⟨pr, he, hp, th, tp⟩ m1 = some u → PassR ⟨rl, m, ins⟩ now ⟨pr, he, hp, th, tp, sy, fi, rs, sq⟩ inn true ⟨rl, setU ⟨pr, he, hp, th, tp⟩ ⟨now, u.nu⟩ m1, ins⟩ from fun h u hu => .inr (.inl ⟨h, u, by simp only [hm1]; exact hu, rfl, by simp only [hm1]; rfl⟩))
  have HPN := Lib.hid (show validF ⟨pr, he, hp, th, tp, sy, fi, rs, sq⟩ = true → getU ⟨pr, he, hp, th, tp⟩ m1 = none → admitF rl ⟨pr, he, hp, th, tp, sy, fi, rs, sq⟩ inn = false → PassR ⟨rl, m, ins⟩ now ⟨pr, he, hp, th, tp, sy, fi, rs, sq⟩ inn false ⟨rl, m1, ins⟩ from fun h hu ha => .inr (.inr (.inl ⟨h, by simp only [hm1]; exact hu, ha, rfl, by rw [← hm1]⟩)))
  have HPR := Lib.hid (show validF ⟨pr, he, hp, th, tp, sy, fi, rs, sq⟩ = true → getU ⟨pr, he, hp, th, tp⟩ m1 = none → admitF rl ⟨pr, he, hp, th, tp, sy, fi, rs, sq⟩ inn = true → rs = true → PassR ⟨rl, m, ins⟩ now ⟨pr, he, hp, th, tp, sy, fi, rs, sq⟩ inn true ⟨rl, m1, ins⟩ from fun h hu ha hr => .inr (.inr (.inr (.inl ⟨h, by simp only [hm1]; exact hu, ha, rfl, hr, by rw [← hm1]⟩))))
  have HPS := Lib.hid (show validF ⟨pr, he, hp, th, tp, sy, fi, rs, sq⟩ = true → getU ⟨pr, he, hp, th, tp⟩ m1 = none → admitF rl ⟨pr, he, hp, th, tp, sy, fi, rs, sq⟩ inn = true → rs = false → ∀ m2, RoomU m1 m2 → PassR ⟨rl, m, ins⟩ now ⟨pr, he, hp, th, tp, sy, fi, rs, sq⟩ inn true ⟨rl, setU ⟨pr, he, hp, th, tp⟩ ⟨now, ins + 1⟩ m2, ins + 1⟩ from fun h hu ha hr m2 hm2 => .inr (.inr (.inr (.inr ⟨h, by simp only [hm1]; exact hu, ha, rfl, hr, m2, by simp only [hm1]; exact hm2, rfl⟩))))
  clear hm1
  have HO := Lib.hid (show Own w D w [resF f ⟨rl, m, ins⟩] from HO0)
  clear HO0
  obtain ⟨x1, hx1⟩ : ∃ y, w.alloc (.cells #[.int .i64 pr, .int .i64 he, .int .i64 hp, .int .i64 th, .int .i64 tp, .bool sy, .bool fi, .bool rs, .int .i64 sq] 39) = y := ⟨_, rfl⟩
  obtain ⟨bx, hbx⟩ : ∃ y, w.heap.size = y := ⟨_, rfl⟩
  have hO := HO.out.alloc (.cells #[.int .i64 pr, .int .i64 he, .int .i64 hp, .int .i64 th, .int .i64 tp, .bool sy, .bool fi, .bool rs, .int .i64 sq] 39)
  rw [hx1, hbx] at hO
  replace HO := Lib.hid (show Own w D x1 [resF f ⟨rl, m, ins⟩, blkR bx (.cells #[.int .i64 pr, .int .i64 he, .int .i64 hp, .int .i64 th, .int .i64 tp, .bool sy, .bool fi, .bool rs, .int .i64 sq] 39)] from hO)
  clear hO
  go_enter Tryz.func102, Tryz.ntmps102
  go_wp2_with fail
  have hex := expire_o HO.out 0 rfl HI.out HNW.out
  rw [show ({ (⟨rl, m, ins⟩ : FSt) with m := expF now (⟨rl, m, ins⟩ : FSt).m } : FSt) = ⟨rl, m1, ins⟩ by rw [← HM1.out]] at hex
  refine hex.mono ?_
  rintro e y1 ⟨rfl, hO, -⟩
  replace HO := Lib.hid (show Own w D y1 [resF f ⟨rl, m1, ins⟩, blkR bx (.cells #[.int .i64 pr, .int .i64 he, .int .i64 hp, .int .i64 th, .int .i64 tp, .bool sy, .bool fi, .bool rs, .int .i64 sq] 39)] from hO)
  clear hO hex
  clear hx1 hbx
  have z1_0 : y1.cell? ⟨bx, 0, none⟩ = some (.int .i64 pr) := HO.out.cell 1 rfl 0 rfl
  have z1_1 : y1.cell? ⟨bx, 1, none⟩ = some (.int .i64 he) := HO.out.cell 1 rfl 1 rfl
  have z1_2 : y1.cell? ⟨bx, 2, none⟩ = some (.int .i64 hp) := HO.out.cell 1 rfl 2 rfl
  have z1_3 : y1.cell? ⟨bx, 3, none⟩ = some (.int .i64 th) := HO.out.cell 1 rfl 3 rfl
  have z1_4 : y1.cell? ⟨bx, 4, none⟩ = some (.int .i64 tp) := HO.out.cell 1 rfl 4 rfl
  have z1_5 : y1.cell? ⟨bx, 5, none⟩ = some (.bool sy) := HO.out.cell 1 rfl 5 rfl
  have z1_6 : y1.cell? ⟨bx, 6, none⟩ = some (.bool fi) := HO.out.cell 1 rfl 6 rfl
  have z1_7 : y1.cell? ⟨bx, 7, none⟩ = some (.bool rs) := HO.out.cell 1 rfl 7 rfl
  have z1_8 : y1.cell? ⟨bx, 8, none⟩ = some (.int .i64 sq) := HO.out.cell 1 rfl 8 rfl
  cases hv : validF ⟨pr, he, hp, th, tp, sy, fi, rs, sq⟩ with
  | false =>
    have HPF := Lib.hid (HPI.out hv)
    go_wp2_with fail
    refine (o_still HO.out (validF_r hv _)).mono ?_
    rintro e x11 ⟨rfl, hO, -⟩
    replace HO := Lib.hid (show Own w D x11 [resF f ⟨rl, m1, ins⟩, blkR bx (.cells #[.int .i64 pr, .int .i64 he, .int .i64 hp, .int .i64 th, .int .i64 tp, .bool sy, .bool fi, .bool rs, .int .i64 sq] 39)] from hO)
    clear hO
    clear z1_0 z1_1 z1_2 z1_3 z1_4 z1_5 z1_6 z1_7 z1_8
    go_wp2
    go_ret
    exact ⟨(false, ⟨rl, m1, ins⟩), _, ⟨HPF.out, rfl⟩, rfl, HO.out.take 1, HO.out.size⟩
  | true =>
    have HV := Lib.hid hv
    go_wp2_with fail
    refine (o_still HO.out (validF_r hv _)).mono ?_
    rintro e x11 ⟨rfl, hO, -⟩
    replace HO := Lib.hid (show Own w D x11 [resF f ⟨rl, m1, ins⟩, blkR bx (.cells #[.int .i64 pr, .int .i64 he, .int .i64 hp, .int .i64 th, .int .i64 tp, .bool sy, .bool fi, .bool rs, .int .i64 sq] 39)] from hO)
    clear hO
    clear z1_0 z1_1 z1_2 z1_3 z1_4 z1_5 z1_6 z1_7 z1_8
    clear hv
    have z1_0 : x11.cell? ⟨bx, 0, none⟩ = some (.int .i64 pr) := HO.out.cell 1 rfl 0 rfl
    have z1_1 : x11.cell? ⟨bx, 1, none⟩ = some (.int .i64 he) := HO.out.cell 1 rfl 1 rfl
    have z1_2 : x11.cell? ⟨bx, 2, none⟩ = some (.int .i64 hp) := HO.out.cell 1 rfl 2 rfl
    have z1_3 : x11.cell? ⟨bx, 3, none⟩ = some (.int .i64 th) := HO.out.cell 1 rfl 3 rfl
    have z1_4 : x11.cell? ⟨bx, 4, none⟩ = some (.int .i64 tp) := HO.out.cell 1 rfl 4 rfl
    have z1_5 : x11.cell? ⟨bx, 5, none⟩ = some (.bool sy) := HO.out.cell 1 rfl 5 rfl
    have z1_6 : x11.cell? ⟨bx, 6, none⟩ = some (.bool fi) := HO.out.cell 1 rfl 6 rfl
    have z1_7 : x11.cell? ⟨bx, 7, none⟩ = some (.bool rs) := HO.out.cell 1 rfl 7 rfl
    have z1_8 : x11.cell? ⟨bx, 8, none⟩ = some (.int .i64 sq) := HO.out.cell 1 rfl 8 rfl
    go_wp2_with fail
    refine (o_still HO.out (keyOf_l pr he hp th tp sy fi rs sq _)).mono ?_
    rintro e x12 ⟨rfl, hO, -⟩
    replace HO := Lib.hid (show Own w D x12 [resF f ⟨rl, m1, ins⟩, blkR bx (.cells #[.int .i64 pr, .int .i64 he, .int .i64 hp, .int .i64 th, .int .i64 tp, .bool sy, .bool fi, .bool rs, .int .i64 sq] 39)] from hO)
    clear hO
    clear z1_0 z1_1 z1_2 z1_3 z1_4 z1_5 z1_6 z1_7 z1_8
    obtain ⟨vr, om, hO⟩ := openF' HO.out
    replace HO := Lib.hid (show Own w D x12 [blkF f vr om ins, rowRl vr rl, mapO om m1, blkR bx (.cells #[.int .i64 pr, .int .i64 he, .int .i64 hp, .int .i64 th, .int .i64 tp, .bool sy, .bool fi, .bool rs, .int .i64 sq] 39)] from hO)
    clear hO
    obtain ⟨x13, hx13⟩ : ∃ y, x12.alloc (.cells #[.int .i64 pr, .int .i64 he, .int .i64 hp, .int .i64 th, .int .i64 tp] 192) = y := ⟨_, rfl⟩
    obtain ⟨bk, hbk⟩ : ∃ y, x12.heap.size = y := ⟨_, rfl⟩
    have hO := HO.out.alloc (.cells #[.int .i64 pr, .int .i64 he, .int .i64 hp, .int .i64 th, .int .i64 tp] 192)
    rw [hx13, hbk] at hO
    replace HO := Lib.hid (show Own w D x13 [blkF f vr om ins, rowRl vr rl, mapO om m1, blkR bx (.cells #[.int .i64 pr, .int .i64 he, .int .i64 hp, .int .i64 th, .int .i64 tp, .bool sy, .bool fi, .bool rs, .int .i64 sq] 39), blkR bk (.cells #[.int .i64 pr, .int .i64 he, .int .i64 hp, .int .i64 th, .int .i64 tp] 192)] from hO)
    clear hO
    have HMO := Lib.hid (mapO_open HO.out 2 rfl)
    go_wp2
    clear hx13 hbk
    rcases HMO.out with ⟨hom, hm0⟩ | ⟨b, hom, hO⟩
    · subst hom
      have HGU := Lib.hid (show getU ⟨pr, he, hp, th, tp⟩ m1 = none by rw [hm0]; rfl)
      clear HMO hm0
      obtain ⟨ula, hula⟩ : ∃ n : Int, 0 = n := ⟨_, rfl⟩
      obtain ⟨unu, hunu⟩ : ∃ n : Int, 0 = n := ⟨_, rfl⟩
      generalize hΓ : ghN x13 (.cells #[.int .i64 0, .int .i64 0] 189) (.cells #[.int .i64 ula, .int .i64 unu] 189) = Γ
      have HST := Lib.hid (show Γ.inv [] x13 by rw [← hΓ]; exact ⟨Below.refl _ _, trivial⟩)
      have HWB := Lib.hid (show ∀ q : Γ.Wd, Below x13.heap.size x13 q.w by rw [← hΓ]; exact fun q => q.h.1)
      have hl : ∀ q : Γ.Wd, (Instr.lookup 119 (.map none) (.agg #[.int .i64 pr, .int .i64 he, .int .i64 hp, .int .i64 th, .int .i64 tp]) true).run Tryz.prog q.w = .ok (.tuple #[.agg #[.int .i64 ula, .int .i64 unu], .bool false]) q.w := by
        subst hula hunu
        exact fun q => keyK.lookup_nil Tryz.underlying119 (zeroU _) ⟨pr, he, hp, th, tp⟩ true
      have c1 : ∀ q : Γ.Wd, q.w.cell? ⟨f, 1, none⟩ = some (.map none) := fun q => keep (HWB.out q) (HO.out.cell 0 rfl 1 rfl)
      have e0 : ∀ q : Γ.Wd, q.w.cell? ⟨bk, 0, none⟩ = some (.int .i64 pr) := fun q => keep (HWB.out q) (HO.out.cell 4 rfl 0 rfl)
      have e1 : ∀ q : Γ.Wd, q.w.cell? ⟨bk, 1, none⟩ = some (.int .i64 he) := fun q => keep (HWB.out q) (HO.out.cell 4 rfl 1 rfl)
      have e2 : ∀ q : Γ.Wd, q.w.cell? ⟨bk, 2, none⟩ = some (.int .i64 hp) := fun q => keep (HWB.out q) (HO.out.cell 4 rfl 2 rfl)
      have e3 : ∀ q : Γ.Wd, q.w.cell? ⟨bk, 3, none⟩ = some (.int .i64 th) := fun q => keep (HWB.out q) (HO.out.cell 4 rfl 3 rfl)
      have e4 : ∀ q : Γ.Wd, q.w.cell? ⟨bk, 4, none⟩ = some (.int .i64 tp) := fun q => keep (HWB.out q) (HO.out.cell 4 rfl 4 rfl)
      have HΓ := Lib.hid hΓ
      clear hΓ
      have ne : Nonempty Γ.Wd := ⟨⟨[], x13, HST.out⟩⟩
      refine wp_region_M Γ 11 [9, 10] (by kernel_rfl) (by kernel_rfl) (by kernel_rfl) (by kernel_rfl) HST.out ?_
      simp only [List.take, List.drop]
      iterate 9 (first | (refine wpM_want (by kernel_rfl) (by kernel_rfl) rfl rfl ?_; intro K hK; go_big_quiet_op; go_big_quiet_on) | (refine wpM_is (by kernel_rfl) (by kernel_rfl) rfl _ (fun _ w _ => rfl) ?_; simp only [Act.put, List.setIfInBounds_toArray, List.set_cons_succ, List.set_cons_zero]))
      refine wpM_chainX 0 (gnth 0) (gnth_lasts _ _) (by kernel_rfl) (by kernel_rfl) (fun a' g hg hgl he => ?_) (fun d hd => ?_)
      · have hmv := ghN_alloc (by rw [HΓ.out]; exact hg) hgl
        rw [HΓ.out] at hmv
        have hv0 := List.eq_nil_of_length_eq_zero hgl
        simp [go_sem]
        exact ⟨_, rfl, hmv, by rw [hv0]; rfl⟩
      cases hd
      simp only [List.nil_append]
      refine wpM_store 1 (by kernel_rfl) rfl rfl (by kernel_rfl) (by kernel_rfl) (fun a' g hg hgl he => ?_) ?_
      · obtain ⟨v0, hv0⟩ := List.length_eq_one_iff.1 hgl
        obtain ⟨h10, h29, _⟩ := he
        have k10 : g.vs[0]? = some (a'.eval (.tmp 10)) := h10
        have k29 : a'.eval (.tmp 29) = .agg #[.int .i64 ula, .int .i64 unu] := h29
        rw [hv0] at k10
        have k11 : v0 = a'.eval (.tmp 10) := by simpa using k10
        clear h10 h29 k10
        have hgi : (ghN x13 (.cells #[.int .i64 0, .int .i64 0] 189) (.cells #[.int .i64 ula, .int .i64 unu] 189)).inv [v0] g.w := by rw [HΓ.out, ← hv0]; exact hg
        obtain ⟨b', e'', hst2⟩ := ghN_set2 hgi
        obtain ⟨q0, q1, z0, z1, hmv⟩ := hst2 (.int .i64 ula) (.int .i64 unu) rfl
        rw [HΓ.out, ← hv0] at hmv
        have t10 : a'.tmps.getD 10 undef = .pointer (some ⟨b', 0, none⟩) := k11.symm.trans e''
        have t29 : a'.tmps.getD 29 undef = .agg #[.int .i64 ula, .int .i64 unu] := k29
        simp [go_sem, t10, t29, q0, q1, z0, z1]
        exact ⟨_, hmv⟩
      refine wpM_nil (by kernel_rfl) (by simp) ?_
      rintro ⟨vs, w5⟩ hg hgl
      rw [← HΓ.out] at hg
      simp only [gexAll, List.drop]
      rintro u10 g10
      match vs, hgl, hg, g10 with
      | [v0, v1], _, ⟨hb5, bb, e0', hge, hbb⟩, g10 =>
      obtain rfl : v0 = u10 := by simpa [gnth] using g10
      subst e0'
      simp only [Act.put, List.setIfInBounds_toArray, List.set_cons_succ, List.set_cons_zero]
      have hO := HO.out.push (R := blkR bb (.cells #[.int .i64 ula, .int .i64 unu] 189)) (F := fun z => z = bb) ⟨fun _ => Iff.rfl, hbb⟩ (fun z hz => hz ▸ hge) hb5
      clear c1 e0 e1 e2 e3 e4 hl hb5 hge hbb ne HST HWB HΓ g10
      replace HO := Lib.hid (show Own w D w5 [blkF f vr (.map none) ins, rowRl vr rl, mapO (.map none) m1, blkR bx (.cells #[.int .i64 pr, .int .i64 he, .int .i64 hp, .int .i64 th, .int .i64 tp, .bool sy, .bool fi, .bool rs, .int .i64 sq] 39), blkR bk (.cells #[.int .i64 pr, .int .i64 he, .int .i64 hp, .int .i64 th, .int .i64 tp] 192), blkR bb (.cells #[.int .i64 ula, .int .i64 unu] 189)] from hO)
      clear hO
      have z3_0 : w5.cell? ⟨bx, 0, none⟩ = some (.int .i64 pr) := HO.out.cell 3 rfl 0 rfl
      have z3_1 : w5.cell? ⟨bx, 1, none⟩ = some (.int .i64 he) := HO.out.cell 3 rfl 1 rfl
      have z3_2 : w5.cell? ⟨bx, 2, none⟩ = some (.int .i64 hp) := HO.out.cell 3 rfl 2 rfl
      have z3_3 : w5.cell? ⟨bx, 3, none⟩ = some (.int .i64 th) := HO.out.cell 3 rfl 3 rfl
      have z3_4 : w5.cell? ⟨bx, 4, none⟩ = some (.int .i64 tp) := HO.out.cell 3 rfl 4 rfl
      have z3_5 : w5.cell? ⟨bx, 5, none⟩ = some (.bool sy) := HO.out.cell 3 rfl 5 rfl
      have z3_6 : w5.cell? ⟨bx, 6, none⟩ = some (.bool fi) := HO.out.cell 3 rfl 6 rfl
      have z3_7 : w5.cell? ⟨bx, 7, none⟩ = some (.bool rs) := HO.out.cell 3 rfl 7 rfl
      have z3_8 : w5.cell? ⟨bx, 8, none⟩ = some (.int .i64 sq) := HO.out.cell 3 rfl 8 rfl
      cases ha : admitF rl ⟨pr, he, hp, th, tp, sy, fi, rs, sq⟩ inn with
      | false =>
        have HPF := Lib.hid (HPN.out HV.out HGU.out ha)
        go_wp2_with fail
        refine (o_still HO.out (admits_r (HO.out.blk 0 rfl) (HO.out.row 1 rfl) HRL.out ha)).mono ?_
        rintro e x14 ⟨rfl, hO, -⟩
        replace HO := Lib.hid (show Own w D x14 [blkF f vr (.map none) ins, rowRl vr rl, mapO (.map none) m1, blkR bx (.cells #[.int .i64 pr, .int .i64 he, .int .i64 hp, .int .i64 th, .int .i64 tp, .bool sy, .bool fi, .bool rs, .int .i64 sq] 39), blkR bk (.cells #[.int .i64 pr, .int .i64 he, .int .i64 hp, .int .i64 th, .int .i64 tp] 192), blkR bb (.cells #[.int .i64 ula, .int .i64 unu] 189)] from hO)
        clear hO
        clear z3_0 z3_1 z3_2 z3_3 z3_4 z3_5 z3_6 z3_7 z3_8
        have hO := shutF' (st := ⟨rl, m1, ins⟩) HO.out
        replace HO := Lib.hid (show Own w D x14 [resF f ⟨rl, m1, ins⟩, blkR bx (.cells #[.int .i64 pr, .int .i64 he, .int .i64 hp, .int .i64 th, .int .i64 tp, .bool sy, .bool fi, .bool rs, .int .i64 sq] 39), blkR bk (.cells #[.int .i64 pr, .int .i64 he, .int .i64 hp, .int .i64 th, .int .i64 tp] 192), blkR bb (.cells #[.int .i64 ula, .int .i64 unu] 189)] from hO)
        clear hO
        go_wp2
        go_ret
        exact ⟨(false, ⟨rl, m1, ins⟩), _, ⟨HPF.out, rfl⟩, rfl, HO.out.take 1, HO.out.size⟩
      | true =>
        have HA := Lib.hid ha
        go_wp2_with fail
        refine (o_still HO.out (admits_r (HO.out.blk 0 rfl) (HO.out.row 1 rfl) HRL.out ha)).mono ?_
        rintro e x14 ⟨rfl, hO, -⟩
        replace HO := Lib.hid (show Own w D x14 [blkF f vr (.map none) ins, rowRl vr rl, mapO (.map none) m1, blkR bx (.cells #[.int .i64 pr, .int .i64 he, .int .i64 hp, .int .i64 th, .int .i64 tp, .bool sy, .bool fi, .bool rs, .int .i64 sq] 39), blkR bk (.cells #[.int .i64 pr, .int .i64 he, .int .i64 hp, .int .i64 th, .int .i64 tp] 192), blkR bb (.cells #[.int .i64 ula, .int .i64 unu] 189)] from hO)
        clear hO
        clear z3_0 z3_1 z3_2 z3_3 z3_4 z3_5 z3_6 z3_7 z3_8
        clear ha
        have hO := shutF' (st := ⟨rl, m1, ins⟩) HO.out
        replace HO := Lib.hid (show Own w D x14 [resF f ⟨rl, m1, ins⟩, blkR bx (.cells #[.int .i64 pr, .int .i64 he, .int .i64 hp, .int .i64 th, .int .i64 tp, .bool sy, .bool fi, .bool rs, .int .i64 sq] 39), blkR bk (.cells #[.int .i64 pr, .int .i64 he, .int .i64 hp, .int .i64 th, .int .i64 tp] 192), blkR bb (.cells #[.int .i64 ula, .int .i64 unu] 189)] from hO)
        clear hO
        have z1_0 : x14.cell? ⟨bx, 0, none⟩ = some (.int .i64 pr) := HO.out.cell 1 rfl 0 rfl
        have z1_1 : x14.cell? ⟨bx, 1, none⟩ = some (.int .i64 he) := HO.out.cell 1 rfl 1 rfl
        have z1_2 : x14.cell? ⟨bx, 2, none⟩ = some (.int .i64 hp) := HO.out.cell 1 rfl 2 rfl
        have z1_3 : x14.cell? ⟨bx, 3, none⟩ = some (.int .i64 th) := HO.out.cell 1 rfl 3 rfl
        have z1_4 : x14.cell? ⟨bx, 4, none⟩ = some (.int .i64 tp) := HO.out.cell 1 rfl 4 rfl
        have z1_5 : x14.cell? ⟨bx, 5, none⟩ = some (.bool sy) := HO.out.cell 1 rfl 5 rfl
        have z1_6 : x14.cell? ⟨bx, 6, none⟩ = some (.bool fi) := HO.out.cell 1 rfl 6 rfl
        have z1_7 : x14.cell? ⟨bx, 7, none⟩ = some (.bool rs) := HO.out.cell 1 rfl 7 rfl
        have z1_8 : x14.cell? ⟨bx, 8, none⟩ = some (.int .i64 sq) := HO.out.cell 1 rfl 8 rfl
        have z2_0 : x14.cell? ⟨bk, 0, none⟩ = some (.int .i64 pr) := HO.out.cell 2 rfl 0 rfl
        have z2_1 : x14.cell? ⟨bk, 1, none⟩ = some (.int .i64 he) := HO.out.cell 2 rfl 1 rfl
        have z2_2 : x14.cell? ⟨bk, 2, none⟩ = some (.int .i64 hp) := HO.out.cell 2 rfl 2 rfl
        have z2_3 : x14.cell? ⟨bk, 3, none⟩ = some (.int .i64 th) := HO.out.cell 2 rfl 3 rfl
        have z2_4 : x14.cell? ⟨bk, 4, none⟩ = some (.int .i64 tp) := HO.out.cell 2 rfl 4 rfl
        cases rs with
        | true =>
          have HPF := Lib.hid (HPR.out HV.out HGU.out HA.out rfl)
          go_wp2
          go_ret
          exact ⟨(true, ⟨rl, m1, ins⟩), _, ⟨HPF.out, rfl⟩, rfl, HO.out.take 1, HO.out.size⟩
        | false =>
          have HPF := Lib.hid (HPS.out HV.out HGU.out HA.out rfl)
          go_wp2_with fail
          refine (insert_o (k := ⟨pr, he, hp, th, tp⟩) HO.out 0 rfl HI1.out HZ1.out HML.out).mono ?_
          rintro e y9 ⟨m2, v2, ⟨hroom, rfl⟩, rfl, hO, -⟩
          have HRM := Lib.hid hroom
          clear hroom
          replace HO := Lib.hid (show Own w D y9 [resF f ⟨rl, setU ⟨pr, he, hp, th, tp⟩ ⟨now, ins + 1⟩ m2, ins + 1⟩, blkR bx (.cells #[.int .i64 pr, .int .i64 he, .int .i64 hp, .int .i64 th, .int .i64 tp, .bool sy, .bool fi, .bool false, .int .i64 sq] 39), blkR bk (.cells #[.int .i64 pr, .int .i64 he, .int .i64 hp, .int .i64 th, .int .i64 tp] 192), blkR bb (.cells #[.int .i64 ula, .int .i64 unu] 189)] from hO)
          clear hO
          clear z1_0 z1_1 z1_2 z1_3 z1_4 z1_5 z1_6 z1_7 z1_8 z2_0 z2_1 z2_2 z2_3 z2_4
          go_wp2
          go_ret
          exact ⟨(true, ⟨rl, setU ⟨pr, he, hp, th, tp⟩ ⟨now, ins + 1⟩ m2, ins + 1⟩), _, ⟨HPF.out m2 HRM.out, rfl⟩, rfl, HO.out.take 1, HO.out.size⟩
    · subst hom
      clear HMO
      replace HO := Lib.hid (show Own w D x13 [blkF f vr (.map (some b)) ins, rowRl vr rl, mapR encK b (mapU m1), blkR bx (.cells #[.int .i64 pr, .int .i64 he, .int .i64 hp, .int .i64 th, .int .i64 tp, .bool sy, .bool fi, .bool rs, .int .i64 sq] 39), blkR bk (.cells #[.int .i64 pr, .int .i64 he, .int .i64 hp, .int .i64 th, .int .i64 tp] 192)] from hO)
      clear hO
      have hlk : ∀ w : World, Below x13.heap.size x13 w → (Instr.lookup 119 (.map (some b)) (encK ⟨pr, he, hp, th, tp⟩) true).run Tryz.prog w = .ok (lookV (.agg #[.int .i64 0, .int .i64 0]) true ((getU ⟨pr, he, hp, th, tp⟩ m1).map valU)) w := fun w hb => by
        have := keyK.lookup Tryz.underlying119 (zeroU _) ((HO.out.mapB 2 rfl).stay hb) ⟨pr, he, hp, th, tp⟩ true
        rw [mapU_get] at this
        exact this
      cases hgu : getU ⟨pr, he, hp, th, tp⟩ m1 with
      | none =>
        have HGU := Lib.hid hgu
        rw [hgu] at hlk
        clear hgu
        obtain ⟨ula, hula⟩ : ∃ n : Int, 0 = n := ⟨_, rfl⟩
        obtain ⟨unu, hunu⟩ : ∃ n : Int, 0 = n := ⟨_, rfl⟩
        generalize hΓ : ghN x13 (.cells #[.int .i64 0, .int .i64 0] 189) (.cells #[.int .i64 ula, .int .i64 unu] 189) = Γ
        have HST := Lib.hid (show Γ.inv [] x13 by rw [← hΓ]; exact ⟨Below.refl _ _, trivial⟩)
        have HWB := Lib.hid (show ∀ q : Γ.Wd, Below x13.heap.size x13 q.w by rw [← hΓ]; exact fun q => q.h.1)
        have hl : ∀ q : Γ.Wd, (Instr.lookup 119 (.map (some b)) (.agg #[.int .i64 pr, .int .i64 he, .int .i64 hp, .int .i64 th, .int .i64 tp]) true).run Tryz.prog q.w = .ok (.tuple #[.agg #[.int .i64 ula, .int .i64 unu], .bool false]) q.w := by
          subst hula hunu
          exact fun q => hlk q.w (HWB.out q)
        have c1 : ∀ q : Γ.Wd, q.w.cell? ⟨f, 1, none⟩ = some (.map (some b)) := fun q => keep (HWB.out q) (HO.out.cell 0 rfl 1 rfl)
        have e0 : ∀ q : Γ.Wd, q.w.cell? ⟨bk, 0, none⟩ = some (.int .i64 pr) := fun q => keep (HWB.out q) (HO.out.cell 4 rfl 0 rfl)
        have e1 : ∀ q : Γ.Wd, q.w.cell? ⟨bk, 1, none⟩ = some (.int .i64 he) := fun q => keep (HWB.out q) (HO.out.cell 4 rfl 1 rfl)
        have e2 : ∀ q : Γ.Wd, q.w.cell? ⟨bk, 2, none⟩ = some (.int .i64 hp) := fun q => keep (HWB.out q) (HO.out.cell 4 rfl 2 rfl)
        have e3 : ∀ q : Γ.Wd, q.w.cell? ⟨bk, 3, none⟩ = some (.int .i64 th) := fun q => keep (HWB.out q) (HO.out.cell 4 rfl 3 rfl)
        have e4 : ∀ q : Γ.Wd, q.w.cell? ⟨bk, 4, none⟩ = some (.int .i64 tp) := fun q => keep (HWB.out q) (HO.out.cell 4 rfl 4 rfl)
        have HΓ := Lib.hid hΓ
        clear hΓ
        have ne : Nonempty Γ.Wd := ⟨⟨[], x13, HST.out⟩⟩
        refine wp_region_M Γ 11 [9, 10] (by kernel_rfl) (by kernel_rfl) (by kernel_rfl) (by kernel_rfl) HST.out ?_
        simp only [List.take, List.drop]
        iterate 9 (first | (refine wpM_want (by kernel_rfl) (by kernel_rfl) rfl rfl ?_; intro K hK; go_big_quiet_op; go_big_quiet_on) | (refine wpM_is (by kernel_rfl) (by kernel_rfl) rfl _ (fun _ w _ => rfl) ?_; simp only [Act.put, List.setIfInBounds_toArray, List.set_cons_succ, List.set_cons_zero]))
        refine wpM_chainX 0 (gnth 0) (gnth_lasts _ _) (by kernel_rfl) (by kernel_rfl) (fun a' g hg hgl he => ?_) (fun d hd => ?_)
        · have hmv := ghN_alloc (by rw [HΓ.out]; exact hg) hgl
          rw [HΓ.out] at hmv
          have hv0 := List.eq_nil_of_length_eq_zero hgl
          simp [go_sem]
          exact ⟨_, rfl, hmv, by rw [hv0]; rfl⟩
        cases hd
        simp only [List.nil_append]
        refine wpM_store 1 (by kernel_rfl) rfl rfl (by kernel_rfl) (by kernel_rfl) (fun a' g hg hgl he => ?_) ?_
        · obtain ⟨v0, hv0⟩ := List.length_eq_one_iff.1 hgl
          obtain ⟨h10, h29, _⟩ := he
          have k10 : g.vs[0]? = some (a'.eval (.tmp 10)) := h10
          have k29 : a'.eval (.tmp 29) = .agg #[.int .i64 ula, .int .i64 unu] := h29
          rw [hv0] at k10
          have k11 : v0 = a'.eval (.tmp 10) := by simpa using k10
          clear h10 h29 k10
          have hgi : (ghN x13 (.cells #[.int .i64 0, .int .i64 0] 189) (.cells #[.int .i64 ula, .int .i64 unu] 189)).inv [v0] g.w := by rw [HΓ.out, ← hv0]; exact hg
          obtain ⟨b', e'', hst2⟩ := ghN_set2 hgi
          obtain ⟨q0, q1, z0, z1, hmv⟩ := hst2 (.int .i64 ula) (.int .i64 unu) rfl
          rw [HΓ.out, ← hv0] at hmv
          have t10 : a'.tmps.getD 10 undef = .pointer (some ⟨b', 0, none⟩) := k11.symm.trans e''
          have t29 : a'.tmps.getD 29 undef = .agg #[.int .i64 ula, .int .i64 unu] := k29
          simp [go_sem, t10, t29, q0, q1, z0, z1]
          exact ⟨_, hmv⟩
        refine wpM_nil (by kernel_rfl) (by simp) ?_
        rintro ⟨vs, w5⟩ hg hgl
        rw [← HΓ.out] at hg
        simp only [gexAll, List.drop]
        rintro u10 g10
        match vs, hgl, hg, g10 with
        | [v0, v1], _, ⟨hb5, bb, e0', hge, hbb⟩, g10 =>
        obtain rfl : v0 = u10 := by simpa [gnth] using g10
        subst e0'
        simp only [Act.put, List.setIfInBounds_toArray, List.set_cons_succ, List.set_cons_zero]
        have hO := HO.out.push (R := blkR bb (.cells #[.int .i64 ula, .int .i64 unu] 189)) (F := fun z => z = bb) ⟨fun _ => Iff.rfl, hbb⟩ (fun z hz => hz ▸ hge) hb5
        clear c1 e0 e1 e2 e3 e4 hl hb5 hge hbb ne HST HWB HΓ g10
        replace HO := Lib.hid (show Own w D w5 [blkF f vr (.map (some b)) ins, rowRl vr rl, mapR encK b (mapU m1), blkR bx (.cells #[.int .i64 pr, .int .i64 he, .int .i64 hp, .int .i64 th, .int .i64 tp, .bool sy, .bool fi, .bool rs, .int .i64 sq] 39), blkR bk (.cells #[.int .i64 pr, .int .i64 he, .int .i64 hp, .int .i64 th, .int .i64 tp] 192), blkR bb (.cells #[.int .i64 ula, .int .i64 unu] 189)] from hO)
        clear hO
        clear hlk
        have hO := mapO_shut HO.out 2 rfl
        replace HO := Lib.hid (show Own w D w5 [blkF f vr (.map (some b)) ins, rowRl vr rl, mapO (.map (some b)) m1, blkR bx (.cells #[.int .i64 pr, .int .i64 he, .int .i64 hp, .int .i64 th, .int .i64 tp, .bool sy, .bool fi, .bool rs, .int .i64 sq] 39), blkR bk (.cells #[.int .i64 pr, .int .i64 he, .int .i64 hp, .int .i64 th, .int .i64 tp] 192), blkR bb (.cells #[.int .i64 ula, .int .i64 unu] 189)] from hO)
        clear hO
        have z3_0 : w5.cell? ⟨bx, 0, none⟩ = some (.int .i64 pr) := HO.out.cell 3 rfl 0 rfl
        have z3_1 : w5.cell? ⟨bx, 1, none⟩ = some (.int .i64 he) := HO.out.cell 3 rfl 1 rfl
        have z3_2 : w5.cell? ⟨bx, 2, none⟩ = some (.int .i64 hp) := HO.out.cell 3 rfl 2 rfl
        have z3_3 : w5.cell? ⟨bx, 3, none⟩ = some (.int .i64 th) := HO.out.cell 3 rfl 3 rfl
        have z3_4 : w5.cell? ⟨bx, 4, none⟩ = some (.int .i64 tp) := HO.out.cell 3 rfl 4 rfl
        have z3_5 : w5.cell? ⟨bx, 5, none⟩ = some (.bool sy) := HO.out.cell 3 rfl 5 rfl
        have z3_6 : w5.cell? ⟨bx, 6, none⟩ = some (.bool fi) := HO.out.cell 3 rfl 6 rfl
        have z3_7 : w5.cell? ⟨bx, 7, none⟩ = some (.bool rs) := HO.out.cell 3 rfl 7 rfl
        have z3_8 : w5.cell? ⟨bx, 8, none⟩ = some (.int .i64 sq) := HO.out.cell 3 rfl 8 rfl
        cases ha : admitF rl ⟨pr, he, hp, th, tp, sy, fi, rs, sq⟩ inn with
        | false =>
          have HPF := Lib.hid (HPN.out HV.out HGU.out ha)
          go_wp2_with fail
          refine (o_still HO.out (admits_r (HO.out.blk 0 rfl) (HO.out.row 1 rfl) HRL.out ha)).mono ?_
          rintro e x14 ⟨rfl, hO, -⟩
          replace HO := Lib.hid (show Own w D x14 [blkF f vr (.map (some b)) ins, rowRl vr rl, mapO (.map (some b)) m1, blkR bx (.cells #[.int .i64 pr, .int .i64 he, .int .i64 hp, .int .i64 th, .int .i64 tp, .bool sy, .bool fi, .bool rs, .int .i64 sq] 39), blkR bk (.cells #[.int .i64 pr, .int .i64 he, .int .i64 hp, .int .i64 th, .int .i64 tp] 192), blkR bb (.cells #[.int .i64 ula, .int .i64 unu] 189)] from hO)
          clear hO
          clear z3_0 z3_1 z3_2 z3_3 z3_4 z3_5 z3_6 z3_7 z3_8
          have hO := shutF' (st := ⟨rl, m1, ins⟩) HO.out
          replace HO := Lib.hid (show Own w D x14 [resF f ⟨rl, m1, ins⟩, blkR bx (.cells #[.int .i64 pr, .int .i64 he, .int .i64 hp, .int .i64 th, .int .i64 tp, .bool sy, .bool fi, .bool rs, .int .i64 sq] 39), blkR bk (.cells #[.int .i64 pr, .int .i64 he, .int .i64 hp, .int .i64 th, .int .i64 tp] 192), blkR bb (.cells #[.int .i64 ula, .int .i64 unu] 189)] from hO)
          clear hO
          go_wp2
          go_ret
          exact ⟨(false, ⟨rl, m1, ins⟩), _, ⟨HPF.out, rfl⟩, rfl, HO.out.take 1, HO.out.size⟩
        | true =>
          have HA := Lib.hid ha
          go_wp2_with fail
          refine (o_still HO.out (admits_r (HO.out.blk 0 rfl) (HO.out.row 1 rfl) HRL.out ha)).mono ?_
          rintro e x14 ⟨rfl, hO, -⟩
          replace HO := Lib.hid (show Own w D x14 [blkF f vr (.map (some b)) ins, rowRl vr rl, mapO (.map (some b)) m1, blkR bx (.cells #[.int .i64 pr, .int .i64 he, .int .i64 hp, .int .i64 th, .int .i64 tp, .bool sy, .bool fi, .bool rs, .int .i64 sq] 39), blkR bk (.cells #[.int .i64 pr, .int .i64 he, .int .i64 hp, .int .i64 th, .int .i64 tp] 192), blkR bb (.cells #[.int .i64 ula, .int .i64 unu] 189)] from hO)
          clear hO
          clear z3_0 z3_1 z3_2 z3_3 z3_4 z3_5 z3_6 z3_7 z3_8
          clear ha
          have hO := shutF' (st := ⟨rl, m1, ins⟩) HO.out
          replace HO := Lib.hid (show Own w D x14 [resF f ⟨rl, m1, ins⟩, blkR bx (.cells #[.int .i64 pr, .int .i64 he, .int .i64 hp, .int .i64 th, .int .i64 tp, .bool sy, .bool fi, .bool rs, .int .i64 sq] 39), blkR bk (.cells #[.int .i64 pr, .int .i64 he, .int .i64 hp, .int .i64 th, .int .i64 tp] 192), blkR bb (.cells #[.int .i64 ula, .int .i64 unu] 189)] from hO)
          clear hO
          have z1_0 : x14.cell? ⟨bx, 0, none⟩ = some (.int .i64 pr) := HO.out.cell 1 rfl 0 rfl
          have z1_1 : x14.cell? ⟨bx, 1, none⟩ = some (.int .i64 he) := HO.out.cell 1 rfl 1 rfl
          have z1_2 : x14.cell? ⟨bx, 2, none⟩ = some (.int .i64 hp) := HO.out.cell 1 rfl 2 rfl
          have z1_3 : x14.cell? ⟨bx, 3, none⟩ = some (.int .i64 th) := HO.out.cell 1 rfl 3 rfl
          have z1_4 : x14.cell? ⟨bx, 4, none⟩ = some (.int .i64 tp) := HO.out.cell 1 rfl 4 rfl
          have z1_5 : x14.cell? ⟨bx, 5, none⟩ = some (.bool sy) := HO.out.cell 1 rfl 5 rfl
          have z1_6 : x14.cell? ⟨bx, 6, none⟩ = some (.bool fi) := HO.out.cell 1 rfl 6 rfl
          have z1_7 : x14.cell? ⟨bx, 7, none⟩ = some (.bool rs) := HO.out.cell 1 rfl 7 rfl
          have z1_8 : x14.cell? ⟨bx, 8, none⟩ = some (.int .i64 sq) := HO.out.cell 1 rfl 8 rfl
          have z2_0 : x14.cell? ⟨bk, 0, none⟩ = some (.int .i64 pr) := HO.out.cell 2 rfl 0 rfl
          have z2_1 : x14.cell? ⟨bk, 1, none⟩ = some (.int .i64 he) := HO.out.cell 2 rfl 1 rfl
          have z2_2 : x14.cell? ⟨bk, 2, none⟩ = some (.int .i64 hp) := HO.out.cell 2 rfl 2 rfl
          have z2_3 : x14.cell? ⟨bk, 3, none⟩ = some (.int .i64 th) := HO.out.cell 2 rfl 3 rfl
          have z2_4 : x14.cell? ⟨bk, 4, none⟩ = some (.int .i64 tp) := HO.out.cell 2 rfl 4 rfl
          cases rs with
          | true =>
            have HPF := Lib.hid (HPR.out HV.out HGU.out HA.out rfl)
            go_wp2
            go_ret
            exact ⟨(true, ⟨rl, m1, ins⟩), _, ⟨HPF.out, rfl⟩, rfl, HO.out.take 1, HO.out.size⟩
          | false =>
            have HPF := Lib.hid (HPS.out HV.out HGU.out HA.out rfl)
            go_wp2_with fail
            refine (insert_o (k := ⟨pr, he, hp, th, tp⟩) HO.out 0 rfl HI1.out HZ1.out HML.out).mono ?_
            rintro e y9 ⟨m2, v2, ⟨hroom, rfl⟩, rfl, hO, -⟩
            have HRM := Lib.hid hroom
            clear hroom
            replace HO := Lib.hid (show Own w D y9 [resF f ⟨rl, setU ⟨pr, he, hp, th, tp⟩ ⟨now, ins + 1⟩ m2, ins + 1⟩, blkR bx (.cells #[.int .i64 pr, .int .i64 he, .int .i64 hp, .int .i64 th, .int .i64 tp, .bool sy, .bool fi, .bool false, .int .i64 sq] 39), blkR bk (.cells #[.int .i64 pr, .int .i64 he, .int .i64 hp, .int .i64 th, .int .i64 tp] 192), blkR bb (.cells #[.int .i64 ula, .int .i64 unu] 189)] from hO)
            clear hO
            clear z1_0 z1_1 z1_2 z1_3 z1_4 z1_5 z1_6 z1_7 z1_8 z2_0 z2_1 z2_2 z2_3 z2_4
            go_wp2
            go_ret
            exact ⟨(true, ⟨rl, setU ⟨pr, he, hp, th, tp⟩ ⟨now, ins + 1⟩ m2, ins + 1⟩), _, ⟨HPF.out m2 HRM.out, rfl⟩, rfl, HO.out.take 1, HO.out.size⟩
      | some u =>
        have HPF := Lib.hid (HPK.out HV.out u hgu)
        rw [hgu] at hlk
        obtain ⟨ula, unu⟩ := u
        clear hgu
        generalize hΓ : ghN x13 (.cells #[.int .i64 0, .int .i64 0] 189) (.cells #[.int .i64 ula, .int .i64 unu] 189) = Γ
        have HST := Lib.hid (show Γ.inv [] x13 by rw [← hΓ]; exact ⟨Below.refl _ _, trivial⟩)
        have HWB := Lib.hid (show ∀ q : Γ.Wd, Below x13.heap.size x13 q.w by rw [← hΓ]; exact fun q => q.h.1)
        have hl : ∀ q : Γ.Wd, (Instr.lookup 119 (.map (some b)) (.agg #[.int .i64 pr, .int .i64 he, .int .i64 hp, .int .i64 th, .int .i64 tp]) true).run Tryz.prog q.w = .ok (.tuple #[.agg #[.int .i64 ula, .int .i64 unu], .bool true]) q.w := fun q => hlk q.w (HWB.out q)
        have c1 : ∀ q : Γ.Wd, q.w.cell? ⟨f, 1, none⟩ = some (.map (some b)) := fun q => keep (HWB.out q) (HO.out.cell 0 rfl 1 rfl)
        have e0 : ∀ q : Γ.Wd, q.w.cell? ⟨bk, 0, none⟩ = some (.int .i64 pr) := fun q => keep (HWB.out q) (HO.out.cell 4 rfl 0 rfl)
        have e1 : ∀ q : Γ.Wd, q.w.cell? ⟨bk, 1, none⟩ = some (.int .i64 he) := fun q => keep (HWB.out q) (HO.out.cell 4 rfl 1 rfl)
        have e2 : ∀ q : Γ.Wd, q.w.cell? ⟨bk, 2, none⟩ = some (.int .i64 hp) := fun q => keep (HWB.out q) (HO.out.cell 4 rfl 2 rfl)
        have e3 : ∀ q : Γ.Wd, q.w.cell? ⟨bk, 3, none⟩ = some (.int .i64 th) := fun q => keep (HWB.out q) (HO.out.cell 4 rfl 3 rfl)
        have e4 : ∀ q : Γ.Wd, q.w.cell? ⟨bk, 4, none⟩ = some (.int .i64 tp) := fun q => keep (HWB.out q) (HO.out.cell 4 rfl 4 rfl)
        have HΓ := Lib.hid hΓ
        clear hΓ
        have ne : Nonempty Γ.Wd := ⟨⟨[], x13, HST.out⟩⟩
        refine wp_region_M Γ 11 [9, 10] (by kernel_rfl) (by kernel_rfl) (by kernel_rfl) (by kernel_rfl) HST.out ?_
        simp only [List.take, List.drop]
        iterate 9 (first | (refine wpM_want (by kernel_rfl) (by kernel_rfl) rfl rfl ?_; intro K hK; go_big_quiet_op; go_big_quiet_on) | (refine wpM_is (by kernel_rfl) (by kernel_rfl) rfl _ (fun _ w _ => rfl) ?_; simp only [Act.put, List.setIfInBounds_toArray, List.set_cons_succ, List.set_cons_zero]))
        refine wpM_chainX 0 (gnth 0) (gnth_lasts _ _) (by kernel_rfl) (by kernel_rfl) (fun a' g hg hgl he => ?_) (fun d hd => ?_)
        · have hmv := ghN_alloc (by rw [HΓ.out]; exact hg) hgl
          rw [HΓ.out] at hmv
          have hv0 := List.eq_nil_of_length_eq_zero hgl
          simp [go_sem]
          exact ⟨_, rfl, hmv, by rw [hv0]; rfl⟩
        cases hd
        simp only [List.nil_append]
        refine wpM_store 1 (by kernel_rfl) rfl rfl (by kernel_rfl) (by kernel_rfl) (fun a' g hg hgl he => ?_) ?_
        · obtain ⟨v0, hv0⟩ := List.length_eq_one_iff.1 hgl
          obtain ⟨h10, h29, _⟩ := he
          have k10 : g.vs[0]? = some (a'.eval (.tmp 10)) := h10
          have k29 : a'.eval (.tmp 29) = .agg #[.int .i64 ula, .int .i64 unu] := h29
          rw [hv0] at k10
          have k11 : v0 = a'.eval (.tmp 10) := by simpa using k10
          clear h10 h29 k10
          have hgi : (ghN x13 (.cells #[.int .i64 0, .int .i64 0] 189) (.cells #[.int .i64 ula, .int .i64 unu] 189)).inv [v0] g.w := by rw [HΓ.out, ← hv0]; exact hg
          obtain ⟨b', e'', hst2⟩ := ghN_set2 hgi
          obtain ⟨q0, q1, z0, z1, hmv⟩ := hst2 (.int .i64 ula) (.int .i64 unu) rfl
          rw [HΓ.out, ← hv0] at hmv
          have t10 : a'.tmps.getD 10 undef = .pointer (some ⟨b', 0, none⟩) := k11.symm.trans e''
          have t29 : a'.tmps.getD 29 undef = .agg #[.int .i64 ula, .int .i64 unu] := k29
          simp [go_sem, t10, t29, q0, q1, z0, z1]
          exact ⟨_, hmv⟩
        refine wpM_nil (by kernel_rfl) (by simp) ?_
        rintro ⟨vs, w5⟩ hg hgl
        rw [← HΓ.out] at hg
        simp only [gexAll, List.drop]
        rintro u10 g10
        match vs, hgl, hg, g10 with
        | [v0, v1], _, ⟨hb5, bb, e0', hge, hbb⟩, g10 =>
        obtain rfl : v0 = u10 := by simpa [gnth] using g10
        subst e0'
        simp only [Act.put, List.setIfInBounds_toArray, List.set_cons_succ, List.set_cons_zero]
        have hO := HO.out.push (R := blkR bb (.cells #[.int .i64 ula, .int .i64 unu] 189)) (F := fun z => z = bb) ⟨fun _ => Iff.rfl, hbb⟩ (fun z hz => hz ▸ hge) hb5
        clear c1 e0 e1 e2 e3 e4 hl hb5 hge hbb ne HST HWB HΓ g10
        replace HO := Lib.hid (show Own w D w5 [blkF f vr (.map (some b)) ins, rowRl vr rl, mapR encK b (mapU m1), blkR bx (.cells #[.int .i64 pr, .int .i64 he, .int .i64 hp, .int .i64 th, .int .i64 tp, .bool sy, .bool fi, .bool rs, .int .i64 sq] 39), blkR bk (.cells #[.int .i64 pr, .int .i64 he, .int .i64 hp, .int .i64 th, .int .i64 tp] 192), blkR bb (.cells #[.int .i64 ula, .int .i64 unu] 189)] from hO)
        clear hO
        clear hlk
        go_wp2
        have c1 := cell_regrown (show w5.cell? ⟨f, 1, none⟩ = some (.map (some b)) from HO.out.cell 0 rfl 1 rfl)
        have e0 := cell_regrown (show w5.cell? ⟨bk, 0, none⟩ = some (.int .i64 pr) from HO.out.cell 4 rfl 0 rfl)
        have e1 := cell_regrown (show w5.cell? ⟨bk, 1, none⟩ = some (.int .i64 he) from HO.out.cell 4 rfl 1 rfl)
        have e2 := cell_regrown (show w5.cell? ⟨bk, 2, none⟩ = some (.int .i64 hp) from HO.out.cell 4 rfl 2 rfl)
        have e3 := cell_regrown (show w5.cell? ⟨bk, 3, none⟩ = some (.int .i64 th) from HO.out.cell 4 rfl 3 rfl)
        have e4 := cell_regrown (show w5.cell? ⟨bk, 4, none⟩ = some (.int .i64 tp) from HO.out.cell 4 rfl 4 rfl)
        have e5 := cell_regrown (show w5.cell? ⟨bb, 1, none⟩ = some (.int .i64 unu) from HO.out.cell 5 rfl 1 rfl)
        refine wp_region_R 9 (by kernel_rfl) (by kernel_rfl) ?_
        simp only [List.take, List.drop]
        iterate 9 (first | (refine wpR_want (by kernel_rfl) rfl rfl ?_; intro K hK; go_big_quiet_op; go_big_quiet_on) | (refine wpR_is (by kernel_rfl) rfl _ (fun w _ => rfl) ?_; simp only [Act.put, List.setIfInBounds_toArray, List.set_cons_succ, List.set_cons_zero]))
        refine wpR_nil (by kernel_rfl) (by simp) ?_
        rintro w8 hb8
        simp only [exAll, List.drop]
        clear c1 e0 e1 e2 e3 e4 e5
        replace HO := Lib.hid (HO.out.stay hb8)
        clear hb8
        obtain ⟨w9, hrun, hO⟩ := HO.out.mapSet (P := Tryz.prog) 2 rfl keyK Tryz.underlying119 ⟨pr, he, hp, th, tp⟩ (valU ⟨now, unu⟩)
        rw [mapU_set] at hO
        have hO2 := mapO_shut hO 2 rfl
        clear hO
        have HO3 := Lib.hid (show Own w D w9 (resF f ⟨rl, setU ⟨pr, he, hp, th, tp⟩ ⟨now, unu⟩ m1, ins⟩ :: _) from shutF' (st := ⟨rl, setU ⟨pr, he, hp, th, tp⟩ ⟨now, unu⟩ m1, ins⟩) hO2)
        clear hO2
        go_wp2
        go_ret
        exact ⟨(true, ⟨rl, setU ⟨pr, he, hp, th, tp⟩ ⟨now, unu⟩ m1, ins⟩), _, ⟨HPF.out, rfl⟩, rfl, HO3.out.take 1, HO3.out.size⟩
end

end Go.Proofs.YtbolfkojebbejaaGreatDoor

namespace Go.Proofs.YtbolfkojebbejaaGreatDoor
open Go.RowKit Go.Sort
set_option linter.unusedVariables false
set_option maxRecDepth 100000

section
variable {w0 w : World} {D : Nat → Prop} {L : List Res} {f : Nat} {st : FSt}
set_option maxHeartbeats 2000000 in
theorem in_o {now : Int} {x : Fl} (h : Own w0 D w L) (i : Nat) (hi : L[i]? = some (resF f st)) (hI : FI st) (hz : ∀ x ∈ st.m, x.1 ≠ ⟨0, 0, 0, 0, 0⟩) (hml : st.m.length ≤ 1000) (hnow : timeB now) :
    Calls Tryz.prog 48 #[.pointer (some ⟨f, 0, none⟩), .int .i64 now, flV x] w (PassO w0 D L i f st now x true w) := by
  refine o_oneE (Q := fun (s : Bool × FSt) v => PassR st now x true s.1 s.2 ∧ v = .bool s.1) (R' := fun s => resF f s.2) h hi fun D HO0 => ?_
  clear h hi
  have HI := Lib.hid hI
  have HZ := Lib.hid hz
  have HML := Lib.hid hml
  have HNW := Lib.hid hnow
  clear hI hz hml hnow
  obtain ⟨pr, he, hp, th, tp, sy, fi, rs, sq⟩ := x
  have HO := Lib.hid (show Own w D w [resF f st] from HO0)
  clear HO0
  obtain ⟨x1, hx1⟩ : ∃ y, w.alloc (.cells #[.int .i64 pr, .int .i64 he, .int .i64 hp, .int .i64 th, .int .i64 tp, .bool sy, .bool fi, .bool rs, .int .i64 sq] 39) = y := ⟨_, rfl⟩
  obtain ⟨bx, hbx⟩ : ∃ y, w.heap.size = y := ⟨_, rfl⟩
  have hO := HO.out.alloc (.cells #[.int .i64 pr, .int .i64 he, .int .i64 hp, .int .i64 th, .int .i64 tp, .bool sy, .bool fi, .bool rs, .int .i64 sq] 39)
  rw [hx1, hbx] at hO
  replace HO := Lib.hid (show Own w D x1 [resF f st, blkR bx (.cells #[.int .i64 pr, .int .i64 he, .int .i64 hp, .int .i64 th, .int .i64 tp, .bool sy, .bool fi, .bool rs, .int .i64 sq] 39)] from hO)
  clear hO
  have z1_0 : x1.cell? ⟨bx, 0, none⟩ = some (.int .i64 pr) := HO.out.cell 1 rfl 0 rfl
  have z1_1 : x1.cell? ⟨bx, 1, none⟩ = some (.int .i64 he) := HO.out.cell 1 rfl 1 rfl
  have z1_2 : x1.cell? ⟨bx, 2, none⟩ = some (.int .i64 hp) := HO.out.cell 1 rfl 2 rfl
  have z1_3 : x1.cell? ⟨bx, 3, none⟩ = some (.int .i64 th) := HO.out.cell 1 rfl 3 rfl
  have z1_4 : x1.cell? ⟨bx, 4, none⟩ = some (.int .i64 tp) := HO.out.cell 1 rfl 4 rfl
  have z1_5 : x1.cell? ⟨bx, 5, none⟩ = some (.bool sy) := HO.out.cell 1 rfl 5 rfl
  have z1_6 : x1.cell? ⟨bx, 6, none⟩ = some (.bool fi) := HO.out.cell 1 rfl 6 rfl
  have z1_7 : x1.cell? ⟨bx, 7, none⟩ = some (.bool rs) := HO.out.cell 1 rfl 7 rfl
  have z1_8 : x1.cell? ⟨bx, 8, none⟩ = some (.int .i64 sq) := HO.out.cell 1 rfl 8 rfl
  go_enter Tryz.func48, Tryz.ntmps48
  go_wp2_with fail
  refine (passes_o (x := ⟨pr, he, hp, th, tp, sy, fi, rs, sq⟩) (inn := true) HO.out 0 rfl HI.out HZ.out HML.out HNW.out).mono ?_
  rintro e y1 ⟨⟨b, st2⟩, v, ⟨hP, rfl⟩, rfl, hO, -⟩
  clear hx1 hbx z1_0 z1_1 z1_2 z1_3 z1_4 z1_5 z1_6 z1_7 z1_8
  have HP := Lib.hid hP
  clear hP
  replace HO := Lib.hid (show Own w D y1 [resF f st2, blkR bx (.cells #[.int .i64 pr, .int .i64 he, .int .i64 hp, .int .i64 th, .int .i64 tp, .bool sy, .bool fi, .bool rs, .int .i64 sq] 39)] from hO)
  clear hO
  go_wp2
  go_ret
  exact ⟨(b, st2), _, ⟨HP.out, rfl⟩, rfl, HO.out.take 1, HO.out.size⟩
set_option maxHeartbeats 2000000 in
theorem out_o {now : Int} {x : Fl} (h : Own w0 D w L) (i : Nat) (hi : L[i]? = some (resF f st)) (hI : FI st) (hz : ∀ x ∈ st.m, x.1 ≠ ⟨0, 0, 0, 0, 0⟩) (hml : st.m.length ≤ 1000) (hnow : timeB now) :
    Calls Tryz.prog 49 #[.pointer (some ⟨f, 0, none⟩), .int .i64 now, flV x] w (PassO w0 D L i f st now x false w) := by
  refine o_oneE (Q := fun (s : Bool × FSt) v => PassR st now x false s.1 s.2 ∧ v = .bool s.1) (R' := fun s => resF f s.2) h hi fun D HO0 => ?_
  clear h hi
  have HI := Lib.hid hI
  have HZ := Lib.hid hz
  have HML := Lib.hid hml
  have HNW := Lib.hid hnow
  clear hI hz hml hnow
  obtain ⟨pr, he, hp, th, tp, sy, fi, rs, sq⟩ := x
  have HO := Lib.hid (show Own w D w [resF f st] from HO0)
  clear HO0
  obtain ⟨x1, hx1⟩ : ∃ y, w.alloc (.cells #[.int .i64 pr, .int .i64 he, .int .i64 hp, .int .i64 th, .int .i64 tp, .bool sy, .bool fi, .bool rs, .int .i64 sq] 39) = y := ⟨_, rfl⟩
  obtain ⟨bx, hbx⟩ : ∃ y, w.heap.size = y := ⟨_, rfl⟩
  have hO := HO.out.alloc (.cells #[.int .i64 pr, .int .i64 he, .int .i64 hp, .int .i64 th, .int .i64 tp, .bool sy, .bool fi, .bool rs, .int .i64 sq] 39)
  rw [hx1, hbx] at hO
  replace HO := Lib.hid (show Own w D x1 [resF f st, blkR bx (.cells #[.int .i64 pr, .int .i64 he, .int .i64 hp, .int .i64 th, .int .i64 tp, .bool sy, .bool fi, .bool rs, .int .i64 sq] 39)] from hO)
  clear hO
  have z1_0 : x1.cell? ⟨bx, 0, none⟩ = some (.int .i64 pr) := HO.out.cell 1 rfl 0 rfl
  have z1_1 : x1.cell? ⟨bx, 1, none⟩ = some (.int .i64 he) := HO.out.cell 1 rfl 1 rfl
  have z1_2 : x1.cell? ⟨bx, 2, none⟩ = some (.int .i64 hp) := HO.out.cell 1 rfl 2 rfl
  have z1_3 : x1.cell? ⟨bx, 3, none⟩ = some (.int .i64 th) := HO.out.cell 1 rfl 3 rfl
  have z1_4 : x1.cell? ⟨bx, 4, none⟩ = some (.int .i64 tp) := HO.out.cell 1 rfl 4 rfl
  have z1_5 : x1.cell? ⟨bx, 5, none⟩ = some (.bool sy) := HO.out.cell 1 rfl 5 rfl
  have z1_6 : x1.cell? ⟨bx, 6, none⟩ = some (.bool fi) := HO.out.cell 1 rfl 6 rfl
  have z1_7 : x1.cell? ⟨bx, 7, none⟩ = some (.bool rs) := HO.out.cell 1 rfl 7 rfl
  have z1_8 : x1.cell? ⟨bx, 8, none⟩ = some (.int .i64 sq) := HO.out.cell 1 rfl 8 rfl
  go_enter Tryz.func49, Tryz.ntmps49
  go_wp2_with fail
  refine (passes_o (x := ⟨pr, he, hp, th, tp, sy, fi, rs, sq⟩) (inn := false) HO.out 0 rfl HI.out HZ.out HML.out HNW.out).mono ?_
  rintro e y1 ⟨⟨b, st2⟩, v, ⟨hP, rfl⟩, rfl, hO, -⟩
  clear hx1 hbx z1_0 z1_1 z1_2 z1_3 z1_4 z1_5 z1_6 z1_7 z1_8
  have HP := Lib.hid hP
  clear hP
  replace HO := Lib.hid (show Own w D y1 [resF f st2, blkR bx (.cells #[.int .i64 pr, .int .i64 he, .int .i64 hp, .int .i64 th, .int .i64 tp, .bool sy, .bool fi, .bool rs, .int .i64 sq] 39)] from hO)
  clear hO
  go_wp2
  go_ret
  exact ⟨(b, st2), _, ⟨HP.out, rfl⟩, rfl, HO.out.take 1, HO.out.size⟩
set_option maxHeartbeats 2000000 in
theorem flen_o (h : Own w0 D w L) (i : Nat) (hi : L[i]? = some (resF f st)) :
    Calls Tryz.prog 18 #[.pointer (some ⟨f, 0, none⟩)] w (OPost w0 D L (.int .i64 st.m.length) w) := by
  refine o_read h hi fun F hF => ?_
  have HO0 := Own.one hF
  clear h hi
  obtain ⟨vr, om, HO0⟩ := openF HO0
  obtain ⟨n, hn⟩ : ∃ n, st.m.length = n := ⟨_, rfl⟩
  rcases mapO_open HO0 2 rfl with ⟨rfl, hm⟩ | ⟨b, rfl, HO1⟩
  · have c1 : w.cell? ⟨f, 1, none⟩ = some (.map none) := HO0.cell 0 rfl 1 rfl
    have hln := fun ty => run_len_nil (P := Tryz.prog) Tryz.underlying119 w ty
    have HN := Lib.hid (show n = 0 by rw [← hn, hm]; rfl)
    rw [hn]
    clear hm hn HO0 hF
    go_enter Tryz.func18, Tryz.ntmps18
    go_wp2
    go_ret
    exact ⟨by rw [HN.out]; rfl, Below.refl _ _⟩
  · have c1 : w.cell? ⟨f, 1, none⟩ = some (.map (some b)) := HO0.cell 0 rfl 1 rfl
    have hln := fun ty => run_len_map (P := Tryz.prog) Tryz.underlying119 (HO1.mapB 2 rfl) ty
    rw [show (mapU st.m).length = n by simp [mapU, hn]] at hln
    rw [hn]
    clear hn HO0 HO1 hF
    go_enter Tryz.func18, Tryz.ntmps18
    go_wp2
    go_ret
    exact ⟨rfl, Below.refl _ _⟩
theorem flen_nil (w : World) : Calls Tryz.prog 18 #[.pointer none] w fun e w' => e = .returned (.int .i64 0) ∧ Below w.heap.size w w' := by
  go_enter Tryz.func18, Tryz.ntmps18
  go_wp2
  go_ret
  exact ⟨rfl, Below.refl _ _⟩
theorem passes_nil (now : Int) (x : Fl) (b : Bool) (w : World) : Calls Tryz.prog 102 #[.pointer none, .int .i64 now, flV x, .bool b] w fun e w' => e = .returned (.bool false) ∧ Below w.heap.size w w' := by
  go_enter Tryz.func102, Tryz.ntmps102
  go_wp2
  go_ret
  exact ⟨rfl, (Below.refl _ _).alloc (Nat.le_refl _) _⟩
theorem quoted_nil (now : Int) (x : Fl) (w : World) : Calls Tryz.prog 50 #[.pointer none, .int .i64 now, flV x] w fun e w' => e = .returned (.bool false) ∧ Below w.heap.size w w' := by
  go_enter Tryz.func50, Tryz.ntmps50
  go_wp2
  go_ret
  exact ⟨rfl, (Below.refl _ _).alloc (Nat.le_refl _) _⟩
theorem in_nil (now : Int) (x : Fl) (w : World) : Calls Tryz.prog 48 #[.pointer none, .int .i64 now, flV x] w fun e w' => e = .returned (.bool false) ∧ Below w.heap.size w w' := by
  obtain ⟨pr, he, hp, th, tp, sy, fi, rs, sq⟩ := x
  have HO := Lib.hid (show Own w none0 w [] from Own.nil w none0)
  obtain ⟨x1, hx1⟩ : ∃ y, w.alloc (.cells #[.int .i64 pr, .int .i64 he, .int .i64 hp, .int .i64 th, .int .i64 tp, .bool sy, .bool fi, .bool rs, .int .i64 sq] 39) = y := ⟨_, rfl⟩
  obtain ⟨bx, hbx⟩ : ∃ y, w.heap.size = y := ⟨_, rfl⟩
  have hO := HO.out.alloc (.cells #[.int .i64 pr, .int .i64 he, .int .i64 hp, .int .i64 th, .int .i64 tp, .bool sy, .bool fi, .bool rs, .int .i64 sq] 39)
  rw [hx1, hbx] at hO
  replace HO := Lib.hid (show Own w none0 x1 [blkR bx (.cells #[.int .i64 pr, .int .i64 he, .int .i64 hp, .int .i64 th, .int .i64 tp, .bool sy, .bool fi, .bool rs, .int .i64 sq] 39)] from hO)
  clear hO
  have z0_0 : x1.cell? ⟨bx, 0, none⟩ = some (.int .i64 pr) := HO.out.cell 0 rfl 0 rfl
  have z0_1 : x1.cell? ⟨bx, 1, none⟩ = some (.int .i64 he) := HO.out.cell 0 rfl 1 rfl
  have z0_2 : x1.cell? ⟨bx, 2, none⟩ = some (.int .i64 hp) := HO.out.cell 0 rfl 2 rfl
  have z0_3 : x1.cell? ⟨bx, 3, none⟩ = some (.int .i64 th) := HO.out.cell 0 rfl 3 rfl
  have z0_4 : x1.cell? ⟨bx, 4, none⟩ = some (.int .i64 tp) := HO.out.cell 0 rfl 4 rfl
  have z0_5 : x1.cell? ⟨bx, 5, none⟩ = some (.bool sy) := HO.out.cell 0 rfl 5 rfl
  have z0_6 : x1.cell? ⟨bx, 6, none⟩ = some (.bool fi) := HO.out.cell 0 rfl 6 rfl
  have z0_7 : x1.cell? ⟨bx, 7, none⟩ = some (.bool rs) := HO.out.cell 0 rfl 7 rfl
  have z0_8 : x1.cell? ⟨bx, 8, none⟩ = some (.int .i64 sq) := HO.out.cell 0 rfl 8 rfl
  go_enter Tryz.func48, Tryz.ntmps48
  go_wp2_with fail
  refine (o_still HO.out (passes_nil now ⟨pr, he, hp, th, tp, sy, fi, rs, sq⟩ true _)).mono ?_
  rintro e x2 ⟨rfl, hO, -⟩
  replace HO := Lib.hid (show Own w none0 x2 [blkR bx (.cells #[.int .i64 pr, .int .i64 he, .int .i64 hp, .int .i64 th, .int .i64 tp, .bool sy, .bool fi, .bool rs, .int .i64 sq] 39)] from hO)
  clear hO
  clear hx1 hbx z0_0 z0_1 z0_2 z0_3 z0_4 z0_5 z0_6 z0_7 z0_8
  go_wp2
  go_ret
  exact ⟨rfl, HO.out.below⟩
theorem out_nil (now : Int) (x : Fl) (w : World) : Calls Tryz.prog 49 #[.pointer none, .int .i64 now, flV x] w fun e w' => e = .returned (.bool false) ∧ Below w.heap.size w w' := by
  obtain ⟨pr, he, hp, th, tp, sy, fi, rs, sq⟩ := x
  have HO := Lib.hid (show Own w none0 w [] from Own.nil w none0)
  obtain ⟨x1, hx1⟩ : ∃ y, w.alloc (.cells #[.int .i64 pr, .int .i64 he, .int .i64 hp, .int .i64 th, .int .i64 tp, .bool sy, .bool fi, .bool rs, .int .i64 sq] 39) = y := ⟨_, rfl⟩
  obtain ⟨bx, hbx⟩ : ∃ y, w.heap.size = y := ⟨_, rfl⟩
  have hO := HO.out.alloc (.cells #[.int .i64 pr, .int .i64 he, .int .i64 hp, .int .i64 th, .int .i64 tp, .bool sy, .bool fi, .bool rs, .int .i64 sq] 39)
  rw [hx1, hbx] at hO
  replace HO := Lib.hid (show Own w none0 x1 [blkR bx (.cells #[.int .i64 pr, .int .i64 he, .int .i64 hp, .int .i64 th, .int .i64 tp, .bool sy, .bool fi, .bool rs, .int .i64 sq] 39)] from hO)
  clear hO
  have z0_0 : x1.cell? ⟨bx, 0, none⟩ = some (.int .i64 pr) := HO.out.cell 0 rfl 0 rfl
  have z0_1 : x1.cell? ⟨bx, 1, none⟩ = some (.int .i64 he) := HO.out.cell 0 rfl 1 rfl
  have z0_2 : x1.cell? ⟨bx, 2, none⟩ = some (.int .i64 hp) := HO.out.cell 0 rfl 2 rfl
  have z0_3 : x1.cell? ⟨bx, 3, none⟩ = some (.int .i64 th) := HO.out.cell 0 rfl 3 rfl
  have z0_4 : x1.cell? ⟨bx, 4, none⟩ = some (.int .i64 tp) := HO.out.cell 0 rfl 4 rfl
  have z0_5 : x1.cell? ⟨bx, 5, none⟩ = some (.bool sy) := HO.out.cell 0 rfl 5 rfl
  have z0_6 : x1.cell? ⟨bx, 6, none⟩ = some (.bool fi) := HO.out.cell 0 rfl 6 rfl
  have z0_7 : x1.cell? ⟨bx, 7, none⟩ = some (.bool rs) := HO.out.cell 0 rfl 7 rfl
  have z0_8 : x1.cell? ⟨bx, 8, none⟩ = some (.int .i64 sq) := HO.out.cell 0 rfl 8 rfl
  go_enter Tryz.func49, Tryz.ntmps49
  go_wp2_with fail
  refine (o_still HO.out (passes_nil now ⟨pr, he, hp, th, tp, sy, fi, rs, sq⟩ false _)).mono ?_
  rintro e x2 ⟨rfl, hO, -⟩
  replace HO := Lib.hid (show Own w none0 x2 [blkR bx (.cells #[.int .i64 pr, .int .i64 he, .int .i64 hp, .int .i64 th, .int .i64 tp, .bool sy, .bool fi, .bool rs, .int .i64 sq] 39)] from hO)
  clear hO
  clear hx1 hbx z0_0 z0_1 z0_2 z0_3 z0_4 z0_5 z0_6 z0_7 z0_8
  go_wp2
  go_ret
  exact ⟨rfl, HO.out.below⟩
end

end Go.Proofs.YtbolfkojebbejaaGreatDoor

namespace Go.Proofs.YtbolfkojebbejaaGreatDoor
open Go.RowKit Go.Sort
set_option linter.unusedVariables false
set_option maxRecDepth 100000

def quoF (now : Int) (x : Fl) (m : List (FK × Us)) : Bool := validF x && (getU (keyF x) (expF now m)).isSome
section
variable {w0 w : World} {D : Nat → Prop} {L : List Res} {f : Nat} {st : FSt}
set_option maxRecDepth 100000 in
set_option maxHeartbeats 8000000 in
theorem quoted_o {now : Int} {x : Fl} (h : Own w0 D w L) (i : Nat) (hi : L[i]? = some (resF f st)) (hI : FI st) (hnow : timeB now) :
    Calls Tryz.prog 50 #[.pointer (some ⟨f, 0, none⟩), .int .i64 now, flV x] w (OPost w0 D (L.set i (resF f ⟨st.rl, expF now st.m, st.ins⟩)) (.bool (quoF now x st.m)) w) := by
  refine o_one h hi fun D HO0 => ?_
  clear h hi
  have HI := Lib.hid hI
  have HNW := Lib.hid hnow
  clear hI hnow
  obtain ⟨rl, m, ins⟩ := st
  obtain ⟨m1, hm1⟩ : ∃ m1, expF now m = m1 := ⟨_, rfl⟩
  have HM1 := Lib.hid hm1
  obtain ⟨pr, he, hp, th, tp, sy, fi, rs, sq⟩ := x
  have HPI := Lib.hid (show validF ⟨pr, he, hp, th, tp, sy, fi, rs, sq⟩ = false → quoF now ⟨pr, he, hp, th, tp, sy, fi, rs, sq⟩ m = false from fun h => by unfold quoF; rw [h]; rfl)
  have HPN := Lib.hid (show validF ⟨pr, he, hp, th, tp, sy, fi, rs, sq⟩ = true → getU ⟨pr, he, hp, th, tp⟩ m1 = none → quoF now ⟨pr, he, hp, th, tp, sy, fi, rs, sq⟩ m = false from fun h hu => by unfold quoF; rw [h, hm1]; show (getU ⟨pr, he, hp, th, tp⟩ m1).isSome = false; rw [hu]; rfl)
  have HPS := Lib.hid (show validF ⟨pr, he, hp, th, tp, sy, fi, rs, sq⟩ = true → ∀ u, getU ⟨pr, he, hp, th, tp⟩ m1 = some u → quoF now ⟨pr, he, hp, th, tp, sy, fi, rs, sq⟩ m = true from fun h u hu => by unfold quoF; rw [h, hm1]; show (getU ⟨pr, he, hp, th, tp⟩ m1).isSome = true; rw [hu]; rfl)
  obtain ⟨qb, hqb⟩ : ∃ b, quoF now ⟨pr, he, hp, th, tp, sy, fi, rs, sq⟩ m = b := ⟨_, rfl⟩
  rw [hqb] at HPI HPN HPS
  simp only [hm1, hqb]
  clear hm1 hqb
  have HO := Lib.hid (show Own w D w [resF f ⟨rl, m, ins⟩] from HO0)
  clear HO0
  obtain ⟨x1, hx1⟩ : ∃ y, w.alloc (.cells #[.int .i64 pr, .int .i64 he, .int .i64 hp, .int .i64 th, .int .i64 tp, .bool sy, .bool fi, .bool rs, .int .i64 sq] 39) = y := ⟨_, rfl⟩
  obtain ⟨bx, hbx⟩ : ∃ y, w.heap.size = y := ⟨_, rfl⟩
  have hO := HO.out.alloc (.cells #[.int .i64 pr, .int .i64 he, .int .i64 hp, .int .i64 th, .int .i64 tp, .bool sy, .bool fi, .bool rs, .int .i64 sq] 39)
  rw [hx1, hbx] at hO
  replace HO := Lib.hid (show Own w D x1 [resF f ⟨rl, m, ins⟩, blkR bx (.cells #[.int .i64 pr, .int .i64 he, .int .i64 hp, .int .i64 th, .int .i64 tp, .bool sy, .bool fi, .bool rs, .int .i64 sq] 39)] from hO)
  clear hO
  go_enter Tryz.func50, Tryz.ntmps50
  go_wp2_with fail
  have hex := expire_o HO.out 0 rfl HI.out HNW.out
  rw [show ({ (⟨rl, m, ins⟩ : FSt) with m := expF now (⟨rl, m, ins⟩ : FSt).m } : FSt) = ⟨rl, m1, ins⟩ by rw [← HM1.out]] at hex
  refine hex.mono ?_
  rintro e y1 ⟨rfl, hO, -⟩
  replace HO := Lib.hid (show Own w D y1 [resF f ⟨rl, m1, ins⟩, blkR bx (.cells #[.int .i64 pr, .int .i64 he, .int .i64 hp, .int .i64 th, .int .i64 tp, .bool sy, .bool fi, .bool rs, .int .i64 sq] 39)] from hO)
  clear hO hex
  clear hx1 hbx
  have z1_0 : y1.cell? ⟨bx, 0, none⟩ = some (.int .i64 pr) := HO.out.cell 1 rfl 0 rfl
  have z1_1 : y1.cell? ⟨bx, 1, none⟩ = some (.int .i64 he) := HO.out.cell 1 rfl 1 rfl
  have z1_2 : y1.cell? ⟨bx, 2, none⟩ = some (.int .i64 hp) := HO.out.cell 1 rfl 2 rfl
  have z1_3 : y1.cell? ⟨bx, 3, none⟩ = some (.int .i64 th) := HO.out.cell 1 rfl 3 rfl
  have z1_4 : y1.cell? ⟨bx, 4, none⟩ = some (.int .i64 tp) := HO.out.cell 1 rfl 4 rfl
  have z1_5 : y1.cell? ⟨bx, 5, none⟩ = some (.bool sy) := HO.out.cell 1 rfl 5 rfl
  have z1_6 : y1.cell? ⟨bx, 6, none⟩ = some (.bool fi) := HO.out.cell 1 rfl 6 rfl
  have z1_7 : y1.cell? ⟨bx, 7, none⟩ = some (.bool rs) := HO.out.cell 1 rfl 7 rfl
  have z1_8 : y1.cell? ⟨bx, 8, none⟩ = some (.int .i64 sq) := HO.out.cell 1 rfl 8 rfl
  cases hv : validF ⟨pr, he, hp, th, tp, sy, fi, rs, sq⟩ with
  | false =>
    have HPF := Lib.hid (HPI.out hv)
    go_wp2_with fail
    refine (o_still HO.out (validF_r hv _)).mono ?_
    rintro e x11 ⟨rfl, hO, -⟩
    replace HO := Lib.hid (show Own w D x11 [resF f ⟨rl, m1, ins⟩, blkR bx (.cells #[.int .i64 pr, .int .i64 he, .int .i64 hp, .int .i64 th, .int .i64 tp, .bool sy, .bool fi, .bool rs, .int .i64 sq] 39)] from hO)
    clear hO
    clear z1_0 z1_1 z1_2 z1_3 z1_4 z1_5 z1_6 z1_7 z1_8
    go_wp2
    go_ret
    exact ⟨by rw [HPF.out]; rfl, HO.out.take 1, HO.out.size⟩
  | true =>
    have HV := Lib.hid hv
    go_wp2_with fail
    refine (o_still HO.out (validF_r hv _)).mono ?_
    rintro e x11 ⟨rfl, hO, -⟩
    replace HO := Lib.hid (show Own w D x11 [resF f ⟨rl, m1, ins⟩, blkR bx (.cells #[.int .i64 pr, .int .i64 he, .int .i64 hp, .int .i64 th, .int .i64 tp, .bool sy, .bool fi, .bool rs, .int .i64 sq] 39)] from hO)
    clear hO
    clear z1_0 z1_1 z1_2 z1_3 z1_4 z1_5 z1_6 z1_7 z1_8
    clear hv
    obtain ⟨vr, om, hO⟩ := openF' HO.out
    replace HO := Lib.hid (show Own w D x11 [blkF f vr om ins, rowRl vr rl, mapO om m1, blkR bx (.cells #[.int .i64 pr, .int .i64 he, .int .i64 hp, .int .i64 th, .int .i64 tp, .bool sy, .bool fi, .bool rs, .int .i64 sq] 39)] from hO)
    clear hO
    have HMO := Lib.hid (mapO_open HO.out 2 rfl)
    go_wp2
    rcases HMO.out with ⟨hom, hm0⟩ | ⟨b, hom, hO⟩
    · subst hom
      have HPF := Lib.hid (HPN.out HV.out (by rw [hm0]; rfl))
      clear HMO hm0
      obtain ⟨ula, hula⟩ : ∃ n : Int, 0 = n := ⟨_, rfl⟩
      obtain ⟨unu, hunu⟩ : ∃ n : Int, 0 = n := ⟨_, rfl⟩
      generalize hΓ : ghN x11 (.cells #[.int .i64 0, .int .i64 0] 189) (.cells #[.int .i64 ula, .int .i64 unu] 189) = Γ
      have HST := Lib.hid (show Γ.inv [] x11 by rw [← hΓ]; exact ⟨Below.refl _ _, trivial⟩)
      have HWB := Lib.hid (show ∀ q : Γ.Wd, Below x11.heap.size x11 q.w by rw [← hΓ]; exact fun q => q.h.1)
      have hl : ∀ q : Γ.Wd, (Instr.lookup 119 (.map none) (.agg #[.int .i64 pr, .int .i64 he, .int .i64 hp, .int .i64 th, .int .i64 tp]) true).run Tryz.prog q.w = .ok (.tuple #[.agg #[.int .i64 ula, .int .i64 unu], .bool false]) q.w := by
        subst hula hunu
        exact fun q => keyK.lookup_nil Tryz.underlying119 (zeroU _) ⟨pr, he, hp, th, tp⟩ true
      have c1 : ∀ q : Γ.Wd, q.w.cell? ⟨f, 1, none⟩ = some (.map none) := fun q => keep (HWB.out q) (HO.out.cell 0 rfl 1 rfl)
      have e0 : ∀ q : Γ.Wd, q.w.cell? ⟨bx, 0, none⟩ = some (.int .i64 pr) := fun q => keep (HWB.out q) (HO.out.cell 3 rfl 0 rfl)
      have e1 : ∀ q : Γ.Wd, q.w.cell? ⟨bx, 1, none⟩ = some (.int .i64 he) := fun q => keep (HWB.out q) (HO.out.cell 3 rfl 1 rfl)
      have e2 : ∀ q : Γ.Wd, q.w.cell? ⟨bx, 2, none⟩ = some (.int .i64 hp) := fun q => keep (HWB.out q) (HO.out.cell 3 rfl 2 rfl)
      have e3 : ∀ q : Γ.Wd, q.w.cell? ⟨bx, 3, none⟩ = some (.int .i64 th) := fun q => keep (HWB.out q) (HO.out.cell 3 rfl 3 rfl)
      have e4 : ∀ q : Γ.Wd, q.w.cell? ⟨bx, 4, none⟩ = some (.int .i64 tp) := fun q => keep (HWB.out q) (HO.out.cell 3 rfl 4 rfl)
      have e5 : ∀ q : Γ.Wd, q.w.cell? ⟨bx, 5, none⟩ = some (.bool sy) := fun q => keep (HWB.out q) (HO.out.cell 3 rfl 5 rfl)
      have e6 : ∀ q : Γ.Wd, q.w.cell? ⟨bx, 6, none⟩ = some (.bool fi) := fun q => keep (HWB.out q) (HO.out.cell 3 rfl 6 rfl)
      have e7 : ∀ q : Γ.Wd, q.w.cell? ⟨bx, 7, none⟩ = some (.bool rs) := fun q => keep (HWB.out q) (HO.out.cell 3 rfl 7 rfl)
      have e8 : ∀ q : Γ.Wd, q.w.cell? ⟨bx, 8, none⟩ = some (.int .i64 sq) := fun q => keep (HWB.out q) (HO.out.cell 3 rfl 8 rfl)
      have HΓ := Lib.hid hΓ
      clear hΓ
      have ne : Nonempty Γ.Wd := ⟨⟨[], x11, HST.out⟩⟩
      refine wp_region_M Γ 12 [10, 11] (by kernel_rfl) (by kernel_rfl) (by kernel_rfl) (by kernel_rfl) HST.out ?_
      simp only [List.take, List.drop]
      iterate 5 (first | (refine wpM_want (by kernel_rfl) (by kernel_rfl) rfl rfl ?_; intro K hK; go_big_quiet_op; go_big_quiet_on) | (refine wpM_is (by kernel_rfl) (by kernel_rfl) rfl _ (fun _ w _ => rfl) ?_; simp only [Act.put, List.setIfInBounds_toArray, List.set_cons_succ, List.set_cons_zero]))
      refine wpM_call (by kernel_rfl) (by kernel_rfl) rfl 105 #[flV ⟨pr, he, hp, th, tp, sy, fi, rs, sq⟩] (.agg #[.int .i64 pr, .int .i64 he, .int .i64 hp, .int .i64 th, .int .i64 tp]) (fun w => by simp [go_sem]) (fun _ w _ => keyOf_l pr he hp th tp sy fi rs sq w) ?_
      simp only [Act.put, List.setIfInBounds_toArray, List.set_cons_succ, List.set_cons_zero]
      iterate 4 (first | (refine wpM_want (by kernel_rfl) (by kernel_rfl) rfl rfl ?_; intro K hK; go_big_quiet_op; go_big_quiet_on) | (refine wpM_is (by kernel_rfl) (by kernel_rfl) rfl _ (fun _ w _ => rfl) ?_; simp only [Act.put, List.setIfInBounds_toArray, List.set_cons_succ, List.set_cons_zero]))
      refine wpM_chainX 0 (gnth 0) (gnth_lasts _ _) (by kernel_rfl) (by kernel_rfl) (fun a' g hg hgl he => ?_) (fun d hd => ?_)
      · have hmv := ghN_alloc (by rw [HΓ.out]; exact hg) hgl
        rw [HΓ.out] at hmv
        have hv0 := List.eq_nil_of_length_eq_zero hgl
        simp [go_sem]
        exact ⟨_, rfl, hmv, by rw [hv0]; rfl⟩
      cases hd
      simp only [List.nil_append]
      refine wpM_store 1 (by kernel_rfl) rfl rfl (by kernel_rfl) (by kernel_rfl) (fun a' g hg hgl he => ?_) ?_
      · obtain ⟨v0, hv0⟩ := List.length_eq_one_iff.1 hgl
        obtain ⟨h10, h29, _⟩ := he
        have k10 : g.vs[0]? = some (a'.eval (.tmp 7)) := h10
        have k29 : a'.eval (.tmp 25) = .agg #[.int .i64 ula, .int .i64 unu] := h29
        rw [hv0] at k10
        have k11 : v0 = a'.eval (.tmp 7) := by simpa using k10
        clear h10 h29 k10
        have hgi : (ghN x11 (.cells #[.int .i64 0, .int .i64 0] 189) (.cells #[.int .i64 ula, .int .i64 unu] 189)).inv [v0] g.w := by rw [HΓ.out, ← hv0]; exact hg
        obtain ⟨b', e'', hst2⟩ := ghN_set2 hgi
        obtain ⟨q0, q1, z0, z1, hmv⟩ := hst2 (.int .i64 ula) (.int .i64 unu) rfl
        rw [HΓ.out, ← hv0] at hmv
        have t10 : a'.tmps.getD 7 undef = .pointer (some ⟨b', 0, none⟩) := k11.symm.trans e''
        have t29 : a'.tmps.getD 25 undef = .agg #[.int .i64 ula, .int .i64 unu] := k29
        simp [go_sem, t10, t29, q0, q1, z0, z1]
        exact ⟨_, hmv⟩
      refine wpM_nil (by kernel_rfl) (by simp) ?_
      rintro ⟨vs, w5⟩ hg hgl
      rw [← HΓ.out] at hg
      simp only [gexAll, List.drop]
      rintro u10 g10
      match vs, hgl, hg, g10 with
      | [v0, v1], _, ⟨hb5, bb, e0', hge, hbb⟩, g10 =>
      obtain rfl : v0 = u10 := by simpa [gnth] using g10
      subst e0'
      simp only [Act.put, List.setIfInBounds_toArray, List.set_cons_succ, List.set_cons_zero]
      have hO := HO.out.push (R := blkR bb (.cells #[.int .i64 ula, .int .i64 unu] 189)) (F := fun z => z = bb) ⟨fun _ => Iff.rfl, hbb⟩ (fun z hz => hz ▸ hge) hb5
      clear c1 e0 e1 e2 e3 e4 e5 e6 e7 e8 hl hb5 hge hbb ne HST HWB HΓ g10
      replace HO := Lib.hid (show Own w D w5 [blkF f vr (.map none) ins, rowRl vr rl, mapO (.map none) m1, blkR bx (.cells #[.int .i64 pr, .int .i64 he, .int .i64 hp, .int .i64 th, .int .i64 tp, .bool sy, .bool fi, .bool rs, .int .i64 sq] 39), blkR bb (.cells #[.int .i64 ula, .int .i64 unu] 189)] from hO)
      clear hO
      have hO := shutF' (st := ⟨rl, m1, ins⟩) HO.out
      replace HO := Lib.hid (show Own w D w5 [resF f ⟨rl, m1, ins⟩, blkR bx (.cells #[.int .i64 pr, .int .i64 he, .int .i64 hp, .int .i64 th, .int .i64 tp, .bool sy, .bool fi, .bool rs, .int .i64 sq] 39), blkR bb (.cells #[.int .i64 ula, .int .i64 unu] 189)] from hO)
      clear hO
      go_wp2
      go_ret
      exact ⟨by rw [HPF.out]; rfl, HO.out.take 1, HO.out.size⟩
    · subst hom
      clear HMO
      replace HO := Lib.hid (show Own w D x11 [blkF f vr (.map (some b)) ins, rowRl vr rl, mapR encK b (mapU m1), blkR bx (.cells #[.int .i64 pr, .int .i64 he, .int .i64 hp, .int .i64 th, .int .i64 tp, .bool sy, .bool fi, .bool rs, .int .i64 sq] 39)] from hO)
      clear hO
      have hlk : ∀ w : World, Below x11.heap.size x11 w → (Instr.lookup 119 (.map (some b)) (encK ⟨pr, he, hp, th, tp⟩) true).run Tryz.prog w = .ok (lookV (.agg #[.int .i64 0, .int .i64 0]) true ((getU ⟨pr, he, hp, th, tp⟩ m1).map valU)) w := fun w hb => by
        have := keyK.lookup Tryz.underlying119 (zeroU _) ((HO.out.mapB 2 rfl).stay hb) ⟨pr, he, hp, th, tp⟩ true
        rw [mapU_get] at this
        exact this
      cases hgu : getU ⟨pr, he, hp, th, tp⟩ m1 with
      | none =>
        have HPF := Lib.hid (HPN.out HV.out hgu)
        rw [hgu] at hlk
        clear hgu
        obtain ⟨ula, hula⟩ : ∃ n : Int, 0 = n := ⟨_, rfl⟩
        obtain ⟨unu, hunu⟩ : ∃ n : Int, 0 = n := ⟨_, rfl⟩
        generalize hΓ : ghN x11 (.cells #[.int .i64 0, .int .i64 0] 189) (.cells #[.int .i64 ula, .int .i64 unu] 189) = Γ
        have HST := Lib.hid (show Γ.inv [] x11 by rw [← hΓ]; exact ⟨Below.refl _ _, trivial⟩)
        have HWB := Lib.hid (show ∀ q : Γ.Wd, Below x11.heap.size x11 q.w by rw [← hΓ]; exact fun q => q.h.1)
        have hl : ∀ q : Γ.Wd, (Instr.lookup 119 (.map (some b)) (.agg #[.int .i64 pr, .int .i64 he, .int .i64 hp, .int .i64 th, .int .i64 tp]) true).run Tryz.prog q.w = .ok (.tuple #[.agg #[.int .i64 ula, .int .i64 unu], .bool false]) q.w := by
          subst hula hunu
          exact fun q => hlk q.w (HWB.out q)
        have c1 : ∀ q : Γ.Wd, q.w.cell? ⟨f, 1, none⟩ = some (.map (some b)) := fun q => keep (HWB.out q) (HO.out.cell 0 rfl 1 rfl)
        have e0 : ∀ q : Γ.Wd, q.w.cell? ⟨bx, 0, none⟩ = some (.int .i64 pr) := fun q => keep (HWB.out q) (HO.out.cell 3 rfl 0 rfl)
        have e1 : ∀ q : Γ.Wd, q.w.cell? ⟨bx, 1, none⟩ = some (.int .i64 he) := fun q => keep (HWB.out q) (HO.out.cell 3 rfl 1 rfl)
        have e2 : ∀ q : Γ.Wd, q.w.cell? ⟨bx, 2, none⟩ = some (.int .i64 hp) := fun q => keep (HWB.out q) (HO.out.cell 3 rfl 2 rfl)
        have e3 : ∀ q : Γ.Wd, q.w.cell? ⟨bx, 3, none⟩ = some (.int .i64 th) := fun q => keep (HWB.out q) (HO.out.cell 3 rfl 3 rfl)
        have e4 : ∀ q : Γ.Wd, q.w.cell? ⟨bx, 4, none⟩ = some (.int .i64 tp) := fun q => keep (HWB.out q) (HO.out.cell 3 rfl 4 rfl)
        have e5 : ∀ q : Γ.Wd, q.w.cell? ⟨bx, 5, none⟩ = some (.bool sy) := fun q => keep (HWB.out q) (HO.out.cell 3 rfl 5 rfl)
        have e6 : ∀ q : Γ.Wd, q.w.cell? ⟨bx, 6, none⟩ = some (.bool fi) := fun q => keep (HWB.out q) (HO.out.cell 3 rfl 6 rfl)
        have e7 : ∀ q : Γ.Wd, q.w.cell? ⟨bx, 7, none⟩ = some (.bool rs) := fun q => keep (HWB.out q) (HO.out.cell 3 rfl 7 rfl)
        have e8 : ∀ q : Γ.Wd, q.w.cell? ⟨bx, 8, none⟩ = some (.int .i64 sq) := fun q => keep (HWB.out q) (HO.out.cell 3 rfl 8 rfl)
        have HΓ := Lib.hid hΓ
        clear hΓ
        have ne : Nonempty Γ.Wd := ⟨⟨[], x11, HST.out⟩⟩
        refine wp_region_M Γ 12 [10, 11] (by kernel_rfl) (by kernel_rfl) (by kernel_rfl) (by kernel_rfl) HST.out ?_
        simp only [List.take, List.drop]
        iterate 5 (first | (refine wpM_want (by kernel_rfl) (by kernel_rfl) rfl rfl ?_; intro K hK; go_big_quiet_op; go_big_quiet_on) | (refine wpM_is (by kernel_rfl) (by kernel_rfl) rfl _ (fun _ w _ => rfl) ?_; simp only [Act.put, List.setIfInBounds_toArray, List.set_cons_succ, List.set_cons_zero]))
        refine wpM_call (by kernel_rfl) (by kernel_rfl) rfl 105 #[flV ⟨pr, he, hp, th, tp, sy, fi, rs, sq⟩] (.agg #[.int .i64 pr, .int .i64 he, .int .i64 hp, .int .i64 th, .int .i64 tp]) (fun w => by simp [go_sem]) (fun _ w _ => keyOf_l pr he hp th tp sy fi rs sq w) ?_
        simp only [Act.put, List.setIfInBounds_toArray, List.set_cons_succ, List.set_cons_zero]
        iterate 4 (first | (refine wpM_want (by kernel_rfl) (by kernel_rfl) rfl rfl ?_; intro K hK; go_big_quiet_op; go_big_quiet_on) | (refine wpM_is (by kernel_rfl) (by kernel_rfl) rfl _ (fun _ w _ => rfl) ?_; simp only [Act.put, List.setIfInBounds_toArray, List.set_cons_succ, List.set_cons_zero]))
        refine wpM_chainX 0 (gnth 0) (gnth_lasts _ _) (by kernel_rfl) (by kernel_rfl) (fun a' g hg hgl he => ?_) (fun d hd => ?_)
        · have hmv := ghN_alloc (by rw [HΓ.out]; exact hg) hgl
          rw [HΓ.out] at hmv
          have hv0 := List.eq_nil_of_length_eq_zero hgl
          simp [go_sem]
          exact ⟨_, rfl, hmv, by rw [hv0]; rfl⟩
        cases hd
        simp only [List.nil_append]
        refine wpM_store 1 (by kernel_rfl) rfl rfl (by kernel_rfl) (by kernel_rfl) (fun a' g hg hgl he => ?_) ?_
        · obtain ⟨v0, hv0⟩ := List.length_eq_one_iff.1 hgl
          obtain ⟨h10, h29, _⟩ := he
          have k10 : g.vs[0]? = some (a'.eval (.tmp 7)) := h10
          have k29 : a'.eval (.tmp 25) = .agg #[.int .i64 ula, .int .i64 unu] := h29
          rw [hv0] at k10
          have k11 : v0 = a'.eval (.tmp 7) := by simpa using k10
          clear h10 h29 k10
          have hgi : (ghN x11 (.cells #[.int .i64 0, .int .i64 0] 189) (.cells #[.int .i64 ula, .int .i64 unu] 189)).inv [v0] g.w := by rw [HΓ.out, ← hv0]; exact hg
          obtain ⟨b', e'', hst2⟩ := ghN_set2 hgi
          obtain ⟨q0, q1, z0, z1, hmv⟩ := hst2 (.int .i64 ula) (.int .i64 unu) rfl
          rw [HΓ.out, ← hv0] at hmv
          have t10 : a'.tmps.getD 7 undef = .pointer (some ⟨b', 0, none⟩) := k11.symm.trans e''
          have t29 : a'.tmps.getD 25 undef = .agg #[.int .i64 ula, .int .i64 unu] := k29
          simp [go_sem, t10, t29, q0, q1, z0, z1]
          exact ⟨_, hmv⟩
        refine wpM_nil (by kernel_rfl) (by simp) ?_
        rintro ⟨vs, w5⟩ hg hgl
        rw [← HΓ.out] at hg
        simp only [gexAll, List.drop]
        rintro u10 g10
        match vs, hgl, hg, g10 with
        | [v0, v1], _, ⟨hb5, bb, e0', hge, hbb⟩, g10 =>
        obtain rfl : v0 = u10 := by simpa [gnth] using g10
        subst e0'
        simp only [Act.put, List.setIfInBounds_toArray, List.set_cons_succ, List.set_cons_zero]
        have hO := HO.out.push (R := blkR bb (.cells #[.int .i64 ula, .int .i64 unu] 189)) (F := fun z => z = bb) ⟨fun _ => Iff.rfl, hbb⟩ (fun z hz => hz ▸ hge) hb5
        clear c1 e0 e1 e2 e3 e4 e5 e6 e7 e8 hl hb5 hge hbb ne HST HWB HΓ g10
        replace HO := Lib.hid (show Own w D w5 [blkF f vr (.map (some b)) ins, rowRl vr rl, mapR encK b (mapU m1), blkR bx (.cells #[.int .i64 pr, .int .i64 he, .int .i64 hp, .int .i64 th, .int .i64 tp, .bool sy, .bool fi, .bool rs, .int .i64 sq] 39), blkR bb (.cells #[.int .i64 ula, .int .i64 unu] 189)] from hO)
        clear hO
        clear hlk
        have hO := mapO_shut HO.out 2 rfl
        replace HO := Lib.hid (show Own w D w5 [blkF f vr (.map (some b)) ins, rowRl vr rl, mapO (.map (some b)) m1, blkR bx (.cells #[.int .i64 pr, .int .i64 he, .int .i64 hp, .int .i64 th, .int .i64 tp, .bool sy, .bool fi, .bool rs, .int .i64 sq] 39), blkR bb (.cells #[.int .i64 ula, .int .i64 unu] 189)] from hO)
        clear hO
        have hO := shutF' (st := ⟨rl, m1, ins⟩) HO.out
        replace HO := Lib.hid (show Own w D w5 [resF f ⟨rl, m1, ins⟩, blkR bx (.cells #[.int .i64 pr, .int .i64 he, .int .i64 hp, .int .i64 th, .int .i64 tp, .bool sy, .bool fi, .bool rs, .int .i64 sq] 39), blkR bb (.cells #[.int .i64 ula, .int .i64 unu] 189)] from hO)
        clear hO
        go_wp2
        go_ret
        exact ⟨by rw [HPF.out]; rfl, HO.out.take 1, HO.out.size⟩
      | some u =>
        have HPF := Lib.hid (HPS.out HV.out u hgu)
        rw [hgu] at hlk
        obtain ⟨ula, unu⟩ := u
        clear hgu
        generalize hΓ : ghN x11 (.cells #[.int .i64 0, .int .i64 0] 189) (.cells #[.int .i64 ula, .int .i64 unu] 189) = Γ
        have HST := Lib.hid (show Γ.inv [] x11 by rw [← hΓ]; exact ⟨Below.refl _ _, trivial⟩)
        have HWB := Lib.hid (show ∀ q : Γ.Wd, Below x11.heap.size x11 q.w by rw [← hΓ]; exact fun q => q.h.1)
        have hl : ∀ q : Γ.Wd, (Instr.lookup 119 (.map (some b)) (.agg #[.int .i64 pr, .int .i64 he, .int .i64 hp, .int .i64 th, .int .i64 tp]) true).run Tryz.prog q.w = .ok (.tuple #[.agg #[.int .i64 ula, .int .i64 unu], .bool true]) q.w := fun q => hlk q.w (HWB.out q)
        have c1 : ∀ q : Γ.Wd, q.w.cell? ⟨f, 1, none⟩ = some (.map (some b)) := fun q => keep (HWB.out q) (HO.out.cell 0 rfl 1 rfl)
        have e0 : ∀ q : Γ.Wd, q.w.cell? ⟨bx, 0, none⟩ = some (.int .i64 pr) := fun q => keep (HWB.out q) (HO.out.cell 3 rfl 0 rfl)
        have e1 : ∀ q : Γ.Wd, q.w.cell? ⟨bx, 1, none⟩ = some (.int .i64 he) := fun q => keep (HWB.out q) (HO.out.cell 3 rfl 1 rfl)
        have e2 : ∀ q : Γ.Wd, q.w.cell? ⟨bx, 2, none⟩ = some (.int .i64 hp) := fun q => keep (HWB.out q) (HO.out.cell 3 rfl 2 rfl)
        have e3 : ∀ q : Γ.Wd, q.w.cell? ⟨bx, 3, none⟩ = some (.int .i64 th) := fun q => keep (HWB.out q) (HO.out.cell 3 rfl 3 rfl)
        have e4 : ∀ q : Γ.Wd, q.w.cell? ⟨bx, 4, none⟩ = some (.int .i64 tp) := fun q => keep (HWB.out q) (HO.out.cell 3 rfl 4 rfl)
        have e5 : ∀ q : Γ.Wd, q.w.cell? ⟨bx, 5, none⟩ = some (.bool sy) := fun q => keep (HWB.out q) (HO.out.cell 3 rfl 5 rfl)
        have e6 : ∀ q : Γ.Wd, q.w.cell? ⟨bx, 6, none⟩ = some (.bool fi) := fun q => keep (HWB.out q) (HO.out.cell 3 rfl 6 rfl)
        have e7 : ∀ q : Γ.Wd, q.w.cell? ⟨bx, 7, none⟩ = some (.bool rs) := fun q => keep (HWB.out q) (HO.out.cell 3 rfl 7 rfl)
        have e8 : ∀ q : Γ.Wd, q.w.cell? ⟨bx, 8, none⟩ = some (.int .i64 sq) := fun q => keep (HWB.out q) (HO.out.cell 3 rfl 8 rfl)
        have HΓ := Lib.hid hΓ
        clear hΓ
        have ne : Nonempty Γ.Wd := ⟨⟨[], x11, HST.out⟩⟩
        refine wp_region_M Γ 12 [10, 11] (by kernel_rfl) (by kernel_rfl) (by kernel_rfl) (by kernel_rfl) HST.out ?_
        simp only [List.take, List.drop]
        iterate 5 (first | (refine wpM_want (by kernel_rfl) (by kernel_rfl) rfl rfl ?_; intro K hK; go_big_quiet_op; go_big_quiet_on) | (refine wpM_is (by kernel_rfl) (by kernel_rfl) rfl _ (fun _ w _ => rfl) ?_; simp only [Act.put, List.setIfInBounds_toArray, List.set_cons_succ, List.set_cons_zero]))
        refine wpM_call (by kernel_rfl) (by kernel_rfl) rfl 105 #[flV ⟨pr, he, hp, th, tp, sy, fi, rs, sq⟩] (.agg #[.int .i64 pr, .int .i64 he, .int .i64 hp, .int .i64 th, .int .i64 tp]) (fun w => by simp [go_sem]) (fun _ w _ => keyOf_l pr he hp th tp sy fi rs sq w) ?_
        simp only [Act.put, List.setIfInBounds_toArray, List.set_cons_succ, List.set_cons_zero]
        iterate 4 (first | (refine wpM_want (by kernel_rfl) (by kernel_rfl) rfl rfl ?_; intro K hK; go_big_quiet_op; go_big_quiet_on) | (refine wpM_is (by kernel_rfl) (by kernel_rfl) rfl _ (fun _ w _ => rfl) ?_; simp only [Act.put, List.setIfInBounds_toArray, List.set_cons_succ, List.set_cons_zero]))
        refine wpM_chainX 0 (gnth 0) (gnth_lasts _ _) (by kernel_rfl) (by kernel_rfl) (fun a' g hg hgl he => ?_) (fun d hd => ?_)
        · have hmv := ghN_alloc (by rw [HΓ.out]; exact hg) hgl
          rw [HΓ.out] at hmv
          have hv0 := List.eq_nil_of_length_eq_zero hgl
          simp [go_sem]
          exact ⟨_, rfl, hmv, by rw [hv0]; rfl⟩
        cases hd
        simp only [List.nil_append]
        refine wpM_store 1 (by kernel_rfl) rfl rfl (by kernel_rfl) (by kernel_rfl) (fun a' g hg hgl he => ?_) ?_
        · obtain ⟨v0, hv0⟩ := List.length_eq_one_iff.1 hgl
          obtain ⟨h10, h29, _⟩ := he
          have k10 : g.vs[0]? = some (a'.eval (.tmp 7)) := h10
          have k29 : a'.eval (.tmp 25) = .agg #[.int .i64 ula, .int .i64 unu] := h29
          rw [hv0] at k10
          have k11 : v0 = a'.eval (.tmp 7) := by simpa using k10
          clear h10 h29 k10
          have hgi : (ghN x11 (.cells #[.int .i64 0, .int .i64 0] 189) (.cells #[.int .i64 ula, .int .i64 unu] 189)).inv [v0] g.w := by rw [HΓ.out, ← hv0]; exact hg
          obtain ⟨b', e'', hst2⟩ := ghN_set2 hgi
          obtain ⟨q0, q1, z0, z1, hmv⟩ := hst2 (.int .i64 ula) (.int .i64 unu) rfl
          rw [HΓ.out, ← hv0] at hmv
          have t10 : a'.tmps.getD 7 undef = .pointer (some ⟨b', 0, none⟩) := k11.symm.trans e''
          have t29 : a'.tmps.getD 25 undef = .agg #[.int .i64 ula, .int .i64 unu] := k29
          simp [go_sem, t10, t29, q0, q1, z0, z1]
          exact ⟨_, hmv⟩
        refine wpM_nil (by kernel_rfl) (by simp) ?_
        rintro ⟨vs, w5⟩ hg hgl
        rw [← HΓ.out] at hg
        simp only [gexAll, List.drop]
        rintro u10 g10
        match vs, hgl, hg, g10 with
        | [v0, v1], _, ⟨hb5, bb, e0', hge, hbb⟩, g10 =>
        obtain rfl : v0 = u10 := by simpa [gnth] using g10
        subst e0'
        simp only [Act.put, List.setIfInBounds_toArray, List.set_cons_succ, List.set_cons_zero]
        have hO := HO.out.push (R := blkR bb (.cells #[.int .i64 ula, .int .i64 unu] 189)) (F := fun z => z = bb) ⟨fun _ => Iff.rfl, hbb⟩ (fun z hz => hz ▸ hge) hb5
        clear c1 e0 e1 e2 e3 e4 e5 e6 e7 e8 hl hb5 hge hbb ne HST HWB HΓ g10
        replace HO := Lib.hid (show Own w D w5 [blkF f vr (.map (some b)) ins, rowRl vr rl, mapR encK b (mapU m1), blkR bx (.cells #[.int .i64 pr, .int .i64 he, .int .i64 hp, .int .i64 th, .int .i64 tp, .bool sy, .bool fi, .bool rs, .int .i64 sq] 39), blkR bb (.cells #[.int .i64 ula, .int .i64 unu] 189)] from hO)
        clear hO
        clear hlk
        have hO := mapO_shut HO.out 2 rfl
        replace HO := Lib.hid (show Own w D w5 [blkF f vr (.map (some b)) ins, rowRl vr rl, mapO (.map (some b)) m1, blkR bx (.cells #[.int .i64 pr, .int .i64 he, .int .i64 hp, .int .i64 th, .int .i64 tp, .bool sy, .bool fi, .bool rs, .int .i64 sq] 39), blkR bb (.cells #[.int .i64 ula, .int .i64 unu] 189)] from hO)
        clear hO
        have hO := shutF' (st := ⟨rl, m1, ins⟩) HO.out
        replace HO := Lib.hid (show Own w D w5 [resF f ⟨rl, m1, ins⟩, blkR bx (.cells #[.int .i64 pr, .int .i64 he, .int .i64 hp, .int .i64 th, .int .i64 tp, .bool sy, .bool fi, .bool rs, .int .i64 sq] 39), blkR bb (.cells #[.int .i64 ula, .int .i64 unu] 189)] from hO)
        clear hO
        go_wp2
        go_ret
        exact ⟨by rw [HPF.out]; rfl, HO.out.take 1, HO.out.size⟩
end

end Go.Proofs.YtbolfkojebbejaaGreatDoor

namespace Go.Proofs.YtbolfkojebbejaaGreatDoor
open Go.RowKit Go.Sort
set_option linter.unusedVariables false
set_option maxRecDepth 100000

theorem run_bsRl (a : Bool) (b c d e f : Int) (g : Bool) (w : World) : (Instr.buildSlice 116 1 #[(0, .agg #[.bool a, .int .i64 b, .int .i64 c, .int .i64 d, .int .i64 e, .int .i64 f, .bool g])]).run Tryz.prog w = .ok (.slice (some ⟨w.heap.size, 0, none⟩) 1 1) (w.alloc (.cells #[.bool a, .int .i64 b, .int .i64 c, .int .i64 d, .int .i64 e, .int .i64 f, .bool g] 115)) := by kernel_rfl
theorem infoRl : (Tryz.prog.info? 115).map (fun i => (i.zero, i.size, i.bytes)) = some (some (.agg #[.bool false, .int .i64 0, .int .i64 0, .int .i64 0, .int .i64 0, .int .i64 0, .bool false]), 7, 56) := by kernel_rfl
end Go.Proofs.YtbolfkojebbejaaGreatDoor

namespace Go.Proofs.YtbolfkojebbejaaGreatDoor
open Go.RowKit Go.Sort
set_option linter.unusedVariables false
set_option maxRecDepth 100000

theorem row_news {w : World} {E sz n : Nat} {g cap : Nat} {xs : List Value} (h : w.ownsRow 0 E sz (.slice (some ⟨g, 0, none⟩) n cap) n xs) : ∀ j u, xs[j]? = some u → w.cell? ((⟨g, 0, none⟩ : Addr).add j) = some u := by
  obtain ⟨h1, ⟨e, _⟩ | ⟨g', cp, cur, e, _, hh, hcp, _, hs, htk⟩⟩ := h
  · cases e
  · cases e
    intro j u hj
    rw [show (⟨g, 0, none⟩ : Addr).add j = ⟨g, j, none⟩ by
      unfold Addr.add
      split
      · rename_i h; have : j = 0 := by simpa using h
        subst this; rfl
      · simp]
    have hjl : j < n * sz := by
      rcases Nat.lt_or_ge j (n * sz) with h | h
      · exact h
      · rw [List.getElem?_eq_none (by omega)] at hj; cases hj
    rw [← htk, List.getElem?_take, if_pos hjl] at hj
    simp [World.cell?, hh]
    simpa using hj
theorem run_bsE (w : World) : (Instr.buildSlice 116 0 #[]).run Tryz.prog w = .ok (.slice (some ⟨w.heap.size, 0, none⟩) 0 0) (w.alloc (.cells #[] 115)) := by kernel_rfl
theorem cRl_one (l : List Rl) : ∀ u ∈ l.flatMap cRl, u.oneCell' = true := by
  intro u hu
  obtain ⟨r, _, hr⟩ := List.mem_flatMap.1 hu
  simp [cRl] at hr
  rcases hr with h | h | h | h | h | h | h <;> (subst h; rfl)
def CloneO (w0 : World) (D : Nat → Prop) (L : List Res) (l : List Rl) (w : World) (e : Ending) (w' : World) : Prop := ∃ u, e = .returned u ∧ Own w0 D w' (L ++ [rowRl u l]) ∧ w.heap.size ≤ w'.heap.size
section
variable {w0 w : World} {D : Nat → Prop} {L : List Res} {v : Value} {l : List Rl}
theorem rules_eql (g n c : Nat) (w : World) : (binOp .eql 116 (.slice (some ⟨g, 0, none⟩) n c) (.slice none 0 0)).run Tryz.prog w = .ok (.bool false) w := by kernel_rfl
theorem rules_eq0 (w : World) : (binOp .eql 116 (.slice none 0 0) (.slice none 0 0)).run Tryz.prog w = .ok (.bool true) w := by kernel_rfl
set_option maxHeartbeats 4000000 in
theorem clone_o (h : Own w0 D w L) (i : Nat) (hi : L[i]? = some (rowRl v l)) (hl : l.length ≤ 1000) :
    Calls Tryz.prog 52 #[v] w (CloneO w0 D L l w) := by
  have hr := h.row i hi
  have HO := Lib.hid h
  have HI := Lib.hid hi
  have HL := Lib.hid hl
  clear h hi hl
  obtain ⟨h1, ⟨rfl, hn⟩ | ⟨g, cp, cur, rfl, h2, h3, h4, h5, h6, h7⟩⟩ := hr
  · have HE := Lib.hid (show l = [] from List.eq_nil_of_length_eq_zero hn)
    clear h1 hn HI HL
    have e0 := rules_eq0
    go_enter Tryz.func52, Tryz.ntmps52
    go_wp2
    go_ret
    exact ⟨_, rfl, by rw [HE.out]; exact HO.out.rowNew _ _, Nat.le_refl _⟩
  · clear h1 h2 h3 h4 h5 h6 h7
    obtain ⟨n, hn⟩ : ∃ n, l.length = n := ⟨_, rfl⟩
    have HN := Lib.hid hn
    rw [hn] at HI ⊢
    clear hn
    have rb := run_bsE
    have e0 := rules_eql
    obtain ⟨x1, hx1⟩ : ∃ y, w.alloc (.cells #[] 115) = y := ⟨_, rfl⟩
    have hb := below_one w (.cells #[] 115)
    rw [hx1] at hb
    have hO := HO.out.push (w' := x1) (R := rowR (.slice (some ⟨w.heap.size, 0, none⟩) 0 0) 115 7 0 []) (F := fun b => b = w.heap.size) ⟨fun b => ⟨fun h => by rw [h]; rfl, fun h => by injection h with h; exact h.symm⟩, ⟨rfl, .inr ⟨w.heap.size, 0, #[], rfl, Nat.zero_le _, by rw [← hx1]; exact new_block _ _, Nat.le_refl _, by unfold maxLen; omega, rfl, rfl⟩⟩⟩ (fun b hb => hb ▸ Nat.le_refl _) hb
    have HO2 := Lib.hid hO
    have HSZ := Lib.hid hb.size
    clear hO hb
    have HI2 := Lib.hid (show (L ++ [rowR (.slice (some ⟨w.heap.size, 0, none⟩) 0 0) 115 7 0 []])[i]? = some (rowR (.slice (some ⟨g, 0, none⟩) n cp) 115 7 n (l.flatMap cRl)) by
      rw [List.getElem?_append_left (get_len HI.out), HI.out, ← HN.out])
    have HIL := Lib.hid (show (L ++ [rowR (.slice (some ⟨w.heap.size, 0, none⟩) 0 0) 115 7 0 []])[L.length]? = some (rowR (.slice (some ⟨w.heap.size, 0, none⟩) 0 0) 115 7 0 []) by simp)
    go_enter Tryz.func52, Tryz.ntmps52
    go_wp2_with ((at_builtin; refine (show _ = True → _ from fun h => of_eq_true h) ?_))
    refine eq_true ?_
    obtain ⟨i0, hi0, hz0, hz1, hz2⟩ := info_parts infoRl
    refine wpList_app rfl (.tmp 5) (.tmp 6) 116 rfl Tryz.underlying116 hi0 hz0 hz1 hz2 rfl (by decide) rfl (HO2.out.row L.length HIL.out) (l.flatMap cRl) rfl (by have := (HO2.out.row i HI2.out).1; exact this) (row_news (HO2.out.row i HI2.out)) (cRl_one l) (by have := HN.out; have := HL.out; unfold maxLen; omega) (by have := HN.out; have := HL.out; omega) (Nat.zero_le _) ?_
    intro v' w' hown hu hnear
    have hO := HO2.out.rowTo L.length HIL.out hown hu (fun g hg => by
      rcases hnear with h2 | h2 | ⟨g2, h2, h3⟩
      · rw [h2] at hg; cases hg
      · exact .inl (h2 ▸ hg)
      · rw [h2] at hg; cases hg; exact .inr h3)
    have HO3 := Lib.hid (show Own w0 D w' (L ++ [rowRl v' l]) by
      rw [Nat.zero_add, List.nil_append] at hO
      rw [List.set_append_right _ _ (Nat.le_refl _), Nat.sub_self] at hO
      show Own w0 D w' (L ++ [rowR v' 115 7 l.length (l.flatMap cRl)])
      rw [HN.out]
      exact hO)
    have HSZ2 := Lib.hid (Nat.le_trans HSZ.out hu.size)
    clear hO hown hu hnear hi0 hz0 hz1 hz2 rb e0
    go_wp2
    go_ret
    exact ⟨_, rfl, HO3.out, HSZ2.out⟩
def FNewO (w0 : World) (D : Nat → Prop) (L : List Res) (l : List Rl) (w : World) (e : Ending) (w' : World) : Prop := ∃ f, e = .returned (.tuple #[.pointer (some ⟨f, 0, none⟩), .int .i64 0]) ∧ Own w0 D w' (L ++ [resF f ⟨l, [], 0⟩]) ∧ w.heap.size ≤ w'.heap.size
theorem check_r {w : World} {v : Value} {l : List Rl} {c : Int} (hc : checkE l = c) (hr : w.ownsRow 0 115 7 v l.length (l.flatMap cRl)) (hl : l.length ≤ 1000) :
    Calls Tryz.prog 51 #[v] w fun e w' => e = .returned (.int .i64 c) ∧ Below w.heap.size w w' := hc ▸ check_any l hr hl
theorem run_bdF (a : Option Addr) (n c : Nat) (w : World) : (Instr.build 121 #[(0, .slice a n c)]).run Tryz.prog w = .ok (.agg #[.slice a n c, .map none, .int .i64 0]) w := by kernel_rfl
set_option maxHeartbeats 4000000 in
theorem new_ok (h : Own w0 D w L) (i : Nat) (hi : L[i]? = some (rowRl v l)) (hl : l.length ≤ 1000) (hc : checkE l = 0) :
    Calls Tryz.prog 12 #[v] w (FNewO w0 D L l w) := by
  have HO := Lib.hid h
  have HI := Lib.hid hi
  have HL := Lib.hid hl
  have HC := Lib.hid hc
  clear h hi hl hc
  go_enter Tryz.func12, Tryz.ntmps12
  go_wp2_with fail
  refine (o_still HO.out (check_r HC.out (HO.out.row i HI.out) HL.out)).mono ?_
  rintro e x1 ⟨rfl, hO, hs1⟩
  have HO1 := Lib.hid hO
  have HS1 := Lib.hid hs1
  clear hO hs1
  go_wp2_with fail
  refine (clone_o HO1.out i HI.out HL.out).mono ?_
  rintro e x2 ⟨u, rfl, hO, hs2⟩
  have HO2 := Lib.hid hO
  have HS2 := Lib.hid hs2
  obtain ⟨ua, uc, hu, -⟩ := row_at (c := cRl) (l := l) (fun x => rfl) (hO.row L.length (show (L ++ [rowRl u l])[L.length]? = some (rowRl u l) by simp)) rfl
  obtain ⟨un, hun⟩ : ∃ n, l.length = n := ⟨_, rfl⟩
  rw [hun] at hu
  obtain ⟨uv, huv⟩ : ∃ uv, uv = u := ⟨_, rfl⟩
  subst hu
  clear hO hs2 hun huv
  have hbd := run_bdF
  obtain ⟨x3, hx3⟩ : ∃ y, x2.alloc (.cells #[.slice ua un uc, .map none, .int .i64 0] 121) = y := ⟨_, rfl⟩
  obtain ⟨f, hf⟩ : ∃ y, x2.heap.size = y := ⟨_, rfl⟩
  have hb := below_one x2 (.cells #[.slice ua un uc, .map none, .int .i64 0] 121)
  have hO := mapO_none (HO2.out.alloc (.cells #[.slice ua un uc, .map none, .int .i64 0] 121))
  rw [hx3, hf] at hO
  rw [hx3] at hb
  have HSZ := Lib.hid hb.size
  have HO3 := Lib.hid (show Own w0 D x3 (L ++ [resF f ⟨l, [], 0⟩]) from by
    have h5 : Own w0 D x3 ([rowRl (.slice ua un uc) l, blkF f (.slice ua un uc) (.map none) 0, mapO (.map none) []] ++ L) := Own.rot (by simpa using hO)
    have h6 := shutF' (st := ⟨l, [], 0⟩) (Own.swap (pre := []) h5)
    exact Own.rot (L := [resF f ⟨l, [], 0⟩]) h6)
  clear hO hb
  go_wp2
  go_ret2
  exact ⟨f, rfl, HO3.out, by have := HS1.out; have := HS2.out; have := HSZ.out; omega⟩
set_option maxHeartbeats 4000000 in
theorem new_bad (h : Own w0 D w L) (i : Nat) (hi : L[i]? = some (rowRl v l)) (hl : l.length ≤ 1000) (hc : checkE l = 220) :
    Calls Tryz.prog 12 #[v] w (OPost w0 D L (.tuple #[.pointer none, .int .i64 220]) w) := by
  have HO := Lib.hid h
  have HI := Lib.hid hi
  have HL := Lib.hid hl
  have HC := Lib.hid hc
  clear h hi hl hc
  go_enter Tryz.func12, Tryz.ntmps12
  go_wp2_with fail
  refine (o_still HO.out (check_r HC.out (HO.out.row i HI.out) HL.out)).mono ?_
  rintro e x1 ⟨rfl, hO, hs1⟩
  have HO1 := Lib.hid hO
  have HS1 := Lib.hid hs1
  clear hO hs1
  go_wp2
  go_ret2
  exact ⟨rfl, HO1.out, HS1.out⟩
end

end Go.Proofs.YtbolfkojebbejaaGreatDoor

namespace Go.Proofs.YtbolfkojebbejaaGreatDoor
open Go.RowKit Go.Sort
set_option linter.unusedVariables false
set_option maxRecDepth 100000

/-- The tables that the laws meet: times up to T, N entries ever made. -/
structure FW (T N : Int) (st : FSt) : Prop where
  nd : (keysU st.m).Nodup
  tm : ∀ x ∈ st.m, 0 ≤ x.2.la ∧ x.2.la ≤ T
  ins : 0 ≤ st.ins ∧ st.ins ≤ N
  rl : st.rl.length ≤ 1000
  nz : ∀ x ∈ st.m, x.1 ≠ ⟨0, 0, 0, 0, 0⟩
  len : st.m.length ≤ 32
theorem FW.fi {T N : Int} {st : FSt} (h : FW T N st) (hT : T ≤ 1000000000) (hN : N ≤ 1000000000) : FI st :=
  ⟨h.nd, fun x hx => by have := h.tm x hx; unfold timeB; omega, by have := h.ins; unfold timeB; omega, h.rl⟩
/-- What passes does while the table has room. -/
def passF (st : FSt) (now : Int) (x : Fl) (inn : Bool) : Bool × FSt :=
  if validF x then match getU (keyF x) (expF now st.m) with
    | some u => (true, ⟨st.rl, setU (keyF x) ⟨now, u.nu⟩ (expF now st.m), st.ins⟩)
    | none => if admitF st.rl x inn then (if x.rs then (true, ⟨st.rl, expF now st.m, st.ins⟩) else (true, ⟨st.rl, setU (keyF x) ⟨now, st.ins + 1⟩ (expF now st.m), st.ins + 1⟩)) else (false, ⟨st.rl, expF now st.m, st.ins⟩)
  else (false, ⟨st.rl, expF now st.m, st.ins⟩)
theorem passR_f {st : FSt} {now : Int} {x : Fl} {inn r : Bool} {st' : FSt} (h : PassR st now x inn r st') (hl : st.m.length < 32) : r = (passF st now x inn).1 ∧ st' = (passF st now x inn).2 := by
  have hl2 := exp_len now st.m
  unfold passF
  rcases h with ⟨h1, rfl, rfl⟩ | ⟨h1, u, h2, rfl, rfl⟩ | ⟨h1, h2, h3, rfl, rfl⟩ | ⟨h1, h2, h3, rfl, h5, rfl⟩ | ⟨h1, h2, h3, rfl, h5, m1, hm, rfl⟩
  · simp [h1]
  · simp [h1, h2]
  · simp [h1, h2, h3]
  · simp [h1, h2, h3, h5]
  · rcases hm with ⟨_, rfl⟩ | ⟨h6, _⟩
    · simp [h1, h2, h3, h5]
    · omega
theorem Own.toRow {w0 w : World} {D : Nat → Prop} {L : List Res} (h : Own w0 D w L) (i : Nat) {b : Nat} {cs : List Value} {E : TypeId} (n sz : Nat) (hi : L[i]? = some (blkR b (.cells cs.toArray E))) (hl : cs.length = n * sz) (hn : n ≤ 1000) : Own w0 D w (L.set i (rowR (.slice (some ⟨b, 0, none⟩) n n) E sz n cs)) := by
  obtain ⟨F, h1, _, h3⟩ := h.step hi
  refine h3 (R' := rowR (.slice (some ⟨b, 0, none⟩) n n) E sz n cs) (F' := F) ⟨fun x => ?_, hl, .inr ⟨b, n, cs.toArray, rfl, Nat.zero_le _, h1.2, Nat.le_refl _, by unfold maxLen; omega, by simpa using hl, by simp [← hl]⟩⟩ (fun _ h => .inl h) (Upd.refl _ _)
  rw [h1.1 x]
  exact ⟨fun e => by rw [e]; rfl, fun e => by injection e with e; exact e.symm⟩
def fwOk (T N : Int) (st : FSt) : Bool := decide (keysU st.m).Nodup && st.m.all (fun x => decide (0 ≤ x.2.la) && decide (x.2.la ≤ T) && decide (x.1 ≠ ⟨0, 0, 0, 0, 0⟩)) && decide (0 ≤ st.ins) && decide (st.ins ≤ N) && decide (st.rl.length ≤ 1000) && decide (st.m.length < 32)
theorem fw_of {T N : Int} {st : FSt} (h : fwOk T N st = true) : FW T N st ∧ st.m.length < 32 := by
  simp only [fwOk, Bool.and_eq_true, decide_eq_true_eq, List.all_eq_true] at h
  obtain ⟨⟨⟨⟨⟨h1, h2⟩, h3⟩, h4⟩, h5⟩, h6⟩ := h
  exact ⟨⟨h1, fun x hx => (h2 x hx).1, ⟨h3, h4⟩, h5, fun x hx => (h2 x hx).2, by omega⟩, h6⟩
section
variable {w0 w : World} {D : Nat → Prop} {L : List Res} {f : Nat} {st st' : FSt}
theorem in_f {T N now : Int} {x : Fl} {b : Bool} (h : Own w0 D w L) (i : Nat) (hi : L[i]? = some (resF f st)) (hF : passF st now x true = (b, st')) (hW : fwOk T N st = true) (hT : T ≤ 1000000000) (hN : N ≤ 1000000000) (hnow : timeB now) :
    Calls Tryz.prog 48 #[.pointer (some ⟨f, 0, none⟩), .int .i64 now, flV x] w (OPost w0 D (L.set i (resF f st')) (.bool b) w) := by
  obtain ⟨hW, hl⟩ := fw_of hW
  refine (in_o h i hi (hW.fi hT hN) hW.nz (by omega) hnow).mono ?_
  rintro e w' ⟨⟨b2, st2⟩, v, ⟨hP, rfl⟩, rfl, hO, hs⟩
  obtain ⟨h1, h2⟩ := passR_f hP hl
  rw [hF] at h1 h2
  simp only at h1 h2
  subst h1 h2
  exact ⟨rfl, hO, hs⟩
theorem out_f {T N now : Int} {x : Fl} {b : Bool} (h : Own w0 D w L) (i : Nat) (hi : L[i]? = some (resF f st)) (hF : passF st now x false = (b, st')) (hW : fwOk T N st = true) (hT : T ≤ 1000000000) (hN : N ≤ 1000000000) (hnow : timeB now) :
    Calls Tryz.prog 49 #[.pointer (some ⟨f, 0, none⟩), .int .i64 now, flV x] w (OPost w0 D (L.set i (resF f st')) (.bool b) w) := by
  obtain ⟨hW, hl⟩ := fw_of hW
  refine (out_o h i hi (hW.fi hT hN) hW.nz (by omega) hnow).mono ?_
  rintro e w' ⟨⟨b2, st2⟩, v, ⟨hP, rfl⟩, rfl, hO, hs⟩
  obtain ⟨h1, h2⟩ := passR_f hP hl
  rw [hF] at h1 h2
  simp only at h1 h2
  subst h1 h2
  exact ⟨rfl, hO, hs⟩
theorem quoted_f {T N now : Int} {x : Fl} {b : Bool} (h : Own w0 D w L) (i : Nat) (hi : L[i]? = some (resF f st)) (hF : quoF now x st.m = b) (hE : (⟨st.rl, expF now st.m, st.ins⟩ : FSt) = st') (hW : fwOk T N st = true) (hT : T ≤ 1000000000) (hN : N ≤ 1000000000) (hnow : timeB now) :
    Calls Tryz.prog 50 #[.pointer (some ⟨f, 0, none⟩), .int .i64 now, flV x] w (OPost w0 D (L.set i (resF f st')) (.bool b) w) := by
  obtain ⟨hW, hl⟩ := fw_of hW
  subst hF hE
  exact quoted_o h i hi (hW.fi hT hN) hnow
theorem flen_f {n : Nat} (h : Own w0 D w L) (i : Nat) (hi : L[i]? = some (resF f st)) (hn : st.m.length = n) :
    Calls Tryz.prog 18 #[.pointer (some ⟨f, 0, none⟩)] w (OPost w0 D L (.int .i64 n) w) := hn ▸ flen_o h i hi
end

end Go.Proofs.YtbolfkojebbejaaGreatDoor

namespace Go.Proofs.YtbolfkojebbejaaGreatDoor
open Go.RowKit Go.Sort
set_option linter.unusedVariables false
set_option maxRecDepth 100000

theorem ret_i64' {a b : Int} (h : a = b) : Ending.returned (.int .i64 a) = .returned (.int .i64 b) := by rw [h]
def pk (c n : Int) : Int := (if c < 0 then -(c + 1) else c) % n
theorem pk_bd (c n : Int) (h : 0 < n) : 0 ≤ pk c n ∧ pk c n < n := by
  unfold pk; exact ⟨Int.emod_nonneg _ (by omega), Int.emod_lt_of_pos _ h⟩
theorem pick_any (c n : Int) (w : World) (hc : -9223372036854775808 ≤ c ∧ c ≤ 9223372036854775807) (hn : 0 < n) :
    Calls Tryz.prog 14 #[.int .i64 c, .int .i64 n] w fun e w' => e = .returned (.int .i64 (pk c n)) ∧ w = w' := by
  obtain ⟨hc1, hc2⟩ := hc
  have hz : (n == 0) = false := by simp; omega
  by_cases h : c < 0
  · have HP := Lib.hid (show pk c n = (-(c + 1)) % n by simp [pk, h])
    go_enter Tryz.func14, Tryz.ntmps14
    go_wp2
    all_goals go_ret
    all_goals exact ⟨ret_i64' (by rw [HP.out, ← Int.neg_tmod, Int.tmod_eq_emod_of_nonneg (by omega)]), rfl⟩
  · have HP := Lib.hid (show pk c n = c % n by simp [pk, h])
    go_enter Tryz.func14, Tryz.ntmps14
    go_wp2
    all_goals go_ret
    all_goals exact ⟨ret_i64' (by rw [HP.out]), rfl⟩
theorem pick_b (c n : Int) (w : World) (hc : -9223372036854775808 ≤ c ∧ c ≤ 9223372036854775807) (hn : 0 < n) :
    Calls Tryz.prog 14 #[.int .i64 c, .int .i64 n] w fun e w' => e = .returned (.int .i64 (pk c n)) ∧ Below w.heap.size w w' := (pick_any c n w hc hn).mono fun e w' ⟨h1, h2⟩ => ⟨h1, h2 ▸ Below.refl _ _⟩
def i64B (n : Int) : Prop := -9223372036854775808 ≤ n ∧ n ≤ 9223372036854775807
def i01 (b : Bool) : Int := if b then 1 else 0
end Go.Proofs.YtbolfkojebbejaaGreatDoor
