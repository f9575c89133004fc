/- Contract of insert. Printed by wip/tools/gen22e.py. -/
import Derived.Test.YtjngfhgcifhioaaFw4
namespace Go.Proofs.Ytjngfhgcifhioaa
open Go.RowKit Go.Sort
set_option linter.unusedVariables false
set_option maxRecDepth 100000

theorem wp_callX {P : Program} {o : Oper} {a : Act} {w : World} {f : FuncId} {args : Array Value} {A : Pred} (hrun : (execOp a.eval o).run P w = .ok (.enter f args) w) (hc : Calls P f args w fun e w' => ∃ v, e = .returned v ∧ Below w.heap.size w w' ∧ A v w') :
    o.wp P a w (fun a' w' => ∃ v, a' = a.put o.dst v ∧ Below w.heap.size w w' ∧ A v w') (fun _ _ _ => False) := by
  unfold Oper.wp
  rw [hrun]
  refine hc.mono fun e w' ⟨v, he, hb, hA⟩ => ?_
  subst he
  exact ⟨v, rfl, hb, hA⟩
/-- One thing, changed to one of several. -/
theorem o_oneE {P : Program} {f : FuncId} {args : Array Value} {w0 w : World} {D : Nat → Prop} {L : List Res} {i : Nat} {R : Res} {α : Type} {Q : α → Value → Prop} {R' : α → Res} (h : Own w0 D w L) (hi : L[i]? = some R)
    (hc : ∀ D, Own w D w [R] → Calls P f args w fun e w' => ∃ x v, Q x v ∧ e = .returned v ∧ Own w D w' [R' x] ∧ w.heap.size ≤ w'.heap.size) : Calls P f args w fun e w' => ∃ x v, Q x v ∧ e = .returned v ∧ Own w0 D w' (L.set i (R' x)) ∧ w.heap.size ≤ w'.heap.size := by
  obtain ⟨F, h1, _, h3⟩ := h.step hi
  refine (hc F (Own.one h1)).mono fun e w' ⟨x, v, hq, he, ho, hs⟩ => ?_
  obtain ⟨F', g1, g2, _⟩ := ho.step (i := 0) rfl
  exact ⟨x, v, hq, he, h3 g1 g2 ho.upd, hs⟩
theorem Own.mapS {α : Type} [DecidableEq α] {enc : α → Value} {w0 w : World} {D : Nat → Prop} {L : List Res} (h : Own w0 D w L) (i : Nat) {b : Nat} {m : List (α × Value)} (hi : L[i]? = some (mapR enc b m)) : MapS enc w b m := by
  obtain ⟨F, h1, _⟩ := h.step hi; exact h1.2
/-- What insert makes room for. -/
def RoomU (m m1 : List (FK × Us)) : Prop := (m.length < 32 ∧ m1 = m) ∨ (32 ≤ m.length ∧ ∃ k ∈ keysU m, m1 = delU k m)
def InsO (w0 : World) (D : Nat → Prop) (L : List Res) (i : Nat) (f : Nat) (st : FSt) (now : Int) (k : FK) (w : World) (e : Ending) (w' : World) : Prop :=
  ∃ (m1 : List (FK × Us)) (v : Value), (RoomU st.m m1 ∧ v = .tuple #[]) ∧ e = .returned v ∧ Own w0 D w' (L.set i (resF f ⟨st.rl, setU k ⟨now, st.ins + 1⟩ m1, st.ins + 1⟩)) ∧ w.heap.size ≤ w'.heap.size
section
variable {w0 w : World} {D : Nat → Prop} {L : List Res} {f : Nat} {st : FSt}
theorem run_makeU (w : World) (v : Value) : True := trivial
set_option maxRecDepth 100000 in
set_option maxHeartbeats 8000000 in
theorem insert_o {now : Int} {k : FK} (h : Own w0 D w L) (i : Nat) (hi : L[i]? = some (resF f st)) (hI : FI st) (hz : ∀ x ∈ st.m, x.1 ≠ ⟨0, 0, 0, 0, 0⟩) (hml : st.m.length ≤ 1000) :
    Calls Try.prog 44 #[.pointer (some ⟨f, 0, none⟩), .int .i64 now, encK k] w (InsO w0 D L i f st now k w) := by
  refine o_oneE (Q := fun m1 v => RoomU st.m m1 ∧ v = .tuple #[]) (R' := fun m1 => resF f ⟨st.rl, setU k ⟨now, st.ins + 1⟩ m1, st.ins + 1⟩) h hi fun D HO0 => ?_
  clear h hi
  obtain ⟨vr, om, HO0⟩ := openF HO0
  obtain ⟨rl, m, ins⟩ := st
  obtain ⟨a0, a1, a2, a3, a4⟩ := k
  simp only at HO0 hml
  obtain ⟨i0, i1⟩ := hI.ins
  simp only at i0 i1
  have HZ := Lib.hid hz
  have HND := Lib.hid hI.nd
  clear hI hz
  rcases mapO_open HO0 2 rfl with ⟨rfl, rfl⟩ | ⟨b, rfl, HO1⟩
  · have HO := Lib.hid (show Own w D w [blkR f (.cells #[vr, .map none, .int .i64 ins] 77), rowRl vr rl, mapO (.map none) []] from HO0)
    clear HO0 hml
    obtain ⟨x1, hx1⟩ : ∃ y, w.alloc (.cells #[.int .i64 a0, .int .i64 a1, .int .i64 a2, .int .i64 a3, .int .i64 a4] 105) = y := ⟨_, rfl⟩
    obtain ⟨bk, hbk⟩ : ∃ y, w.heap.size = y := ⟨_, rfl⟩
    have hO := HO.out.alloc (.cells #[.int .i64 a0, .int .i64 a1, .int .i64 a2, .int .i64 a3, .int .i64 a4] 105)
    rw [hx1, hbk] at hO
    replace HO := Lib.hid (show Own w D x1 [blkR f (.cells #[vr, .map none, .int .i64 ins] 77), rowRl vr rl, mapO (.map none) [], blkR bk (.cells #[.int .i64 a0, .int .i64 a1, .int .i64 a2, .int .i64 a3, .int .i64 a4] 105)] from hO)
    clear hO
    have c1 : x1.cell? ⟨f, 1, none⟩ = some (.map none) := HO.out.cell 0 rfl 1 rfl
    have y1 : x1.frozen? ⟨f, 1, none⟩ = false := HO.out.frz 0 rfl 1
    have hmk := @run_makeMap Try.prog
    have e0 : ∀ w, (binOp .eql 75 (.map none) (.map none)).run Try.prog w = .ok (.bool true) w := fun w => by kernel_rfl
    obtain ⟨x2, hx2⟩ : ∃ y, x1.alloc (.map #[] 0) = y := ⟨_, rfl⟩
    obtain ⟨bm, hbm⟩ : ∃ y, x1.heap.size = y := ⟨_, rfl⟩
    have hO := HO.out.mapNew encK
    rw [hx2, hbm] at hO
    replace HO := Lib.hid (show Own w D x2 [blkR f (.cells #[vr, .map none, .int .i64 ins] 77), rowRl vr rl, mapO (.map none) [], blkR bk (.cells #[.int .i64 a0, .int .i64 a1, .int .i64 a2, .int .i64 a3, .int .i64 a4] 105), mapR encK bm (mapU [])] from hO)
    clear hO
    have c3 : x2.cell? ⟨f, 1, none⟩ = some (.map none) := HO.out.cell 0 rfl 1 rfl
    have y3 : x2.frozen? ⟨f, 1, none⟩ = false := HO.out.frz 0 rfl 1
    obtain ⟨x3, hx3⟩ : ∃ y, x2.setCell ⟨f, 1, none⟩ (.map (some bm)) = y := ⟨_, rfl⟩
    have hO := HO.out.setCell 0 rfl 1 (.map (some bm))
    rw [hx3] at hO
    replace HO := Lib.hid (show Own w D x3 [blkR f (.cells #[vr, .map (some bm), .int .i64 ins] 77), rowRl vr rl, mapO (.map none) [], blkR bk (.cells #[.int .i64 a0, .int .i64 a1, .int .i64 a2, .int .i64 a3, .int .i64 a4] 105), mapR encK bm (mapU [])] from hO)
    clear hO
    have c4 : x3.cell? ⟨f, 1, none⟩ = some (.map (some bm)) := HO.out.cell 0 rfl 1 rfl
    have hln := fun ty => run_len_map (P := Try.prog) Try.underlying75 (HO.out.mapB 4 rfl) ty
    simp only [mapU, List.map_nil, List.length_nil] at hln
    go_enter Try.func44, Try.ntmps44
    have zf : x3.cell? ⟨f, 2, none⟩ = some (.int .i64 ins) := HO.out.cell 0 rfl 2 rfl
    have yf : x3.frozen? ⟨f, 2, none⟩ = false := HO.out.frz 0 rfl 2
    obtain ⟨x4, hx4⟩ : ∃ y, x3.setCell ⟨f, 2, none⟩ (.int .i64 (ins + 1)) = y := ⟨_, rfl⟩
    have hO := HO.out.setCell 0 rfl 2 (.int .i64 (ins + 1))
    rw [hx4] at hO
    replace HO := Lib.hid (show Own w D x4 [blkR f (.cells #[vr, .map (some bm), .int .i64 (ins + 1)] 77), rowRl vr rl, mapO (.map none) [], blkR bk (.cells #[.int .i64 a0, .int .i64 a1, .int .i64 a2, .int .i64 a3, .int .i64 a4] 105), mapR encK bm (mapU [])] from hO)
    clear hO
    go_wp2
    clear hx1 hbk c1 y1 hmk e0 hx2 hbm c3 y3 hx3 c4 hln zf yf hx4
    have c1 := cell_regrown (show x4.cell? ⟨f, 1, none⟩ = some (.map (some bm)) from HO.out.cell 0 rfl 1 rfl)
    have c2 := cell_regrown (show x4.cell? ⟨f, 2, none⟩ = some (.int .i64 (ins + 1)) from HO.out.cell 0 rfl 2 rfl)
    have e0 := cell_regrown (show x4.cell? ⟨bk, 0, none⟩ = some (.int .i64 a0) from HO.out.cell 3 rfl 0 rfl)
    have e1 := cell_regrown (show x4.cell? ⟨bk, 1, none⟩ = some (.int .i64 a1) from HO.out.cell 3 rfl 1 rfl)
    have e2 := cell_regrown (show x4.cell? ⟨bk, 2, none⟩ = some (.int .i64 a2) from HO.out.cell 3 rfl 2 rfl)
    have e3 := cell_regrown (show x4.cell? ⟨bk, 3, none⟩ = some (.int .i64 a3) from HO.out.cell 3 rfl 3 rfl)
    have e4 := cell_regrown (show x4.cell? ⟨bk, 4, none⟩ = some (.int .i64 a4) from HO.out.cell 3 rfl 4 rfl)
    refine wp_region_R 11 (by kernel_rfl) (by kernel_rfl) ?_
    simp only [List.take, List.drop]
    iterate 11 (first | (refine wpR_want (by kernel_rfl) rfl rfl ?_; intro K hK; go_big_quiet_op; go_big_quiet_on) | (refine wpR_is (by kernel_rfl) rfl _ (fun w _ => rfl) ?_; simp only [Act.put, List.setIfInBounds_toArray, List.set_cons_succ, List.set_cons_zero]))
    refine wpR_nil (by kernel_rfl) (by simp) ?_
    rintro w8 hb8
    simp only [exAll, List.drop]
    clear c1 c2 e0 e1 e2 e3 e4
    replace HO := Lib.hid (HO.out.stay hb8)
    clear hb8
    obtain ⟨w9, hrun, hO⟩ := HO.out.mapSet (P := Try.prog) 4 rfl keyK Try.underlying75 ⟨a0, a1, a2, a3, a4⟩ (valU ⟨now, ins + 1⟩)
    rw [mapU_set] at hO
    have hO2 := mapO_shut hO 4 rfl
    have HO3 := Lib.hid (show Own w D w9 [blkF f vr (.map (some bm)) (ins + 1), rowRl vr rl, mapO (.map (some bm)) (setU ⟨a0, a1, a2, a3, a4⟩ ⟨now, ins + 1⟩ ([]))] from hO2.pick [0, 1, 4] (by decide) (fun k R hk => by
      match k, hk with
      | 0, hk => exact ⟨0, rfl, hk⟩
      | 1, hk => exact ⟨1, rfl, hk⟩
      | 2, hk => exact ⟨4, rfl, hk⟩))
    clear hO hO2 HO
    go_wp2
    go_end0
    exact ⟨[], _, ⟨.inl ⟨by decide, rfl⟩, rfl⟩, rfl, shutF (st := ⟨rl, setU ⟨a0, a1, a2, a3, a4⟩ ⟨now, ins + 1⟩ ([]), ins + 1⟩) HO3.out, HO3.out.size⟩
  · have HO := Lib.hid (show Own w D w [blkR f (.cells #[vr, .map (some b), .int .i64 ins] 77), rowRl vr rl, mapR encK b (mapU m)] from HO1)
    clear HO0 HO1
    obtain ⟨x1, hx1⟩ : ∃ y, w.alloc (.cells #[.int .i64 a0, .int .i64 a1, .int .i64 a2, .int .i64 a3, .int .i64 a4] 105) = y := ⟨_, rfl⟩
    obtain ⟨bk, hbk⟩ : ∃ y, w.heap.size = y := ⟨_, rfl⟩
    have hO := HO.out.alloc (.cells #[.int .i64 a0, .int .i64 a1, .int .i64 a2, .int .i64 a3, .int .i64 a4] 105)
    rw [hx1, hbk] at hO
    replace HO := Lib.hid (show Own w D x1 [blkR f (.cells #[vr, .map (some b), .int .i64 ins] 77), rowRl vr rl, mapR encK b (mapU m), blkR bk (.cells #[.int .i64 a0, .int .i64 a1, .int .i64 a2, .int .i64 a3, .int .i64 a4] 105)] from hO)
    clear hO
    have c1 : x1.cell? ⟨f, 1, none⟩ = some (.map (some b)) := HO.out.cell 0 rfl 1 rfl
    have e0 : ∀ w, (binOp .eql 75 (.map (some b)) (.map none)).run Try.prog w = .ok (.bool false) w := fun w => by kernel_rfl
    have hln := fun ty => run_len_map (P := Try.prog) Try.underlying75 (HO.out.mapB 2 rfl) ty
    rw [show (mapU m).length = m.length by simp [mapU]] at hln
    go_enter Try.func44, Try.ntmps44
    by_cases hfull : 32 ≤ m.length
    · have hd : decide ((32 : Int) ≤ (m.length : Int)) = true := by simp; omega
      have HFU := Lib.hid hfull
      clear hfull
      go_wp2
      clear hx1 hbk c1 e0 hln
      clear hd
      have c1 := cell_regrown (show x1.cell? ⟨f, 1, none⟩ = some (.map (some b)) from HO.out.cell 0 rfl 1 rfl)
      refine wp_region_R 6 (by kernel_rfl) (by kernel_rfl) ?_
      simp only [List.take, List.drop]
      iterate 5 (first | (refine wpR_want (by kernel_rfl) rfl rfl ?_; intro K hK; go_big_quiet_op; go_big_quiet_on) | (refine wpR_is (by kernel_rfl) rfl _ (fun w _ => rfl) ?_; simp only [Act.put, List.setIfInBounds_toArray, List.set_cons_succ, List.set_cons_zero]))
      refine wpR_ex (fun v _ => ∃ k, k ∈ keysU m ∧ v = encK k) (fun _ _ _ h _ => h) (by kernel_rfl) (fun a' w' hw' he => ?_) (fun d hd => ?_)
      · obtain ⟨h25, _⟩ := he
        replace h25 : a'.eval (.tmp 25) = .pointer (some ⟨f, 0, none⟩) := h25
        refine wp_callX (f := 61) (args := #[a'.eval (.tmp 25)]) (by simp [go_sem, Act.eval]) ?_
        rw [h25]
        obtain ⟨es, clk, g1, g2, g3⟩ := (HO.out.stay hw').mapS 2 rfl
        refine (oldest_any ((HO.out.stay hw').cell 0 rfl 1 rfl) g1 g2 g3 HND.out HZ.out (fun e => by have := HFU.out; rw [e] at this; simp at this)).mono ?_
        rintro e w'' ⟨k, hk, rfl, hb⟩
        exact ⟨_, rfl, hb, k, hk, rfl⟩
      cases hd
      simp only [List.nil_append]
      refine wpR_nil (by kernel_rfl) (by simp) ?_
      rintro w5 hb5
      simp only [exAll]
      rintro u26 ⟨ek, hek, rfl⟩
      simp only [Act.put, List.setIfInBounds_toArray, List.set_cons_succ, List.set_cons_zero, List.drop]
      clear c1
      replace HO := Lib.hid (HO.out.stay hb5)
      clear hb5
      have HEK := Lib.hid hek
      clear hek
      obtain ⟨w6, hdel, hO⟩ := HO.out.mapDel (P := Try.prog) 2 rfl keyK Try.underlying75 ek 0 105
      rw [mapU_del HND.out] at hO
      replace HO := Lib.hid (show Own w D w6 [blkR f (.cells #[vr, .map (some b), .int .i64 ins] 77), rowRl vr rl, mapR encK b (mapU (delU ek m)), blkR bk (.cells #[.int .i64 a0, .int .i64 a1, .int .i64 a2, .int .i64 a3, .int .i64 a4] 105)] from hO)
      clear hO
      have zf : w6.cell? ⟨f, 2, none⟩ = some (.int .i64 ins) := HO.out.cell 0 rfl 2 rfl
      have yf : w6.frozen? ⟨f, 2, none⟩ = false := HO.out.frz 0 rfl 2
      obtain ⟨x31, hx31⟩ : ∃ y, w6.setCell ⟨f, 2, none⟩ (.int .i64 (ins + 1)) = y := ⟨_, rfl⟩
      have hO := HO.out.setCell 0 rfl 2 (.int .i64 (ins + 1))
      rw [hx31] at hO
      replace HO := Lib.hid (show Own w D x31 [blkR f (.cells #[vr, .map (some b), .int .i64 (ins + 1)] 77), rowRl vr rl, mapR encK b (mapU (delU ek m)), blkR bk (.cells #[.int .i64 a0, .int .i64 a1, .int .i64 a2, .int .i64 a3, .int .i64 a4] 105)] from hO)
      clear hO
      go_wp2
      clear hdel zf yf hx31
      have c1 := cell_regrown (show x31.cell? ⟨f, 1, none⟩ = some (.map (some b)) from HO.out.cell 0 rfl 1 rfl)
      have c2 := cell_regrown (show x31.cell? ⟨f, 2, none⟩ = some (.int .i64 (ins + 1)) from HO.out.cell 0 rfl 2 rfl)
      have e0 := cell_regrown (show x31.cell? ⟨bk, 0, none⟩ = some (.int .i64 a0) from HO.out.cell 3 rfl 0 rfl)
      have e1 := cell_regrown (show x31.cell? ⟨bk, 1, none⟩ = some (.int .i64 a1) from HO.out.cell 3 rfl 1 rfl)
      have e2 := cell_regrown (show x31.cell? ⟨bk, 2, none⟩ = some (.int .i64 a2) from HO.out.cell 3 rfl 2 rfl)
      have e3 := cell_regrown (show x31.cell? ⟨bk, 3, none⟩ = some (.int .i64 a3) from HO.out.cell 3 rfl 3 rfl)
      have e4 := cell_regrown (show x31.cell? ⟨bk, 4, none⟩ = some (.int .i64 a4) from HO.out.cell 3 rfl 4 rfl)
      refine wp_region_R 11 (by kernel_rfl) (by kernel_rfl) ?_
      simp only [List.take, List.drop]
      iterate 11 (first | (refine wpR_want (by kernel_rfl) rfl rfl ?_; intro K hK; go_big_quiet_op; go_big_quiet_on) | (refine wpR_is (by kernel_rfl) rfl _ (fun w _ => rfl) ?_; simp only [Act.put, List.setIfInBounds_toArray, List.set_cons_succ, List.set_cons_zero]))
      refine wpR_nil (by kernel_rfl) (by simp) ?_
      rintro w8 hb8
      simp only [exAll, List.drop]
      clear c1 c2 e0 e1 e2 e3 e4
      replace HO := Lib.hid (HO.out.stay hb8)
      clear hb8
      obtain ⟨w9, hrun, hO⟩ := HO.out.mapSet (P := Try.prog) 2 rfl keyK Try.underlying75 ⟨a0, a1, a2, a3, a4⟩ (valU ⟨now, ins + 1⟩)
      rw [mapU_set] at hO
      have hO2 := mapO_shut hO 2 rfl
      have HO3 := Lib.hid (show Own w D w9 [blkF f vr (.map (some b)) (ins + 1), rowRl vr rl, mapO (.map (some b)) (setU ⟨a0, a1, a2, a3, a4⟩ ⟨now, ins + 1⟩ (delU ek m))] from hO2.pick [0, 1, 2] (by decide) (fun k R hk => by
        match k, hk with
        | 0, hk => exact ⟨0, rfl, hk⟩
        | 1, hk => exact ⟨1, rfl, hk⟩
        | 2, hk => exact ⟨2, rfl, hk⟩))
      clear hO hO2 HO
      go_wp2
      go_end0
      exact ⟨delU ek m, _, ⟨.inr ⟨HFU.out, ek, HEK.out, rfl⟩, rfl⟩, rfl, shutF (st := ⟨rl, setU ⟨a0, a1, a2, a3, a4⟩ ⟨now, ins + 1⟩ (delU ek m), ins + 1⟩) HO3.out, HO3.out.size⟩
    · have hd : decide ((32 : Int) ≤ (m.length : Int)) = false := by simp; omega
      have HFU := Lib.hid hfull
      clear hfull
      have zf : x1.cell? ⟨f, 2, none⟩ = some (.int .i64 ins) := HO.out.cell 0 rfl 2 rfl
      have yf : x1.frozen? ⟨f, 2, none⟩ = false := HO.out.frz 0 rfl 2
      obtain ⟨x2, hx2⟩ : ∃ y, x1.setCell ⟨f, 2, none⟩ (.int .i64 (ins + 1)) = y := ⟨_, rfl⟩
      have hO := HO.out.setCell 0 rfl 2 (.int .i64 (ins + 1))
      rw [hx2] at hO
      replace HO := Lib.hid (show Own w D x2 [blkR f (.cells #[vr, .map (some b), .int .i64 (ins + 1)] 77), rowRl vr rl, mapR encK b (mapU m), blkR bk (.cells #[.int .i64 a0, .int .i64 a1, .int .i64 a2, .int .i64 a3, .int .i64 a4] 105)] from hO)
      clear hO
      go_wp2
      clear hx1 hbk c1 e0 hln hd zf yf hx2
      have c1 := cell_regrown (show x2.cell? ⟨f, 1, none⟩ = some (.map (some b)) from HO.out.cell 0 rfl 1 rfl)
      have c2 := cell_regrown (show x2.cell? ⟨f, 2, none⟩ = some (.int .i64 (ins + 1)) from HO.out.cell 0 rfl 2 rfl)
      have e0 := cell_regrown (show x2.cell? ⟨bk, 0, none⟩ = some (.int .i64 a0) from HO.out.cell 3 rfl 0 rfl)
      have e1 := cell_regrown (show x2.cell? ⟨bk, 1, none⟩ = some (.int .i64 a1) from HO.out.cell 3 rfl 1 rfl)
      have e2 := cell_regrown (show x2.cell? ⟨bk, 2, none⟩ = some (.int .i64 a2) from HO.out.cell 3 rfl 2 rfl)
      have e3 := cell_regrown (show x2.cell? ⟨bk, 3, none⟩ = some (.int .i64 a3) from HO.out.cell 3 rfl 3 rfl)
      have e4 := cell_regrown (show x2.cell? ⟨bk, 4, none⟩ = some (.int .i64 a4) from HO.out.cell 3 rfl 4 rfl)
      refine wp_region_R 11 (by kernel_rfl) (by kernel_rfl) ?_
      simp only [List.take, List.drop]
      iterate 11 (first | (refine wpR_want (by kernel_rfl) rfl rfl ?_; intro K hK; go_big_quiet_op; go_big_quiet_on) | (refine wpR_is (by kernel_rfl) rfl _ (fun w _ => rfl) ?_; simp only [Act.put, List.setIfInBounds_toArray, List.set_cons_succ, List.set_cons_zero]))
      refine wpR_nil (by kernel_rfl) (by simp) ?_
      rintro w8 hb8
      simp only [exAll, List.drop]
      clear c1 c2 e0 e1 e2 e3 e4
      replace HO := Lib.hid (HO.out.stay hb8)
      clear hb8
      obtain ⟨w9, hrun, hO⟩ := HO.out.mapSet (P := Try.prog) 2 rfl keyK Try.underlying75 ⟨a0, a1, a2, a3, a4⟩ (valU ⟨now, ins + 1⟩)
      rw [mapU_set] at hO
      have hO2 := mapO_shut hO 2 rfl
      have HO3 := Lib.hid (show Own w D w9 [blkF f vr (.map (some b)) (ins + 1), rowRl vr rl, mapO (.map (some b)) (setU ⟨a0, a1, a2, a3, a4⟩ ⟨now, ins + 1⟩ (m))] from hO2.pick [0, 1, 2] (by decide) (fun k R hk => by
        match k, hk with
        | 0, hk => exact ⟨0, rfl, hk⟩
        | 1, hk => exact ⟨1, rfl, hk⟩
        | 2, hk => exact ⟨2, rfl, hk⟩))
      clear hO hO2 HO
      go_wp2
      go_end0
      exact ⟨m, _, ⟨.inl ⟨by have := HFU.out; omega, rfl⟩, rfl⟩, rfl, shutF (st := ⟨rl, setU ⟨a0, a1, a2, a3, a4⟩ ⟨now, ins + 1⟩ (m), ins + 1⟩) HO3.out, HO3.out.size⟩
end

end Go.Proofs.Ytjngfhgcifhioaa
