/- Contracts of compare, and of slices.SortFunc over records. Contracts of compare and of slices.SortFunc over records. Printed by wip/tools/gen20k.py. -/
import Derived.Laws.Cover1
import Derived.Handy
import Derived.Test.YtapeljiopbkjlaaGreatDoorRegD
import Derived.Test.YtapeljiopbkjlaaGreatDoorSrt
import Derived.Test.YtapeljiopbkjlaaGreatDoorTbl
import Derived.Test.YtapeljiopbkjlaaGreatDoorCdat
import Derived.Test.YtapeljiopbkjlaaGreatDoorRset
namespace Go.Proofs.YtapeljiopbkjlaaGreatDoor
open Go.RowKit Go.Sort Go.Lib Go.Shelf
set_option linter.unusedVariables false
set_option maxRecDepth 100000

def cmpZ (a b : Int) : Int := if a < b then -1 else if b < a then 1 else 0
theorem nanI_any (a : Int) (w : World) : Calls Tryz.prog 74 #[.int .i64 a] w fun e w' => e = .returned (.bool false) ∧ w = w' := by
  go_enter Tryz.func74, Tryz.ntmps74
  go_wp2
  go_ret
  exact ⟨rfl, rfl⟩
theorem nanS_any (a : ByteArray) (w : World) : Calls Tryz.prog 75 #[.string a] w fun e w' => e = .returned (.bool false) ∧ w = w' := by
  go_enter Tryz.func75, Tryz.ntmps75
  go_wp2
  go_ret
  exact ⟨rfl, rfl⟩
def cmpB (a b : ByteArray) : Int := if Op.bytesLess a.toList b.toList = true then -1 else if (a.toList == b.toList) = true then 0 else 1
theorem cmpI_any (a b : Int) (w : World) : Calls Tryz.prog 53 #[.int .i64 a, .int .i64 b] w fun e w' => e = .returned (.int .i64 (cmpZ a b)) ∧ w = w' := by
  obtain ⟨r, hr⟩ : ∃ r, cmpZ a b = r := ⟨_, rfl⟩
  have HR := Lib.hid hr
  rw [hr]
  clear hr
  go_enter Tryz.func53, Tryz.ntmps53
  go_wp2_with (go_at_call 74; refine (nanI_any _ _).mono ?_; rintro e w' ⟨rfl, rfl⟩)
  all_goals
    go_ret
    refine ⟨ret_i64 ?_, rfl⟩
    rw [← HR.out]
    unfold cmpZ
    first
      | (rw [if_pos (by assumption)]; done)
      | (rw [if_neg (by omega), if_pos (by omega)]; done)
      | (rw [if_neg (by omega), if_neg (by omega)]; done)
theorem cmpS_any (a b : ByteArray) (w : World) : Calls Tryz.prog 54 #[.string a, .string b] w fun e w' => e = .returned (.int .i64 (cmpB a b)) ∧ w = w' := by
  obtain ⟨r, hr⟩ : ∃ r, cmpB a b = r := ⟨_, rfl⟩
  have HR := Lib.hid hr
  rw [hr]
  unfold cmpB at HR
  cases h1 : Op.bytesLess a.toList b.toList with
  | true =>
    have HR2 := Lib.hid (show -1 = r by rw [← HR.out, if_pos h1])
    clear HR hr
    go_enter Tryz.func54, Tryz.ntmps54
    go_wp2_with (go_at_call 75; refine (nanS_any _ _).mono ?_; rintro e w' ⟨rfl, rfl⟩)
    go_ret
    exact ⟨ret_i64 HR2.out, rfl⟩
  | false =>
    cases h2 : (a.toList == b.toList) with
    | true =>
      have HR2 := Lib.hid (show 0 = r by rw [← HR.out, if_neg (by simp [h1]), if_pos h2])
      clear HR hr
      go_enter Tryz.func54, Tryz.ntmps54
      go_wp2_with (go_at_call 75; refine (nanS_any _ _).mono ?_; rintro e w' ⟨rfl, rfl⟩)
      go_ret
      exact ⟨ret_i64 HR2.out, rfl⟩
    | false =>
      have HR2 := Lib.hid (show 1 = r by rw [← HR.out, if_neg (by simp [h1]), if_neg (by simp [h2])])
      clear HR hr
      go_enter Tryz.func54, Tryz.ntmps54
      go_wp2_with (go_at_call 75; refine (nanS_any _ _).mono ?_; rintro e w' ⟨rfl, rfl⟩)
      go_ret
      exact ⟨ret_i64 HR2.out, rfl⟩
def orZ (a b c : Int) : Int := if a ≠ 0 then a else if b ≠ 0 then b else c
theorem or_any (a b c : Int) (g : Nat) (t : TypeId) (w : World) (h : w.heap[g]? = some (.cells #[.int .i64 a, .int .i64 b, .int .i64 c] t)) : Calls Tryz.prog 52 #[.slice (some ⟨g, 0, none⟩) 3 3] w fun e w' => e = .returned (.int .i64 (orZ a b c)) ∧ w = w' := by
  obtain ⟨r, hr⟩ : ∃ r, orZ a b c = r := ⟨_, rfl⟩
  have HR := Lib.hid hr
  rw [hr]
  have hlt := (Array.getElem?_eq_some_iff.1 h).1
  have c0 : w.cell? ⟨g, 0, none⟩ = some (.int .i64 a) := by simp [World.cell?, h]
  have c1 : w.cell? ⟨g, 1, none⟩ = some (.int .i64 b) := by simp [World.cell?, h]
  have c2 : w.cell? ⟨g, 2, none⟩ = some (.int .i64 c) := by simp [World.cell?, h]
  clear h hr hlt
  unfold orZ at HR
  by_cases ha : a = 0
  · by_cases hb : b = 0
    · subst ha
      subst hb
      have HR2 := Lib.hid (show c = r by rw [← HR.out]; simp)
      clear HR
      by_cases hc : c = 0
      · subst hc
        go_enter Tryz.func52, Tryz.ntmps52
        go_wp2
        go_rounds 4
        all_goals (go_ret; exact ⟨ret_i64 HR2.out, rfl⟩)
      · have e3 : (c == 0) = false := by simpa using hc
        have e3' : (c != 0) = true := by simpa using hc
        clear hc
        go_enter Tryz.func52, Tryz.ntmps52
        go_wp2
        go_rounds 4
        all_goals (go_ret; exact ⟨ret_i64 HR2.out, rfl⟩)
    · subst ha
      have HR2 := Lib.hid (show b = r by rw [← HR.out]; simp [hb])
      clear HR
      have e3' : (b != 0) = true := by simpa using hb
      clear hb
      go_enter Tryz.func52, Tryz.ntmps52
      go_wp2
      go_rounds 4
      all_goals (go_ret; exact ⟨ret_i64 HR2.out, rfl⟩)
  · have HR2 := Lib.hid (show a = r by rw [← HR.out]; simp [ha])
    clear HR
    have e3' : (a != 0) = true := by simpa using ha
    clear ha
    go_enter Tryz.func52, Tryz.ntmps52
    go_wp2
    go_rounds 4
    all_goals (go_ret; exact ⟨ret_i64 HR2.out, rfl⟩)

end Go.Proofs.YtapeljiopbkjlaaGreatDoor

namespace Go.Proofs.YtapeljiopbkjlaaGreatDoor
open Go.RowKit Go.Sort Go.Lib Go.Shelf
set_option linter.unusedVariables false
set_option maxRecDepth 100000

def cmpR (x y : Rc) : Int := orZ (cmpZ x.kd y.kd) (cmpZ x.ad y.ad) (cmpB x.to y.to)
theorem bel_same {P : Program} {f : FuncId} {args : Array Value} {w : World} {v : Value} (h : Calls P f args w fun e w' => e = .returned v ∧ w = w') : Calls P f args w fun e w' => e = .returned v ∧ D.Bel w.heap.size w w' := h.mono fun e w' ⟨h1, h2⟩ => ⟨h1, h2 ▸ D.Bel.refl _ _⟩
theorem run_bs3 (a b c : Int) (w : World) : (Instr.buildSlice 144 3 #[(0, .int .i64 a), (1, .int .i64 b), (2, .int .i64 c)]).run Tryz.prog w = .ok (.slice (some ⟨w.heap.size, 0, none⟩) 3 3) (w.alloc (.cells #[.int .i64 a, .int .i64 b, .int .i64 c] 3)) := by kernel_rfl
def row3 (o : Obj) : D.Pred := fun v w => ∃ b, v = .slice (some ⟨b, 0, none⟩) 3 3 ∧ w.heap[b]? = some o
theorem row3_lasts (o : Obj) : D.Lasts (row3 o) := by
  rintro v w w' ⟨b, rfl, hb⟩ hbl
  exact ⟨b, rfl, (hbl.block b (Array.getElem?_eq_some_iff.1 hb).1).trans hb⟩
set_option maxHeartbeats 2000000 in
theorem compare_any (x y : Rc) (w : World) : Calls Tryz.prog 32 #[rcV x, rcV y] w fun e w' => e = .returned (.int .i64 (cmpR x y)) ∧ D.Bel w.heap.size w w' := by
  obtain ⟨n1, k1, t1, a1, o1⟩ := x
  obtain ⟨n2, k2, t2, a2, o2⟩ := y
  have HR := Lib.hid (show cmpR ⟨n1, k1, t1, a1, o1⟩ ⟨n2, k2, t2, a2, o2⟩ = orZ (cmpZ k1 k2) (cmpZ a1 a2) (cmpB o1 o2) from rfl)
  obtain ⟨x1, hx1⟩ : ∃ y, w.alloc (.cells #[.string n1, .int .i64 k1, .int .i64 t1, .int .i64 a1, .string o1] 28) = y := ⟨_, rfl⟩
  obtain ⟨x2, hx2⟩ : ∃ y, x1.alloc (.cells #[.string n2, .int .i64 k2, .int .i64 t2, .int .i64 a2, .string o2] 28) = y := ⟨_, rfl⟩
  have hB := (by rw [← hx2, ← hx1]; exact D.bel_mid (D.bel_alloc w _) (D.bel_alloc _ _) : D.Bel w.heap.size w x2)
  have HB := Lib.hid hB
  have HO := Lib.hid (Own.nil w none0)
  have hO := HO.out.alloc (.cells #[.string n1, .int .i64 k1, .int .i64 t1, .int .i64 a1, .string o1] 28)
  rw [hx1] at hO
  have hO := hO.alloc (.cells #[.string n2, .int .i64 k2, .int .i64 t2, .int .i64 a2, .string o2] 28)
  rw [hx2] at hO
  obtain ⟨p1, hp1⟩ : ∃ y, w.heap.size = y := ⟨_, rfl⟩
  obtain ⟨p2, hp2⟩ : ∃ y, x1.heap.size = y := ⟨_, rfl⟩
  rw [hp1, hp2] at hO
  replace HO := Lib.hid (show Own w none0 x2 [blkR p1 (.cells #[.string n1, .int .i64 k1, .int .i64 t1, .int .i64 a1, .string o1] 28), blkR p2 (.cells #[.string n2, .int .i64 k2, .int .i64 t2, .int .i64 a2, .string o2] 28)] from hO)
  clear hO hB
  go_enter Tryz.func32, Tryz.ntmps32
  go_wp2
  clear hx1 hx2 hp1 hp2
  have g0_1 := cell_regrown (show x2.cell? ⟨p1, 1, none⟩ = some (.int .i64 k1) from HO.out.cell 0 rfl 1 rfl)
  have g0_3 := cell_regrown (show x2.cell? ⟨p1, 3, none⟩ = some (.int .i64 a1) from HO.out.cell 0 rfl 3 rfl)
  have g0_4 := cell_regrown (show x2.cell? ⟨p1, 4, none⟩ = some (.string o1) from HO.out.cell 0 rfl 4 rfl)
  have g1_1 := cell_regrown (show x2.cell? ⟨p2, 1, none⟩ = some (.int .i64 k2) from HO.out.cell 1 rfl 1 rfl)
  have g1_3 := cell_regrown (show x2.cell? ⟨p2, 3, none⟩ = some (.int .i64 a2) from HO.out.cell 1 rfl 3 rfl)
  have g1_4 := cell_regrown (show x2.cell? ⟨p2, 4, none⟩ = some (.string o2) from HO.out.cell 1 rfl 4 rfl)
  refine D.wp_region_R 16 (by kernel_rfl) (by kernel_rfl) ?_
  simp only [List.take, List.drop]
  iterate 4 (refine D.wpR_want (by kernel_rfl) rfl rfl ?_; intro K hK; go_big_quiet_op; go_big_quiet_on)
  refine D.wpR_call (by kernel_rfl) rfl 53 #[.int .i64 k1, .int .i64 k2] (.int .i64 (cmpZ k1 k2)) (fun w => by simp [go_sem]) (fun w _ => bel_same (cmpI_any k1 k2 w)) ?_
  simp only [Act.put, List.setIfInBounds_toArray, List.set_cons_succ, List.set_cons_zero]
  iterate 4 (refine D.wpR_want (by kernel_rfl) rfl rfl ?_; intro K hK; go_big_quiet_op; go_big_quiet_on)
  refine D.wpR_call (by kernel_rfl) rfl 53 #[.int .i64 a1, .int .i64 a2] (.int .i64 (cmpZ a1 a2)) (fun w => by simp [go_sem]) (fun w _ => bel_same (cmpI_any a1 a2 w)) ?_
  simp only [Act.put, List.setIfInBounds_toArray, List.set_cons_succ, List.set_cons_zero]
  iterate 4 (refine D.wpR_want (by kernel_rfl) rfl rfl ?_; intro K hK; go_big_quiet_op; go_big_quiet_on)
  refine D.wpR_call (by kernel_rfl) rfl 54 #[.string o1, .string o2] (.int .i64 (cmpB o1 o2)) (fun w => by simp [go_sem]) (fun w _ => bel_same (cmpS_any o1 o2 w)) ?_
  simp only [Act.put, List.setIfInBounds_toArray, List.set_cons_succ, List.set_cons_zero]
  refine D.wpR_ex (row3 (.cells #[.int .i64 (cmpZ k1 k2), .int .i64 (cmpZ a1 a2), .int .i64 (cmpB o1 o2)] 3)) (row3_lasts _) (by kernel_rfl) (fun a' w' hw' he => ?_) (fun d hd => ?_)
  · obtain ⟨e9, e14, e19, _⟩ := he
    have e9' : a'.eval (.tmp 9) = .int .i64 (cmpZ k1 k2) := e9
    have e14' : a'.eval (.tmp 14) = .int .i64 (cmpZ a1 a2) := e14
    have e19' : a'.eval (.tmp 19) = .int .i64 (cmpB o1 o2) := e19
    refine D.wp_of_value (v := .slice (some ⟨w'.heap.size, 0, none⟩) 3 3) (w' := w'.alloc (.cells #[.int .i64 (cmpZ k1 k2), .int .i64 (cmpZ a1 a2), .int .i64 (cmpB o1 o2)] 3)) (D.run_v_ok ?_) ⟨_, rfl, D.bel_alloc _ _, ⟨w'.heap.size, rfl, new_block _ _⟩⟩
    simp only [List.map_toArray, List.map_cons, List.map_nil, e9', e14', e19']
    exact run_bs3 _ _ _ _
  cases hd
  simp only [List.nil_append]
  refine D.wpR_nil (by kernel_rfl) (by simp) ?_
  rintro x5 hbw
  simp only [D.exAll]
  rintro u20 ⟨g, rfl, hg⟩
  simp only [Act.put, List.setIfInBounds_toArray, List.set_cons_succ, List.set_cons_zero, List.drop]
  have HB2 := Lib.hid (D.bel_mid HB.out hbw)
  have HG := Lib.hid hg
  clear hbw hg g0_1 g0_3 g0_4 g1_1 g1_3 g1_4
  go_wp2_with fail
  refine (or_any _ _ _ g _ _ HG.out).mono ?_
  rintro e x6 ⟨rfl, rfl⟩
  go_wp2
  go_ret
  exact ⟨by rw [HR.out]; rfl, HB2.out⟩

end Go.Proofs.YtapeljiopbkjlaaGreatDoor
