/- Contract of Put. Printed by wip/tools/gen20i.py. -/
import Derived.Test.YtapeljiopbkjlaaGreatDoorCcr
import Derived.Test.YtapeljiopbkjlaaGreatDoorCrm
import Derived.Test.YtapeljiopbkjlaaGreatDoorCis
import Derived.Test.YtapeljiopbkjlaaGreatDoorTbl
namespace Go.Proofs.YtapeljiopbkjlaaGreatDoor
open Go.RowKit Go.Sort
set_option linter.unusedVariables false
set_option maxRecDepth 100000

theorem resC_apart {w : World} {F : Nat → Prop} {c : Nat} {l : List En} {b : Nat} {cs : Array Value} {t : TypeId} (h : (resC c l).P w F) (hb : w.heap[b]? = some (.cells cs t)) (h1 : t ≠ 69) (h2 : t ≠ 78) : ¬ F b := by
  intro hF
  obtain ⟨v, Fs, k1, _, k3⟩ := h
  obtain ⟨i, hi, hf⟩ := (k3 b).1 hF
  match i, hi with
  | 0, _ =>
    have := k1 0 (blkC c v) rfl
    have e := (this.1 b).1 hf
    have hh := this.2
    rw [e] at hb
    rw [hh] at hb
    cases hb
    exact h1 rfl
  | 1, _ =>
    have := k1 1 (rowE v l) rfl
    have hx' := (this.1 b).1 hf
    obtain ⟨_, ⟨e, _⟩ | ⟨g, c', cur, e, _, hh, _⟩⟩ := this.2
    · rw [e] at hx'; cases hx'
    · rw [e] at hx'; cases hx'
      rw [hh] at hb; cases hb
      exact h2 rfl
def ownK (r : Rc) : Ky := ⟨r.nm, r.kd, r.ad, r.to⟩
def noneK (nm : ByteArray) : Ky := ⟨nm, 0, 0, ⟨#[]⟩⟩
def putP (r : Rc) (x : En) : Bool := kyEq (keyE x) (ownK r) || kyEq (keyE x) (noneK r.nm)
def putE (now : Int) (r : Rc) : Int := if recB now r then 0 else 200
def putF (now : Int) (r : Rc) (l : List En) : List En := if recB now r && decide (r.tt ≠ 0) then storeF (l.filter fun x => !putP r x) ⟨r.nm, r.kd, r.ad, r.to, now + r.tt⟩ else l
theorem recB_bds {now : Int} {r : Rc} (h : recB now r = true) : (0 ≤ now ∧ now ≤ 1000000000) ∧ (0 ≤ r.tt ∧ r.tt ≤ 1000) := by
  simp only [recB, chkF, Bool.and_eq_true, decide_eq_true_eq] at h
  omega
theorem is_same' (a : Addr) (w : World) : Calls Tryz.prog 24 #[errV a, errV a] w fun e w' => e = .returned (.bool true) ∧ Below w.heap.size w w' := (is_same a w).mono fun e w' ⟨h1, h2⟩ => ⟨h1, h2 ▸ Below.refl _ _⟩
theorem is_nil' (a : Addr) (w : World) : Calls Tryz.prog 24 #[.nilIface, errV a] w fun e w' => e = .returned (.bool false) ∧ Below w.heap.size w w' := (is_nil a w).mono fun e w' ⟨h1, h2⟩ => ⟨h1, h2 ▸ Below.refl _ _⟩
set_option maxHeartbeats 4000000 in
theorem put_bad {w : World} {D : Nat → Prop} {c : Nat} {l : List En} {a : Addr} (now : Int) (nm : ByteArray) (kd tt ad : Int) (to : ByteArray) (HO0 : Own w D w [resC c l]) (hg0 : w.cell? ⟨errG, 0, none⟩ = some (errV a)) (hn : nm.size ≤ maxLen) (ht : to.size ≤ maxLen) (hl : l.length ≤ 32) (hr : recB now ⟨nm, kd, tt, ad, to⟩ = false) :
    Calls Tryz.prog 10 #[.pointer (some ⟨c, 0, none⟩), .int .i64 now, .agg #[.string nm, .int .i64 kd, .int .i64 tt, .int .i64 ad, .string to]] w (OPost w D [resC c (l)] (.int .i64 200) w) := by
  have HN := Lib.hid hn
  have HT := Lib.hid ht
  have HL := Lib.hid hl
  have HR := Lib.hid hr
  clear hn ht hl hr
  have HO := Lib.hid HO0
  clear HO0
  obtain ⟨x1, hx1⟩ : ∃ y, w.alloc (.cells #[.string nm, .int .i64 kd, .int .i64 tt, .int .i64 ad, .string to] 28) = y := ⟨_, rfl⟩
  obtain ⟨bx, hbx⟩ : ∃ y, w.heap.size = y := ⟨_, rfl⟩
  have hO := HO.out.alloc (.cells #[.string nm, .int .i64 kd, .int .i64 tt, .int .i64 ad, .string to] 28)
  rw [hx1, hbx] at hO
  replace HO := Lib.hid (show Own w D x1 [resC c l, blkR bx (.cells #[.string nm, .int .i64 kd, .int .i64 tt, .int .i64 ad, .string to] 28)] from hO)
  clear hO
  have HG := Lib.hid (keep (by rw [← hx1]; exact below_one _ _ : Below w.heap.size w x1) hg0)
  clear hg0
  go_enter Tryz.func10, Tryz.ntmps10
  go_wp2
  clear hx1 hbx
  have g1_0 := cell_regrown (show x1.cell? ⟨bx, 0, none⟩ = some (.string nm) from HO.out.cell 1 rfl 0 rfl)
  have g1_1 := cell_regrown (show x1.cell? ⟨bx, 1, none⟩ = some (.int .i64 kd) from HO.out.cell 1 rfl 1 rfl)
  have g1_2 := cell_regrown (show x1.cell? ⟨bx, 2, none⟩ = some (.int .i64 tt) from HO.out.cell 1 rfl 2 rfl)
  have g1_3 := cell_regrown (show x1.cell? ⟨bx, 3, none⟩ = some (.int .i64 ad) from HO.out.cell 1 rfl 3 rfl)
  have g1_4 := cell_regrown (show x1.cell? ⟨bx, 4, none⟩ = some (.string to) from HO.out.cell 1 rfl 4 rfl)
  have hg := HG.out
  have gg := cell_regrown hg
  clear hg
  refine wp_region_R 5 (by kernel_rfl) (by kernel_rfl) ?_
  simp only [List.take, List.drop]
  iterate 2 (first | (refine wpR_want (by kernel_rfl) rfl rfl ?_; intro K hK; go_big_quiet_op; go_big_quiet_on) | (refine wpR_is (by kernel_rfl) rfl _ (fun w _ => rfl) ?_; simp only [Act.put, List.setIfInBounds_toArray, List.set_cons_succ, List.set_cons_zero]))
  refine wpR_call (by kernel_rfl) rfl 25 #[.int .i64 now, .agg #[.string nm, .int .i64 kd, .int .i64 tt, .int .i64 ad, .string to]] (errV a) (fun w => by simp [go_sem]) (fun w _ => chr_r (r := ⟨nm, kd, tt, ad, to⟩) HR.out a w HN.out HT.out (keep (by assumption) HG.out)) ?_
  simp only [Act.put, List.setIfInBounds_toArray, List.set_cons_succ, List.set_cons_zero]
  iterate 1 (first | (refine wpR_want (by kernel_rfl) rfl rfl ?_; intro K hK; go_big_quiet_op; go_big_quiet_on) | (refine wpR_is (by kernel_rfl) rfl _ (fun w _ => rfl) ?_; simp only [Act.put, List.setIfInBounds_toArray, List.set_cons_succ, List.set_cons_zero]))
  refine wpR_call (by kernel_rfl) rfl 24 #[errV a, errV a] (.bool true) (fun w => by simp [go_sem]) (fun w _ => is_same' a w) ?_
  simp only [Act.put, List.setIfInBounds_toArray, List.set_cons_succ, List.set_cons_zero]
  refine wpR_nil (by kernel_rfl) (by simp) ?_
  rintro x5 hbw
  simp only [exAll]
  simp only [List.drop]
  have hO := HO.out.stay hbw
  replace HO := Lib.hid (show Own w D x5 [resC c l, blkR bx (.cells #[.string nm, .int .i64 kd, .int .i64 tt, .int .i64 ad, .string to] 28)] from hO)
  clear hO hbw g1_0 g1_1 g1_2 g1_3 g1_4 gg HG
  go_wp2
  go_ret
  exact ⟨rfl, HO.out.take 1, HO.out.size⟩
set_option maxHeartbeats 4000000 in
theorem put_zero {w : World} {D : Nat → Prop} {c : Nat} {l : List En} {a : Addr} (now : Int) (nm : ByteArray) (kd tt ad : Int) (to : ByteArray) (HO0 : Own w D w [resC c l]) (hg0 : w.cell? ⟨errG, 0, none⟩ = some (errV a)) (hn : nm.size ≤ maxLen) (ht : to.size ≤ maxLen) (hl : l.length ≤ 32) (hr : recB now ⟨nm, kd, tt, ad, to⟩ = true) (h0 : tt = 0) :
    Calls Tryz.prog 10 #[.pointer (some ⟨c, 0, none⟩), .int .i64 now, .agg #[.string nm, .int .i64 kd, .int .i64 tt, .int .i64 ad, .string to]] w (OPost w D [resC c (l)] (.int .i64 0) w) := by
  have HN := Lib.hid hn
  have HT := Lib.hid ht
  have HL := Lib.hid hl
  have HR := Lib.hid hr
  clear hn ht hl hr
  have HO := Lib.hid HO0
  clear HO0
  obtain ⟨x1, hx1⟩ : ∃ y, w.alloc (.cells #[.string nm, .int .i64 kd, .int .i64 tt, .int .i64 ad, .string to] 28) = y := ⟨_, rfl⟩
  obtain ⟨bx, hbx⟩ : ∃ y, w.heap.size = y := ⟨_, rfl⟩
  have hO := HO.out.alloc (.cells #[.string nm, .int .i64 kd, .int .i64 tt, .int .i64 ad, .string to] 28)
  rw [hx1, hbx] at hO
  replace HO := Lib.hid (show Own w D x1 [resC c l, blkR bx (.cells #[.string nm, .int .i64 kd, .int .i64 tt, .int .i64 ad, .string to] 28)] from hO)
  clear hO
  have HG := Lib.hid (keep (by rw [← hx1]; exact below_one _ _ : Below w.heap.size w x1) hg0)
  clear hg0
  have H0 := Lib.hid h0
  clear h0
  go_enter Tryz.func10, Tryz.ntmps10
  go_wp2
  clear hx1 hbx
  have g1_0 := cell_regrown (show x1.cell? ⟨bx, 0, none⟩ = some (.string nm) from HO.out.cell 1 rfl 0 rfl)
  have g1_1 := cell_regrown (show x1.cell? ⟨bx, 1, none⟩ = some (.int .i64 kd) from HO.out.cell 1 rfl 1 rfl)
  have g1_2 := cell_regrown (show x1.cell? ⟨bx, 2, none⟩ = some (.int .i64 tt) from HO.out.cell 1 rfl 2 rfl)
  have g1_3 := cell_regrown (show x1.cell? ⟨bx, 3, none⟩ = some (.int .i64 ad) from HO.out.cell 1 rfl 3 rfl)
  have g1_4 := cell_regrown (show x1.cell? ⟨bx, 4, none⟩ = some (.string to) from HO.out.cell 1 rfl 4 rfl)
  have hg := HG.out
  have gg := cell_regrown hg
  clear hg
  refine wp_region_R 5 (by kernel_rfl) (by kernel_rfl) ?_
  simp only [List.take, List.drop]
  iterate 2 (first | (refine wpR_want (by kernel_rfl) rfl rfl ?_; intro K hK; go_big_quiet_op; go_big_quiet_on) | (refine wpR_is (by kernel_rfl) rfl _ (fun w _ => rfl) ?_; simp only [Act.put, List.setIfInBounds_toArray, List.set_cons_succ, List.set_cons_zero]))
  refine wpR_call (by kernel_rfl) rfl 25 #[.int .i64 now, .agg #[.string nm, .int .i64 kd, .int .i64 tt, .int .i64 ad, .string to]] (.nilIface) (fun w => by simp [go_sem]) (fun w _ => chr_r (r := ⟨nm, kd, tt, ad, to⟩) HR.out a w HN.out HT.out (keep (by assumption) HG.out)) ?_
  simp only [Act.put, List.setIfInBounds_toArray, List.set_cons_succ, List.set_cons_zero]
  iterate 1 (first | (refine wpR_want (by kernel_rfl) rfl rfl ?_; intro K hK; go_big_quiet_op; go_big_quiet_on) | (refine wpR_is (by kernel_rfl) rfl _ (fun w _ => rfl) ?_; simp only [Act.put, List.setIfInBounds_toArray, List.set_cons_succ, List.set_cons_zero]))
  refine wpR_call (by kernel_rfl) rfl 24 #[.nilIface, errV a] (.bool false) (fun w => by simp [go_sem]) (fun w _ => is_nil' a w) ?_
  simp only [Act.put, List.setIfInBounds_toArray, List.set_cons_succ, List.set_cons_zero]
  refine wpR_nil (by kernel_rfl) (by simp) ?_
  rintro x5 hbw
  simp only [exAll]
  simp only [List.drop]
  have hO := HO.out.stay hbw
  replace HO := Lib.hid (show Own w D x5 [resC c l, blkR bx (.cells #[.string nm, .int .i64 kd, .int .i64 tt, .int .i64 ad, .string to] 28)] from hO)
  clear hO hbw g1_0 g1_1 g1_2 g1_3 g1_4 gg HG
  have z1_0 : x5.cell? ⟨bx, 0, none⟩ = some (.string nm) := HO.out.cell 1 rfl 0 rfl
  have z1_1 : x5.cell? ⟨bx, 1, none⟩ = some (.int .i64 kd) := HO.out.cell 1 rfl 1 rfl
  have z1_2 : x5.cell? ⟨bx, 2, none⟩ = some (.int .i64 tt) := HO.out.cell 1 rfl 2 rfl
  have z1_3 : x5.cell? ⟨bx, 3, none⟩ = some (.int .i64 ad) := HO.out.cell 1 rfl 3 rfl
  have z1_4 : x5.cell? ⟨bx, 4, none⟩ = some (.string to) := HO.out.cell 1 rfl 4 rfl
  have e0 : (tt == 0) = true := by simpa using H0.out
  go_wp2
  go_ret
  exact ⟨rfl, HO.out.take 1, HO.out.size⟩
set_option maxHeartbeats 4000000 in
theorem put_ok {w : World} {D : Nat → Prop} {c : Nat} {l : List En} {a : Addr} (now : Int) (nm : ByteArray) (kd tt ad : Int) (to : ByteArray) (HO0 : Own w D w [resC c l]) (hg0 : w.cell? ⟨errG, 0, none⟩ = some (errV a)) (hn : nm.size ≤ maxLen) (ht : to.size ≤ maxLen) (hl : l.length ≤ 32) (hr : recB now ⟨nm, kd, tt, ad, to⟩ = true) (h0 : tt ≠ 0) :
    Calls Tryz.prog 10 #[.pointer (some ⟨c, 0, none⟩), .int .i64 now, .agg #[.string nm, .int .i64 kd, .int .i64 tt, .int .i64 ad, .string to]] w (OPost w D [resC c (storeF (l.filter fun x => !putP ⟨nm, kd, tt, ad, to⟩ x) ⟨nm, kd, ad, to, now + tt⟩)] (.int .i64 0) w) := by
  have HN := Lib.hid hn
  have HT := Lib.hid ht
  have HL := Lib.hid hl
  have HR := Lib.hid hr
  clear hn ht hl hr
  have HO := Lib.hid HO0
  clear HO0
  obtain ⟨x1, hx1⟩ : ∃ y, w.alloc (.cells #[.string nm, .int .i64 kd, .int .i64 tt, .int .i64 ad, .string to] 28) = y := ⟨_, rfl⟩
  obtain ⟨bx, hbx⟩ : ∃ y, w.heap.size = y := ⟨_, rfl⟩
  have hO := HO.out.alloc (.cells #[.string nm, .int .i64 kd, .int .i64 tt, .int .i64 ad, .string to] 28)
  rw [hx1, hbx] at hO
  replace HO := Lib.hid (show Own w D x1 [resC c l, blkR bx (.cells #[.string nm, .int .i64 kd, .int .i64 tt, .int .i64 ad, .string to] 28)] from hO)
  clear hO
  have HG := Lib.hid (keep (by rw [← hx1]; exact below_one _ _ : Below w.heap.size w x1) hg0)
  clear hg0
  have H0 := Lib.hid h0
  clear h0
  obtain ⟨hb1, hb2⟩ := recB_bds HR.out
  have HB := Lib.hid (show (0 ≤ now ∧ now ≤ 1000000000) ∧ (0 ≤ tt ∧ tt ≤ 1000) from ⟨hb1, hb2⟩)
  clear hb1 hb2
  go_enter Tryz.func10, Tryz.ntmps10
  go_wp2
  clear hx1 hbx
  have g1_0 := cell_regrown (show x1.cell? ⟨bx, 0, none⟩ = some (.string nm) from HO.out.cell 1 rfl 0 rfl)
  have g1_1 := cell_regrown (show x1.cell? ⟨bx, 1, none⟩ = some (.int .i64 kd) from HO.out.cell 1 rfl 1 rfl)
  have g1_2 := cell_regrown (show x1.cell? ⟨bx, 2, none⟩ = some (.int .i64 tt) from HO.out.cell 1 rfl 2 rfl)
  have g1_3 := cell_regrown (show x1.cell? ⟨bx, 3, none⟩ = some (.int .i64 ad) from HO.out.cell 1 rfl 3 rfl)
  have g1_4 := cell_regrown (show x1.cell? ⟨bx, 4, none⟩ = some (.string to) from HO.out.cell 1 rfl 4 rfl)
  have hg := HG.out
  have gg := cell_regrown hg
  clear hg
  refine wp_region_R 5 (by kernel_rfl) (by kernel_rfl) ?_
  simp only [List.take, List.drop]
  iterate 2 (first | (refine wpR_want (by kernel_rfl) rfl rfl ?_; intro K hK; go_big_quiet_op; go_big_quiet_on) | (refine wpR_is (by kernel_rfl) rfl _ (fun w _ => rfl) ?_; simp only [Act.put, List.setIfInBounds_toArray, List.set_cons_succ, List.set_cons_zero]))
  refine wpR_call (by kernel_rfl) rfl 25 #[.int .i64 now, .agg #[.string nm, .int .i64 kd, .int .i64 tt, .int .i64 ad, .string to]] (.nilIface) (fun w => by simp [go_sem]) (fun w _ => chr_r (r := ⟨nm, kd, tt, ad, to⟩) HR.out a w HN.out HT.out (keep (by assumption) HG.out)) ?_
  simp only [Act.put, List.setIfInBounds_toArray, List.set_cons_succ, List.set_cons_zero]
  iterate 1 (first | (refine wpR_want (by kernel_rfl) rfl rfl ?_; intro K hK; go_big_quiet_op; go_big_quiet_on) | (refine wpR_is (by kernel_rfl) rfl _ (fun w _ => rfl) ?_; simp only [Act.put, List.setIfInBounds_toArray, List.set_cons_succ, List.set_cons_zero]))
  refine wpR_call (by kernel_rfl) rfl 24 #[.nilIface, errV a] (.bool false) (fun w => by simp [go_sem]) (fun w _ => is_nil' a w) ?_
  simp only [Act.put, List.setIfInBounds_toArray, List.set_cons_succ, List.set_cons_zero]
  refine wpR_nil (by kernel_rfl) (by simp) ?_
  rintro x5 hbw
  simp only [exAll]
  simp only [List.drop]
  have hO := HO.out.stay hbw
  replace HO := Lib.hid (show Own w D x5 [resC c l, blkR bx (.cells #[.string nm, .int .i64 kd, .int .i64 tt, .int .i64 ad, .string to] 28)] from hO)
  clear hO hbw g1_0 g1_1 g1_2 g1_3 g1_4 gg HG
  have z1_0 : x5.cell? ⟨bx, 0, none⟩ = some (.string nm) := HO.out.cell 1 rfl 0 rfl
  have z1_1 : x5.cell? ⟨bx, 1, none⟩ = some (.int .i64 kd) := HO.out.cell 1 rfl 1 rfl
  have z1_2 : x5.cell? ⟨bx, 2, none⟩ = some (.int .i64 tt) := HO.out.cell 1 rfl 2 rfl
  have z1_3 : x5.cell? ⟨bx, 3, none⟩ = some (.int .i64 ad) := HO.out.cell 1 rfl 3 rfl
  have z1_4 : x5.cell? ⟨bx, 4, none⟩ = some (.string to) := HO.out.cell 1 rfl 4 rfl
  have e0 : (tt == 0) = false := by simpa using H0.out
  obtain ⟨x2, hx2⟩ : ∃ y, x5.alloc (.cells #[.string ⟨#[]⟩, .int .i64 0, .int .i64 0, .string ⟨#[]⟩] 75) = y := ⟨_, rfl⟩
  obtain ⟨bo, hbo⟩ : ∃ y, x5.heap.size = y := ⟨_, rfl⟩
  have hO := HO.out.alloc (.cells #[.string ⟨#[]⟩, .int .i64 0, .int .i64 0, .string ⟨#[]⟩] 75)
  rw [hx2, hbo] at hO
  replace HO := Lib.hid (show Own w D x2 [resC c l, blkR bx (.cells #[.string nm, .int .i64 kd, .int .i64 tt, .int .i64 ad, .string to] 28), blkR bo (.cells #[.string ⟨#[]⟩, .int .i64 0, .int .i64 0, .string ⟨#[]⟩] 75)] from hO)
  clear hO
  have k2_0_3 : x2.cell? ⟨bo, 0, none⟩ = some (.string ⟨#[]⟩) := HO.out.cell 2 rfl 0 rfl
  have lk2_0_3 : x2.frozen? ⟨bo, 0, none⟩ = false := HO.out.frz 2 rfl 0
  have k2_1_4 : x2.cell? ⟨bo, 1, none⟩ = some (.int .i64 0) := HO.out.cell 2 rfl 1 rfl
  have lk2_1_4 : x2.frozen? ⟨bo, 1, none⟩ = false := HO.out.frz 2 rfl 1
  have k2_2_5 : x2.cell? ⟨bo, 2, none⟩ = some (.int .i64 0) := HO.out.cell 2 rfl 2 rfl
  have lk2_2_5 : x2.frozen? ⟨bo, 2, none⟩ = false := HO.out.frz 2 rfl 2
  have k2_3_6 : x2.cell? ⟨bo, 3, none⟩ = some (.string ⟨#[]⟩) := HO.out.cell 2 rfl 3 rfl
  have lk2_3_6 : x2.frozen? ⟨bo, 3, none⟩ = false := HO.out.frz 2 rfl 3
  obtain ⟨x7, hx7⟩ : ∃ y, x2.setCell ⟨bo, 0, none⟩ (.string nm) = y := ⟨_, rfl⟩
  have hO := HO.out.setCell 2 rfl 0 (.string nm)
  rw [hx7] at hO
  replace HO := Lib.hid (show Own w D x7 [resC c l, blkR bx (.cells #[.string nm, .int .i64 kd, .int .i64 tt, .int .i64 ad, .string to] 28), blkR bo (.cells #[.string nm, .int .i64 0, .int .i64 0, .string ⟨#[]⟩] 75)] from hO)
  clear hO
  have k2_1_8 : x7.cell? ⟨bo, 1, none⟩ = some (.int .i64 0) := HO.out.cell 2 rfl 1 rfl
  have lk2_1_8 : x7.frozen? ⟨bo, 1, none⟩ = false := HO.out.frz 2 rfl 1
  have k2_2_9 : x7.cell? ⟨bo, 2, none⟩ = some (.int .i64 0) := HO.out.cell 2 rfl 2 rfl
  have lk2_2_9 : x7.frozen? ⟨bo, 2, none⟩ = false := HO.out.frz 2 rfl 2
  have k2_3_10 : x7.cell? ⟨bo, 3, none⟩ = some (.string ⟨#[]⟩) := HO.out.cell 2 rfl 3 rfl
  have lk2_3_10 : x7.frozen? ⟨bo, 3, none⟩ = false := HO.out.frz 2 rfl 3
  obtain ⟨x11, hx11⟩ : ∃ y, x7.setCell ⟨bo, 1, none⟩ (.int .i64 kd) = y := ⟨_, rfl⟩
  have hO := HO.out.setCell 2 rfl 1 (.int .i64 kd)
  rw [hx11] at hO
  replace HO := Lib.hid (show Own w D x11 [resC c l, blkR bx (.cells #[.string nm, .int .i64 kd, .int .i64 tt, .int .i64 ad, .string to] 28), blkR bo (.cells #[.string nm, .int .i64 kd, .int .i64 0, .string ⟨#[]⟩] 75)] from hO)
  clear hO
  have k2_2_12 : x11.cell? ⟨bo, 2, none⟩ = some (.int .i64 0) := HO.out.cell 2 rfl 2 rfl
  have lk2_2_12 : x11.frozen? ⟨bo, 2, none⟩ = false := HO.out.frz 2 rfl 2
  have k2_3_13 : x11.cell? ⟨bo, 3, none⟩ = some (.string ⟨#[]⟩) := HO.out.cell 2 rfl 3 rfl
  have lk2_3_13 : x11.frozen? ⟨bo, 3, none⟩ = false := HO.out.frz 2 rfl 3
  obtain ⟨x14, hx14⟩ : ∃ y, x11.setCell ⟨bo, 2, none⟩ (.int .i64 ad) = y := ⟨_, rfl⟩
  have hO := HO.out.setCell 2 rfl 2 (.int .i64 ad)
  rw [hx14] at hO
  replace HO := Lib.hid (show Own w D x14 [resC c l, blkR bx (.cells #[.string nm, .int .i64 kd, .int .i64 tt, .int .i64 ad, .string to] 28), blkR bo (.cells #[.string nm, .int .i64 kd, .int .i64 ad, .string ⟨#[]⟩] 75)] from hO)
  clear hO
  have k2_3_15 : x14.cell? ⟨bo, 3, none⟩ = some (.string ⟨#[]⟩) := HO.out.cell 2 rfl 3 rfl
  have lk2_3_15 : x14.frozen? ⟨bo, 3, none⟩ = false := HO.out.frz 2 rfl 3
  obtain ⟨x16, hx16⟩ : ∃ y, x14.setCell ⟨bo, 3, none⟩ (.string to) = y := ⟨_, rfl⟩
  have hO := HO.out.setCell 2 rfl 3 (.string to)
  rw [hx16] at hO
  replace HO := Lib.hid (show Own w D x16 [resC c l, blkR bx (.cells #[.string nm, .int .i64 kd, .int .i64 tt, .int .i64 ad, .string to] 28), blkR bo (.cells #[.string nm, .int .i64 kd, .int .i64 ad, .string to] 75)] from hO)
  clear hO
  have z1_0t : x16.cell? ⟨bx, 0, none⟩ = some (.string nm) := HO.out.cell 1 rfl 0 rfl
  obtain ⟨x17, hx17⟩ : ∃ y, x16.alloc (.cells #[.string ⟨#[]⟩, .int .i64 0, .int .i64 0, .string ⟨#[]⟩] 75) = y := ⟨_, rfl⟩
  obtain ⟨bn, hbn⟩ : ∃ y, x16.heap.size = y := ⟨_, rfl⟩
  have hO := HO.out.alloc (.cells #[.string ⟨#[]⟩, .int .i64 0, .int .i64 0, .string ⟨#[]⟩] 75)
  rw [hx17, hbn] at hO
  replace HO := Lib.hid (show Own w D x17 [resC c l, blkR bx (.cells #[.string nm, .int .i64 kd, .int .i64 tt, .int .i64 ad, .string to] 28), blkR bo (.cells #[.string nm, .int .i64 kd, .int .i64 ad, .string to] 75), blkR bn (.cells #[.string ⟨#[]⟩, .int .i64 0, .int .i64 0, .string ⟨#[]⟩] 75)] from hO)
  clear hO
  have k3_0_18 : x17.cell? ⟨bn, 0, none⟩ = some (.string ⟨#[]⟩) := HO.out.cell 3 rfl 0 rfl
  have lk3_0_18 : x17.frozen? ⟨bn, 0, none⟩ = false := HO.out.frz 3 rfl 0
  have k3_1_19 : x17.cell? ⟨bn, 1, none⟩ = some (.int .i64 0) := HO.out.cell 3 rfl 1 rfl
  have lk3_1_19 : x17.frozen? ⟨bn, 1, none⟩ = false := HO.out.frz 3 rfl 1
  have k3_2_20 : x17.cell? ⟨bn, 2, none⟩ = some (.int .i64 0) := HO.out.cell 3 rfl 2 rfl
  have lk3_2_20 : x17.frozen? ⟨bn, 2, none⟩ = false := HO.out.frz 3 rfl 2
  have k3_3_21 : x17.cell? ⟨bn, 3, none⟩ = some (.string ⟨#[]⟩) := HO.out.cell 3 rfl 3 rfl
  have lk3_3_21 : x17.frozen? ⟨bn, 3, none⟩ = false := HO.out.frz 3 rfl 3
  obtain ⟨x22, hx22⟩ : ∃ y, x17.setCell ⟨bn, 0, none⟩ (.string nm) = y := ⟨_, rfl⟩
  have hO := HO.out.setCell 3 rfl 0 (.string nm)
  rw [hx22] at hO
  replace HO := Lib.hid (show Own w D x22 [resC c l, blkR bx (.cells #[.string nm, .int .i64 kd, .int .i64 tt, .int .i64 ad, .string to] 28), blkR bo (.cells #[.string nm, .int .i64 kd, .int .i64 ad, .string to] 75), blkR bn (.cells #[.string nm, .int .i64 0, .int .i64 0, .string ⟨#[]⟩] 75)] from hO)
  clear hO
  have k3_1_23 : x22.cell? ⟨bn, 1, none⟩ = some (.int .i64 0) := HO.out.cell 3 rfl 1 rfl
  have lk3_1_23 : x22.frozen? ⟨bn, 1, none⟩ = false := HO.out.frz 3 rfl 1
  have k3_2_24 : x22.cell? ⟨bn, 2, none⟩ = some (.int .i64 0) := HO.out.cell 3 rfl 2 rfl
  have lk3_2_24 : x22.frozen? ⟨bn, 2, none⟩ = false := HO.out.frz 3 rfl 2
  have k3_3_25 : x22.cell? ⟨bn, 3, none⟩ = some (.string ⟨#[]⟩) := HO.out.cell 3 rfl 3 rfl
  have lk3_3_25 : x22.frozen? ⟨bn, 3, none⟩ = false := HO.out.frz 3 rfl 3
  obtain ⟨x26, hx26⟩ : ∃ y, x22.setCell ⟨bn, 1, none⟩ (.int .i64 0) = y := ⟨_, rfl⟩
  have hO := HO.out.setCell 3 rfl 1 (.int .i64 0)
  rw [hx26] at hO
  replace HO := Lib.hid (show Own w D x26 [resC c l, blkR bx (.cells #[.string nm, .int .i64 kd, .int .i64 tt, .int .i64 ad, .string to] 28), blkR bo (.cells #[.string nm, .int .i64 kd, .int .i64 ad, .string to] 75), blkR bn (.cells #[.string nm, .int .i64 0, .int .i64 0, .string ⟨#[]⟩] 75)] from hO)
  clear hO
  have k3_2_27 : x26.cell? ⟨bn, 2, none⟩ = some (.int .i64 0) := HO.out.cell 3 rfl 2 rfl
  have lk3_2_27 : x26.frozen? ⟨bn, 2, none⟩ = false := HO.out.frz 3 rfl 2
  have k3_3_28 : x26.cell? ⟨bn, 3, none⟩ = some (.string ⟨#[]⟩) := HO.out.cell 3 rfl 3 rfl
  have lk3_3_28 : x26.frozen? ⟨bn, 3, none⟩ = false := HO.out.frz 3 rfl 3
  obtain ⟨x29, hx29⟩ : ∃ y, x26.setCell ⟨bn, 2, none⟩ (.int .i64 0) = y := ⟨_, rfl⟩
  have hO := HO.out.setCell 3 rfl 2 (.int .i64 0)
  rw [hx29] at hO
  replace HO := Lib.hid (show Own w D x29 [resC c l, blkR bx (.cells #[.string nm, .int .i64 kd, .int .i64 tt, .int .i64 ad, .string to] 28), blkR bo (.cells #[.string nm, .int .i64 kd, .int .i64 ad, .string to] 75), blkR bn (.cells #[.string nm, .int .i64 0, .int .i64 0, .string ⟨#[]⟩] 75)] from hO)
  clear hO
  have k3_3_30 : x29.cell? ⟨bn, 3, none⟩ = some (.string ⟨#[]⟩) := HO.out.cell 3 rfl 3 rfl
  have lk3_3_30 : x29.frozen? ⟨bn, 3, none⟩ = false := HO.out.frz 3 rfl 3
  obtain ⟨x31, hx31⟩ : ∃ y, x29.setCell ⟨bn, 3, none⟩ (.string ⟨#[]⟩) = y := ⟨_, rfl⟩
  have hO := HO.out.setCell 3 rfl 3 (.string ⟨#[]⟩)
  rw [hx31] at hO
  replace HO := Lib.hid (show Own w D x31 [resC c l, blkR bx (.cells #[.string nm, .int .i64 kd, .int .i64 tt, .int .i64 ad, .string to] 28), blkR bo (.cells #[.string nm, .int .i64 kd, .int .i64 ad, .string to] 75), blkR bn (.cells #[.string nm, .int .i64 0, .int .i64 0, .string ⟨#[]⟩] 75)] from hO)
  clear hO
  go_wp2_with fail
  clear z1_0 z1_1 z1_2 z1_3 z1_4 hx2 hbo k2_0_3 lk2_0_3 k2_1_4 lk2_1_4 k2_2_5 lk2_2_5 k2_3_6 lk2_3_6 hx7 k2_1_8 lk2_1_8 k2_2_9 lk2_2_9 k2_3_10 lk2_3_10 hx11 k2_2_12 lk2_2_12 k2_3_13 lk2_3_13 hx14 k2_3_15 lk2_3_15 hx16 z1_0t hx17 hbn k3_0_18 lk3_0_18 k3_1_19 lk3_1_19 k3_2_20 lk3_2_20 k3_3_21 lk3_3_21 hx22 k3_1_23 lk3_1_23 k3_2_24 lk3_2_24 k3_3_25 lk3_3_25 hx26 k3_2_27 lk3_2_27 k3_3_28 lk3_3_28 hx29 k3_3_30 lk3_3_30 hx31
  clear e0
  refine (removeP_o (putP ⟨nm, kd, tt, ad, to⟩) bo bn HO.out 0 rfl (fun F hF _ w' hu x => putc_any x ⟨nm, kd, ad, to⟩ ⟨nm, 0, 0, ⟨#[]⟩⟩ bo bn w' ((hu.block bo (HO.out.lt 2 rfl) (resC_apart hF (HO.out.blk 2 rfl) (by decide) (by decide))).trans (HO.out.blk 2 rfl)) ((hu.block bn (HO.out.lt 3 rfl) (resC_apart hF (HO.out.blk 3 rfl) (by decide) (by decide))).trans (HO.out.blk 3 rfl))) (Nat.le_trans HL.out (by decide))).mono ?_
  rintro e x32 ⟨rfl, hO, -⟩
  replace HO := Lib.hid (show Own w D x32 [resC c (l.filter fun x => !putP ⟨nm, kd, tt, ad, to⟩ x), blkR bx (.cells #[.string nm, .int .i64 kd, .int .i64 tt, .int .i64 ad, .string to] 28), blkR bo (.cells #[.string nm, .int .i64 kd, .int .i64 ad, .string to] 75), blkR bn (.cells #[.string nm, .int .i64 0, .int .i64 0, .string ⟨#[]⟩] 75)] from hO)
  clear hO
  have HFL := Lib.hid (show (l.filter fun x => !putP ⟨nm, kd, tt, ad, to⟩ x).length ≤ 32 from Nat.le_trans (List.length_filter_le _ _) HL.out)
  obtain ⟨l2, hl2⟩ : ∃ y, (l.filter fun x => !putP ⟨nm, kd, tt, ad, to⟩ x) = y := ⟨_, rfl⟩
  have HL2 := Lib.hid hl2
  rw [hl2] at HO HFL
  clear hl2
  go_wp2
  have g1_2 := cell_regrown (show x32.cell? ⟨bx, 2, none⟩ = some (.int .i64 tt) from HO.out.cell 1 rfl 2 rfl)
  have g2_0 := cell_regrown (show x32.cell? ⟨bo, 0, none⟩ = some (.string nm) from HO.out.cell 2 rfl 0 rfl)
  have g2_1 := cell_regrown (show x32.cell? ⟨bo, 1, none⟩ = some (.int .i64 kd) from HO.out.cell 2 rfl 1 rfl)
  have g2_2 := cell_regrown (show x32.cell? ⟨bo, 2, none⟩ = some (.int .i64 ad) from HO.out.cell 2 rfl 2 rfl)
  have g2_3 := cell_regrown (show x32.cell? ⟨bo, 3, none⟩ = some (.string to) from HO.out.cell 2 rfl 3 rfl)
  have hs : IntKind.i64.wrap (now + tt) = now + tt := IntWalk.i64_in _ (by have := HB.out; omega)
  refine wp_region_R 10 (by kernel_rfl) (by kernel_rfl) ?_
  simp only [List.take, List.drop]
  iterate 9 (first | (refine wpR_want (by kernel_rfl) rfl rfl ?_; intro K hK; go_big_quiet_op; go_big_quiet_on) | (refine wpR_is (by kernel_rfl) rfl _ (fun w _ => rfl) ?_; simp only [Act.put, List.setIfInBounds_toArray, List.set_cons_succ, List.set_cons_zero]))
  refine wpR_ex (sblk x32.heap.size (.cells #[.string nm, .int .i64 kd, .int .i64 ad, .string to, .int .i64 (now + tt)] 78)) (sblk_lasts _ _) (by kernel_rfl) (fun a' w' hw' he => ?_) (fun d hd => ?_)
  · have hs := hw'.size
    obtain ⟨hag, _⟩ := he
    have hag' : a'.eval (.tmp 44) = .agg #[.string nm, .int .i64 kd, .int .i64 ad, .string to, .int .i64 (now + tt)] := hag
    refine wp_of_value (v := .slice (some ⟨w'.heap.size, 0, none⟩) 1 1) (w' := w'.alloc (.cells #[.string nm, .int .i64 kd, .int .i64 ad, .string to, .int .i64 (now + tt)] 78)) (run_v_ok ?_) ⟨_, rfl, (Below.refl _ _).alloc (Nat.le_refl _) _, ⟨w'.heap.size, rfl, hs, new_block _ _⟩⟩
    simp only [List.map_toArray, List.map_cons, List.map_nil, hag']
    exact run_bsE _ _ _ _ _ _
  cases hd
  simp only [List.nil_append]
  refine wpR_nil (by kernel_rfl) (by simp) ?_
  rintro x60 hbw
  simp only [exAll]
  rintro u45 ⟨be, rfl, hgebe, hbbbe⟩
  simp only [Act.put, List.setIfInBounds_toArray, List.set_cons_succ, List.set_cons_zero, List.drop]
  have hO := HO.out.push (R := blkR be (.cells #[.string nm, .int .i64 kd, .int .i64 ad, .string to, .int .i64 (now + tt)] 78)) (F := fun z => z = be) ⟨fun _ => Iff.rfl, hbbbe⟩ (fun z hz => hz ▸ hgebe) hbw
  clear hgebe hbbbe
  replace HO := Lib.hid (show Own w D x60 [resC c l2, blkR bx (.cells #[.string nm, .int .i64 kd, .int .i64 tt, .int .i64 ad, .string to] 28), blkR bo (.cells #[.string nm, .int .i64 kd, .int .i64 ad, .string to] 75), blkR bn (.cells #[.string nm, .int .i64 0, .int .i64 0, .string ⟨#[]⟩] 75), blkR be (.cells #[.string nm, .int .i64 kd, .int .i64 ad, .string to, .int .i64 (now + tt)] 78)] from hO)
  clear hO hbw g1_2 g2_0 g2_1 g2_2 g2_3 hs 
  go_wp2_with fail
  refine (store_o (e := ⟨nm, kd, ad, to, now + tt⟩) HO.out 0 rfl 4 rfl (by decide) HFL.out).mono ?_
  rintro e x33 ⟨rfl, hO, -⟩
  replace HO := Lib.hid (show Own w D x33 [resC c (storeF l2 ⟨nm, kd, ad, to, now + tt⟩), blkR bx (.cells #[.string nm, .int .i64 kd, .int .i64 tt, .int .i64 ad, .string to] 28), blkR bo (.cells #[.string nm, .int .i64 kd, .int .i64 ad, .string to] 75), blkR bn (.cells #[.string nm, .int .i64 0, .int .i64 0, .string ⟨#[]⟩] 75), blkR be (.cells #[.string nm, .int .i64 kd, .int .i64 ad, .string to, .int .i64 (now + tt)] 78)] from hO)
  clear hO
  go_wp2
  go_ret
  exact ⟨rfl, by rw [HL2.out]; exact HO.out.take 1, HO.out.size⟩
theorem put_o {w0 w : World} {D : Nat → Prop} {L : List Res} {c : Nat} {l : List En} {a : Addr} (now : Int) (r : Rc) (h : Own w0 D w L) (i : Nat) (hi : L[i]? = some (resC c l)) (hg : w.cell? ⟨errG, 0, none⟩ = some (errV a)) (hn : r.nm.size ≤ maxLen) (ht : r.to.size ≤ maxLen) (hl : l.length ≤ 32) :
    Calls Tryz.prog 10 #[.pointer (some ⟨c, 0, none⟩), .int .i64 now, rcV r] w (OPost w0 D (L.set i (resC c (putF now r l))) (.int .i64 (putE now r)) w) := by
  refine o_one h hi fun D HO0 => ?_
  obtain ⟨nm, kd, tt, ad, to⟩ := r
  unfold putF putE
  cases hr : recB now ⟨nm, kd, tt, ad, to⟩ with
  | false => simpa using put_bad now nm kd tt ad to HO0 hg hn ht hl hr
  | true =>
    by_cases h0 : tt = 0
    · simpa [h0] using put_zero now nm kd tt ad to HO0 hg hn ht hl hr h0
    · simpa [h0] using put_ok now nm kd tt ad to HO0 hg hn ht hl hr h0

end Go.Proofs.YtapeljiopbkjlaaGreatDoor
