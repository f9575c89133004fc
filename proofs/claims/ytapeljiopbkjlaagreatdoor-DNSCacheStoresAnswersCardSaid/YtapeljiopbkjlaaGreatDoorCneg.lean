/- Contracts of AddNegative and Tick. Printed by wip/tools/gen20j.py. -/
import Derived.Test.YtapeljiopbkjlaaGreatDoorCput
namespace Go.Proofs.YtapeljiopbkjlaaGreatDoor
open Go.RowKit Go.Sort
set_option linter.unusedVariables false
set_option maxRecDepth 100000

def negP (nm : ByteArray) (x : En) : Bool := x.nm.toList == nm.toList
def negE (now : Int) (nm : ByteArray) (tt : Int) : Int := if chkF now nm tt then 0 else 200
def negF (now : Int) (nm : ByteArray) (tt : Int) (l : List En) : List En := if chkF now nm tt && decide (tt ≠ 0) then storeF (l.filter fun x => !negP nm x) ⟨nm, 0, 0, ⟨#[]⟩, now + tt⟩ else l
theorem chkF_bds {now : Int} {nm : ByteArray} {tt : Int} (h : chkF now nm tt = true) : (0 ≤ now ∧ now ≤ 1000000000) ∧ (0 ≤ tt ∧ tt ≤ 1000) := by
  simp only [chkF, Bool.and_eq_true, decide_eq_true_eq] at h
  omega
set_option maxHeartbeats 4000000 in
theorem neg_bad {w : World} {D : Nat → Prop} {c : Nat} {l : List En} {a : Addr} (now : Int) (nm : ByteArray) (tt : Int) (HO0 : Own w D w [resC c l]) (hg0 : w.cell? ⟨errG, 0, none⟩ = some (errV a)) (hn : nm.size ≤ maxLen) (hl : l.length ≤ 32) (hr : chkF now nm tt = false) :
    Calls Tryz.prog 13 #[.pointer (some ⟨c, 0, none⟩), .int .i64 now, .string nm, .int .i64 tt] w (OPost w D [resC c (l)] (.int .i64 200) w) := by
  have HN := Lib.hid hn
  have HL := Lib.hid hl
  have HR := Lib.hid hr
  clear hn hl hr
  have HO := Lib.hid HO0
  clear HO0
  obtain ⟨x1, hx1⟩ : ∃ y, w.alloc (.cells #[.string nm] 9) = y := ⟨_, rfl⟩
  obtain ⟨bx, hbx⟩ : ∃ y, w.heap.size = y := ⟨_, rfl⟩
  have hO := HO.out.alloc (.cells #[.string nm] 9)
  rw [hx1, hbx] at hO
  replace HO := Lib.hid (show Own w D x1 [resC c l, blkR bx (.cells #[.string nm] 9)] from hO)
  clear hO
  have HG := Lib.hid (keep (by rw [← hx1]; exact below_one _ _ : Below w.heap.size w x1) hg0)
  clear hg0
  go_enter Tryz.func13, Tryz.ntmps13
  go_wp2
  clear hx1 hbx
  have g1_0 := cell_regrown (show x1.cell? ⟨bx, 0, none⟩ = some (.string nm) from HO.out.cell 1 rfl 0 rfl)
  have hg := HG.out
  have gg := cell_regrown hg
  clear hg
  refine wp_region_R 6 (by kernel_rfl) (by kernel_rfl) ?_
  simp only [List.take, List.drop]
  iterate 3 (first | (refine wpR_want (by kernel_rfl) rfl rfl ?_; intro K hK; go_big_quiet_op; go_big_quiet_on) | (refine wpR_is (by kernel_rfl) rfl _ (fun w _ => rfl) ?_; simp only [Act.put, List.setIfInBounds_toArray, List.set_cons_succ, List.set_cons_zero]))
  refine wpR_call (by kernel_rfl) rfl 33 #[.int .i64 now, .string nm, .int .i64 tt] (errV a) (fun w => by simp [go_sem]) (fun w _ => check_r HR.out a w HN.out (keep (by assumption) HG.out)) ?_
  simp only [Act.put, List.setIfInBounds_toArray, List.set_cons_succ, List.set_cons_zero]
  iterate 1 (first | (refine wpR_want (by kernel_rfl) rfl rfl ?_; intro K hK; go_big_quiet_op; go_big_quiet_on) | (refine wpR_is (by kernel_rfl) rfl _ (fun w _ => rfl) ?_; simp only [Act.put, List.setIfInBounds_toArray, List.set_cons_succ, List.set_cons_zero]))
  refine wpR_call (by kernel_rfl) rfl 24 #[errV a, errV a] (.bool true) (fun w => by simp [go_sem]) (fun w _ => is_same' a w) ?_
  simp only [Act.put, List.setIfInBounds_toArray, List.set_cons_succ, List.set_cons_zero]
  refine wpR_nil (by kernel_rfl) (by simp) ?_
  rintro x5 hbw
  simp only [exAll]
  simp only [List.drop]
  have hO := HO.out.stay hbw
  replace HO := Lib.hid (show Own w D x5 [resC c l, blkR bx (.cells #[.string nm] 9)] from hO)
  clear hO hbw g1_0 gg HG
  go_wp2
  go_ret
  exact ⟨rfl, HO.out.take 1, HO.out.size⟩
set_option maxHeartbeats 4000000 in
theorem neg_zero {w : World} {D : Nat → Prop} {c : Nat} {l : List En} {a : Addr} (now : Int) (nm : ByteArray) (tt : Int) (HO0 : Own w D w [resC c l]) (hg0 : w.cell? ⟨errG, 0, none⟩ = some (errV a)) (hn : nm.size ≤ maxLen) (hl : l.length ≤ 32) (hr : chkF now nm tt = true) (h0 : tt = 0) :
    Calls Tryz.prog 13 #[.pointer (some ⟨c, 0, none⟩), .int .i64 now, .string nm, .int .i64 tt] w (OPost w D [resC c (l)] (.int .i64 0) w) := by
  have HN := Lib.hid hn
  have HL := Lib.hid hl
  have HR := Lib.hid hr
  clear hn hl hr
  have HO := Lib.hid HO0
  clear HO0
  obtain ⟨x1, hx1⟩ : ∃ y, w.alloc (.cells #[.string nm] 9) = y := ⟨_, rfl⟩
  obtain ⟨bx, hbx⟩ : ∃ y, w.heap.size = y := ⟨_, rfl⟩
  have hO := HO.out.alloc (.cells #[.string nm] 9)
  rw [hx1, hbx] at hO
  replace HO := Lib.hid (show Own w D x1 [resC c l, blkR bx (.cells #[.string nm] 9)] from hO)
  clear hO
  have HG := Lib.hid (keep (by rw [← hx1]; exact below_one _ _ : Below w.heap.size w x1) hg0)
  clear hg0
  have H0 := Lib.hid h0
  clear h0
  go_enter Tryz.func13, Tryz.ntmps13
  go_wp2
  clear hx1 hbx
  have g1_0 := cell_regrown (show x1.cell? ⟨bx, 0, none⟩ = some (.string nm) from HO.out.cell 1 rfl 0 rfl)
  have hg := HG.out
  have gg := cell_regrown hg
  clear hg
  refine wp_region_R 6 (by kernel_rfl) (by kernel_rfl) ?_
  simp only [List.take, List.drop]
  iterate 3 (first | (refine wpR_want (by kernel_rfl) rfl rfl ?_; intro K hK; go_big_quiet_op; go_big_quiet_on) | (refine wpR_is (by kernel_rfl) rfl _ (fun w _ => rfl) ?_; simp only [Act.put, List.setIfInBounds_toArray, List.set_cons_succ, List.set_cons_zero]))
  refine wpR_call (by kernel_rfl) rfl 33 #[.int .i64 now, .string nm, .int .i64 tt] (.nilIface) (fun w => by simp [go_sem]) (fun w _ => check_r HR.out a w HN.out (keep (by assumption) HG.out)) ?_
  simp only [Act.put, List.setIfInBounds_toArray, List.set_cons_succ, List.set_cons_zero]
  iterate 1 (first | (refine wpR_want (by kernel_rfl) rfl rfl ?_; intro K hK; go_big_quiet_op; go_big_quiet_on) | (refine wpR_is (by kernel_rfl) rfl _ (fun w _ => rfl) ?_; simp only [Act.put, List.setIfInBounds_toArray, List.set_cons_succ, List.set_cons_zero]))
  refine wpR_call (by kernel_rfl) rfl 24 #[.nilIface, errV a] (.bool false) (fun w => by simp [go_sem]) (fun w _ => is_nil' a w) ?_
  simp only [Act.put, List.setIfInBounds_toArray, List.set_cons_succ, List.set_cons_zero]
  refine wpR_nil (by kernel_rfl) (by simp) ?_
  rintro x5 hbw
  simp only [exAll]
  simp only [List.drop]
  have hO := HO.out.stay hbw
  replace HO := Lib.hid (show Own w D x5 [resC c l, blkR bx (.cells #[.string nm] 9)] from hO)
  clear hO hbw g1_0 gg HG
  have e0 : (tt == 0) = true := by simpa using H0.out
  go_wp2
  go_ret
  exact ⟨rfl, HO.out.take 1, HO.out.size⟩
set_option maxHeartbeats 4000000 in
theorem neg_ok {w : World} {D : Nat → Prop} {c : Nat} {l : List En} {a : Addr} (now : Int) (nm : ByteArray) (tt : Int) (HO0 : Own w D w [resC c l]) (hg0 : w.cell? ⟨errG, 0, none⟩ = some (errV a)) (hn : nm.size ≤ maxLen) (hl : l.length ≤ 32) (hr : chkF now nm tt = true) (h0 : tt ≠ 0) :
    Calls Tryz.prog 13 #[.pointer (some ⟨c, 0, none⟩), .int .i64 now, .string nm, .int .i64 tt] w (OPost w D [resC c (storeF (l.filter fun x => !negP nm x) ⟨nm, 0, 0, ⟨#[]⟩, now + tt⟩)] (.int .i64 0) w) := by
  have HN := Lib.hid hn
  have HL := Lib.hid hl
  have HR := Lib.hid hr
  clear hn hl hr
  have HO := Lib.hid HO0
  clear HO0
  obtain ⟨x1, hx1⟩ : ∃ y, w.alloc (.cells #[.string nm] 9) = y := ⟨_, rfl⟩
  obtain ⟨bx, hbx⟩ : ∃ y, w.heap.size = y := ⟨_, rfl⟩
  have hO := HO.out.alloc (.cells #[.string nm] 9)
  rw [hx1, hbx] at hO
  replace HO := Lib.hid (show Own w D x1 [resC c l, blkR bx (.cells #[.string nm] 9)] from hO)
  clear hO
  have HG := Lib.hid (keep (by rw [← hx1]; exact below_one _ _ : Below w.heap.size w x1) hg0)
  clear hg0
  have H0 := Lib.hid h0
  clear h0
  obtain ⟨hb1, hb2⟩ := chkF_bds HR.out
  have HB := Lib.hid (show (0 ≤ now ∧ now ≤ 1000000000) ∧ (0 ≤ tt ∧ tt ≤ 1000) from ⟨hb1, hb2⟩)
  clear hb1 hb2
  go_enter Tryz.func13, Tryz.ntmps13
  go_wp2
  clear hx1 hbx
  have g1_0 := cell_regrown (show x1.cell? ⟨bx, 0, none⟩ = some (.string nm) from HO.out.cell 1 rfl 0 rfl)
  have hg := HG.out
  have gg := cell_regrown hg
  clear hg
  refine wp_region_R 6 (by kernel_rfl) (by kernel_rfl) ?_
  simp only [List.take, List.drop]
  iterate 3 (first | (refine wpR_want (by kernel_rfl) rfl rfl ?_; intro K hK; go_big_quiet_op; go_big_quiet_on) | (refine wpR_is (by kernel_rfl) rfl _ (fun w _ => rfl) ?_; simp only [Act.put, List.setIfInBounds_toArray, List.set_cons_succ, List.set_cons_zero]))
  refine wpR_call (by kernel_rfl) rfl 33 #[.int .i64 now, .string nm, .int .i64 tt] (.nilIface) (fun w => by simp [go_sem]) (fun w _ => check_r HR.out a w HN.out (keep (by assumption) HG.out)) ?_
  simp only [Act.put, List.setIfInBounds_toArray, List.set_cons_succ, List.set_cons_zero]
  iterate 1 (first | (refine wpR_want (by kernel_rfl) rfl rfl ?_; intro K hK; go_big_quiet_op; go_big_quiet_on) | (refine wpR_is (by kernel_rfl) rfl _ (fun w _ => rfl) ?_; simp only [Act.put, List.setIfInBounds_toArray, List.set_cons_succ, List.set_cons_zero]))
  refine wpR_call (by kernel_rfl) rfl 24 #[.nilIface, errV a] (.bool false) (fun w => by simp [go_sem]) (fun w _ => is_nil' a w) ?_
  simp only [Act.put, List.setIfInBounds_toArray, List.set_cons_succ, List.set_cons_zero]
  refine wpR_nil (by kernel_rfl) (by simp) ?_
  rintro x5 hbw
  simp only [exAll]
  simp only [List.drop]
  have hO := HO.out.stay hbw
  replace HO := Lib.hid (show Own w D x5 [resC c l, blkR bx (.cells #[.string nm] 9)] from hO)
  clear hO hbw g1_0 gg HG
  have e0 : (tt == 0) = false := by simpa using H0.out
  go_wp2_with fail
  clear e0
  refine (removeN_o (negP nm) bx HO.out 0 rfl (fun F hF _ w' hu x => negc_any x nm bx w' (hu.keep (resC_apart hF (HO.out.blk 1 rfl) (by decide) (by decide)) (HO.out.cell 1 rfl 0 rfl))) (Nat.le_trans HL.out (by decide))).mono ?_
  rintro e x2 ⟨rfl, hO, -⟩
  replace HO := Lib.hid (show Own w D x2 [resC c (l.filter fun x => !negP nm x), blkR bx (.cells #[.string nm] 9)] from hO)
  clear hO
  have HFL := Lib.hid (show (l.filter fun x => !negP nm x).length ≤ 32 from Nat.le_trans (List.length_filter_le _ _) HL.out)
  obtain ⟨l2, hl2⟩ : ∃ y, (l.filter fun x => !negP nm x) = y := ⟨_, rfl⟩
  have HL2 := Lib.hid hl2
  rw [hl2] at HO HFL
  clear hl2
  go_wp2
  have g1_0 := cell_regrown (show x2.cell? ⟨bx, 0, none⟩ = some (.string nm) from HO.out.cell 1 rfl 0 rfl)
  have hs : IntKind.i64.wrap (now + tt) = now + tt := IntWalk.i64_in _ (by have := HB.out; omega)
  refine wp_region_R 10 (by kernel_rfl) (by kernel_rfl) ?_
  simp only [List.take, List.drop]
  iterate 9 (first | (refine wpR_want (by kernel_rfl) rfl rfl ?_; intro K hK; go_big_quiet_op; go_big_quiet_on) | (refine wpR_is (by kernel_rfl) rfl _ (fun w _ => rfl) ?_; simp only [Act.put, List.setIfInBounds_toArray, List.set_cons_succ, List.set_cons_zero]))
  refine wpR_ex (sblk x2.heap.size (.cells #[.string nm, .int .i64 0, .int .i64 0, .string ⟨#[]⟩, .int .i64 (now + tt)] 78)) (sblk_lasts _ _) (by kernel_rfl) (fun a' w' hw' he => ?_) (fun d hd => ?_)
  · have hs := hw'.size
    obtain ⟨hag, _⟩ := he
    have hag' : a'.eval (.tmp 32) = .agg #[.string nm, .int .i64 0, .int .i64 0, .string ⟨#[]⟩, .int .i64 (now + tt)] := hag
    refine wp_of_value (v := .slice (some ⟨w'.heap.size, 0, none⟩) 1 1) (w' := w'.alloc (.cells #[.string nm, .int .i64 0, .int .i64 0, .string ⟨#[]⟩, .int .i64 (now + tt)] 78)) (run_v_ok ?_) ⟨_, rfl, (Below.refl _ _).alloc (Nat.le_refl _) _, ⟨w'.heap.size, rfl, hs, new_block _ _⟩⟩
    simp only [List.map_toArray, List.map_cons, List.map_nil, hag']
    exact run_bsE _ _ _ _ _ _
  cases hd
  simp only [List.nil_append]
  refine wpR_nil (by kernel_rfl) (by simp) ?_
  rintro x60 hbw
  simp only [exAll]
  rintro u33 ⟨be, rfl, hgebe, hbbbe⟩
  simp only [Act.put, List.setIfInBounds_toArray, List.set_cons_succ, List.set_cons_zero, List.drop]
  have hO := HO.out.push (R := blkR be (.cells #[.string nm, .int .i64 0, .int .i64 0, .string ⟨#[]⟩, .int .i64 (now + tt)] 78)) (F := fun z => z = be) ⟨fun _ => Iff.rfl, hbbbe⟩ (fun z hz => hz ▸ hgebe) hbw
  clear hgebe hbbbe
  replace HO := Lib.hid (show Own w D x60 [resC c l2, blkR bx (.cells #[.string nm] 9), blkR be (.cells #[.string nm, .int .i64 0, .int .i64 0, .string ⟨#[]⟩, .int .i64 (now + tt)] 78)] from hO)
  clear hO hbw g1_0 hs 
  go_wp2_with fail
  refine (store_o (e := ⟨nm, 0, 0, ⟨#[]⟩, now + tt⟩) HO.out 0 rfl 2 rfl (by decide) HFL.out).mono ?_
  rintro e x3 ⟨rfl, hO, -⟩
  replace HO := Lib.hid (show Own w D x3 [resC c (storeF l2 ⟨nm, 0, 0, ⟨#[]⟩, now + tt⟩), blkR bx (.cells #[.string nm] 9), blkR be (.cells #[.string nm, .int .i64 0, .int .i64 0, .string ⟨#[]⟩, .int .i64 (now + tt)] 78)] from hO)
  clear hO
  go_wp2
  go_ret
  exact ⟨rfl, by rw [HL2.out]; exact HO.out.take 1, HO.out.size⟩
theorem neg_o {w0 w : World} {D : Nat → Prop} {L : List Res} {c : Nat} {l : List En} {a : Addr} (now : Int) (nm : ByteArray) (tt : Int) (h : Own w0 D w L) (i : Nat) (hi : L[i]? = some (resC c l)) (hg : w.cell? ⟨errG, 0, none⟩ = some (errV a)) (hn : nm.size ≤ maxLen) (hl : l.length ≤ 32) :
    Calls Tryz.prog 13 #[.pointer (some ⟨c, 0, none⟩), .int .i64 now, .string nm, .int .i64 tt] w (OPost w0 D (L.set i (resC c (negF now nm tt l))) (.int .i64 (negE now nm tt)) w) := by
  refine o_one h hi fun D HO0 => ?_
  unfold negF negE
  cases hr : chkF now nm tt with
  | false => simpa using neg_bad now nm tt HO0 hg hn hl hr
  | true =>
    by_cases h0 : tt = 0
    · simpa [h0] using neg_zero now nm tt HO0 hg hn hl hr h0
    · simpa [h0] using neg_ok now nm tt HO0 hg hn hl hr h0
def tickF (now : Int) (l : List En) : List En := l.filter fun x => liveB now x
theorem tick_o {w0 w : World} {D : Nat → Prop} {L : List Res} {c : Nat} {l : List En} (now : Int) (h : Own w0 D w L) (i : Nat) (hi : L[i]? = some (resC c l)) (hl : l.length ≤ 1000) :
    Calls Tryz.prog 14 #[.pointer (some ⟨c, 0, none⟩), .int .i64 now] w (OPost w0 D (L.set i (resC c (tickF now l))) (.tuple #[]) w) := by
  have hF := Lib.hid (show tickF now l = l.filter fun x => !(!liveB now x) by unfold tickF; simp)
  refine o_one h hi fun D HO0 => ?_
  have HL := Lib.hid hl
  have HO := Lib.hid HO0
  clear h hi hl HO0
  obtain ⟨x1, hx1⟩ : ∃ y, w.alloc (.cells #[.int .i64 now] 3) = y := ⟨_, rfl⟩
  obtain ⟨bx, hbx⟩ : ∃ y, w.heap.size = y := ⟨_, rfl⟩
  have hO := HO.out.alloc (.cells #[.int .i64 now] 3)
  rw [hx1, hbx] at hO
  replace HO := Lib.hid (show Own w D x1 [resC c l, blkR bx (.cells #[.int .i64 now] 3)] from hO)
  clear hO
  go_enter Tryz.func14, Tryz.ntmps14
  go_wp2_with fail
  refine (removeT_o (fun x => !liveB now x) bx HO.out 0 rfl (fun F hF _ w' hu x => tickc_any x now bx w' (hu.keep (resC_apart hF (HO.out.blk 1 rfl) (by decide) (by decide)) (HO.out.cell 1 rfl 0 rfl))) HL.out).mono ?_
  rintro e x2 ⟨rfl, hO, -⟩
  replace HO := Lib.hid (show Own w D x2 [resC c (l.filter fun x => !(!liveB now x)), blkR bx (.cells #[.int .i64 now] 3)] from hO)
  clear hO
  clear hx1 hbx
  have HO2 := Lib.hid (show Own w D x2 [resC c (tickF now l)] by rw [hF.out]; exact HO.out.take 1)
  have HS := Lib.hid HO.out.size
  clear HO
  go_wp2
  go_end0
  exact ⟨rfl, HO2.out, HS.out⟩

end Go.Proofs.YtapeljiopbkjlaaGreatDoor
