/- referenceDo of chapter 20; DNSCacheMatchesReference, walked. Printed by wip/tools/gen20D.py. -/
import Derived.Test.YtapeljiopbkjlaaDoorKc
namespace Go.Proofs.YtapeljiopbkjlaaDoor
open Go.RowKit Go.Sort
set_option linter.unusedVariables false
set_option maxRecDepth 100000

theorem refP_eq {t : Int} {r : Rc} {x : En} (h : EnOk t x) : refP r x = putP r x := by
  have h0 := fun e => h.key0 e
  obtain ⟨nm, kd, ad, to, ex⟩ := x
  obtain ⟨rn, rk, rt, ra, ro⟩ := r
  have e1 : rcEq ⟨nm, kd, 0, ad, to⟩ ⟨rn, rk, 0, ra, ro⟩ = kyEq ⟨nm, kd, ad, to⟩ ⟨rn, rk, ra, ro⟩ := by
    rw [Bool.eq_iff_iff, rcEq_iff, kyEq_iff]
    simp
  have e2 : ((kd == 0) && (nm.toList == rn.toList)) = kyEq ⟨nm, kd, ad, to⟩ (noneK rn) := by
    rw [Bool.eq_iff_iff, kyEq_iff, Bool.and_eq_true, beq_iff_eq, beq_iff_eq]
    constructor
    · rintro ⟨rfl, h2⟩
      have := h0 rfl
      simp only [keyE] at this
      rw [this, bytes_ext h2]
    · intro e
      simp only [noneK, Ky.mk.injEq] at e
      exact ⟨e.2.1, by rw [e.1]⟩
  show (((kd == 0) && (nm.toList == rn.toList)) || rcEq ⟨nm, kd, 0, ad, to⟩ ⟨rn, rk, 0, ra, ro⟩) = (kyEq ⟨nm, kd, ad, to⟩ ⟨rn, rk, ra, ro⟩ || kyEq ⟨nm, kd, ad, to⟩ (noneK rn))
  rw [e1, e2, Bool.or_comm]
theorem putRF_eq {t now : Int} {r : Rc} {l : List En} (h : CInv t l) : putRF now r l = putF now r l := by
  unfold putRF putF
  have : (l.filter fun x => !refP r x) = l.filter fun x => !putP r x := List.filter_congr fun x hx => by rw [refP_eq (h.ok x hx)]
  rw [this]
set_option maxHeartbeats 4000000 in
theorem ido_0 {w : World} {D : Nat → Prop} {c : Nat} {l : List En} (now : Int) (kd lt r0 r1 r2 r3 : Int) (snm : ByteArray) (skd stt sad : Int) (sto : ByteArray) (hx : CaOk ⟨kd, lt, ⟨r0, r1, r2, r3⟩, ⟨snm, skd, stt, sad, sto⟩⟩) (HO0 : Own w D w [resI c l]) (hl : l.length ≤ 32) (h0 : kd = 0) :
    Calls Tryd.prog 15 #[.pointer (some ⟨c, 0, none⟩), .int .i64 now, .agg #[.int .i64 kd, .int .i64 lt, .int .i64 r0, .int .i64 r1, .int .i64 r2, .int .i64 r3, .string snm, .int .i64 skd, .int .i64 stt, .int .i64 sad, .string sto]] w (OPost w D [resI c (putRF now (recF ⟨r0, r1, r2, r3⟩) l)] (.int .i64 (putE now (recF ⟨r0, r1, r2, r3⟩))) w) := by
  have HX := Lib.hid hx
  have HL := Lib.hid hl
  have HO := Lib.hid HO0
  clear hx hl HO0
  subst h0
  obtain ⟨x1, hx1⟩ : ∃ y, w.alloc (.cells #[.int .i64 0, .int .i64 lt, .int .i64 r0, .int .i64 r1, .int .i64 r2, .int .i64 r3, .string snm, .int .i64 skd, .int .i64 stt, .int .i64 sad, .string sto] 36) = y := ⟨_, rfl⟩
  obtain ⟨bx, hbx⟩ : ∃ y, w.heap.size = y := ⟨_, rfl⟩
  have hO := HO.out.alloc (.cells #[.int .i64 0, .int .i64 lt, .int .i64 r0, .int .i64 r1, .int .i64 r2, .int .i64 r3, .string snm, .int .i64 skd, .int .i64 stt, .int .i64 sad, .string sto] 36)
  rw [hx1, hbx] at hO
  replace HO := Lib.hid (show Own w D x1 [resI c l, blkR bx (.cells #[.int .i64 0, .int .i64 lt, .int .i64 r0, .int .i64 r1, .int .i64 r2, .int .i64 r3, .string snm, .int .i64 skd, .int .i64 stt, .int .i64 sad, .string sto] 36)] from hO)
  clear hO
  have z1_0 : x1.cell? ⟨bx, 0, none⟩ = some (.int .i64 0) := HO.out.cell 1 rfl 0 rfl
  have z1_1 : x1.cell? ⟨bx, 1, none⟩ = some (.int .i64 lt) := HO.out.cell 1 rfl 1 rfl
  have z1_2 : x1.cell? ⟨bx, 2, none⟩ = some (.int .i64 r0) := HO.out.cell 1 rfl 2 rfl
  have z1_3 : x1.cell? ⟨bx, 3, none⟩ = some (.int .i64 r1) := HO.out.cell 1 rfl 3 rfl
  have z1_4 : x1.cell? ⟨bx, 4, none⟩ = some (.int .i64 r2) := HO.out.cell 1 rfl 4 rfl
  have z1_5 : x1.cell? ⟨bx, 5, none⟩ = some (.int .i64 r3) := HO.out.cell 1 rfl 5 rfl
  have z1_6 : x1.cell? ⟨bx, 6, none⟩ = some (.string snm) := HO.out.cell 1 rfl 6 rfl
  have z1_7 : x1.cell? ⟨bx, 7, none⟩ = some (.int .i64 skd) := HO.out.cell 1 rfl 7 rfl
  have z1_8 : x1.cell? ⟨bx, 8, none⟩ = some (.int .i64 stt) := HO.out.cell 1 rfl 8 rfl
  have z1_9 : x1.cell? ⟨bx, 9, none⟩ = some (.int .i64 sad) := HO.out.cell 1 rfl 9 rfl
  have z1_10 : x1.cell? ⟨bx, 10, none⟩ = some (.string sto) := HO.out.cell 1 rfl 10 rfl
  go_enter Tryd.func15, Tryd.ntmps15
  obtain ⟨rc, hrc⟩ : ∃ rc, recF ⟨r0, r1, r2, r3⟩ = rc := ⟨_, rfl⟩
  have HRC := Lib.hid hrc
  have HRK := Lib.hid (show rc.nm.size ≤ maxLen ∧ rc.to.size ≤ maxLen by rw [← hrc]; exact recF_ok)
  clear hrc
  go_wp2_with fail
  refine (rec_r HRC.out HX.out.rw _).mono ?_
  rintro e x7 ⟨rfl, hb⟩
  have hO := HO.out.stay hb
  replace HO := Lib.hid (show Own w D x7 [resI c l, blkR bx (.cells #[.int .i64 0, .int .i64 lt, .int .i64 r0, .int .i64 r1, .int .i64 r2, .int .i64 r3, .string snm, .int .i64 skd, .int .i64 stt, .int .i64 sad, .string sto] 36)] from hO)
  clear hO hb
  clear hx1 hbx z1_0 z1_1 z1_2 z1_3 z1_4 z1_5 z1_6 z1_7 z1_8 z1_9 z1_10
  obtain ⟨c0, c1, c2, c3, c4⟩ := rc
  go_wp2_with fail
  refine (iput_o now ⟨c0, c1, c2, c3, c4⟩ HO.out 0 rfl HL.out).mono ?_
  rintro e x2 ⟨rfl, hO, -⟩
  replace HO := Lib.hid (show Own w D x2 [resI c (putRF now ⟨c0, c1, c2, c3, c4⟩ l), blkR bx (.cells #[.int .i64 0, .int .i64 lt, .int .i64 r0, .int .i64 r1, .int .i64 r2, .int .i64 r3, .string snm, .int .i64 skd, .int .i64 stt, .int .i64 sad, .string sto] 36)] from hO)
  clear hO
  go_wp2
  go_ret
  exact ⟨by rw [HRC.out]; rfl, by rw [HRC.out]; exact HO.out.take 1, HO.out.size⟩
set_option maxHeartbeats 4000000 in
theorem ido_1 {w : World} {D : Nat → Prop} {c : Nat} {l : List En} (now : Int) (kd lt r0 r1 r2 r3 : Int) (snm : ByteArray) (skd stt sad : Int) (sto : ByteArray) (hx : CaOk ⟨kd, lt, ⟨r0, r1, r2, r3⟩, ⟨snm, skd, stt, sad, sto⟩⟩) (HO0 : Own w D w [resI c l]) (hl : l.length ≤ 32) (h0 : kd = 1) :
    Calls Tryd.prog 15 #[.pointer (some ⟨c, 0, none⟩), .int .i64 now, .agg #[.int .i64 kd, .int .i64 lt, .int .i64 r0, .int .i64 r1, .int .i64 r2, .int .i64 r3, .string snm, .int .i64 skd, .int .i64 stt, .int .i64 sad, .string sto]] w (OPost w D [resI c (putRF now ⟨snm, skd, stt, sad, sto⟩ l)] (.int .i64 (putE now ⟨snm, skd, stt, sad, sto⟩)) w) := by
  have HX := Lib.hid hx
  have HL := Lib.hid hl
  have HO := Lib.hid HO0
  clear hx hl HO0
  subst h0
  obtain ⟨x1, hx1⟩ : ∃ y, w.alloc (.cells #[.int .i64 1, .int .i64 lt, .int .i64 r0, .int .i64 r1, .int .i64 r2, .int .i64 r3, .string snm, .int .i64 skd, .int .i64 stt, .int .i64 sad, .string sto] 36) = y := ⟨_, rfl⟩
  obtain ⟨bx, hbx⟩ : ∃ y, w.heap.size = y := ⟨_, rfl⟩
  have hO := HO.out.alloc (.cells #[.int .i64 1, .int .i64 lt, .int .i64 r0, .int .i64 r1, .int .i64 r2, .int .i64 r3, .string snm, .int .i64 skd, .int .i64 stt, .int .i64 sad, .string sto] 36)
  rw [hx1, hbx] at hO
  replace HO := Lib.hid (show Own w D x1 [resI c l, blkR bx (.cells #[.int .i64 1, .int .i64 lt, .int .i64 r0, .int .i64 r1, .int .i64 r2, .int .i64 r3, .string snm, .int .i64 skd, .int .i64 stt, .int .i64 sad, .string sto] 36)] from hO)
  clear hO
  have z1_0 : x1.cell? ⟨bx, 0, none⟩ = some (.int .i64 1) := HO.out.cell 1 rfl 0 rfl
  have z1_1 : x1.cell? ⟨bx, 1, none⟩ = some (.int .i64 lt) := HO.out.cell 1 rfl 1 rfl
  have z1_2 : x1.cell? ⟨bx, 2, none⟩ = some (.int .i64 r0) := HO.out.cell 1 rfl 2 rfl
  have z1_3 : x1.cell? ⟨bx, 3, none⟩ = some (.int .i64 r1) := HO.out.cell 1 rfl 3 rfl
  have z1_4 : x1.cell? ⟨bx, 4, none⟩ = some (.int .i64 r2) := HO.out.cell 1 rfl 4 rfl
  have z1_5 : x1.cell? ⟨bx, 5, none⟩ = some (.int .i64 r3) := HO.out.cell 1 rfl 5 rfl
  have z1_6 : x1.cell? ⟨bx, 6, none⟩ = some (.string snm) := HO.out.cell 1 rfl 6 rfl
  have z1_7 : x1.cell? ⟨bx, 7, none⟩ = some (.int .i64 skd) := HO.out.cell 1 rfl 7 rfl
  have z1_8 : x1.cell? ⟨bx, 8, none⟩ = some (.int .i64 stt) := HO.out.cell 1 rfl 8 rfl
  have z1_9 : x1.cell? ⟨bx, 9, none⟩ = some (.int .i64 sad) := HO.out.cell 1 rfl 9 rfl
  have z1_10 : x1.cell? ⟨bx, 10, none⟩ = some (.string sto) := HO.out.cell 1 rfl 10 rfl
  go_enter Tryd.func15, Tryd.ntmps15
  go_wp2_with fail
  refine (iput_o now ⟨snm, skd, stt, sad, sto⟩ HO.out 0 rfl HL.out).mono ?_
  rintro e x2 ⟨rfl, hO, -⟩
  replace HO := Lib.hid (show Own w D x2 [resI c (putRF now ⟨snm, skd, stt, sad, sto⟩ l), blkR bx (.cells #[.int .i64 1, .int .i64 lt, .int .i64 r0, .int .i64 r1, .int .i64 r2, .int .i64 r3, .string snm, .int .i64 skd, .int .i64 stt, .int .i64 sad, .string sto] 36)] from hO)
  clear hO
  clear hx1 hbx z1_0 z1_1 z1_2 z1_3 z1_4 z1_5 z1_6 z1_7 z1_8 z1_9 z1_10
  go_wp2
  go_ret
  exact ⟨rfl, HO.out.take 1, HO.out.size⟩
set_option maxHeartbeats 4000000 in
theorem ido_2 {w : World} {D : Nat → Prop} {c : Nat} {l : List En} (now : Int) (kd lt r0 r1 r2 r3 : Int) (snm : ByteArray) (skd stt sad : Int) (sto : ByteArray) (hx : CaOk ⟨kd, lt, ⟨r0, r1, r2, r3⟩, ⟨snm, skd, stt, sad, sto⟩⟩) (HO0 : Own w D w [resI c l]) (hl : l.length ≤ 32) (h0 : kd = 2) :
    Calls Tryd.prog 15 #[.pointer (some ⟨c, 0, none⟩), .int .i64 now, .agg #[.int .i64 kd, .int .i64 lt, .int .i64 r0, .int .i64 r1, .int .i64 r2, .int .i64 r3, .string snm, .int .i64 skd, .int .i64 stt, .int .i64 sad, .string sto]] w (OPost w D [resI c (negF now (nmF r0) (pk r2 30) l)] (.int .i64 (negE now (nmF r0) (pk r2 30))) w) := by
  have HX := Lib.hid hx
  have HL := Lib.hid hl
  have HO := Lib.hid HO0
  clear hx hl HO0
  subst h0
  obtain ⟨x1, hx1⟩ : ∃ y, w.alloc (.cells #[.int .i64 2, .int .i64 lt, .int .i64 r0, .int .i64 r1, .int .i64 r2, .int .i64 r3, .string snm, .int .i64 skd, .int .i64 stt, .int .i64 sad, .string sto] 36) = y := ⟨_, rfl⟩
  obtain ⟨bx, hbx⟩ : ∃ y, w.heap.size = y := ⟨_, rfl⟩
  have hO := HO.out.alloc (.cells #[.int .i64 2, .int .i64 lt, .int .i64 r0, .int .i64 r1, .int .i64 r2, .int .i64 r3, .string snm, .int .i64 skd, .int .i64 stt, .int .i64 sad, .string sto] 36)
  rw [hx1, hbx] at hO
  replace HO := Lib.hid (show Own w D x1 [resI c l, blkR bx (.cells #[.int .i64 2, .int .i64 lt, .int .i64 r0, .int .i64 r1, .int .i64 r2, .int .i64 r3, .string snm, .int .i64 skd, .int .i64 stt, .int .i64 sad, .string sto] 36)] from hO)
  clear hO
  have z1_0 : x1.cell? ⟨bx, 0, none⟩ = some (.int .i64 2) := HO.out.cell 1 rfl 0 rfl
  have z1_1 : x1.cell? ⟨bx, 1, none⟩ = some (.int .i64 lt) := HO.out.cell 1 rfl 1 rfl
  have z1_2 : x1.cell? ⟨bx, 2, none⟩ = some (.int .i64 r0) := HO.out.cell 1 rfl 2 rfl
  have z1_3 : x1.cell? ⟨bx, 3, none⟩ = some (.int .i64 r1) := HO.out.cell 1 rfl 3 rfl
  have z1_4 : x1.cell? ⟨bx, 4, none⟩ = some (.int .i64 r2) := HO.out.cell 1 rfl 4 rfl
  have z1_5 : x1.cell? ⟨bx, 5, none⟩ = some (.int .i64 r3) := HO.out.cell 1 rfl 5 rfl
  have z1_6 : x1.cell? ⟨bx, 6, none⟩ = some (.string snm) := HO.out.cell 1 rfl 6 rfl
  have z1_7 : x1.cell? ⟨bx, 7, none⟩ = some (.int .i64 skd) := HO.out.cell 1 rfl 7 rfl
  have z1_8 : x1.cell? ⟨bx, 8, none⟩ = some (.int .i64 stt) := HO.out.cell 1 rfl 8 rfl
  have z1_9 : x1.cell? ⟨bx, 9, none⟩ = some (.int .i64 sad) := HO.out.cell 1 rfl 9 rfl
  have z1_10 : x1.cell? ⟨bx, 10, none⟩ = some (.string sto) := HO.out.cell 1 rfl 10 rfl
  go_enter Tryd.func15, Tryd.ntmps15
  obtain ⟨s, hs⟩ : ∃ s, nmF r0 = s := ⟨_, rfl⟩
  have HS := Lib.hid hs
  have HSM := Lib.hid (show s.size ≤ maxLen by rw [← hs]; exact nmF_max _)
  have HPK := Lib.hid (fun w => pick_b r2 30 w HX.out.rw.tt (by decide))
  obtain ⟨q, hq⟩ : ∃ q, pk r2 30 = q := ⟨_, rfl⟩
  have HQ := Lib.hid hq
  rw [hq] at HPK
  clear hs hq
  go_wp2
  clear hx1 hbx z1_0 z1_1 z1_2 z1_3 z1_4 z1_5 z1_6 z1_7 z1_8 z1_9 z1_10
  have g1_2 := cell_regrown (show x1.cell? ⟨bx, 2, none⟩ = some (.int .i64 r0) from HO.out.cell 1 rfl 2 rfl)
  have g1_4 := cell_regrown (show x1.cell? ⟨bx, 4, none⟩ = some (.int .i64 r2) from HO.out.cell 1 rfl 4 rfl)
  refine wp_region_R 10 (by kernel_rfl) (by kernel_rfl) ?_
  simp only [List.take, List.drop]
  iterate 5 (first | (refine wpR_want (by kernel_rfl) rfl rfl ?_; intro K hK; go_big_quiet_op; go_big_quiet_on) | (refine wpR_is (by kernel_rfl) rfl _ (fun w _ => rfl) ?_; simp only [Act.put, List.setIfInBounds_toArray, List.set_cons_succ, List.set_cons_zero]))
  refine wpR_call (by kernel_rfl) rfl 19 #[.int .i64 r0] (.string s) (fun w => by simp [go_sem]) (fun w _ => name_r HS.out HX.out.rw.nm w) ?_
  simp only [Act.put, List.setIfInBounds_toArray, List.set_cons_succ, List.set_cons_zero]
  iterate 3 (first | (refine wpR_want (by kernel_rfl) rfl rfl ?_; intro K hK; go_big_quiet_op; go_big_quiet_on) | (refine wpR_is (by kernel_rfl) rfl _ (fun w _ => rfl) ?_; simp only [Act.put, List.setIfInBounds_toArray, List.set_cons_succ, List.set_cons_zero]))
  refine wpR_call (by kernel_rfl) rfl 12 #[.int .i64 r2, .int .i64 30] (.int .i64 q) (fun w => by simp [go_sem]) (fun w _ => HPK.out w) ?_
  simp only [Act.put, List.setIfInBounds_toArray, List.set_cons_succ, List.set_cons_zero]
  refine wpR_nil (by kernel_rfl) (by simp) ?_
  rintro x5 hbw
  simp only [exAll]
  simp only [List.drop]
  have hO := HO.out.stay hbw
  replace HO := Lib.hid (show Own w D x5 [resI c l, blkR bx (.cells #[.int .i64 2, .int .i64 lt, .int .i64 r0, .int .i64 r1, .int .i64 r2, .int .i64 r3, .string snm, .int .i64 skd, .int .i64 stt, .int .i64 sad, .string sto] 36)] from hO)
  clear hO hbw g1_2 g1_4 
  go_wp2_with fail
  refine (ineg_o now s q HO.out 0 rfl HL.out).mono ?_
  rintro e x2 ⟨rfl, hO, -⟩
  replace HO := Lib.hid (show Own w D x2 [resI c (negF now s q l), blkR bx (.cells #[.int .i64 2, .int .i64 lt, .int .i64 r0, .int .i64 r1, .int .i64 r2, .int .i64 r3, .string snm, .int .i64 skd, .int .i64 stt, .int .i64 sad, .string sto] 36)] from hO)
  clear hO
  go_wp2
  go_ret
  exact ⟨by rw [HS.out, HQ.out]; rfl, by rw [HS.out, HQ.out]; exact HO.out.take 1, HO.out.size⟩
set_option maxHeartbeats 4000000 in
theorem ido_3 {w : World} {D : Nat → Prop} {c : Nat} {l : List En} (now : Int) (kd lt r0 r1 r2 r3 : Int) (snm : ByteArray) (skd stt sad : Int) (sto : ByteArray) (hx : CaOk ⟨kd, lt, ⟨r0, r1, r2, r3⟩, ⟨snm, skd, stt, sad, sto⟩⟩) (HO0 : Own w D w [resI c l]) (hl : l.length ≤ 32) (h0 : kd = 3) :
    Calls Tryd.prog 15 #[.pointer (some ⟨c, 0, none⟩), .int .i64 now, .agg #[.int .i64 kd, .int .i64 lt, .int .i64 r0, .int .i64 r1, .int .i64 r2, .int .i64 r3, .string snm, .int .i64 skd, .int .i64 stt, .int .i64 sad, .string sto]] w (OPost w D [resI c (negF now snm stt l)] (.int .i64 (negE now snm stt)) w) := by
  have HX := Lib.hid hx
  have HL := Lib.hid hl
  have HO := Lib.hid HO0
  clear hx hl HO0
  subst h0
  obtain ⟨x1, hx1⟩ : ∃ y, w.alloc (.cells #[.int .i64 3, .int .i64 lt, .int .i64 r0, .int .i64 r1, .int .i64 r2, .int .i64 r3, .string snm, .int .i64 skd, .int .i64 stt, .int .i64 sad, .string sto] 36) = y := ⟨_, rfl⟩
  obtain ⟨bx, hbx⟩ : ∃ y, w.heap.size = y := ⟨_, rfl⟩
  have hO := HO.out.alloc (.cells #[.int .i64 3, .int .i64 lt, .int .i64 r0, .int .i64 r1, .int .i64 r2, .int .i64 r3, .string snm, .int .i64 skd, .int .i64 stt, .int .i64 sad, .string sto] 36)
  rw [hx1, hbx] at hO
  replace HO := Lib.hid (show Own w D x1 [resI c l, blkR bx (.cells #[.int .i64 3, .int .i64 lt, .int .i64 r0, .int .i64 r1, .int .i64 r2, .int .i64 r3, .string snm, .int .i64 skd, .int .i64 stt, .int .i64 sad, .string sto] 36)] from hO)
  clear hO
  have z1_0 : x1.cell? ⟨bx, 0, none⟩ = some (.int .i64 3) := HO.out.cell 1 rfl 0 rfl
  have z1_1 : x1.cell? ⟨bx, 1, none⟩ = some (.int .i64 lt) := HO.out.cell 1 rfl 1 rfl
  have z1_2 : x1.cell? ⟨bx, 2, none⟩ = some (.int .i64 r0) := HO.out.cell 1 rfl 2 rfl
  have z1_3 : x1.cell? ⟨bx, 3, none⟩ = some (.int .i64 r1) := HO.out.cell 1 rfl 3 rfl
  have z1_4 : x1.cell? ⟨bx, 4, none⟩ = some (.int .i64 r2) := HO.out.cell 1 rfl 4 rfl
  have z1_5 : x1.cell? ⟨bx, 5, none⟩ = some (.int .i64 r3) := HO.out.cell 1 rfl 5 rfl
  have z1_6 : x1.cell? ⟨bx, 6, none⟩ = some (.string snm) := HO.out.cell 1 rfl 6 rfl
  have z1_7 : x1.cell? ⟨bx, 7, none⟩ = some (.int .i64 skd) := HO.out.cell 1 rfl 7 rfl
  have z1_8 : x1.cell? ⟨bx, 8, none⟩ = some (.int .i64 stt) := HO.out.cell 1 rfl 8 rfl
  have z1_9 : x1.cell? ⟨bx, 9, none⟩ = some (.int .i64 sad) := HO.out.cell 1 rfl 9 rfl
  have z1_10 : x1.cell? ⟨bx, 10, none⟩ = some (.string sto) := HO.out.cell 1 rfl 10 rfl
  go_enter Tryd.func15, Tryd.ntmps15
  go_wp2_with fail
  refine (ineg_o now snm stt HO.out 0 rfl HL.out).mono ?_
  rintro e x2 ⟨rfl, hO, -⟩
  replace HO := Lib.hid (show Own w D x2 [resI c (negF now snm stt l), blkR bx (.cells #[.int .i64 3, .int .i64 lt, .int .i64 r0, .int .i64 r1, .int .i64 r2, .int .i64 r3, .string snm, .int .i64 skd, .int .i64 stt, .int .i64 sad, .string sto] 36)] from hO)
  clear hO
  clear hx1 hbx z1_0 z1_1 z1_2 z1_3 z1_4 z1_5 z1_6 z1_7 z1_8 z1_9 z1_10
  go_wp2
  go_ret
  exact ⟨rfl, HO.out.take 1, HO.out.size⟩
set_option maxHeartbeats 4000000 in
theorem ido_4 {w : World} {D : Nat → Prop} {c : Nat} {l : List En} (now : Int) (kd lt r0 r1 r2 r3 : Int) (snm : ByteArray) (skd stt sad : Int) (sto : ByteArray) (hx : CaOk ⟨kd, lt, ⟨r0, r1, r2, r3⟩, ⟨snm, skd, stt, sad, sto⟩⟩) (HO0 : Own w D w [resI c l]) (hl : l.length ≤ 32) (h0 : kd ≠ 0) (h1 : kd ≠ 1) (h2 : kd ≠ 2) (h3 : kd ≠ 3) :
    Calls Tryd.prog 15 #[.pointer (some ⟨c, 0, none⟩), .int .i64 now, .agg #[.int .i64 kd, .int .i64 lt, .int .i64 r0, .int .i64 r1, .int .i64 r2, .int .i64 r3, .string snm, .int .i64 skd, .int .i64 stt, .int .i64 sad, .string sto]] w (OPost w D [resI c (tickF now l)] (.int .i64 (0)) w) := by
  have HX := Lib.hid hx
  have HL := Lib.hid hl
  have HO := Lib.hid HO0
  clear hx hl HO0
  have e0 : (kd == 0) = false := by simpa using h0
  have e1 : (kd == 1) = false := by simpa using h1
  have e2 : (kd == 2) = false := by simpa using h2
  have e3 : (kd == 3) = false := by simpa using h3
  clear h0 h1 h2 h3
  obtain ⟨x1, hx1⟩ : ∃ y, w.alloc (.cells #[.int .i64 kd, .int .i64 lt, .int .i64 r0, .int .i64 r1, .int .i64 r2, .int .i64 r3, .string snm, .int .i64 skd, .int .i64 stt, .int .i64 sad, .string sto] 36) = y := ⟨_, rfl⟩
  obtain ⟨bx, hbx⟩ : ∃ y, w.heap.size = y := ⟨_, rfl⟩
  have hO := HO.out.alloc (.cells #[.int .i64 kd, .int .i64 lt, .int .i64 r0, .int .i64 r1, .int .i64 r2, .int .i64 r3, .string snm, .int .i64 skd, .int .i64 stt, .int .i64 sad, .string sto] 36)
  rw [hx1, hbx] at hO
  replace HO := Lib.hid (show Own w D x1 [resI c l, blkR bx (.cells #[.int .i64 kd, .int .i64 lt, .int .i64 r0, .int .i64 r1, .int .i64 r2, .int .i64 r3, .string snm, .int .i64 skd, .int .i64 stt, .int .i64 sad, .string sto] 36)] from hO)
  clear hO
  have z1_0 : x1.cell? ⟨bx, 0, none⟩ = some (.int .i64 kd) := HO.out.cell 1 rfl 0 rfl
  have z1_1 : x1.cell? ⟨bx, 1, none⟩ = some (.int .i64 lt) := HO.out.cell 1 rfl 1 rfl
  have z1_2 : x1.cell? ⟨bx, 2, none⟩ = some (.int .i64 r0) := HO.out.cell 1 rfl 2 rfl
  have z1_3 : x1.cell? ⟨bx, 3, none⟩ = some (.int .i64 r1) := HO.out.cell 1 rfl 3 rfl
  have z1_4 : x1.cell? ⟨bx, 4, none⟩ = some (.int .i64 r2) := HO.out.cell 1 rfl 4 rfl
  have z1_5 : x1.cell? ⟨bx, 5, none⟩ = some (.int .i64 r3) := HO.out.cell 1 rfl 5 rfl
  have z1_6 : x1.cell? ⟨bx, 6, none⟩ = some (.string snm) := HO.out.cell 1 rfl 6 rfl
  have z1_7 : x1.cell? ⟨bx, 7, none⟩ = some (.int .i64 skd) := HO.out.cell 1 rfl 7 rfl
  have z1_8 : x1.cell? ⟨bx, 8, none⟩ = some (.int .i64 stt) := HO.out.cell 1 rfl 8 rfl
  have z1_9 : x1.cell? ⟨bx, 9, none⟩ = some (.int .i64 sad) := HO.out.cell 1 rfl 9 rfl
  have z1_10 : x1.cell? ⟨bx, 10, none⟩ = some (.string sto) := HO.out.cell 1 rfl 10 rfl
  go_enter Tryd.func15, Tryd.ntmps15
  go_wp2_with fail
  refine (itick_o now HO.out 0 rfl HL.out).mono ?_
  rintro e x2 ⟨rfl, hO, -⟩
  replace HO := Lib.hid (show Own w D x2 [resI c (tickF now l), blkR bx (.cells #[.int .i64 kd, .int .i64 lt, .int .i64 r0, .int .i64 r1, .int .i64 r2, .int .i64 r3, .string snm, .int .i64 skd, .int .i64 stt, .int .i64 sad, .string sto] 36)] from hO)
  clear hO
  clear hx1 hbx z1_0 z1_1 z1_2 z1_3 z1_4 z1_5 z1_6 z1_7 z1_8 z1_9 z1_10
  clear e0 e1 e2 e3
  go_wp2
  go_ret
  exact ⟨rfl, HO.out.take 1, HO.out.size⟩
theorem ido_o {w0 w : World} {D : Nat → Prop} {L : List Res} {c : Nat} {l : List En} {tl : Int} (now : Int) (x : Ca) (hx : CaOk x) (h : Own w0 D w L) (i : Nat) (hi : L[i]? = some (resI c l)) (hc : CInv tl l) :
    Calls Tryd.prog 15 #[.pointer (some ⟨c, 0, none⟩), .int .i64 now, caV x] w (OPost w0 D (L.set i (resI c (doF now x l))) (.int .i64 (doE now x)) w) := by
  have hl := hc.len
  refine o_one h hi fun D HO0 => ?_
  obtain ⟨kd, lt, ⟨r0, r1, r2, r3⟩, ⟨snm, skd, stt, sad, sto⟩⟩ := x
  unfold doF doE
  simp only
  rw [← putRF_eq hc, ← putRF_eq hc]
  by_cases h0 : kd = 0
  · rw [if_pos h0, if_pos h0]; exact ido_0 now kd lt r0 r1 r2 r3 snm skd stt sad sto hx HO0 hl h0
  · rw [if_neg h0, if_neg h0]
    by_cases h1 : kd = 1
    · rw [if_pos h1, if_pos h1]; exact ido_1 now kd lt r0 r1 r2 r3 snm skd stt sad sto hx HO0 hl h1
    · rw [if_neg h1, if_neg h1]
      by_cases h2 : kd = 2
      · rw [if_pos h2, if_pos h2]; exact ido_2 now kd lt r0 r1 r2 r3 snm skd stt sad sto hx HO0 hl h2
      · rw [if_neg h2, if_neg h2]
        by_cases h3 : kd = 3
        · rw [if_pos h3, if_pos h3]; exact ido_3 now kd lt r0 r1 r2 r3 snm skd stt sad sto hx HO0 hl h3
        · rw [if_neg h3, if_neg h3]; exact ido_4 now kd lt r0 r1 r2 r3 snm skd stt sad sto hx HO0 hl h0 h1 h2 h3
def smlB (r : Rc) : Bool := decide (r.nm.size ≤ 100) && decide (r.to.size ≤ 100)
theorem small_any (nm : ByteArray) (kd tt ad : Int) (to : ByteArray) (w : World) : Calls Tryd.prog 13 #[.agg #[.string nm, .int .i64 kd, .int .i64 tt, .int .i64 ad, .string to]] w (crPost (.bool (smlB ⟨nm, kd, tt, ad, to⟩)) w) := by
  have HO := Lib.hid (Own.nil w none0)
  obtain ⟨x1, hx1⟩ : ∃ y, w.alloc (.cells #[.string nm, .int .i64 kd, .int .i64 tt, .int .i64 ad, .string to] 34) = y := ⟨_, rfl⟩
  obtain ⟨bp, hbp⟩ : ∃ y, w.heap.size = y := ⟨_, rfl⟩
  have hO := HO.out.alloc (.cells #[.string nm, .int .i64 kd, .int .i64 tt, .int .i64 ad, .string to] 34)
  rw [hx1, hbp] at hO
  replace HO := Lib.hid (show Own w none0 x1 [blkR bp (.cells #[.string nm, .int .i64 kd, .int .i64 tt, .int .i64 ad, .string to] 34)] from hO)
  clear hO
  have z0_0 : x1.cell? ⟨bp, 0, none⟩ = some (.string nm) := HO.out.cell 0 rfl 0 rfl
  have z0_4 : x1.cell? ⟨bp, 4, none⟩ = some (.string to) := HO.out.cell 0 rfl 4 rfl
  by_cases h1 : nm.size ≤ 100
  · have e1 : (nm.size : Int) ≤ 100 := by omega
    by_cases h2 : to.size ≤ 100
    · have e2 : (to.size : Int) ≤ 100 := by omega
      have HV := Lib.hid (show smlB ⟨nm, kd, tt, ad, to⟩ = true by simp [smlB, h1, h2])
      go_enter Tryd.func13, Tryd.ntmps13
      go_wp2
      go_ret
      exact ⟨by rw [HV.out]; rfl, HO.out.below⟩
    · have e2 : ¬ (to.size : Int) ≤ 100 := by omega
      have HV := Lib.hid (show smlB ⟨nm, kd, tt, ad, to⟩ = false by simp [smlB, h1, h2])
      go_enter Tryd.func13, Tryd.ntmps13
      go_wp2
      go_ret
      exact ⟨by rw [HV.out]; rfl, HO.out.below⟩
  · have e1 : ¬ (nm.size : Int) ≤ 100 := by omega
    have HV := Lib.hid (show smlB ⟨nm, kd, tt, ad, to⟩ = false by simp [smlB, h1])
    go_enter Tryd.func13, Tryd.ntmps13
    go_wp2
    go_ret
    exact ⟨by rw [HV.out]; rfl, HO.out.below⟩
theorem small_r {nm : ByteArray} {kd tt ad : Int} {to : ByteArray} {b : Bool} (h : smlB ⟨nm, kd, tt, ad, to⟩ = b) (w : World) : Calls Tryd.prog 13 #[.agg #[.string nm, .int .i64 kd, .int .i64 tt, .int .i64 ad, .string to]] w fun e w' => e = .returned (.bool b) ∧ Below w.heap.size w w' := h ▸ small_any nm kd tt ad to w
theorem same_me {w : World} {v u : Value} {x : List Rc} {n : Nat} (hx : w.ownsRow 0 34 5 v n (x.flatMap cRc)) (hy : w.ownsRow 0 34 5 u n (x.flatMap cRc)) (hn : x.length = n) (hl : n ≤ 1000) :
    Calls Tryd.prog 21 #[v, u] w fun e w' => e = .returned (.bool true) ∧ Below w.heap.size w w' := by
  subst hn
  have h := same_any hx hy hl
  rwa [sameB_yes rfl] at h
def mnM (x y : Int) : Int := min x y
theorem run_mnM (x y : Int) (w : World) : (Builtin.min_ #[3, 3] 3 #[.int .i64 x, .int .i64 y]).run Tryd.prog w = .ok (.int .i64 (mnM x y)) w := by
  have e : mnM x y = if y < x then y else x := by unfold mnM; split <;> omega
  rw [e]
  simp [go_sem]
  exact e
theorem run_bC0 (w : World) : (Instr.build 29 #[]).run Tryd.prog w = .ok (.agg #[.slice none 0 0]) w := by kernel_rfl
theorem newI {w0 w : World} {D : Nat → Prop} {L : List Res} (h : Own w0 D w L) : Own w0 D (w.alloc (.cells #[.slice none 0 0] 29)) (L ++ [resI w.heap.size []]) := by
  have h0 := (Own.nil w none0).alloc (.cells #[.slice none 0 0] 29)
  have h1 := h0.rowNew 77 6
  exact h.joinC (shutI' (L := []) (l := []) h1)
theorem do_inv {t : Int} {x : Ca} {l : List En} (h : CInv t l) : CInv t (doF t x l) := h.doF x
theorem lookD_le {t now : Int} {s : ByteArray} {l : List En} (h : CInv t l) : (lookD now s l).length ≤ 32 := by
  rw [lookD_len]; exact Nat.le_trans (recs_len_le _ _ _) h.len
section
attribute [local go_sem ↓] run_mnM run_bC0
set_option maxRecDepth 100000 in
set_option maxHeartbeats 8000000 in
theorem match_walk (len : Nat) (g : Nat → Ca) (v : Value) (now : Int) (name : ByteArray) (a : Addr) (w : World) (hr : RdCa w v len g) (hnnow : i64B now) (hname : name.size ≤ maxLen) (hg : w.cell? ⟨errG, 0, none⟩ = some (errV a)) :
    Calls Tryd.prog 3 #[v, .int .i64 now, .string name] w fun e w' => e = .returned (.bool true) ∧ Below w.heap.size w w' := by
  have HG := Lib.hid hg
  have HR := Lib.hid hr
  have HP1 := Lib.hid (fun w => pick_b now 1000000010 w hnnow (by decide))
  have q3 := pk_bd now 1000000010 (by decide)
  obtain ⟨p0, hp0⟩ : ∃ y, pk now 1000000010 = y := ⟨_, rfl⟩
  rw [hp0] at HP1 q3
  obtain ⟨q31, q32⟩ := q3
  obtain ⟨p, cap, rfl, hcap, hlen, hok, hcell⟩ := hr
  have HK := Lib.hid hok
  have HC := Lib.hid hcell
  clear hok hcell hp0
  obtain ⟨nl, hnl⟩ : ∃ y : Nat, min name.size 100 = y := ⟨_, rfl⟩
  have hmn : mnM name.size 100 = nl := by unfold mnM; omega
  have hn0 : (0 : Int) ≤ (nl : Int) := by omega
  have hn1 : (nl : Int) ≤ (name.size : Int) := by omega
  have HNS := Lib.hid (show (name.extract 0 nl).size ≤ 100 by rw [ByteArray.size_extract]; omega)
  clear hg hnl hnnow hname
  have HO := Lib.hid (Own.nil w none0)
  go_enter Tryd.func3, Tryd.ntmps3
  have hsane := sane_o (w0 := w) (w := w) (a := a) (Own.nil _ _) (keep HO.out.below HG.out)
  go_wp2_with fail
  refine hsane.mono ?_
  rintro e x1 ⟨rfl, hO1, -⟩
  have hO := HO.out.stay hO1.below
  replace HO := Lib.hid (show Own w none0 x1 [] from hO)
  clear hO hO1 hsane
  go_wp2_with fail
  refine (cnew_o HO.out).mono ?_
  rintro e x2 ⟨c, rfl, hO, hs⟩
  replace HO := Lib.hid (show Own w none0 x2 [resC c []] from hO)
  clear hO hs hn0 hn1 hmn
  generalize name.extract 0 nl = s at *
  obtain ⟨x3, hx3⟩ : ∃ y, x2.alloc (.cells #[.slice none 0 0] 29) = y := ⟨_, rfl⟩
  obtain ⟨d, hd⟩ : ∃ y, x2.heap.size = y := ⟨_, rfl⟩
  have hO := newI HO.out
  rw [hx3, hd] at hO
  replace HO := Lib.hid (show Own w none0 x3 [resC c [], resI d []] from hO)
  clear hO
  go_wp2_with fail
  refine (o_still HO.out (HP1.out _)).mono ?_
  rintro e x4 ⟨rfl, hO, -⟩
  replace HO := Lib.hid (show Own w none0 x4 [resC c [], resI d []] from hO)
  clear hO
  clear hx3 hd
  go_wp2
  go_loopw [1, 10] (fun tv iv wr => ∃ (k : Nat) (tm : Int) (es : List En), k ≤ len ∧ k ≤ 40 ∧ iv = .int .i64 k ∧ tv = .int .i64 tm ∧ 0 ≤ tm ∧ tm ≤ 1000000010 + 8 * (k : Int) ∧ CInv tm es ∧ Own w none0 wr [resC c es, resI d es]) (fun _ iv _ => 40 - (intOf iv).toNat)
  case atStart => exact ⟨0, p0, [], Nat.zero_le _, Nat.zero_le _, rfl, rfl, q31, by omega, CInv.nil _, HO.out⟩
  case round =>
    obtain ⟨k, tm, es, hk1, hk2, rfl, rfl, ht1, ht2, hci, hO⟩ := hrel
    replace HO := Lib.hid hO
    have HCI := Lib.hid hci
    clear hO hci
    by_cases hlt : k < len
    · by_cases hlt4 : k < 40
      · have dk1 : decide ((k : Int) < (len : Int)) = true := decide_eq_true (by omega)
        have dk2 : decide ((k : Int) < 40) = true := decide_eq_true (by omega)
        obtain ⟨b, o, rfl, hcc⟩ := HC.out (by omega)
        have hok := HK.out k hlt
        have hcc := hcc k hlt
        have HD := Lib.hid (show ∀ (W : World), Below w.heap.size w W → ∀ j u, j < 11 → (caA (g k))[j]? = some u → W.cell? ⟨b, o + k * 11 + j, none⟩ = some u from fun W hb j u hj hu => keep hb ((hcc j hj).trans hu))
        have q3 := pk_bd (g k).lt 8 (by decide)
        have HP := Lib.hid (fun w => pick_b (g k).lt 8 w hok.lt (by decide))
        obtain ⟨pq, hpq⟩ : ∃ y, pk (g k).lt 8 = y := ⟨_, rfl⟩
        rw [hpq] at q3 HP
        obtain ⟨q31, q32⟩ := q3
        have HOK := Lib.hid hok
        clear hpq hok hcc
        generalize g k = x at *
        obtain ⟨kd, lt, ⟨r0, r1, r2, r3⟩, ⟨snm, skd, stt, sad, sto⟩⟩ := x
        have y0 : wr.cell? ⟨b, o + k * 11, none⟩ = some (.int .i64 kd) := HD.out wr HO.out.below 0 _ (by decide) rfl
        have y1 : wr.cell? ⟨b, o + k * 11 + 1, none⟩ = some (.int .i64 lt) := HD.out wr HO.out.below 1 _ (by decide) rfl
        have y2 : wr.cell? ⟨b, o + k * 11 + 2, none⟩ = some (.int .i64 r0) := HD.out wr HO.out.below 2 _ (by decide) rfl
        have y3 : wr.cell? ⟨b, o + k * 11 + 3, none⟩ = some (.int .i64 r1) := HD.out wr HO.out.below 3 _ (by decide) rfl
        have y4 : wr.cell? ⟨b, o + k * 11 + 4, none⟩ = some (.int .i64 r2) := HD.out wr HO.out.below 4 _ (by decide) rfl
        have y5 : wr.cell? ⟨b, o + k * 11 + 5, none⟩ = some (.int .i64 r3) := HD.out wr HO.out.below 5 _ (by decide) rfl
        have y6 : wr.cell? ⟨b, o + k * 11 + 6, none⟩ = some (.string snm) := HD.out wr HO.out.below 6 _ (by decide) rfl
        have y7 : wr.cell? ⟨b, o + k * 11 + 7, none⟩ = some (.int .i64 skd) := HD.out wr HO.out.below 7 _ (by decide) rfl
        have y8 : wr.cell? ⟨b, o + k * 11 + 8, none⟩ = some (.int .i64 stt) := HD.out wr HO.out.below 8 _ (by decide) rfl
        have y9 : wr.cell? ⟨b, o + k * 11 + 9, none⟩ = some (.int .i64 sad) := HD.out wr HO.out.below 9 _ (by decide) rfl
        have y10 : wr.cell? ⟨b, o + k * 11 + 10, none⟩ = some (.string sto) := HD.out wr HO.out.below 10 _ (by decide) rfl
        clear HD
        obtain ⟨x21, hx21⟩ : ∃ y, wr.alloc (.cells #[.int .i64 0, .int .i64 0, .int .i64 0, .int .i64 0, .int .i64 0, .int .i64 0, .string ⟨#[]⟩, .int .i64 0, .int .i64 0, .int .i64 0, .string ⟨#[]⟩] 36) = y := ⟨_, rfl⟩
        obtain ⟨bx, hbx⟩ : ∃ y, wr.heap.size = y := ⟨_, rfl⟩
        have hO := HO.out.alloc (.cells #[.int .i64 0, .int .i64 0, .int .i64 0, .int .i64 0, .int .i64 0, .int .i64 0, .string ⟨#[]⟩, .int .i64 0, .int .i64 0, .int .i64 0, .string ⟨#[]⟩] 36)
        rw [hx21, hbx] at hO
        replace HO := Lib.hid (show Own w none0 x21 [resC c es, resI d es, blkR bx (.cells #[.int .i64 0, .int .i64 0, .int .i64 0, .int .i64 0, .int .i64 0, .int .i64 0, .string ⟨#[]⟩, .int .i64 0, .int .i64 0, .int .i64 0, .string ⟨#[]⟩] 36)] from hO)
        clear hO
        have k2_0_22 : x21.cell? ⟨bx, 0, none⟩ = some (.int .i64 0) := HO.out.cell 2 rfl 0 rfl
        have lk2_0_22 : x21.frozen? ⟨bx, 0, none⟩ = false := HO.out.frz 2 rfl 0
        have k2_1_23 : x21.cell? ⟨bx, 1, none⟩ = some (.int .i64 0) := HO.out.cell 2 rfl 1 rfl
        have lk2_1_23 : x21.frozen? ⟨bx, 1, none⟩ = false := HO.out.frz 2 rfl 1
        have k2_2_24 : x21.cell? ⟨bx, 2, none⟩ = some (.int .i64 0) := HO.out.cell 2 rfl 2 rfl
        have lk2_2_24 : x21.frozen? ⟨bx, 2, none⟩ = false := HO.out.frz 2 rfl 2
        have k2_3_25 : x21.cell? ⟨bx, 3, none⟩ = some (.int .i64 0) := HO.out.cell 2 rfl 3 rfl
        have lk2_3_25 : x21.frozen? ⟨bx, 3, none⟩ = false := HO.out.frz 2 rfl 3
        have k2_4_26 : x21.cell? ⟨bx, 4, none⟩ = some (.int .i64 0) := HO.out.cell 2 rfl 4 rfl
        have lk2_4_26 : x21.frozen? ⟨bx, 4, none⟩ = false := HO.out.frz 2 rfl 4
        have k2_5_27 : x21.cell? ⟨bx, 5, none⟩ = some (.int .i64 0) := HO.out.cell 2 rfl 5 rfl
        have lk2_5_27 : x21.frozen? ⟨bx, 5, none⟩ = false := HO.out.frz 2 rfl 5
        have k2_6_28 : x21.cell? ⟨bx, 6, none⟩ = some (.string ⟨#[]⟩) := HO.out.cell 2 rfl 6 rfl
        have lk2_6_28 : x21.frozen? ⟨bx, 6, none⟩ = false := HO.out.frz 2 rfl 6
        have k2_7_29 : x21.cell? ⟨bx, 7, none⟩ = some (.int .i64 0) := HO.out.cell 2 rfl 7 rfl
        have lk2_7_29 : x21.frozen? ⟨bx, 7, none⟩ = false := HO.out.frz 2 rfl 7
        have k2_8_30 : x21.cell? ⟨bx, 8, none⟩ = some (.int .i64 0) := HO.out.cell 2 rfl 8 rfl
        have lk2_8_30 : x21.frozen? ⟨bx, 8, none⟩ = false := HO.out.frz 2 rfl 8
        have k2_9_31 : x21.cell? ⟨bx, 9, none⟩ = some (.int .i64 0) := HO.out.cell 2 rfl 9 rfl
        have lk2_9_31 : x21.frozen? ⟨bx, 9, none⟩ = false := HO.out.frz 2 rfl 9
        have k2_10_32 : x21.cell? ⟨bx, 10, none⟩ = some (.string ⟨#[]⟩) := HO.out.cell 2 rfl 10 rfl
        have lk2_10_32 : x21.frozen? ⟨bx, 10, none⟩ = false := HO.out.frz 2 rfl 10
        obtain ⟨x33, hx33⟩ : ∃ y, x21.setCell ⟨bx, 0, none⟩ (.int .i64 kd) = y := ⟨_, rfl⟩
        have hO := HO.out.setCell 2 rfl 0 (.int .i64 kd)
        rw [hx33] at hO
        replace HO := Lib.hid (show Own w none0 x33 [resC c es, resI d es, blkR bx (.cells #[.int .i64 kd, .int .i64 0, .int .i64 0, .int .i64 0, .int .i64 0, .int .i64 0, .string ⟨#[]⟩, .int .i64 0, .int .i64 0, .int .i64 0, .string ⟨#[]⟩] 36)] from hO)
        clear hO
        have k2_1_34 : x33.cell? ⟨bx, 1, none⟩ = some (.int .i64 0) := HO.out.cell 2 rfl 1 rfl
        have lk2_1_34 : x33.frozen? ⟨bx, 1, none⟩ = false := HO.out.frz 2 rfl 1
        have k2_2_35 : x33.cell? ⟨bx, 2, none⟩ = some (.int .i64 0) := HO.out.cell 2 rfl 2 rfl
        have lk2_2_35 : x33.frozen? ⟨bx, 2, none⟩ = false := HO.out.frz 2 rfl 2
        have k2_3_36 : x33.cell? ⟨bx, 3, none⟩ = some (.int .i64 0) := HO.out.cell 2 rfl 3 rfl
        have lk2_3_36 : x33.frozen? ⟨bx, 3, none⟩ = false := HO.out.frz 2 rfl 3
        have k2_4_37 : x33.cell? ⟨bx, 4, none⟩ = some (.int .i64 0) := HO.out.cell 2 rfl 4 rfl
        have lk2_4_37 : x33.frozen? ⟨bx, 4, none⟩ = false := HO.out.frz 2 rfl 4
        have k2_5_38 : x33.cell? ⟨bx, 5, none⟩ = some (.int .i64 0) := HO.out.cell 2 rfl 5 rfl
        have lk2_5_38 : x33.frozen? ⟨bx, 5, none⟩ = false := HO.out.frz 2 rfl 5
        have k2_6_39 : x33.cell? ⟨bx, 6, none⟩ = some (.string ⟨#[]⟩) := HO.out.cell 2 rfl 6 rfl
        have lk2_6_39 : x33.frozen? ⟨bx, 6, none⟩ = false := HO.out.frz 2 rfl 6
        have k2_7_40 : x33.cell? ⟨bx, 7, none⟩ = some (.int .i64 0) := HO.out.cell 2 rfl 7 rfl
        have lk2_7_40 : x33.frozen? ⟨bx, 7, none⟩ = false := HO.out.frz 2 rfl 7
        have k2_8_41 : x33.cell? ⟨bx, 8, none⟩ = some (.int .i64 0) := HO.out.cell 2 rfl 8 rfl
        have lk2_8_41 : x33.frozen? ⟨bx, 8, none⟩ = false := HO.out.frz 2 rfl 8
        have k2_9_42 : x33.cell? ⟨bx, 9, none⟩ = some (.int .i64 0) := HO.out.cell 2 rfl 9 rfl
        have lk2_9_42 : x33.frozen? ⟨bx, 9, none⟩ = false := HO.out.frz 2 rfl 9
        have k2_10_43 : x33.cell? ⟨bx, 10, none⟩ = some (.string ⟨#[]⟩) := HO.out.cell 2 rfl 10 rfl
        have lk2_10_43 : x33.frozen? ⟨bx, 10, none⟩ = false := HO.out.frz 2 rfl 10
        obtain ⟨x44, hx44⟩ : ∃ y, x33.setCell ⟨bx, 1, none⟩ (.int .i64 lt) = y := ⟨_, rfl⟩
        have hO := HO.out.setCell 2 rfl 1 (.int .i64 lt)
        rw [hx44] at hO
        replace HO := Lib.hid (show Own w none0 x44 [resC c es, resI d es, blkR bx (.cells #[.int .i64 kd, .int .i64 lt, .int .i64 0, .int .i64 0, .int .i64 0, .int .i64 0, .string ⟨#[]⟩, .int .i64 0, .int .i64 0, .int .i64 0, .string ⟨#[]⟩] 36)] from hO)
        clear hO
        have k2_2_45 : x44.cell? ⟨bx, 2, none⟩ = some (.int .i64 0) := HO.out.cell 2 rfl 2 rfl
        have lk2_2_45 : x44.frozen? ⟨bx, 2, none⟩ = false := HO.out.frz 2 rfl 2
        have k2_3_46 : x44.cell? ⟨bx, 3, none⟩ = some (.int .i64 0) := HO.out.cell 2 rfl 3 rfl
        have lk2_3_46 : x44.frozen? ⟨bx, 3, none⟩ = false := HO.out.frz 2 rfl 3
        have k2_4_47 : x44.cell? ⟨bx, 4, none⟩ = some (.int .i64 0) := HO.out.cell 2 rfl 4 rfl
        have lk2_4_47 : x44.frozen? ⟨bx, 4, none⟩ = false := HO.out.frz 2 rfl 4
        have k2_5_48 : x44.cell? ⟨bx, 5, none⟩ = some (.int .i64 0) := HO.out.cell 2 rfl 5 rfl
        have lk2_5_48 : x44.frozen? ⟨bx, 5, none⟩ = false := HO.out.frz 2 rfl 5
        have k2_6_49 : x44.cell? ⟨bx, 6, none⟩ = some (.string ⟨#[]⟩) := HO.out.cell 2 rfl 6 rfl
        have lk2_6_49 : x44.frozen? ⟨bx, 6, none⟩ = false := HO.out.frz 2 rfl 6
        have k2_7_50 : x44.cell? ⟨bx, 7, none⟩ = some (.int .i64 0) := HO.out.cell 2 rfl 7 rfl
        have lk2_7_50 : x44.frozen? ⟨bx, 7, none⟩ = false := HO.out.frz 2 rfl 7
        have k2_8_51 : x44.cell? ⟨bx, 8, none⟩ = some (.int .i64 0) := HO.out.cell 2 rfl 8 rfl
        have lk2_8_51 : x44.frozen? ⟨bx, 8, none⟩ = false := HO.out.frz 2 rfl 8
        have k2_9_52 : x44.cell? ⟨bx, 9, none⟩ = some (.int .i64 0) := HO.out.cell 2 rfl 9 rfl
        have lk2_9_52 : x44.frozen? ⟨bx, 9, none⟩ = false := HO.out.frz 2 rfl 9
        have k2_10_53 : x44.cell? ⟨bx, 10, none⟩ = some (.string ⟨#[]⟩) := HO.out.cell 2 rfl 10 rfl
        have lk2_10_53 : x44.frozen? ⟨bx, 10, none⟩ = false := HO.out.frz 2 rfl 10
        obtain ⟨x54, hx54⟩ : ∃ y, x44.setCell ⟨bx, 2, none⟩ (.int .i64 r0) = y := ⟨_, rfl⟩
        have hO := HO.out.setCell 2 rfl 2 (.int .i64 r0)
        rw [hx54] at hO
        replace HO := Lib.hid (show Own w none0 x54 [resC c es, resI d es, blkR bx (.cells #[.int .i64 kd, .int .i64 lt, .int .i64 r0, .int .i64 0, .int .i64 0, .int .i64 0, .string ⟨#[]⟩, .int .i64 0, .int .i64 0, .int .i64 0, .string ⟨#[]⟩] 36)] from hO)
        clear hO
        have k2_3_55 : x54.cell? ⟨bx, 3, none⟩ = some (.int .i64 0) := HO.out.cell 2 rfl 3 rfl
        have lk2_3_55 : x54.frozen? ⟨bx, 3, none⟩ = false := HO.out.frz 2 rfl 3
        have k2_4_56 : x54.cell? ⟨bx, 4, none⟩ = some (.int .i64 0) := HO.out.cell 2 rfl 4 rfl
        have lk2_4_56 : x54.frozen? ⟨bx, 4, none⟩ = false := HO.out.frz 2 rfl 4
        have k2_5_57 : x54.cell? ⟨bx, 5, none⟩ = some (.int .i64 0) := HO.out.cell 2 rfl 5 rfl
        have lk2_5_57 : x54.frozen? ⟨bx, 5, none⟩ = false := HO.out.frz 2 rfl 5
        have k2_6_58 : x54.cell? ⟨bx, 6, none⟩ = some (.string ⟨#[]⟩) := HO.out.cell 2 rfl 6 rfl
        have lk2_6_58 : x54.frozen? ⟨bx, 6, none⟩ = false := HO.out.frz 2 rfl 6
        have k2_7_59 : x54.cell? ⟨bx, 7, none⟩ = some (.int .i64 0) := HO.out.cell 2 rfl 7 rfl
        have lk2_7_59 : x54.frozen? ⟨bx, 7, none⟩ = false := HO.out.frz 2 rfl 7
        have k2_8_60 : x54.cell? ⟨bx, 8, none⟩ = some (.int .i64 0) := HO.out.cell 2 rfl 8 rfl
        have lk2_8_60 : x54.frozen? ⟨bx, 8, none⟩ = false := HO.out.frz 2 rfl 8
        have k2_9_61 : x54.cell? ⟨bx, 9, none⟩ = some (.int .i64 0) := HO.out.cell 2 rfl 9 rfl
        have lk2_9_61 : x54.frozen? ⟨bx, 9, none⟩ = false := HO.out.frz 2 rfl 9
        have k2_10_62 : x54.cell? ⟨bx, 10, none⟩ = some (.string ⟨#[]⟩) := HO.out.cell 2 rfl 10 rfl
        have lk2_10_62 : x54.frozen? ⟨bx, 10, none⟩ = false := HO.out.frz 2 rfl 10
        obtain ⟨x63, hx63⟩ : ∃ y, x54.setCell ⟨bx, 3, none⟩ (.int .i64 r1) = y := ⟨_, rfl⟩
        have hO := HO.out.setCell 2 rfl 3 (.int .i64 r1)
        rw [hx63] at hO
        replace HO := Lib.hid (show Own w none0 x63 [resC c es, resI d es, blkR bx (.cells #[.int .i64 kd, .int .i64 lt, .int .i64 r0, .int .i64 r1, .int .i64 0, .int .i64 0, .string ⟨#[]⟩, .int .i64 0, .int .i64 0, .int .i64 0, .string ⟨#[]⟩] 36)] from hO)
        clear hO
        have k2_4_64 : x63.cell? ⟨bx, 4, none⟩ = some (.int .i64 0) := HO.out.cell 2 rfl 4 rfl
        have lk2_4_64 : x63.frozen? ⟨bx, 4, none⟩ = false := HO.out.frz 2 rfl 4
        have k2_5_65 : x63.cell? ⟨bx, 5, none⟩ = some (.int .i64 0) := HO.out.cell 2 rfl 5 rfl
        have lk2_5_65 : x63.frozen? ⟨bx, 5, none⟩ = false := HO.out.frz 2 rfl 5
        have k2_6_66 : x63.cell? ⟨bx, 6, none⟩ = some (.string ⟨#[]⟩) := HO.out.cell 2 rfl 6 rfl
        have lk2_6_66 : x63.frozen? ⟨bx, 6, none⟩ = false := HO.out.frz 2 rfl 6
        have k2_7_67 : x63.cell? ⟨bx, 7, none⟩ = some (.int .i64 0) := HO.out.cell 2 rfl 7 rfl
        have lk2_7_67 : x63.frozen? ⟨bx, 7, none⟩ = false := HO.out.frz 2 rfl 7
        have k2_8_68 : x63.cell? ⟨bx, 8, none⟩ = some (.int .i64 0) := HO.out.cell 2 rfl 8 rfl
        have lk2_8_68 : x63.frozen? ⟨bx, 8, none⟩ = false := HO.out.frz 2 rfl 8
        have k2_9_69 : x63.cell? ⟨bx, 9, none⟩ = some (.int .i64 0) := HO.out.cell 2 rfl 9 rfl
        have lk2_9_69 : x63.frozen? ⟨bx, 9, none⟩ = false := HO.out.frz 2 rfl 9
        have k2_10_70 : x63.cell? ⟨bx, 10, none⟩ = some (.string ⟨#[]⟩) := HO.out.cell 2 rfl 10 rfl
        have lk2_10_70 : x63.frozen? ⟨bx, 10, none⟩ = false := HO.out.frz 2 rfl 10
        obtain ⟨x71, hx71⟩ : ∃ y, x63.setCell ⟨bx, 4, none⟩ (.int .i64 r2) = y := ⟨_, rfl⟩
        have hO := HO.out.setCell 2 rfl 4 (.int .i64 r2)
        rw [hx71] at hO
        replace HO := Lib.hid (show Own w none0 x71 [resC c es, resI d es, blkR bx (.cells #[.int .i64 kd, .int .i64 lt, .int .i64 r0, .int .i64 r1, .int .i64 r2, .int .i64 0, .string ⟨#[]⟩, .int .i64 0, .int .i64 0, .int .i64 0, .string ⟨#[]⟩] 36)] from hO)
        clear hO
        have k2_5_72 : x71.cell? ⟨bx, 5, none⟩ = some (.int .i64 0) := HO.out.cell 2 rfl 5 rfl
        have lk2_5_72 : x71.frozen? ⟨bx, 5, none⟩ = false := HO.out.frz 2 rfl 5
        have k2_6_73 : x71.cell? ⟨bx, 6, none⟩ = some (.string ⟨#[]⟩) := HO.out.cell 2 rfl 6 rfl
        have lk2_6_73 : x71.frozen? ⟨bx, 6, none⟩ = false := HO.out.frz 2 rfl 6
        have k2_7_74 : x71.cell? ⟨bx, 7, none⟩ = some (.int .i64 0) := HO.out.cell 2 rfl 7 rfl
        have lk2_7_74 : x71.frozen? ⟨bx, 7, none⟩ = false := HO.out.frz 2 rfl 7
        have k2_8_75 : x71.cell? ⟨bx, 8, none⟩ = some (.int .i64 0) := HO.out.cell 2 rfl 8 rfl
        have lk2_8_75 : x71.frozen? ⟨bx, 8, none⟩ = false := HO.out.frz 2 rfl 8
        have k2_9_76 : x71.cell? ⟨bx, 9, none⟩ = some (.int .i64 0) := HO.out.cell 2 rfl 9 rfl
        have lk2_9_76 : x71.frozen? ⟨bx, 9, none⟩ = false := HO.out.frz 2 rfl 9
        have k2_10_77 : x71.cell? ⟨bx, 10, none⟩ = some (.string ⟨#[]⟩) := HO.out.cell 2 rfl 10 rfl
        have lk2_10_77 : x71.frozen? ⟨bx, 10, none⟩ = false := HO.out.frz 2 rfl 10
        obtain ⟨x78, hx78⟩ : ∃ y, x71.setCell ⟨bx, 5, none⟩ (.int .i64 r3) = y := ⟨_, rfl⟩
        have hO := HO.out.setCell 2 rfl 5 (.int .i64 r3)
        rw [hx78] at hO
        replace HO := Lib.hid (show Own w none0 x78 [resC c es, resI d es, blkR bx (.cells #[.int .i64 kd, .int .i64 lt, .int .i64 r0, .int .i64 r1, .int .i64 r2, .int .i64 r3, .string ⟨#[]⟩, .int .i64 0, .int .i64 0, .int .i64 0, .string ⟨#[]⟩] 36)] from hO)
        clear hO
        have k2_6_79 : x78.cell? ⟨bx, 6, none⟩ = some (.string ⟨#[]⟩) := HO.out.cell 2 rfl 6 rfl
        have lk2_6_79 : x78.frozen? ⟨bx, 6, none⟩ = false := HO.out.frz 2 rfl 6
        have k2_7_80 : x78.cell? ⟨bx, 7, none⟩ = some (.int .i64 0) := HO.out.cell 2 rfl 7 rfl
        have lk2_7_80 : x78.frozen? ⟨bx, 7, none⟩ = false := HO.out.frz 2 rfl 7
        have k2_8_81 : x78.cell? ⟨bx, 8, none⟩ = some (.int .i64 0) := HO.out.cell 2 rfl 8 rfl
        have lk2_8_81 : x78.frozen? ⟨bx, 8, none⟩ = false := HO.out.frz 2 rfl 8
        have k2_9_82 : x78.cell? ⟨bx, 9, none⟩ = some (.int .i64 0) := HO.out.cell 2 rfl 9 rfl
        have lk2_9_82 : x78.frozen? ⟨bx, 9, none⟩ = false := HO.out.frz 2 rfl 9
        have k2_10_83 : x78.cell? ⟨bx, 10, none⟩ = some (.string ⟨#[]⟩) := HO.out.cell 2 rfl 10 rfl
        have lk2_10_83 : x78.frozen? ⟨bx, 10, none⟩ = false := HO.out.frz 2 rfl 10
        obtain ⟨x84, hx84⟩ : ∃ y, x78.setCell ⟨bx, 6, none⟩ (.string snm) = y := ⟨_, rfl⟩
        have hO := HO.out.setCell 2 rfl 6 (.string snm)
        rw [hx84] at hO
        replace HO := Lib.hid (show Own w none0 x84 [resC c es, resI d es, blkR bx (.cells #[.int .i64 kd, .int .i64 lt, .int .i64 r0, .int .i64 r1, .int .i64 r2, .int .i64 r3, .string snm, .int .i64 0, .int .i64 0, .int .i64 0, .string ⟨#[]⟩] 36)] from hO)
        clear hO
        have k2_7_85 : x84.cell? ⟨bx, 7, none⟩ = some (.int .i64 0) := HO.out.cell 2 rfl 7 rfl
        have lk2_7_85 : x84.frozen? ⟨bx, 7, none⟩ = false := HO.out.frz 2 rfl 7
        have k2_8_86 : x84.cell? ⟨bx, 8, none⟩ = some (.int .i64 0) := HO.out.cell 2 rfl 8 rfl
        have lk2_8_86 : x84.frozen? ⟨bx, 8, none⟩ = false := HO.out.frz 2 rfl 8
        have k2_9_87 : x84.cell? ⟨bx, 9, none⟩ = some (.int .i64 0) := HO.out.cell 2 rfl 9 rfl
        have lk2_9_87 : x84.frozen? ⟨bx, 9, none⟩ = false := HO.out.frz 2 rfl 9
        have k2_10_88 : x84.cell? ⟨bx, 10, none⟩ = some (.string ⟨#[]⟩) := HO.out.cell 2 rfl 10 rfl
        have lk2_10_88 : x84.frozen? ⟨bx, 10, none⟩ = false := HO.out.frz 2 rfl 10
        obtain ⟨x89, hx89⟩ : ∃ y, x84.setCell ⟨bx, 7, none⟩ (.int .i64 skd) = y := ⟨_, rfl⟩
        have hO := HO.out.setCell 2 rfl 7 (.int .i64 skd)
        rw [hx89] at hO
        replace HO := Lib.hid (show Own w none0 x89 [resC c es, resI d es, blkR bx (.cells #[.int .i64 kd, .int .i64 lt, .int .i64 r0, .int .i64 r1, .int .i64 r2, .int .i64 r3, .string snm, .int .i64 skd, .int .i64 0, .int .i64 0, .string ⟨#[]⟩] 36)] from hO)
        clear hO
        have k2_8_90 : x89.cell? ⟨bx, 8, none⟩ = some (.int .i64 0) := HO.out.cell 2 rfl 8 rfl
        have lk2_8_90 : x89.frozen? ⟨bx, 8, none⟩ = false := HO.out.frz 2 rfl 8
        have k2_9_91 : x89.cell? ⟨bx, 9, none⟩ = some (.int .i64 0) := HO.out.cell 2 rfl 9 rfl
        have lk2_9_91 : x89.frozen? ⟨bx, 9, none⟩ = false := HO.out.frz 2 rfl 9
        have k2_10_92 : x89.cell? ⟨bx, 10, none⟩ = some (.string ⟨#[]⟩) := HO.out.cell 2 rfl 10 rfl
        have lk2_10_92 : x89.frozen? ⟨bx, 10, none⟩ = false := HO.out.frz 2 rfl 10
        obtain ⟨x93, hx93⟩ : ∃ y, x89.setCell ⟨bx, 8, none⟩ (.int .i64 stt) = y := ⟨_, rfl⟩
        have hO := HO.out.setCell 2 rfl 8 (.int .i64 stt)
        rw [hx93] at hO
        replace HO := Lib.hid (show Own w none0 x93 [resC c es, resI d es, blkR bx (.cells #[.int .i64 kd, .int .i64 lt, .int .i64 r0, .int .i64 r1, .int .i64 r2, .int .i64 r3, .string snm, .int .i64 skd, .int .i64 stt, .int .i64 0, .string ⟨#[]⟩] 36)] from hO)
        clear hO
        have k2_9_94 : x93.cell? ⟨bx, 9, none⟩ = some (.int .i64 0) := HO.out.cell 2 rfl 9 rfl
        have lk2_9_94 : x93.frozen? ⟨bx, 9, none⟩ = false := HO.out.frz 2 rfl 9
        have k2_10_95 : x93.cell? ⟨bx, 10, none⟩ = some (.string ⟨#[]⟩) := HO.out.cell 2 rfl 10 rfl
        have lk2_10_95 : x93.frozen? ⟨bx, 10, none⟩ = false := HO.out.frz 2 rfl 10
        obtain ⟨x96, hx96⟩ : ∃ y, x93.setCell ⟨bx, 9, none⟩ (.int .i64 sad) = y := ⟨_, rfl⟩
        have hO := HO.out.setCell 2 rfl 9 (.int .i64 sad)
        rw [hx96] at hO
        replace HO := Lib.hid (show Own w none0 x96 [resC c es, resI d es, blkR bx (.cells #[.int .i64 kd, .int .i64 lt, .int .i64 r0, .int .i64 r1, .int .i64 r2, .int .i64 r3, .string snm, .int .i64 skd, .int .i64 stt, .int .i64 sad, .string ⟨#[]⟩] 36)] from hO)
        clear hO
        have k2_10_97 : x96.cell? ⟨bx, 10, none⟩ = some (.string ⟨#[]⟩) := HO.out.cell 2 rfl 10 rfl
        have lk2_10_97 : x96.frozen? ⟨bx, 10, none⟩ = false := HO.out.frz 2 rfl 10
        obtain ⟨x98, hx98⟩ : ∃ y, x96.setCell ⟨bx, 10, none⟩ (.string sto) = y := ⟨_, rfl⟩
        have hO := HO.out.setCell 2 rfl 10 (.string sto)
        rw [hx98] at hO
        replace HO := Lib.hid (show Own w none0 x98 [resC c es, resI d es, blkR bx (.cells #[.int .i64 kd, .int .i64 lt, .int .i64 r0, .int .i64 r1, .int .i64 r2, .int .i64 r3, .string snm, .int .i64 skd, .int .i64 stt, .int .i64 sad, .string sto] 36)] from hO)
        clear hO
        have z2_0 : x98.cell? ⟨bx, 0, none⟩ = some (.int .i64 kd) := HO.out.cell 2 rfl 0 rfl
        have z2_1 : x98.cell? ⟨bx, 1, none⟩ = some (.int .i64 lt) := HO.out.cell 2 rfl 1 rfl
        have z2_2 : x98.cell? ⟨bx, 2, none⟩ = some (.int .i64 r0) := HO.out.cell 2 rfl 2 rfl
        have z2_3 : x98.cell? ⟨bx, 3, none⟩ = some (.int .i64 r1) := HO.out.cell 2 rfl 3 rfl
        have z2_4 : x98.cell? ⟨bx, 4, none⟩ = some (.int .i64 r2) := HO.out.cell 2 rfl 4 rfl
        have z2_5 : x98.cell? ⟨bx, 5, none⟩ = some (.int .i64 r3) := HO.out.cell 2 rfl 5 rfl
        have z2_6 : x98.cell? ⟨bx, 6, none⟩ = some (.string snm) := HO.out.cell 2 rfl 6 rfl
        have z2_7 : x98.cell? ⟨bx, 7, none⟩ = some (.int .i64 skd) := HO.out.cell 2 rfl 7 rfl
        have z2_8 : x98.cell? ⟨bx, 8, none⟩ = some (.int .i64 stt) := HO.out.cell 2 rfl 8 rfl
        have z2_9 : x98.cell? ⟨bx, 9, none⟩ = some (.int .i64 sad) := HO.out.cell 2 rfl 9 rfl
        have z2_10 : x98.cell? ⟨bx, 10, none⟩ = some (.string sto) := HO.out.cell 2 rfl 10 rfl
        have hsum : tm + pq ≤ 1000000010 + 8 * (((k + 1 : Nat)) : Int) := by omega
        go_wp2_with fail
        refine (o_still HO.out (HP.out _)).mono ?_
        rintro e x99 ⟨rfl, hO, -⟩
        replace HO := Lib.hid (show Own w none0 x99 [resC c es, resI d es, blkR bx (.cells #[.int .i64 kd, .int .i64 lt, .int .i64 r0, .int .i64 r1, .int .i64 r2, .int .i64 r3, .string snm, .int .i64 skd, .int .i64 stt, .int .i64 sad, .string sto] 36)] from hO)
        clear hO
        clear y0 y1 y2 y3 y4 y5 y6 y7 y8 y9 y10 hx21 hbx k2_0_22 lk2_0_22 k2_1_23 lk2_1_23 k2_2_24 lk2_2_24 k2_3_25 lk2_3_25 k2_4_26 lk2_4_26 k2_5_27 lk2_5_27 k2_6_28 lk2_6_28 k2_7_29 lk2_7_29 k2_8_30 lk2_8_30 k2_9_31 lk2_9_31 k2_10_32 lk2_10_32 hx33 k2_1_34 lk2_1_34 k2_2_35 lk2_2_35 k2_3_36 lk2_3_36 k2_4_37 lk2_4_37 k2_5_38 lk2_5_38 k2_6_39 lk2_6_39 k2_7_40 lk2_7_40 k2_8_41 lk2_8_41 k2_9_42 lk2_9_42 k2_10_43 lk2_10_43 hx44 k2_2_45 lk2_2_45 k2_3_46 lk2_3_46 k2_4_47 lk2_4_47 k2_5_48 lk2_5_48 k2_6_49 lk2_6_49 k2_7_50 lk2_7_50 k2_8_51 lk2_8_51 k2_9_52 lk2_9_52 k2_10_53 lk2_10_53 hx54 k2_3_55 lk2_3_55 k2_4_56 lk2_4_56 k2_5_57 lk2_5_57 k2_6_58 lk2_6_58 k2_7_59 lk2_7_59 k2_8_60 lk2_8_60 k2_9_61 lk2_9_61 k2_10_62 lk2_10_62 hx63 k2_4_64 lk2_4_64 k2_5_65 lk2_5_65 k2_6_66 lk2_6_66 k2_7_67 lk2_7_67 k2_8_68 lk2_8_68 k2_9_69 lk2_9_69 k2_10_70 lk2_10_70 hx71 k2_5_72 lk2_5_72 k2_6_73 lk2_6_73 k2_7_74 lk2_7_74 k2_8_75 lk2_8_75 k2_9_76 lk2_9_76 k2_10_77 lk2_10_77 hx78 k2_6_79 lk2_6_79 k2_7_80 lk2_7_80 k2_8_81 lk2_8_81 k2_9_82 lk2_9_82 k2_10_83 lk2_10_83 hx84 k2_7_85 lk2_7_85 k2_8_86 lk2_8_86 k2_9_87 lk2_9_87 k2_10_88 lk2_10_88 hx89 k2_8_90 lk2_8_90 k2_9_91 lk2_9_91 k2_10_92 lk2_10_92 hx93 k2_9_94 lk2_9_94 k2_10_95 lk2_10_95 hx96 k2_10_97 lk2_10_97 hx98 z2_0 z2_1 z2_2 z2_3 z2_4 z2_5 z2_6 z2_7 z2_8 z2_9 z2_10
        obtain ⟨t2, htt⟩ : ∃ y, tm + pq = y := ⟨_, rfl⟩
        have ht0 : 0 ≤ t2 := by omega
        rw [htt] at hsum
        have HC2 := Lib.hid (show CInv t2 es from HCI.out.later (by omega))
        have hw2 : IntKind.i64.wrap (tm + pq) = t2 := by rw [htt]; exact IntWalk.i64_in _ (by omega)
        have z2_0 : x99.cell? ⟨bx, 0, none⟩ = some (.int .i64 kd) := HO.out.cell 2 rfl 0 rfl
        have z2_1 : x99.cell? ⟨bx, 1, none⟩ = some (.int .i64 lt) := HO.out.cell 2 rfl 1 rfl
        have z2_2 : x99.cell? ⟨bx, 2, none⟩ = some (.int .i64 r0) := HO.out.cell 2 rfl 2 rfl
        have z2_3 : x99.cell? ⟨bx, 3, none⟩ = some (.int .i64 r1) := HO.out.cell 2 rfl 3 rfl
        have z2_4 : x99.cell? ⟨bx, 4, none⟩ = some (.int .i64 r2) := HO.out.cell 2 rfl 4 rfl
        have z2_5 : x99.cell? ⟨bx, 5, none⟩ = some (.int .i64 r3) := HO.out.cell 2 rfl 5 rfl
        have z2_6 : x99.cell? ⟨bx, 6, none⟩ = some (.string snm) := HO.out.cell 2 rfl 6 rfl
        have z2_7 : x99.cell? ⟨bx, 7, none⟩ = some (.int .i64 skd) := HO.out.cell 2 rfl 7 rfl
        have z2_8 : x99.cell? ⟨bx, 8, none⟩ = some (.int .i64 stt) := HO.out.cell 2 rfl 8 rfl
        have z2_9 : x99.cell? ⟨bx, 9, none⟩ = some (.int .i64 sad) := HO.out.cell 2 rfl 9 rfl
        have z2_10 : x99.cell? ⟨bx, 10, none⟩ = some (.string sto) := HO.out.cell 2 rfl 10 rfl
        cases hsm : smlB ⟨snm, skd, stt, sad, sto⟩ with
        | false =>
          have HSM := Lib.hid hsm
          clear hsm
          go_wp2_with fail
          refine (o_still HO.out (small_r HSM.out _)).mono ?_
          rintro e x100 ⟨rfl, hO, -⟩
          replace HO := Lib.hid (show Own w none0 x100 [resC c es, resI d es, blkR bx (.cells #[.int .i64 kd, .int .i64 lt, .int .i64 r0, .int .i64 r1, .int .i64 r2, .int .i64 r3, .string snm, .int .i64 skd, .int .i64 stt, .int .i64 sad, .string sto] 36)] from hO)
          clear hO
          clear z2_0 z2_1 z2_2 z2_3 z2_4 z2_5 z2_6 z2_7 z2_8 z2_9 z2_10
          go_wp2
          go_ret
          exact ⟨rfl, HO.out.below⟩
        | true =>
          have HSM := Lib.hid hsm
          clear hsm
          go_wp2_with fail
          refine (o_still HO.out (small_r HSM.out _)).mono ?_
          rintro e x100 ⟨rfl, hO, -⟩
          replace HO := Lib.hid (show Own w none0 x100 [resC c es, resI d es, blkR bx (.cells #[.int .i64 kd, .int .i64 lt, .int .i64 r0, .int .i64 r1, .int .i64 r2, .int .i64 r3, .string snm, .int .i64 skd, .int .i64 stt, .int .i64 sad, .string sto] 36)] from hO)
          clear hO
          clear z2_0 z2_1 z2_2 z2_3 z2_4 z2_5 z2_6 z2_7 z2_8 z2_9 z2_10
          clear hw2 HSM htt
          have z2_0 : x100.cell? ⟨bx, 0, none⟩ = some (.int .i64 kd) := HO.out.cell 2 rfl 0 rfl
          have z2_1 : x100.cell? ⟨bx, 1, none⟩ = some (.int .i64 lt) := HO.out.cell 2 rfl 1 rfl
          have z2_2 : x100.cell? ⟨bx, 2, none⟩ = some (.int .i64 r0) := HO.out.cell 2 rfl 2 rfl
          have z2_3 : x100.cell? ⟨bx, 3, none⟩ = some (.int .i64 r1) := HO.out.cell 2 rfl 3 rfl
          have z2_4 : x100.cell? ⟨bx, 4, none⟩ = some (.int .i64 r2) := HO.out.cell 2 rfl 4 rfl
          have z2_5 : x100.cell? ⟨bx, 5, none⟩ = some (.int .i64 r3) := HO.out.cell 2 rfl 5 rfl
          have z2_6 : x100.cell? ⟨bx, 6, none⟩ = some (.string snm) := HO.out.cell 2 rfl 6 rfl
          have z2_7 : x100.cell? ⟨bx, 7, none⟩ = some (.int .i64 skd) := HO.out.cell 2 rfl 7 rfl
          have z2_8 : x100.cell? ⟨bx, 8, none⟩ = some (.int .i64 stt) := HO.out.cell 2 rfl 8 rfl
          have z2_9 : x100.cell? ⟨bx, 9, none⟩ = some (.int .i64 sad) := HO.out.cell 2 rfl 9 rfl
          have z2_10 : x100.cell? ⟨bx, 10, none⟩ = some (.string sto) := HO.out.cell 2 rfl 10 rfl
          go_wp2_with fail
          refine (do_o t2 ⟨kd, lt, ⟨r0, r1, r2, r3⟩, ⟨snm, skd, stt, sad, sto⟩⟩ HOK.out HO.out 0 rfl (keep HO.out.below HG.out) HC2.out.len).mono ?_
          rintro e x101 ⟨rfl, hO, -⟩
          replace HO := Lib.hid (show Own w none0 x101 [resC c (doF t2 ⟨kd, lt, ⟨r0, r1, r2, r3⟩, ⟨snm, skd, stt, sad, sto⟩⟩ es), resI d es, blkR bx (.cells #[.int .i64 kd, .int .i64 lt, .int .i64 r0, .int .i64 r1, .int .i64 r2, .int .i64 r3, .string snm, .int .i64 skd, .int .i64 stt, .int .i64 sad, .string sto] 36)] from hO)
          clear hO
          clear z2_0 z2_1 z2_2 z2_3 z2_4 z2_5 z2_6 z2_7 z2_8 z2_9 z2_10
          have z2_0 : x101.cell? ⟨bx, 0, none⟩ = some (.int .i64 kd) := HO.out.cell 2 rfl 0 rfl
          have z2_1 : x101.cell? ⟨bx, 1, none⟩ = some (.int .i64 lt) := HO.out.cell 2 rfl 1 rfl
          have z2_2 : x101.cell? ⟨bx, 2, none⟩ = some (.int .i64 r0) := HO.out.cell 2 rfl 2 rfl
          have z2_3 : x101.cell? ⟨bx, 3, none⟩ = some (.int .i64 r1) := HO.out.cell 2 rfl 3 rfl
          have z2_4 : x101.cell? ⟨bx, 4, none⟩ = some (.int .i64 r2) := HO.out.cell 2 rfl 4 rfl
          have z2_5 : x101.cell? ⟨bx, 5, none⟩ = some (.int .i64 r3) := HO.out.cell 2 rfl 5 rfl
          have z2_6 : x101.cell? ⟨bx, 6, none⟩ = some (.string snm) := HO.out.cell 2 rfl 6 rfl
          have z2_7 : x101.cell? ⟨bx, 7, none⟩ = some (.int .i64 skd) := HO.out.cell 2 rfl 7 rfl
          have z2_8 : x101.cell? ⟨bx, 8, none⟩ = some (.int .i64 stt) := HO.out.cell 2 rfl 8 rfl
          have z2_9 : x101.cell? ⟨bx, 9, none⟩ = some (.int .i64 sad) := HO.out.cell 2 rfl 9 rfl
          have z2_10 : x101.cell? ⟨bx, 10, none⟩ = some (.string sto) := HO.out.cell 2 rfl 10 rfl
          go_wp2_with fail
          refine (ido_o t2 ⟨kd, lt, ⟨r0, r1, r2, r3⟩, ⟨snm, skd, stt, sad, sto⟩⟩ HOK.out HO.out 1 rfl HC2.out).mono ?_
          rintro e x102 ⟨rfl, hO, -⟩
          replace HO := Lib.hid (show Own w none0 x102 [resC c (doF t2 ⟨kd, lt, ⟨r0, r1, r2, r3⟩, ⟨snm, skd, stt, sad, sto⟩⟩ es), resI d (doF t2 ⟨kd, lt, ⟨r0, r1, r2, r3⟩, ⟨snm, skd, stt, sad, sto⟩⟩ es), blkR bx (.cells #[.int .i64 kd, .int .i64 lt, .int .i64 r0, .int .i64 r1, .int .i64 r2, .int .i64 r3, .string snm, .int .i64 skd, .int .i64 stt, .int .i64 sad, .string sto] 36)] from hO)
          clear hO
          clear z2_0 z2_1 z2_2 z2_3 z2_4 z2_5 z2_6 z2_7 z2_8 z2_9 z2_10
          have HC3 := Lib.hid (HC2.out.doF ⟨kd, lt, ⟨r0, r1, r2, r3⟩, ⟨snm, skd, stt, sad, sto⟩⟩)
          obtain ⟨fs, hfs⟩ : ∃ y, doF t2 ⟨kd, lt, ⟨r0, r1, r2, r3⟩, ⟨snm, skd, stt, sad, sto⟩⟩ es = y := ⟨_, rfl⟩
          rw [hfs] at HC3 HO
          generalize doE t2 ⟨kd, lt, ⟨r0, r1, r2, r3⟩, ⟨snm, skd, stt, sad, sto⟩⟩ = ev
          obtain ⟨fl, hfl⟩ : ∃ y, fs.length = y := ⟨_, rfl⟩
          have HFL := Lib.hid hfl
          clear hfs hfl
          go_wp2_with fail
          refine (clen_r (n := fl) HO.out 0 rfl HFL.out).mono ?_
          rintro e x103 ⟨rfl, hO, -⟩
          replace HO := Lib.hid (show Own w none0 x103 [resC c fs, resI d fs, blkR bx (.cells #[.int .i64 kd, .int .i64 lt, .int .i64 r0, .int .i64 r1, .int .i64 r2, .int .i64 r3, .string snm, .int .i64 skd, .int .i64 stt, .int .i64 sad, .string sto] 36)] from hO)
          clear hO
          go_wp2_with fail
          refine (ilen_r (n := fl) HO.out 1 rfl HFL.out).mono ?_
          rintro e x104 ⟨rfl, hO, -⟩
          replace HO := Lib.hid (show Own w none0 x104 [resC c fs, resI d fs, blkR bx (.cells #[.int .i64 kd, .int .i64 lt, .int .i64 r0, .int .i64 r1, .int .i64 r2, .int .i64 r3, .string snm, .int .i64 skd, .int .i64 stt, .int .i64 sad, .string sto] 36)] from hO)
          clear hO
          go_wp2
          have hO := HO.out.take 2
          replace HO := Lib.hid (show Own w none0 x104 [resC c fs, resI d fs] from hO)
          clear hO
          go_loopw [14] (fun jv wq => ∃ j : Nat, j ≤ 5 ∧ jv = .int .i64 j ∧ Own w none0 wq [resC c fs, resI d fs]) (fun jv _ => 5 - (intOf jv).toNat)
          case atStart => exact ⟨0, Nat.zero_le _, rfl, HO.out⟩
          case round =>
            obtain ⟨j, hj, rfl, hO⟩ := hrel
            replace HO := Lib.hid hO
            clear hO
            by_cases hj5 : j < 5
            · have dj1 : decide ((j : Int) < 5) = true := decide_eq_true (by omega)
              have HNM := Lib.hid (fun w => name_any (j : Int) w (by unfold i64B; omega))
              generalize nmF (j : Int) = s5 at *
              have hjm : (j : Int).tmod 3 = (j : Int) % 3 := Int.tmod_eq_emod_of_nonneg (by omega)
              have hjb : 0 ≤ (j : Int).tmod 3 ∧ (j : Int).tmod 3 ≤ 2 := by rw [hjm]; omega
              have hw3 : IntKind.i64.wrap (t2 + (j : Int).tmod 3) = t2 + (j : Int).tmod 3 := IntWalk.i64_in _ (by omega)
              clear hjm
              obtain ⟨m, hm⟩ : ∃ y, lookD (t2 + (j : Int).tmod 3) s5 fs = y := ⟨_, rfl⟩
              obtain ⟨kn, hkn⟩ : ∃ y, knwD (t2 + (j : Int).tmod 3) s5 fs = y := ⟨_, rfl⟩
              have HM := Lib.hid hm
              have HKN := Lib.hid hkn
              have HML := Lib.hid (show m.length ≤ 32 by rw [← hm]; exact lookD_le HC3.out)
              clear hm hkn
              go_wp2_with fail
              refine (o_still HO.out (HNM.out _)).mono ?_
              rintro e x41 ⟨rfl, hO, -⟩
              replace HO := Lib.hid (show Own w none0 x41 [resC c fs, resI d fs] from hO)
              clear hO
              go_wp2_with fail
              refine (look_d (m := m) (k := kn) (t2 + (j : Int).tmod 3) s5 HO.out 0 rfl (HC3.out.len) (HC3.out.ap) HM.out HKN.out).mono ?_
              rintro e x42 ⟨p1, p1c, rfl, hO, -⟩
              replace HO := Lib.hid (show Own w none0 x42 [resC c fs, resI d fs, rowR (.slice p1 m.length p1c) 34 5 m.length (m.flatMap cRc)] from hO)
              clear hO
              obtain ⟨ml, hml⟩ : ∃ y, m.length = y := ⟨_, rfl⟩
              have HMN := Lib.hid hml
              rw [hml] at HO HML ⊢
              clear hml
              go_wp2_with fail
              refine (o_still HO.out (HNM.out _)).mono ?_
              rintro e x43 ⟨rfl, hO, -⟩
              replace HO := Lib.hid (show Own w none0 x43 [resC c fs, resI d fs, rowR (.slice p1 ml p1c) 34 5 ml (m.flatMap cRc)] from hO)
              clear hO
              go_wp2_with fail
              refine (ilook_d (m := m) (k := kn) (t2 + (j : Int).tmod 3) s5 HO.out 1 rfl HC3.out.len HC3.out.ap HM.out HKN.out).mono ?_
              rintro e x44 ⟨p2, p2c, rfl, hO, -⟩
              replace HO := Lib.hid (show Own w none0 x44 [resC c fs, resI d fs, rowR (.slice p1 ml p1c) 34 5 ml (m.flatMap cRc), rowR (.slice p2 m.length p2c) 34 5 m.length (m.flatMap cRc)] from hO)
              clear hO
              rw [HMN.out] at HO ⊢
              go_wp2_with fail
              refine (o_still HO.out (same_me (HO.out.row 2 rfl) (HO.out.row 3 rfl) HMN.out (by have := HML.out; omega))).mono ?_
              rintro e x45 ⟨rfl, hO, -⟩
              replace HO := Lib.hid (show Own w none0 x45 [resC c fs, resI d fs, rowR (.slice p1 ml p1c) 34 5 ml (m.flatMap cRc), rowR (.slice p2 ml p2c) 34 5 ml (m.flatMap cRc)] from hO)
              clear hO
              cases kn
              all_goals
                go_wp2
                go_roundw
                case rel => exact ⟨j + 1, by omega, by go_num, HO.out.take 2⟩
                case measure => simp [intOf]; omega
            · obtain rfl : j = 5 := by omega
              have dj1 : decide (((5 : Nat) : Int) < 5) = false := by decide
              obtain ⟨m, hm⟩ : ∃ y, lookD (t2) s fs = y := ⟨_, rfl⟩
              obtain ⟨kn, hkn⟩ : ∃ y, knwD (t2) s fs = y := ⟨_, rfl⟩
              have HM := Lib.hid hm
              have HKN := Lib.hid hkn
              have HML := Lib.hid (show m.length ≤ 32 by rw [← hm]; exact lookD_le HC3.out)
              clear hm hkn
              go_wp2_with fail
              refine (look_d (m := m) (k := kn) (t2) s HO.out 0 rfl (HC3.out.len) (HC3.out.ap) HM.out HKN.out).mono ?_
              rintro e x61 ⟨p1, p1c, rfl, hO, -⟩
              replace HO := Lib.hid (show Own w none0 x61 [resC c fs, resI d fs, rowR (.slice p1 m.length p1c) 34 5 m.length (m.flatMap cRc)] from hO)
              clear hO
              obtain ⟨ml, hml⟩ : ∃ y, m.length = y := ⟨_, rfl⟩
              have HMN := Lib.hid hml
              rw [hml] at HO HML ⊢
              clear hml
              go_wp2_with fail
              refine (ilook_d (m := m) (k := kn) (t2) s HO.out 1 rfl HC3.out.len HC3.out.ap HM.out HKN.out).mono ?_
              rintro e x62 ⟨p2, p2c, rfl, hO, -⟩
              replace HO := Lib.hid (show Own w none0 x62 [resC c fs, resI d fs, rowR (.slice p1 ml p1c) 34 5 ml (m.flatMap cRc), rowR (.slice p2 m.length p2c) 34 5 m.length (m.flatMap cRc)] from hO)
              clear hO
              rw [HMN.out] at HO ⊢
              go_wp2_with fail
              refine (o_still HO.out (same_me (HO.out.row 2 rfl) (HO.out.row 3 rfl) HMN.out (by have := HML.out; omega))).mono ?_
              rintro e x63 ⟨rfl, hO, -⟩
              replace HO := Lib.hid (show Own w none0 x63 [resC c fs, resI d fs, rowR (.slice p1 ml p1c) 34 5 ml (m.flatMap cRc), rowR (.slice p2 ml p2c) 34 5 ml (m.flatMap cRc)] from hO)
              clear hO
              cases kn
              all_goals
                go_wp2
                go_roundw
                case rel => exact ⟨k + 1, t2, fs, by omega, by omega, by go_num, rfl, by omega, hsum, HC3.out, HO.out.take 2⟩
                case measure => simp [intOf]; omega
      · obtain rfl : k = 40 := by omega
        have dk1 : decide (((40 : Nat) : Int) < (len : Int)) = true := decide_eq_true (by omega)
        go_wp2
        go_ret
        exact ⟨rfl, HO.out.below⟩
    · obtain rfl : k = len := by omega
      have dk1 : decide ((k : Int) < (k : Int)) = false := decide_eq_false (by omega)
      go_wp2
      go_ret
      exact ⟨rfl, HO.out.below⟩
end

end Go.Proofs.YtapeljiopbkjlaaDoor
