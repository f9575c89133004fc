/- Contracts of the laws' helpers of chapter 20: programDo, made. Printed by wip/tools/gen20o.py. Contract of made of chapter 20. Printed by wip/tools/gen20p.py. -/
import Derived.Test.YtapeljiopbkjlaaDoorCl1
import Derived.Test.YtapeljiopbkjlaaDoorCneg
import Derived.Test.YtapeljiopbkjlaaDoorCnl
namespace Go.Proofs.YtapeljiopbkjlaaDoor
open Go.RowKit Go.Sort
set_option linter.unusedVariables false
set_option maxRecDepth 100000

structure Ca where
  kd : Int
  lt : Int
  rw : Rw
  rr : Rc
abbrev caA (x : Ca) : Array Value := #[.int .i64 x.kd, .int .i64 x.lt, .int .i64 x.rw.nm, .int .i64 x.rw.kd, .int .i64 x.rw.tt, .int .i64 x.rw.ad, .string x.rr.nm, .int .i64 x.rr.kd, .int .i64 x.rr.tt, .int .i64 x.rr.ad, .string x.rr.to]
abbrev caV (x : Ca) : Value := .agg (caA x)
structure RcOk (x : Rc) : Prop where
  nm : x.nm.size ≤ maxLen
  kd : i64B x.kd
  tt : i64B x.tt
  ad : i64B x.ad
  to : x.to.size ≤ maxLen
structure CaOk (x : Ca) : Prop where
  kd : i64B x.kd
  lt : i64B x.lt
  rw : RwOk x.rw
  rr : RcOk x.rr
theorem recF_ok {x : Rw} : (recF x).nm.size ≤ maxLen ∧ (recF x).to.size ≤ maxLen := by
  unfold recF
  split
  · exact ⟨nmF_max _, nmF_max _⟩
  · exact ⟨nmF_max _, Nat.zero_le _⟩
def doF (now : Int) (x : Ca) (l : List En) : List En :=
  if x.kd = 0 then putF now (recF x.rw) l else if x.kd = 1 then putF now x.rr l else if x.kd = 2 then negF now (nmF x.rw.nm) (pk x.rw.tt 30) l else if x.kd = 3 then negF now x.rr.nm x.rr.tt l else tickF now l
def doE (now : Int) (x : Ca) : Int :=
  if x.kd = 0 then putE now (recF x.rw) else if x.kd = 1 then putE now x.rr else if x.kd = 2 then negE now (nmF x.rw.nm) (pk x.rw.tt 30) else if x.kd = 3 then negE now x.rr.nm x.rr.tt else 0
set_option maxHeartbeats 4000000 in
theorem do_0 {w : World} {D : Nat → Prop} {c : Nat} {l : List En} {a : Addr} (now : Int) (kd lt r0 r1 r2 r3 : Int) (snm : ByteArray) (skd stt sad : Int) (sto : ByteArray) (hx : CaOk ⟨kd, lt, ⟨r0, r1, r2, r3⟩, ⟨snm, skd, stt, sad, sto⟩⟩) (HO0 : Own w D w [resC c l]) (hg0 : w.cell? ⟨errG, 0, none⟩ = some (errV a)) (hl : l.length ≤ 32) (h0 : kd = 0) :
    Calls Tryd.prog 14 #[.pointer (some ⟨c, 0, none⟩), .int .i64 now, .agg #[.int .i64 kd, .int .i64 lt, .int .i64 r0, .int .i64 r1, .int .i64 r2, .int .i64 r3, .string snm, .int .i64 skd, .int .i64 stt, .int .i64 sad, .string sto]] w (OPost w D [resC c (putF now (recF ⟨r0, r1, r2, r3⟩) l)] (.int .i64 (putE now (recF ⟨r0, r1, r2, r3⟩))) w) := by
  have HX := Lib.hid hx
  have HL := Lib.hid hl
  have HO := Lib.hid HO0
  clear hx hl HO0
  subst h0
  obtain ⟨x1, hx1⟩ : ∃ y, w.alloc (.cells #[.int .i64 0, .int .i64 lt, .int .i64 r0, .int .i64 r1, .int .i64 r2, .int .i64 r3, .string snm, .int .i64 skd, .int .i64 stt, .int .i64 sad, .string sto] 36) = y := ⟨_, rfl⟩
  obtain ⟨bx, hbx⟩ : ∃ y, w.heap.size = y := ⟨_, rfl⟩
  have hO := HO.out.alloc (.cells #[.int .i64 0, .int .i64 lt, .int .i64 r0, .int .i64 r1, .int .i64 r2, .int .i64 r3, .string snm, .int .i64 skd, .int .i64 stt, .int .i64 sad, .string sto] 36)
  rw [hx1, hbx] at hO
  replace HO := Lib.hid (show Own w D x1 [resC c l, blkR bx (.cells #[.int .i64 0, .int .i64 lt, .int .i64 r0, .int .i64 r1, .int .i64 r2, .int .i64 r3, .string snm, .int .i64 skd, .int .i64 stt, .int .i64 sad, .string sto] 36)] from hO)
  clear hO
  have z1_0 : x1.cell? ⟨bx, 0, none⟩ = some (.int .i64 0) := HO.out.cell 1 rfl 0 rfl
  have z1_1 : x1.cell? ⟨bx, 1, none⟩ = some (.int .i64 lt) := HO.out.cell 1 rfl 1 rfl
  have z1_2 : x1.cell? ⟨bx, 2, none⟩ = some (.int .i64 r0) := HO.out.cell 1 rfl 2 rfl
  have z1_3 : x1.cell? ⟨bx, 3, none⟩ = some (.int .i64 r1) := HO.out.cell 1 rfl 3 rfl
  have z1_4 : x1.cell? ⟨bx, 4, none⟩ = some (.int .i64 r2) := HO.out.cell 1 rfl 4 rfl
  have z1_5 : x1.cell? ⟨bx, 5, none⟩ = some (.int .i64 r3) := HO.out.cell 1 rfl 5 rfl
  have z1_6 : x1.cell? ⟨bx, 6, none⟩ = some (.string snm) := HO.out.cell 1 rfl 6 rfl
  have z1_7 : x1.cell? ⟨bx, 7, none⟩ = some (.int .i64 skd) := HO.out.cell 1 rfl 7 rfl
  have z1_8 : x1.cell? ⟨bx, 8, none⟩ = some (.int .i64 stt) := HO.out.cell 1 rfl 8 rfl
  have z1_9 : x1.cell? ⟨bx, 9, none⟩ = some (.int .i64 sad) := HO.out.cell 1 rfl 9 rfl
  have z1_10 : x1.cell? ⟨bx, 10, none⟩ = some (.string sto) := HO.out.cell 1 rfl 10 rfl
  have HG := Lib.hid (keep (by rw [← hx1]; exact below_one _ _ : Below w.heap.size w x1) hg0)
  clear hg0
  go_enter Tryd.func14, Tryd.ntmps14
  obtain ⟨rc, hrc⟩ : ∃ rc, recF ⟨r0, r1, r2, r3⟩ = rc := ⟨_, rfl⟩
  have HRC := Lib.hid hrc
  have HRK := Lib.hid (show rc.nm.size ≤ maxLen ∧ rc.to.size ≤ maxLen by rw [← hrc]; exact recF_ok)
  clear hrc
  go_wp2_with fail
  refine (rec_r HRC.out HX.out.rw _).mono ?_
  rintro e x7 ⟨rfl, hb⟩
  replace HG := Lib.hid (keep hb HG.out)
  have hO := HO.out.stay hb
  replace HO := Lib.hid (show Own w D x7 [resC c l, blkR bx (.cells #[.int .i64 0, .int .i64 lt, .int .i64 r0, .int .i64 r1, .int .i64 r2, .int .i64 r3, .string snm, .int .i64 skd, .int .i64 stt, .int .i64 sad, .string sto] 36)] from hO)
  clear hO hb
  clear hx1 hbx z1_0 z1_1 z1_2 z1_3 z1_4 z1_5 z1_6 z1_7 z1_8 z1_9 z1_10
  obtain ⟨c0, c1, c2, c3, c4⟩ := rc
  go_wp2_with fail
  refine (put_o now ⟨c0, c1, c2, c3, c4⟩ HO.out 0 rfl HG.out HRK.out.1 HRK.out.2 HL.out).mono ?_
  rintro e x2 ⟨rfl, hO, -⟩
  replace HO := Lib.hid (show Own w D x2 [resC c (putF now ⟨c0, c1, c2, c3, c4⟩ l), blkR bx (.cells #[.int .i64 0, .int .i64 lt, .int .i64 r0, .int .i64 r1, .int .i64 r2, .int .i64 r3, .string snm, .int .i64 skd, .int .i64 stt, .int .i64 sad, .string sto] 36)] from hO)
  clear hO
  go_wp2
  go_ret
  exact ⟨by rw [HRC.out]; rfl, by rw [HRC.out]; exact HO.out.take 1, HO.out.size⟩
set_option maxHeartbeats 4000000 in
theorem do_1 {w : World} {D : Nat → Prop} {c : Nat} {l : List En} {a : Addr} (now : Int) (kd lt r0 r1 r2 r3 : Int) (snm : ByteArray) (skd stt sad : Int) (sto : ByteArray) (hx : CaOk ⟨kd, lt, ⟨r0, r1, r2, r3⟩, ⟨snm, skd, stt, sad, sto⟩⟩) (HO0 : Own w D w [resC c l]) (hg0 : w.cell? ⟨errG, 0, none⟩ = some (errV a)) (hl : l.length ≤ 32) (h0 : kd = 1) :
    Calls Tryd.prog 14 #[.pointer (some ⟨c, 0, none⟩), .int .i64 now, .agg #[.int .i64 kd, .int .i64 lt, .int .i64 r0, .int .i64 r1, .int .i64 r2, .int .i64 r3, .string snm, .int .i64 skd, .int .i64 stt, .int .i64 sad, .string sto]] w (OPost w D [resC c (putF now ⟨snm, skd, stt, sad, sto⟩ l)] (.int .i64 (putE now ⟨snm, skd, stt, sad, sto⟩)) w) := by
  have HX := Lib.hid hx
  have HL := Lib.hid hl
  have HO := Lib.hid HO0
  clear hx hl HO0
  subst h0
  obtain ⟨x1, hx1⟩ : ∃ y, w.alloc (.cells #[.int .i64 1, .int .i64 lt, .int .i64 r0, .int .i64 r1, .int .i64 r2, .int .i64 r3, .string snm, .int .i64 skd, .int .i64 stt, .int .i64 sad, .string sto] 36) = y := ⟨_, rfl⟩
  obtain ⟨bx, hbx⟩ : ∃ y, w.heap.size = y := ⟨_, rfl⟩
  have hO := HO.out.alloc (.cells #[.int .i64 1, .int .i64 lt, .int .i64 r0, .int .i64 r1, .int .i64 r2, .int .i64 r3, .string snm, .int .i64 skd, .int .i64 stt, .int .i64 sad, .string sto] 36)
  rw [hx1, hbx] at hO
  replace HO := Lib.hid (show Own w D x1 [resC c l, blkR bx (.cells #[.int .i64 1, .int .i64 lt, .int .i64 r0, .int .i64 r1, .int .i64 r2, .int .i64 r3, .string snm, .int .i64 skd, .int .i64 stt, .int .i64 sad, .string sto] 36)] from hO)
  clear hO
  have z1_0 : x1.cell? ⟨bx, 0, none⟩ = some (.int .i64 1) := HO.out.cell 1 rfl 0 rfl
  have z1_1 : x1.cell? ⟨bx, 1, none⟩ = some (.int .i64 lt) := HO.out.cell 1 rfl 1 rfl
  have z1_2 : x1.cell? ⟨bx, 2, none⟩ = some (.int .i64 r0) := HO.out.cell 1 rfl 2 rfl
  have z1_3 : x1.cell? ⟨bx, 3, none⟩ = some (.int .i64 r1) := HO.out.cell 1 rfl 3 rfl
  have z1_4 : x1.cell? ⟨bx, 4, none⟩ = some (.int .i64 r2) := HO.out.cell 1 rfl 4 rfl
  have z1_5 : x1.cell? ⟨bx, 5, none⟩ = some (.int .i64 r3) := HO.out.cell 1 rfl 5 rfl
  have z1_6 : x1.cell? ⟨bx, 6, none⟩ = some (.string snm) := HO.out.cell 1 rfl 6 rfl
  have z1_7 : x1.cell? ⟨bx, 7, none⟩ = some (.int .i64 skd) := HO.out.cell 1 rfl 7 rfl
  have z1_8 : x1.cell? ⟨bx, 8, none⟩ = some (.int .i64 stt) := HO.out.cell 1 rfl 8 rfl
  have z1_9 : x1.cell? ⟨bx, 9, none⟩ = some (.int .i64 sad) := HO.out.cell 1 rfl 9 rfl
  have z1_10 : x1.cell? ⟨bx, 10, none⟩ = some (.string sto) := HO.out.cell 1 rfl 10 rfl
  have HG := Lib.hid (keep (by rw [← hx1]; exact below_one _ _ : Below w.heap.size w x1) hg0)
  clear hg0
  go_enter Tryd.func14, Tryd.ntmps14
  go_wp2_with fail
  refine (put_o now ⟨snm, skd, stt, sad, sto⟩ HO.out 0 rfl HG.out HX.out.rr.nm HX.out.rr.to HL.out).mono ?_
  rintro e x2 ⟨rfl, hO, -⟩
  replace HO := Lib.hid (show Own w D x2 [resC c (putF now ⟨snm, skd, stt, sad, sto⟩ l), blkR bx (.cells #[.int .i64 1, .int .i64 lt, .int .i64 r0, .int .i64 r1, .int .i64 r2, .int .i64 r3, .string snm, .int .i64 skd, .int .i64 stt, .int .i64 sad, .string sto] 36)] from hO)
  clear hO
  clear hx1 hbx z1_0 z1_1 z1_2 z1_3 z1_4 z1_5 z1_6 z1_7 z1_8 z1_9 z1_10
  go_wp2
  go_ret
  exact ⟨rfl, HO.out.take 1, HO.out.size⟩
set_option maxHeartbeats 4000000 in
theorem do_2 {w : World} {D : Nat → Prop} {c : Nat} {l : List En} {a : Addr} (now : Int) (kd lt r0 r1 r2 r3 : Int) (snm : ByteArray) (skd stt sad : Int) (sto : ByteArray) (hx : CaOk ⟨kd, lt, ⟨r0, r1, r2, r3⟩, ⟨snm, skd, stt, sad, sto⟩⟩) (HO0 : Own w D w [resC c l]) (hg0 : w.cell? ⟨errG, 0, none⟩ = some (errV a)) (hl : l.length ≤ 32) (h0 : kd = 2) :
    Calls Tryd.prog 14 #[.pointer (some ⟨c, 0, none⟩), .int .i64 now, .agg #[.int .i64 kd, .int .i64 lt, .int .i64 r0, .int .i64 r1, .int .i64 r2, .int .i64 r3, .string snm, .int .i64 skd, .int .i64 stt, .int .i64 sad, .string sto]] w (OPost w D [resC c (negF now (nmF r0) (pk r2 30) l)] (.int .i64 (negE now (nmF r0) (pk r2 30))) w) := by
  have HX := Lib.hid hx
  have HL := Lib.hid hl
  have HO := Lib.hid HO0
  clear hx hl HO0
  subst h0
  obtain ⟨x1, hx1⟩ : ∃ y, w.alloc (.cells #[.int .i64 2, .int .i64 lt, .int .i64 r0, .int .i64 r1, .int .i64 r2, .int .i64 r3, .string snm, .int .i64 skd, .int .i64 stt, .int .i64 sad, .string sto] 36) = y := ⟨_, rfl⟩
  obtain ⟨bx, hbx⟩ : ∃ y, w.heap.size = y := ⟨_, rfl⟩
  have hO := HO.out.alloc (.cells #[.int .i64 2, .int .i64 lt, .int .i64 r0, .int .i64 r1, .int .i64 r2, .int .i64 r3, .string snm, .int .i64 skd, .int .i64 stt, .int .i64 sad, .string sto] 36)
  rw [hx1, hbx] at hO
  replace HO := Lib.hid (show Own w D x1 [resC c l, blkR bx (.cells #[.int .i64 2, .int .i64 lt, .int .i64 r0, .int .i64 r1, .int .i64 r2, .int .i64 r3, .string snm, .int .i64 skd, .int .i64 stt, .int .i64 sad, .string sto] 36)] from hO)
  clear hO
  have z1_0 : x1.cell? ⟨bx, 0, none⟩ = some (.int .i64 2) := HO.out.cell 1 rfl 0 rfl
  have z1_1 : x1.cell? ⟨bx, 1, none⟩ = some (.int .i64 lt) := HO.out.cell 1 rfl 1 rfl
  have z1_2 : x1.cell? ⟨bx, 2, none⟩ = some (.int .i64 r0) := HO.out.cell 1 rfl 2 rfl
  have z1_3 : x1.cell? ⟨bx, 3, none⟩ = some (.int .i64 r1) := HO.out.cell 1 rfl 3 rfl
  have z1_4 : x1.cell? ⟨bx, 4, none⟩ = some (.int .i64 r2) := HO.out.cell 1 rfl 4 rfl
  have z1_5 : x1.cell? ⟨bx, 5, none⟩ = some (.int .i64 r3) := HO.out.cell 1 rfl 5 rfl
  have z1_6 : x1.cell? ⟨bx, 6, none⟩ = some (.string snm) := HO.out.cell 1 rfl 6 rfl
  have z1_7 : x1.cell? ⟨bx, 7, none⟩ = some (.int .i64 skd) := HO.out.cell 1 rfl 7 rfl
  have z1_8 : x1.cell? ⟨bx, 8, none⟩ = some (.int .i64 stt) := HO.out.cell 1 rfl 8 rfl
  have z1_9 : x1.cell? ⟨bx, 9, none⟩ = some (.int .i64 sad) := HO.out.cell 1 rfl 9 rfl
  have z1_10 : x1.cell? ⟨bx, 10, none⟩ = some (.string sto) := HO.out.cell 1 rfl 10 rfl
  have HG := Lib.hid (keep (by rw [← hx1]; exact below_one _ _ : Below w.heap.size w x1) hg0)
  clear hg0
  go_enter Tryd.func14, Tryd.ntmps14
  obtain ⟨s, hs⟩ : ∃ s, nmF r0 = s := ⟨_, rfl⟩
  have HS := Lib.hid hs
  have HSM := Lib.hid (show s.size ≤ maxLen by rw [← hs]; exact nmF_max _)
  have HPK := Lib.hid (fun w => pick_b r2 30 w HX.out.rw.tt (by decide))
  obtain ⟨q, hq⟩ : ∃ q, pk r2 30 = q := ⟨_, rfl⟩
  have HQ := Lib.hid hq
  rw [hq] at HPK
  clear hs hq
  go_wp2
  clear hx1 hbx z1_0 z1_1 z1_2 z1_3 z1_4 z1_5 z1_6 z1_7 z1_8 z1_9 z1_10
  have g1_2 := cell_regrown (show x1.cell? ⟨bx, 2, none⟩ = some (.int .i64 r0) from HO.out.cell 1 rfl 2 rfl)
  have g1_4 := cell_regrown (show x1.cell? ⟨bx, 4, none⟩ = some (.int .i64 r2) from HO.out.cell 1 rfl 4 rfl)
  refine wp_region_R 10 (by kernel_rfl) (by kernel_rfl) ?_
  simp only [List.take, List.drop]
  iterate 5 (first | (refine wpR_want (by kernel_rfl) rfl rfl ?_; intro K hK; go_big_quiet_op; go_big_quiet_on) | (refine wpR_is (by kernel_rfl) rfl _ (fun w _ => rfl) ?_; simp only [Act.put, List.setIfInBounds_toArray, List.set_cons_succ, List.set_cons_zero]))
  refine wpR_call (by kernel_rfl) rfl 19 #[.int .i64 r0] (.string s) (fun w => by simp [go_sem]) (fun w _ => name_r HS.out HX.out.rw.nm w) ?_
  simp only [Act.put, List.setIfInBounds_toArray, List.set_cons_succ, List.set_cons_zero]
  iterate 3 (first | (refine wpR_want (by kernel_rfl) rfl rfl ?_; intro K hK; go_big_quiet_op; go_big_quiet_on) | (refine wpR_is (by kernel_rfl) rfl _ (fun w _ => rfl) ?_; simp only [Act.put, List.setIfInBounds_toArray, List.set_cons_succ, List.set_cons_zero]))
  refine wpR_call (by kernel_rfl) rfl 12 #[.int .i64 r2, .int .i64 30] (.int .i64 q) (fun w => by simp [go_sem]) (fun w _ => HPK.out w) ?_
  simp only [Act.put, List.setIfInBounds_toArray, List.set_cons_succ, List.set_cons_zero]
  refine wpR_nil (by kernel_rfl) (by simp) ?_
  rintro x5 hbw
  simp only [exAll]
  simp only [List.drop]
  have hO := HO.out.stay hbw
  replace HG := Lib.hid (keep hbw HG.out)
  replace HO := Lib.hid (show Own w D x5 [resC c l, blkR bx (.cells #[.int .i64 2, .int .i64 lt, .int .i64 r0, .int .i64 r1, .int .i64 r2, .int .i64 r3, .string snm, .int .i64 skd, .int .i64 stt, .int .i64 sad, .string sto] 36)] from hO)
  clear hO hbw g1_2 g1_4 
  go_wp2_with fail
  refine (neg_o now s q HO.out 0 rfl HG.out HSM.out HL.out).mono ?_
  rintro e x2 ⟨rfl, hO, -⟩
  replace HO := Lib.hid (show Own w D x2 [resC c (negF now s q l), blkR bx (.cells #[.int .i64 2, .int .i64 lt, .int .i64 r0, .int .i64 r1, .int .i64 r2, .int .i64 r3, .string snm, .int .i64 skd, .int .i64 stt, .int .i64 sad, .string sto] 36)] from hO)
  clear hO
  go_wp2
  go_ret
  exact ⟨by rw [HS.out, HQ.out]; rfl, by rw [HS.out, HQ.out]; exact HO.out.take 1, HO.out.size⟩
set_option maxHeartbeats 4000000 in
theorem do_3 {w : World} {D : Nat → Prop} {c : Nat} {l : List En} {a : Addr} (now : Int) (kd lt r0 r1 r2 r3 : Int) (snm : ByteArray) (skd stt sad : Int) (sto : ByteArray) (hx : CaOk ⟨kd, lt, ⟨r0, r1, r2, r3⟩, ⟨snm, skd, stt, sad, sto⟩⟩) (HO0 : Own w D w [resC c l]) (hg0 : w.cell? ⟨errG, 0, none⟩ = some (errV a)) (hl : l.length ≤ 32) (h0 : kd = 3) :
    Calls Tryd.prog 14 #[.pointer (some ⟨c, 0, none⟩), .int .i64 now, .agg #[.int .i64 kd, .int .i64 lt, .int .i64 r0, .int .i64 r1, .int .i64 r2, .int .i64 r3, .string snm, .int .i64 skd, .int .i64 stt, .int .i64 sad, .string sto]] w (OPost w D [resC c (negF now snm stt l)] (.int .i64 (negE now snm stt)) w) := by
  have HX := Lib.hid hx
  have HL := Lib.hid hl
  have HO := Lib.hid HO0
  clear hx hl HO0
  subst h0
  obtain ⟨x1, hx1⟩ : ∃ y, w.alloc (.cells #[.int .i64 3, .int .i64 lt, .int .i64 r0, .int .i64 r1, .int .i64 r2, .int .i64 r3, .string snm, .int .i64 skd, .int .i64 stt, .int .i64 sad, .string sto] 36) = y := ⟨_, rfl⟩
  obtain ⟨bx, hbx⟩ : ∃ y, w.heap.size = y := ⟨_, rfl⟩
  have hO := HO.out.alloc (.cells #[.int .i64 3, .int .i64 lt, .int .i64 r0, .int .i64 r1, .int .i64 r2, .int .i64 r3, .string snm, .int .i64 skd, .int .i64 stt, .int .i64 sad, .string sto] 36)
  rw [hx1, hbx] at hO
  replace HO := Lib.hid (show Own w D x1 [resC c l, blkR bx (.cells #[.int .i64 3, .int .i64 lt, .int .i64 r0, .int .i64 r1, .int .i64 r2, .int .i64 r3, .string snm, .int .i64 skd, .int .i64 stt, .int .i64 sad, .string sto] 36)] from hO)
  clear hO
  have z1_0 : x1.cell? ⟨bx, 0, none⟩ = some (.int .i64 3) := HO.out.cell 1 rfl 0 rfl
  have z1_1 : x1.cell? ⟨bx, 1, none⟩ = some (.int .i64 lt) := HO.out.cell 1 rfl 1 rfl
  have z1_2 : x1.cell? ⟨bx, 2, none⟩ = some (.int .i64 r0) := HO.out.cell 1 rfl 2 rfl
  have z1_3 : x1.cell? ⟨bx, 3, none⟩ = some (.int .i64 r1) := HO.out.cell 1 rfl 3 rfl
  have z1_4 : x1.cell? ⟨bx, 4, none⟩ = some (.int .i64 r2) := HO.out.cell 1 rfl 4 rfl
  have z1_5 : x1.cell? ⟨bx, 5, none⟩ = some (.int .i64 r3) := HO.out.cell 1 rfl 5 rfl
  have z1_6 : x1.cell? ⟨bx, 6, none⟩ = some (.string snm) := HO.out.cell 1 rfl 6 rfl
  have z1_7 : x1.cell? ⟨bx, 7, none⟩ = some (.int .i64 skd) := HO.out.cell 1 rfl 7 rfl
  have z1_8 : x1.cell? ⟨bx, 8, none⟩ = some (.int .i64 stt) := HO.out.cell 1 rfl 8 rfl
  have z1_9 : x1.cell? ⟨bx, 9, none⟩ = some (.int .i64 sad) := HO.out.cell 1 rfl 9 rfl
  have z1_10 : x1.cell? ⟨bx, 10, none⟩ = some (.string sto) := HO.out.cell 1 rfl 10 rfl
  have HG := Lib.hid (keep (by rw [← hx1]; exact below_one _ _ : Below w.heap.size w x1) hg0)
  clear hg0
  go_enter Tryd.func14, Tryd.ntmps14
  go_wp2_with fail
  refine (neg_o now snm stt HO.out 0 rfl HG.out HX.out.rr.nm HL.out).mono ?_
  rintro e x2 ⟨rfl, hO, -⟩
  replace HO := Lib.hid (show Own w D x2 [resC c (negF now snm stt l), blkR bx (.cells #[.int .i64 3, .int .i64 lt, .int .i64 r0, .int .i64 r1, .int .i64 r2, .int .i64 r3, .string snm, .int .i64 skd, .int .i64 stt, .int .i64 sad, .string sto] 36)] from hO)
  clear hO
  clear hx1 hbx z1_0 z1_1 z1_2 z1_3 z1_4 z1_5 z1_6 z1_7 z1_8 z1_9 z1_10
  go_wp2
  go_ret
  exact ⟨rfl, HO.out.take 1, HO.out.size⟩
set_option maxHeartbeats 4000000 in
theorem do_4 {w : World} {D : Nat → Prop} {c : Nat} {l : List En} {a : Addr} (now : Int) (kd lt r0 r1 r2 r3 : Int) (snm : ByteArray) (skd stt sad : Int) (sto : ByteArray) (hx : CaOk ⟨kd, lt, ⟨r0, r1, r2, r3⟩, ⟨snm, skd, stt, sad, sto⟩⟩) (HO0 : Own w D w [resC c l]) (hg0 : w.cell? ⟨errG, 0, none⟩ = some (errV a)) (hl : l.length ≤ 32) (h0 : kd ≠ 0) (h1 : kd ≠ 1) (h2 : kd ≠ 2) (h3 : kd ≠ 3) :
    Calls Tryd.prog 14 #[.pointer (some ⟨c, 0, none⟩), .int .i64 now, .agg #[.int .i64 kd, .int .i64 lt, .int .i64 r0, .int .i64 r1, .int .i64 r2, .int .i64 r3, .string snm, .int .i64 skd, .int .i64 stt, .int .i64 sad, .string sto]] w (OPost w D [resC c (tickF now l)] (.int .i64 (0)) w) := by
  have HX := Lib.hid hx
  have HL := Lib.hid hl
  have HO := Lib.hid HO0
  clear hx hl HO0
  have e0 : (kd == 0) = false := by simpa using h0
  have e1 : (kd == 1) = false := by simpa using h1
  have e2 : (kd == 2) = false := by simpa using h2
  have e3 : (kd == 3) = false := by simpa using h3
  clear h0 h1 h2 h3
  obtain ⟨x1, hx1⟩ : ∃ y, w.alloc (.cells #[.int .i64 kd, .int .i64 lt, .int .i64 r0, .int .i64 r1, .int .i64 r2, .int .i64 r3, .string snm, .int .i64 skd, .int .i64 stt, .int .i64 sad, .string sto] 36) = y := ⟨_, rfl⟩
  obtain ⟨bx, hbx⟩ : ∃ y, w.heap.size = y := ⟨_, rfl⟩
  have hO := HO.out.alloc (.cells #[.int .i64 kd, .int .i64 lt, .int .i64 r0, .int .i64 r1, .int .i64 r2, .int .i64 r3, .string snm, .int .i64 skd, .int .i64 stt, .int .i64 sad, .string sto] 36)
  rw [hx1, hbx] at hO
  replace HO := Lib.hid (show Own w D x1 [resC c l, blkR bx (.cells #[.int .i64 kd, .int .i64 lt, .int .i64 r0, .int .i64 r1, .int .i64 r2, .int .i64 r3, .string snm, .int .i64 skd, .int .i64 stt, .int .i64 sad, .string sto] 36)] from hO)
  clear hO
  have z1_0 : x1.cell? ⟨bx, 0, none⟩ = some (.int .i64 kd) := HO.out.cell 1 rfl 0 rfl
  have z1_1 : x1.cell? ⟨bx, 1, none⟩ = some (.int .i64 lt) := HO.out.cell 1 rfl 1 rfl
  have z1_2 : x1.cell? ⟨bx, 2, none⟩ = some (.int .i64 r0) := HO.out.cell 1 rfl 2 rfl
  have z1_3 : x1.cell? ⟨bx, 3, none⟩ = some (.int .i64 r1) := HO.out.cell 1 rfl 3 rfl
  have z1_4 : x1.cell? ⟨bx, 4, none⟩ = some (.int .i64 r2) := HO.out.cell 1 rfl 4 rfl
  have z1_5 : x1.cell? ⟨bx, 5, none⟩ = some (.int .i64 r3) := HO.out.cell 1 rfl 5 rfl
  have z1_6 : x1.cell? ⟨bx, 6, none⟩ = some (.string snm) := HO.out.cell 1 rfl 6 rfl
  have z1_7 : x1.cell? ⟨bx, 7, none⟩ = some (.int .i64 skd) := HO.out.cell 1 rfl 7 rfl
  have z1_8 : x1.cell? ⟨bx, 8, none⟩ = some (.int .i64 stt) := HO.out.cell 1 rfl 8 rfl
  have z1_9 : x1.cell? ⟨bx, 9, none⟩ = some (.int .i64 sad) := HO.out.cell 1 rfl 9 rfl
  have z1_10 : x1.cell? ⟨bx, 10, none⟩ = some (.string sto) := HO.out.cell 1 rfl 10 rfl
  have HG := Lib.hid (keep (by rw [← hx1]; exact below_one _ _ : Below w.heap.size w x1) hg0)
  clear hg0
  go_enter Tryd.func14, Tryd.ntmps14
  go_wp2_with fail
  refine (tick_o now HO.out 0 rfl (Nat.le_trans HL.out (by decide))).mono ?_
  rintro e x2 ⟨rfl, hO, -⟩
  replace HO := Lib.hid (show Own w D x2 [resC c (tickF now l), blkR bx (.cells #[.int .i64 kd, .int .i64 lt, .int .i64 r0, .int .i64 r1, .int .i64 r2, .int .i64 r3, .string snm, .int .i64 skd, .int .i64 stt, .int .i64 sad, .string sto] 36)] from hO)
  clear hO
  clear hx1 hbx z1_0 z1_1 z1_2 z1_3 z1_4 z1_5 z1_6 z1_7 z1_8 z1_9 z1_10
  clear e0 e1 e2 e3
  go_wp2
  go_ret
  exact ⟨rfl, HO.out.take 1, HO.out.size⟩
theorem do_o {w0 w : World} {D : Nat → Prop} {L : List Res} {c : Nat} {l : List En} {a : Addr} (now : Int) (x : Ca) (hx : CaOk x) (h : Own w0 D w L) (i : Nat) (hi : L[i]? = some (resC c l)) (hg : w.cell? ⟨errG, 0, none⟩ = some (errV a)) (hl : l.length ≤ 32) :
    Calls Tryd.prog 14 #[.pointer (some ⟨c, 0, none⟩), .int .i64 now, caV x] w (OPost w0 D (L.set i (resC c (doF now x l))) (.int .i64 (doE now x)) w) := by
  refine o_one h hi fun D HO0 => ?_
  obtain ⟨kd, lt, ⟨r0, r1, r2, r3⟩, ⟨snm, skd, stt, sad, sto⟩⟩ := x
  unfold doF doE
  simp only
  by_cases h0 : kd = 0
  · rw [if_pos h0, if_pos h0]; exact do_0 now kd lt r0 r1 r2 r3 snm skd stt sad sto hx HO0 hg hl h0
  · rw [if_neg h0, if_neg h0]
    by_cases h1 : kd = 1
    · rw [if_pos h1, if_pos h1]; exact do_1 now kd lt r0 r1 r2 r3 snm skd stt sad sto hx HO0 hg hl h1
    · rw [if_neg h1, if_neg h1]
      by_cases h2 : kd = 2
      · rw [if_pos h2, if_pos h2]; exact do_2 now kd lt r0 r1 r2 r3 snm skd stt sad sto hx HO0 hg hl h2
      · rw [if_neg h2, if_neg h2]
        by_cases h3 : kd = 3
        · rw [if_pos h3, if_pos h3]; exact do_3 now kd lt r0 r1 r2 r3 snm skd stt sad sto hx HO0 hg hl h3
        · rw [if_neg h3, if_neg h3]; exact do_4 now kd lt r0 r1 r2 r3 snm skd stt sad sto hx HO0 hg hl h0 h1 h2 h3

end Go.Proofs.YtapeljiopbkjlaaDoor

namespace Go.Proofs.YtapeljiopbkjlaaDoor
open Go.RowKit Go.Sort
set_option linter.unusedVariables false
set_option maxRecDepth 100000

/-- A slice of calls that came in. -/
def RdCa (w : World) (v : Value) (len : Nat) (g : Nat → Ca) : Prop :=
  ∃ a cap, v = .slice a len cap ∧ len ≤ cap ∧ len ≤ 9223372036854775807 ∧ (∀ i, i < len → CaOk (g i)) ∧ (len ≠ 0 → ∃ b o, a = some ⟨b, o, none⟩ ∧ ∀ i, i < len → ∀ j, j < 11 → w.cell? ⟨b, o + i * 11 + j, none⟩ = (caA (g i))[j]?)
theorem RdCa.stay {w w' : World} {v : Value} {len : Nat} {g : Nat → Ca} (h : RdCa w v len g) (hb : Below w.heap.size w w') : RdCa w' v len g := by
  obtain ⟨a, cap, rfl, h1, h2, h3, h4⟩ := h
  refine ⟨a, cap, rfl, h1, h2, h3, fun hn => ?_⟩
  obtain ⟨b, o, rfl, hc⟩ := h4 hn
  refine ⟨b, o, rfl, fun i hi j hj => ?_⟩
  have := hc i hi j hj
  rw [Array.getElem?_eq_getElem (by simpa using hj)] at this ⊢
  exact keep hb this
def madeOn (x : Ca) : Bool := x.kd == 0 || x.kd == 2 || x.kd == 4
def madeS (now : Int) (g : Nat → Ca) : Nat → Int × List En
  | 0 => (pk now 1000000, [])
  | k + 1 => ((madeS now g k).1 + pk (g k).lt 8, if madeOn (g k) then doF ((madeS now g k).1 + pk (g k).lt 8) (g k) (madeS now g k).2 else (madeS now g k).2)
theorem storeF_len {l : List En} {e : En} (h : l.length ≤ 32) : (storeF l e).length ≤ 32 := by
  unfold storeF
  split
  · rw [List.length_append, evictF_len (by omega)]; simp; omega
  · simp; omega
theorem putF_len {now : Int} {r : Rc} {l : List En} (h : l.length ≤ 32) : (putF now r l).length ≤ 32 := by
  unfold putF
  split
  · exact storeF_len (Nat.le_trans (List.length_filter_le _ _) h)
  · exact h
theorem negF_len {now : Int} {nm : ByteArray} {tt : Int} {l : List En} (h : l.length ≤ 32) : (negF now nm tt l).length ≤ 32 := by
  unfold negF
  split
  · exact storeF_len (Nat.le_trans (List.length_filter_le _ _) h)
  · exact h
theorem tickF_len {now : Int} {l : List En} (h : l.length ≤ 32) : (tickF now l).length ≤ 32 := Nat.le_trans (List.length_filter_le _ _) h
theorem doF_len {now : Int} {x : Ca} {l : List En} (h : l.length ≤ 32) : (doF now x l).length ≤ 32 := by
  unfold doF
  split
  · exact putF_len h
  · split
    · exact putF_len h
    · split
      · exact negF_len h
      · split
        · exact negF_len h
        · exact tickF_len h
theorem madeS_len (now : Int) (g : Nat → Ca) : ∀ k, (madeS now g k).2.length ≤ 32
  | 0 => Nat.zero_le _
  | k + 1 => by
    have := madeS_len now g k
    simp only [madeS]
    split
    · exact doF_len this
    · exact this
theorem madeS_time (now : Int) (g : Nat → Ca) : ∀ k, 0 ≤ (madeS now g k).1 ∧ (madeS now g k).1 ≤ 1000000 + 8 * (k : Int)
  | 0 => by have := pk_bd now 1000000 (by decide); simp only [madeS]; omega
  | k + 1 => by
    have := madeS_time now g k
    have := pk_bd (g k).lt 8 (by decide)
    simp only [madeS]
    omega
def MadePost (w0 : World) (L : List Res) (tl : Int × List En) (w : World) (e : Ending) (w' : World) : Prop :=
  ∃ c, e = .returned (.tuple #[.pointer (some ⟨c, 0, none⟩), .int .i64 tl.1]) ∧ Own w0 none0 w' (L ++ [resC c tl.2]) ∧ w.heap.size ≤ w'.heap.size
set_option maxRecDepth 100000 in
set_option maxHeartbeats 8000000 in
theorem made_o {w0 w : World} {a : Addr} (len : Nat) (g : Nat → Ca) (v : Value) (now : Int) (hr : RdCa w0 v len g) (hnow : i64B now) (HO0 : Own w0 none0 w []) (hg0 : w0.cell? ⟨errG, 0, none⟩ = some (errV a)) :
    Calls Tryd.prog 23 #[v, .int .i64 now] w (MadePost w0 [] (madeS now g (min len 40)) w) := by
  have HR := Lib.hid hr
  have HO := Lib.hid HO0
  have HS := Lib.hid HO0.size
  have P1 := Lib.hid (fun w => pick_b now 1000000 w hnow (by decide))
  have HS0 := Lib.hid (show madeS now g 0 = (pk now 1000000, []) from rfl)
  have HW := Lib.hid (Nat.le_refl w.heap.size)
  have HG := Lib.hid hg0
  clear HO0 hnow hg0
  obtain ⟨p, cap, rfl, hcap, hlen, hok, hcell⟩ := hr
  have HK := Lib.hid hok
  have HC := Lib.hid hcell
  clear hok hcell
  go_enter Tryd.func23, Tryd.ntmps23
  go_wp2_with fail
  refine (cnew_o HO.out).mono ?_
  rintro e x1 ⟨c, rfl, hO, hs⟩
  replace HO := Lib.hid (show Own w0 none0 x1 [resC c []] from hO)
  replace HW := Lib.hid (show w.heap.size ≤ x1.heap.size from hs)
  clear hO hs
  go_wp2_with fail
  refine (o_still HO.out (P1.out _)).mono ?_
  rintro e x2 ⟨rfl, hO, hs⟩
  replace HO := Lib.hid hO
  replace HW := Lib.hid (Nat.le_trans HW.out hs)
  clear hO hs
  have ht0 := madeS_time now g 0
  rw [show pk now 1000000 = (madeS now g 0).1 by rw [HS0.out]] 
  go_wp2
  go_loopw [1, 7] (fun tv iv wr => ∃ k : Nat, k ≤ len ∧ k ≤ 40 ∧ iv = .int .i64 k ∧ tv = .int .i64 (madeS now g k).1 ∧ Own w0 none0 wr [resC c (madeS now g k).2] ∧ w.heap.size ≤ wr.heap.size) (fun _ iv _ => 40 - (intOf iv).toNat)
  case atStart => exact ⟨0, Nat.zero_le _, Nat.zero_le _, rfl, rfl, by rw [HS0.out]; exact HO.out, HW.out⟩
  case round =>
    obtain ⟨k, hk1, hk2, rfl, rfl, hO, hw⟩ := hrel
    replace HO := Lib.hid hO
    replace HW := Lib.hid hw
    clear hO hw ht0
    obtain ⟨ht1, ht2⟩ := madeS_time now g k
    have HLL := Lib.hid (madeS_len now g k)
    have HST := Lib.hid (show madeS now g (k + 1) = ((madeS now g k).1 + pk (g k).lt 8, if madeOn (g k) then doF ((madeS now g k).1 + pk (g k).lt 8) (g k) (madeS now g k).2 else (madeS now g k).2) from rfl)
    obtain ⟨tm, htm⟩ : ∃ y, (madeS now g k).1 = y := ⟨_, rfl⟩
    obtain ⟨l, hl⟩ : ∃ y, (madeS now g k).2 = y := ⟨_, rfl⟩
    rw [htm] at ht1 ht2
    rw [htm, hl] at HST
    rw [hl] at HO HLL
    rw [htm]
    have HTM := Lib.hid htm
    have HLE := Lib.hid hl
    clear htm hl
    by_cases hlt : k < len
    · by_cases hlt4 : k < 40
      · obtain ⟨b, o, rfl, hcc⟩ := HC.out (by omega)
        have hok := HK.out k hlt
        have hcc := hcc k hlt
        have HD := Lib.hid (show ∀ (W : World), Below w0.heap.size w0 W → ∀ j u, j < 11 → (caA (g k))[j]? = some u → W.cell? ⟨b, o + k * 11 + j, none⟩ = some u from fun W hb j u hj hu => keep hb ((hcc j hj).trans hu))
        have q3 := pk_bd (g k).lt 8 (by decide)
        have HP := Lib.hid (fun w => pick_b (g k).lt 8 w hok.lt (by decide))
        obtain ⟨pq, hpq⟩ : ∃ y, pk (g k).lt 8 = y := ⟨_, rfl⟩
        rw [hpq] at q3 HP HST
        obtain ⟨q31, q32⟩ := q3
        have HOK := Lib.hid hok
        clear hpq hok hcc
        generalize hgx : g k = x at *
        have HGX := Lib.hid hgx
        clear hgx
        obtain ⟨kd, lt, ⟨r0, r1, r2, r3⟩, ⟨snm, skd, stt, sad, sto⟩⟩ := x
        have y1 : wr.cell? ⟨b, o + k * 11 + 1, none⟩ = some (.int .i64 lt) := HD.out wr HO.out.below 1 _ (by decide) rfl
        go_wp2_with fail
        refine (o_still HO.out (HP.out _)).mono ?_
        rintro e x5 ⟨rfl, hO, hs⟩
        replace HO := Lib.hid hO
        replace HW := Lib.hid (Nat.le_trans HW.out hs)
        clear hO hs y1
        by_cases h0 : kd = 0
        · subst h0
          have HON := Lib.hid (show madeOn ⟨0, lt, ⟨r0, r1, r2, r3⟩, ⟨snm, skd, stt, sad, sto⟩⟩ = true from rfl)
          have y0 : x5.cell? ⟨b, o + k * 11, none⟩ = some (.int .i64 0) := HD.out x5 HO.out.below 0 _ (by decide) rfl
          have y1 : x5.cell? ⟨b, o + k * 11 + 1, none⟩ = some (.int .i64 lt) := HD.out x5 HO.out.below 1 _ (by decide) rfl
          have y2 : x5.cell? ⟨b, o + k * 11 + 2, none⟩ = some (.int .i64 r0) := HD.out x5 HO.out.below 2 _ (by decide) rfl
          have y3 : x5.cell? ⟨b, o + k * 11 + 3, none⟩ = some (.int .i64 r1) := HD.out x5 HO.out.below 3 _ (by decide) rfl
          have y4 : x5.cell? ⟨b, o + k * 11 + 4, none⟩ = some (.int .i64 r2) := HD.out x5 HO.out.below 4 _ (by decide) rfl
          have y5 : x5.cell? ⟨b, o + k * 11 + 5, none⟩ = some (.int .i64 r3) := HD.out x5 HO.out.below 5 _ (by decide) rfl
          have y6 : x5.cell? ⟨b, o + k * 11 + 6, none⟩ = some (.string snm) := HD.out x5 HO.out.below 6 _ (by decide) rfl
          have y7 : x5.cell? ⟨b, o + k * 11 + 7, none⟩ = some (.int .i64 skd) := HD.out x5 HO.out.below 7 _ (by decide) rfl
          have y8 : x5.cell? ⟨b, o + k * 11 + 8, none⟩ = some (.int .i64 stt) := HD.out x5 HO.out.below 8 _ (by decide) rfl
          have y9 : x5.cell? ⟨b, o + k * 11 + 9, none⟩ = some (.int .i64 sad) := HD.out x5 HO.out.below 9 _ (by decide) rfl
          have y10 : x5.cell? ⟨b, o + k * 11 + 10, none⟩ = some (.string sto) := HD.out x5 HO.out.below 10 _ (by decide) rfl
          go_wp2_with fail
          refine (do_o (tm + pq) ⟨0, lt, ⟨r0, r1, r2, r3⟩, ⟨snm, skd, stt, sad, sto⟩⟩ HOK.out HO.out 0 rfl (keep HO.out.below HG.out) HLL.out).mono ?_
          rintro e x6 ⟨rfl, hO, hs⟩
          replace HO := Lib.hid (show Own w0 none0 x6 [resC c (doF (tm + pq) ⟨0, lt, ⟨r0, r1, r2, r3⟩, ⟨snm, skd, stt, sad, sto⟩⟩ l)] from hO)
          replace HW := Lib.hid (Nat.le_trans HW.out hs)
          clear hO hs y0 y1 y2 y3 y4 y5 y6 y7 y8 y9 y10
          go_wp2
          go_roundw
          case rel => exact ⟨k + 1, by omega, by omega, by go_num, by rw [HST.out], by rw [HST.out, HON.out]; exact HO.out, HW.out⟩
          case measure => simp [intOf]; omega
        · by_cases h2 : kd = 2
          · subst h2
            have HON := Lib.hid (show madeOn ⟨2, lt, ⟨r0, r1, r2, r3⟩, ⟨snm, skd, stt, sad, sto⟩⟩ = true from rfl)
            have y0 : x5.cell? ⟨b, o + k * 11, none⟩ = some (.int .i64 2) := HD.out x5 HO.out.below 0 _ (by decide) rfl
            have y1 : x5.cell? ⟨b, o + k * 11 + 1, none⟩ = some (.int .i64 lt) := HD.out x5 HO.out.below 1 _ (by decide) rfl
            have y2 : x5.cell? ⟨b, o + k * 11 + 2, none⟩ = some (.int .i64 r0) := HD.out x5 HO.out.below 2 _ (by decide) rfl
            have y3 : x5.cell? ⟨b, o + k * 11 + 3, none⟩ = some (.int .i64 r1) := HD.out x5 HO.out.below 3 _ (by decide) rfl
            have y4 : x5.cell? ⟨b, o + k * 11 + 4, none⟩ = some (.int .i64 r2) := HD.out x5 HO.out.below 4 _ (by decide) rfl
            have y5 : x5.cell? ⟨b, o + k * 11 + 5, none⟩ = some (.int .i64 r3) := HD.out x5 HO.out.below 5 _ (by decide) rfl
            have y6 : x5.cell? ⟨b, o + k * 11 + 6, none⟩ = some (.string snm) := HD.out x5 HO.out.below 6 _ (by decide) rfl
            have y7 : x5.cell? ⟨b, o + k * 11 + 7, none⟩ = some (.int .i64 skd) := HD.out x5 HO.out.below 7 _ (by decide) rfl
            have y8 : x5.cell? ⟨b, o + k * 11 + 8, none⟩ = some (.int .i64 stt) := HD.out x5 HO.out.below 8 _ (by decide) rfl
            have y9 : x5.cell? ⟨b, o + k * 11 + 9, none⟩ = some (.int .i64 sad) := HD.out x5 HO.out.below 9 _ (by decide) rfl
            have y10 : x5.cell? ⟨b, o + k * 11 + 10, none⟩ = some (.string sto) := HD.out x5 HO.out.below 10 _ (by decide) rfl
            go_wp2_with fail
            refine (do_o (tm + pq) ⟨2, lt, ⟨r0, r1, r2, r3⟩, ⟨snm, skd, stt, sad, sto⟩⟩ HOK.out HO.out 0 rfl (keep HO.out.below HG.out) HLL.out).mono ?_
            rintro e x6 ⟨rfl, hO, hs⟩
            replace HO := Lib.hid (show Own w0 none0 x6 [resC c (doF (tm + pq) ⟨2, lt, ⟨r0, r1, r2, r3⟩, ⟨snm, skd, stt, sad, sto⟩⟩ l)] from hO)
            replace HW := Lib.hid (Nat.le_trans HW.out hs)
            clear hO hs y0 y1 y2 y3 y4 y5 y6 y7 y8 y9 y10
            go_wp2
            go_roundw
            case rel => exact ⟨k + 1, by omega, by omega, by go_num, by rw [HST.out], by rw [HST.out, HON.out]; exact HO.out, HW.out⟩
            case measure => simp [intOf]; omega
          · by_cases h4 : kd = 4
            · subst h4
              have HON := Lib.hid (show madeOn ⟨4, lt, ⟨r0, r1, r2, r3⟩, ⟨snm, skd, stt, sad, sto⟩⟩ = true from rfl)
              have y0 : x5.cell? ⟨b, o + k * 11, none⟩ = some (.int .i64 4) := HD.out x5 HO.out.below 0 _ (by decide) rfl
              have y1 : x5.cell? ⟨b, o + k * 11 + 1, none⟩ = some (.int .i64 lt) := HD.out x5 HO.out.below 1 _ (by decide) rfl
              have y2 : x5.cell? ⟨b, o + k * 11 + 2, none⟩ = some (.int .i64 r0) := HD.out x5 HO.out.below 2 _ (by decide) rfl
              have y3 : x5.cell? ⟨b, o + k * 11 + 3, none⟩ = some (.int .i64 r1) := HD.out x5 HO.out.below 3 _ (by decide) rfl
              have y4 : x5.cell? ⟨b, o + k * 11 + 4, none⟩ = some (.int .i64 r2) := HD.out x5 HO.out.below 4 _ (by decide) rfl
              have y5 : x5.cell? ⟨b, o + k * 11 + 5, none⟩ = some (.int .i64 r3) := HD.out x5 HO.out.below 5 _ (by decide) rfl
              have y6 : x5.cell? ⟨b, o + k * 11 + 6, none⟩ = some (.string snm) := HD.out x5 HO.out.below 6 _ (by decide) rfl
              have y7 : x5.cell? ⟨b, o + k * 11 + 7, none⟩ = some (.int .i64 skd) := HD.out x5 HO.out.below 7 _ (by decide) rfl
              have y8 : x5.cell? ⟨b, o + k * 11 + 8, none⟩ = some (.int .i64 stt) := HD.out x5 HO.out.below 8 _ (by decide) rfl
              have y9 : x5.cell? ⟨b, o + k * 11 + 9, none⟩ = some (.int .i64 sad) := HD.out x5 HO.out.below 9 _ (by decide) rfl
              have y10 : x5.cell? ⟨b, o + k * 11 + 10, none⟩ = some (.string sto) := HD.out x5 HO.out.below 10 _ (by decide) rfl
              go_wp2_with fail
              refine (do_o (tm + pq) ⟨4, lt, ⟨r0, r1, r2, r3⟩, ⟨snm, skd, stt, sad, sto⟩⟩ HOK.out HO.out 0 rfl (keep HO.out.below HG.out) HLL.out).mono ?_
              rintro e x6 ⟨rfl, hO, hs⟩
              replace HO := Lib.hid (show Own w0 none0 x6 [resC c (doF (tm + pq) ⟨4, lt, ⟨r0, r1, r2, r3⟩, ⟨snm, skd, stt, sad, sto⟩⟩ l)] from hO)
              replace HW := Lib.hid (Nat.le_trans HW.out hs)
              clear hO hs y0 y1 y2 y3 y4 y5 y6 y7 y8 y9 y10
              go_wp2
              go_roundw
              case rel => exact ⟨k + 1, by omega, by omega, by go_num, by rw [HST.out], by rw [HST.out, HON.out]; exact HO.out, HW.out⟩
              case measure => simp [intOf]; omega
            · have e0 : (kd == 0) = false := by simpa using h0
              have e2 : (kd == 2) = false := by simpa using h2
              have e4 : (kd == 4) = false := by simpa using h4
              have HON := Lib.hid (show madeOn ⟨kd, lt, ⟨r0, r1, r2, r3⟩, ⟨snm, skd, stt, sad, sto⟩⟩ = false by simp [madeOn, h0, h2, h4])
              clear h0 h2 h4
              have y0 : x5.cell? ⟨b, o + k * 11, none⟩ = some (.int .i64 kd) := HD.out x5 HO.out.below 0 _ (by decide) rfl
              go_wp2
              go_roundw
              case rel => exact ⟨k + 1, by omega, by omega, by go_num, by rw [HST.out], by rw [HST.out, HON.out]; exact HO.out, HW.out⟩
              case measure => simp [intOf]; omega
      · obtain rfl : k = 40 := by omega
        have HM := Lib.hid (show min len 40 = 40 by omega)
        go_wp2
        go_ret2
        exact ⟨c, by rw [HM.out, HTM.out]; rfl, by rw [HM.out, HLE.out]; exact HO.out, HW.out⟩
    · obtain rfl : k = len := by omega
      have HM := Lib.hid (show min k 40 = k by omega)
      go_wp2
      go_ret2
      exact ⟨c, by rw [HM.out, HTM.out]; rfl, by rw [HM.out, HLE.out]; exact HO.out, HW.out⟩

end Go.Proofs.YtapeljiopbkjlaaDoor
