/- Contract of Quoted. Printed by wip/tools/gen22i.py. -/
import Derived.Test.YthhoknhjbkkflaaFw8
namespace Go.Proofs.Ythhoknhjbkkflaa
open Go.RowKit Go.Sort
set_option linter.unusedVariables false

def quoF (now : Int) (x : Fl) (m : List (FK × Us)) : Bool := validF x && (getU (keyF x) (expF now m)).isSome
section
variable {w0 w : World} {D : Nat → Prop} {L : List Res} {f : Nat} {st : FSt}
set_option maxRecDepth 100000 in
set_option maxHeartbeats 8000000 in
theorem quoted_o {now : Int} {x : Fl} (h : Own w0 D w L) (i : Nat) (hi : L[i]? = some (resF f st)) (hI : FI st) (hnow : timeB now) :
    Calls Try.prog 17 #[.pointer (some ⟨f, 0, none⟩), .int .i64 now, flV x] w (OPost w0 D (L.set i (resF f ⟨st.rl, expF now st.m, st.ins⟩)) (.bool (quoF now x st.m)) w) := by
  refine o_one h hi fun D HO0 => ?_
  clear h hi
  have HI := Lib.hid hI
  have HNW := Lib.hid hnow
  clear hI hnow
  obtain ⟨rl, m, ins⟩ := st
  obtain ⟨m1, hm1⟩ : ∃ m1, expF now m = m1 := ⟨_, rfl⟩
  have HM1 := Lib.hid hm1
  obtain ⟨pr, he, hp, th, tp, sy, fi, rs, sq⟩ := x
  have HPI := Lib.hid (show validF ⟨pr, he, hp, th, tp, sy, fi, rs, sq⟩ = false → quoF now ⟨pr, he, hp, th, tp, sy, fi, rs, sq⟩ m = false from fun h => by unfold quoF; rw [h]; rfl)
  have HPN := Lib.hid (show validF ⟨pr, he, hp, th, tp, sy, fi, rs, sq⟩ = true → getU ⟨pr, he, hp, th, tp⟩ m1 = none → quoF now ⟨pr, he, hp, th, tp, sy, fi, rs, sq⟩ m = false from fun h hu => by unfold quoF; rw [h, hm1]; show (getU ⟨pr, he, hp, th, tp⟩ m1).isSome = false; rw [hu]; rfl)
  have HPS := Lib.hid (show validF ⟨pr, he, hp, th, tp, sy, fi, rs, sq⟩ = true → ∀ u, getU ⟨pr, he, hp, th, tp⟩ m1 = some u → quoF now ⟨pr, he, hp, th, tp, sy, fi, rs, sq⟩ m = true from fun h u hu => by unfold quoF; rw [h, hm1]; show (getU ⟨pr, he, hp, th, tp⟩ m1).isSome = true; rw [hu]; rfl)
  obtain ⟨qb, hqb⟩ : ∃ b, quoF now ⟨pr, he, hp, th, tp, sy, fi, rs, sq⟩ m = b := ⟨_, rfl⟩
  rw [hqb] at HPI HPN HPS
  simp only [hm1, hqb]
  clear hm1 hqb
  have HO := Lib.hid (show Own w D w [resF f ⟨rl, m, ins⟩] from HO0)
  clear HO0
  obtain ⟨x1, hx1⟩ : ∃ y, w.alloc (.cells #[.int .i64 pr, .int .i64 he, .int .i64 hp, .int .i64 th, .int .i64 tp, .bool sy, .bool fi, .bool rs, .int .i64 sq] 41) = y := ⟨_, rfl⟩
  obtain ⟨bx, hbx⟩ : ∃ y, w.heap.size = y := ⟨_, rfl⟩
  have hO := HO.out.alloc (.cells #[.int .i64 pr, .int .i64 he, .int .i64 hp, .int .i64 th, .int .i64 tp, .bool sy, .bool fi, .bool rs, .int .i64 sq] 41)
  rw [hx1, hbx] at hO
  replace HO := Lib.hid (show Own w D x1 [resF f ⟨rl, m, ins⟩, blkR bx (.cells #[.int .i64 pr, .int .i64 he, .int .i64 hp, .int .i64 th, .int .i64 tp, .bool sy, .bool fi, .bool rs, .int .i64 sq] 41)] from hO)
  clear hO
  go_enter Try.func17, Try.ntmps17
  go_wp2_with fail
  have hex := expire_o HO.out 0 rfl HI.out HNW.out
  rw [show ({ (⟨rl, m, ins⟩ : FSt) with m := expF now (⟨rl, m, ins⟩ : FSt).m } : FSt) = ⟨rl, m1, ins⟩ by rw [← HM1.out]] at hex
  refine hex.mono ?_
  rintro e y1 ⟨rfl, hO, -⟩
  replace HO := Lib.hid (show Own w D y1 [resF f ⟨rl, m1, ins⟩, blkR bx (.cells #[.int .i64 pr, .int .i64 he, .int .i64 hp, .int .i64 th, .int .i64 tp, .bool sy, .bool fi, .bool rs, .int .i64 sq] 41)] from hO)
  clear hO hex
  clear hx1 hbx
  have z1_0 : y1.cell? ⟨bx, 0, none⟩ = some (.int .i64 pr) := HO.out.cell 1 rfl 0 rfl
  have z1_1 : y1.cell? ⟨bx, 1, none⟩ = some (.int .i64 he) := HO.out.cell 1 rfl 1 rfl
  have z1_2 : y1.cell? ⟨bx, 2, none⟩ = some (.int .i64 hp) := HO.out.cell 1 rfl 2 rfl
  have z1_3 : y1.cell? ⟨bx, 3, none⟩ = some (.int .i64 th) := HO.out.cell 1 rfl 3 rfl
  have z1_4 : y1.cell? ⟨bx, 4, none⟩ = some (.int .i64 tp) := HO.out.cell 1 rfl 4 rfl
  have z1_5 : y1.cell? ⟨bx, 5, none⟩ = some (.bool sy) := HO.out.cell 1 rfl 5 rfl
  have z1_6 : y1.cell? ⟨bx, 6, none⟩ = some (.bool fi) := HO.out.cell 1 rfl 6 rfl
  have z1_7 : y1.cell? ⟨bx, 7, none⟩ = some (.bool rs) := HO.out.cell 1 rfl 7 rfl
  have z1_8 : y1.cell? ⟨bx, 8, none⟩ = some (.int .i64 sq) := HO.out.cell 1 rfl 8 rfl
  cases hv : validF ⟨pr, he, hp, th, tp, sy, fi, rs, sq⟩ with
  | false =>
    have HPF := Lib.hid (HPI.out hv)
    go_wp2_with fail
    refine (o_still HO.out (validF_r hv _)).mono ?_
    rintro e x11 ⟨rfl, hO, -⟩
    replace HO := Lib.hid (show Own w D x11 [resF f ⟨rl, m1, ins⟩, blkR bx (.cells #[.int .i64 pr, .int .i64 he, .int .i64 hp, .int .i64 th, .int .i64 tp, .bool sy, .bool fi, .bool rs, .int .i64 sq] 41)] from hO)
    clear hO
    clear z1_0 z1_1 z1_2 z1_3 z1_4 z1_5 z1_6 z1_7 z1_8
    go_wp2
    go_ret
    exact ⟨by rw [HPF.out]; rfl, HO.out.take 1, HO.out.size⟩
  | true =>
    have HV := Lib.hid hv
    go_wp2_with fail
    refine (o_still HO.out (validF_r hv _)).mono ?_
    rintro e x11 ⟨rfl, hO, -⟩
    replace HO := Lib.hid (show Own w D x11 [resF f ⟨rl, m1, ins⟩, blkR bx (.cells #[.int .i64 pr, .int .i64 he, .int .i64 hp, .int .i64 th, .int .i64 tp, .bool sy, .bool fi, .bool rs, .int .i64 sq] 41)] from hO)
    clear hO
    clear z1_0 z1_1 z1_2 z1_3 z1_4 z1_5 z1_6 z1_7 z1_8
    clear hv
    obtain ⟨vr, om, hO⟩ := openF' HO.out
    replace HO := Lib.hid (show Own w D x11 [blkF f vr om ins, rowRl vr rl, mapO om m1, blkR bx (.cells #[.int .i64 pr, .int .i64 he, .int .i64 hp, .int .i64 th, .int .i64 tp, .bool sy, .bool fi, .bool rs, .int .i64 sq] 41)] from hO)
    clear hO
    have HMO := Lib.hid (mapO_open HO.out 2 rfl)
    go_wp2
    rcases HMO.out with ⟨hom, hm0⟩ | ⟨b, hom, hO⟩
    · subst hom
      have HPF := Lib.hid (HPN.out HV.out (by rw [hm0]; rfl))
      clear HMO hm0
      obtain ⟨ula, hula⟩ : ∃ n : Int, 0 = n := ⟨_, rfl⟩
      obtain ⟨unu, hunu⟩ : ∃ n : Int, 0 = n := ⟨_, rfl⟩
      generalize hΓ : ghN x11 (.cells #[.int .i64 0, .int .i64 0] 63) (.cells #[.int .i64 ula, .int .i64 unu] 63) = Γ
      have HST := Lib.hid (show Γ.inv [] x11 by rw [← hΓ]; exact ⟨Below.refl _ _, trivial⟩)
      have HWB := Lib.hid (show ∀ q : Γ.Wd, Below x11.heap.size x11 q.w by rw [← hΓ]; exact fun q => q.h.1)
      have hl : ∀ q : Γ.Wd, (Instr.lookup 56 (.map none) (.agg #[.int .i64 pr, .int .i64 he, .int .i64 hp, .int .i64 th, .int .i64 tp]) true).run Try.prog q.w = .ok (.tuple #[.agg #[.int .i64 ula, .int .i64 unu], .bool false]) q.w := by
        subst hula hunu
        exact fun q => keyK.lookup_nil Try.underlying56 (zeroU _) ⟨pr, he, hp, th, tp⟩ true
      have c1 : ∀ q : Γ.Wd, q.w.cell? ⟨f, 1, none⟩ = some (.map none) := fun q => keep (HWB.out q) (HO.out.cell 0 rfl 1 rfl)
      have e0 : ∀ q : Γ.Wd, q.w.cell? ⟨bx, 0, none⟩ = some (.int .i64 pr) := fun q => keep (HWB.out q) (HO.out.cell 3 rfl 0 rfl)
      have e1 : ∀ q : Γ.Wd, q.w.cell? ⟨bx, 1, none⟩ = some (.int .i64 he) := fun q => keep (HWB.out q) (HO.out.cell 3 rfl 1 rfl)
      have e2 : ∀ q : Γ.Wd, q.w.cell? ⟨bx, 2, none⟩ = some (.int .i64 hp) := fun q => keep (HWB.out q) (HO.out.cell 3 rfl 2 rfl)
      have e3 : ∀ q : Γ.Wd, q.w.cell? ⟨bx, 3, none⟩ = some (.int .i64 th) := fun q => keep (HWB.out q) (HO.out.cell 3 rfl 3 rfl)
      have e4 : ∀ q : Γ.Wd, q.w.cell? ⟨bx, 4, none⟩ = some (.int .i64 tp) := fun q => keep (HWB.out q) (HO.out.cell 3 rfl 4 rfl)
      have e5 : ∀ q : Γ.Wd, q.w.cell? ⟨bx, 5, none⟩ = some (.bool sy) := fun q => keep (HWB.out q) (HO.out.cell 3 rfl 5 rfl)
      have e6 : ∀ q : Γ.Wd, q.w.cell? ⟨bx, 6, none⟩ = some (.bool fi) := fun q => keep (HWB.out q) (HO.out.cell 3 rfl 6 rfl)
      have e7 : ∀ q : Γ.Wd, q.w.cell? ⟨bx, 7, none⟩ = some (.bool rs) := fun q => keep (HWB.out q) (HO.out.cell 3 rfl 7 rfl)
      have e8 : ∀ q : Γ.Wd, q.w.cell? ⟨bx, 8, none⟩ = some (.int .i64 sq) := fun q => keep (HWB.out q) (HO.out.cell 3 rfl 8 rfl)
      have HΓ := Lib.hid hΓ
      clear hΓ
      have ne : Nonempty Γ.Wd := ⟨⟨[], x11, HST.out⟩⟩
      refine wp_region_M Γ 12 [10, 11] (by kernel_rfl) (by kernel_rfl) (by kernel_rfl) (by kernel_rfl) HST.out ?_
      simp only [List.take, List.drop]
      iterate 5 (first | (refine wpM_want (by kernel_rfl) (by kernel_rfl) rfl rfl ?_; intro K hK; go_big_quiet_op; go_big_quiet_on) | (refine wpM_is (by kernel_rfl) (by kernel_rfl) rfl _ (fun _ w _ => rfl) ?_; simp only [Act.put, List.setIfInBounds_toArray, List.set_cons_succ, List.set_cons_zero]))
      refine wpM_call (by kernel_rfl) (by kernel_rfl) rfl 23 #[flV ⟨pr, he, hp, th, tp, sy, fi, rs, sq⟩] (.agg #[.int .i64 pr, .int .i64 he, .int .i64 hp, .int .i64 th, .int .i64 tp]) (fun w => by simp [go_sem]) (fun _ w _ => keyOf_l pr he hp th tp sy fi rs sq w) ?_
      simp only [Act.put, List.setIfInBounds_toArray, List.set_cons_succ, List.set_cons_zero]
      iterate 4 (first | (refine wpM_want (by kernel_rfl) (by kernel_rfl) rfl rfl ?_; intro K hK; go_big_quiet_op; go_big_quiet_on) | (refine wpM_is (by kernel_rfl) (by kernel_rfl) rfl _ (fun _ w _ => rfl) ?_; simp only [Act.put, List.setIfInBounds_toArray, List.set_cons_succ, List.set_cons_zero]))
      refine wpM_chainX 0 (gnth 0) (gnth_lasts _ _) (by kernel_rfl) (by kernel_rfl) (fun a' g hg hgl he => ?_) (fun d hd => ?_)
      · have hmv := ghN_alloc (by rw [HΓ.out]; exact hg) hgl
        rw [HΓ.out] at hmv
        have hv0 := List.eq_nil_of_length_eq_zero hgl
        simp [go_sem]
        exact ⟨_, rfl, hmv, by rw [hv0]; rfl⟩
      cases hd
      simp only [List.nil_append]
      refine wpM_store 1 (by kernel_rfl) rfl rfl (by kernel_rfl) (by kernel_rfl) (fun a' g hg hgl he => ?_) ?_
      · obtain ⟨v0, hv0⟩ := List.length_eq_one_iff.1 hgl
        obtain ⟨h10, h29, _⟩ := he
        have k10 : g.vs[0]? = some (a'.eval (.tmp 7)) := h10
        have k29 : a'.eval (.tmp 25) = .agg #[.int .i64 ula, .int .i64 unu] := h29
        rw [hv0] at k10
        have k11 : v0 = a'.eval (.tmp 7) := by simpa using k10
        clear h10 h29 k10
        have hgi : (ghN x11 (.cells #[.int .i64 0, .int .i64 0] 63) (.cells #[.int .i64 ula, .int .i64 unu] 63)).inv [v0] g.w := by rw [HΓ.out, ← hv0]; exact hg
        obtain ⟨b', e'', hst2⟩ := ghN_set2 hgi
        obtain ⟨q0, q1, z0, z1, hmv⟩ := hst2 (.int .i64 ula) (.int .i64 unu) rfl
        rw [HΓ.out, ← hv0] at hmv
        have t10 : a'.tmps.getD 7 undef = .pointer (some ⟨b', 0, none⟩) := k11.symm.trans e''
        have t29 : a'.tmps.getD 25 undef = .agg #[.int .i64 ula, .int .i64 unu] := k29
        simp [go_sem, t10, t29, q0, q1, z0, z1]
        exact ⟨_, hmv⟩
      refine wpM_nil (by kernel_rfl) (by simp) ?_
      rintro ⟨vs, w5⟩ hg hgl
      rw [← HΓ.out] at hg
      simp only [gexAll, List.drop]
      rintro u10 g10
      match vs, hgl, hg, g10 with
      | [v0, v1], _, ⟨hb5, bb, e0', hge, hbb⟩, g10 =>
      obtain rfl : v0 = u10 := by simpa [gnth] using g10
      subst e0'
      simp only [Act.put, List.setIfInBounds_toArray, List.set_cons_succ, List.set_cons_zero]
      have hO := HO.out.push (R := blkR bb (.cells #[.int .i64 ula, .int .i64 unu] 63)) (F := fun z => z = bb) ⟨fun _ => Iff.rfl, hbb⟩ (fun z hz => hz ▸ hge) hb5
      clear c1 e0 e1 e2 e3 e4 e5 e6 e7 e8 hl hb5 hge hbb ne HST HWB HΓ g10
      replace HO := Lib.hid (show Own w D w5 [blkF f vr (.map none) ins, rowRl vr rl, mapO (.map none) m1, blkR bx (.cells #[.int .i64 pr, .int .i64 he, .int .i64 hp, .int .i64 th, .int .i64 tp, .bool sy, .bool fi, .bool rs, .int .i64 sq] 41), blkR bb (.cells #[.int .i64 ula, .int .i64 unu] 63)] from hO)
      clear hO
      have hO := shutF' (st := ⟨rl, m1, ins⟩) HO.out
      replace HO := Lib.hid (show Own w D w5 [resF f ⟨rl, m1, ins⟩, blkR bx (.cells #[.int .i64 pr, .int .i64 he, .int .i64 hp, .int .i64 th, .int .i64 tp, .bool sy, .bool fi, .bool rs, .int .i64 sq] 41), blkR bb (.cells #[.int .i64 ula, .int .i64 unu] 63)] from hO)
      clear hO
      go_wp2
      go_ret
      exact ⟨by rw [HPF.out]; rfl, HO.out.take 1, HO.out.size⟩
    · subst hom
      clear HMO
      replace HO := Lib.hid (show Own w D x11 [blkF f vr (.map (some b)) ins, rowRl vr rl, mapR encK b (mapU m1), blkR bx (.cells #[.int .i64 pr, .int .i64 he, .int .i64 hp, .int .i64 th, .int .i64 tp, .bool sy, .bool fi, .bool rs, .int .i64 sq] 41)] from hO)
      clear hO
      have hlk : ∀ w : World, Below x11.heap.size x11 w → (Instr.lookup 56 (.map (some b)) (encK ⟨pr, he, hp, th, tp⟩) true).run Try.prog w = .ok (lookV (.agg #[.int .i64 0, .int .i64 0]) true ((getU ⟨pr, he, hp, th, tp⟩ m1).map valU)) w := fun w hb => by
        have := keyK.lookup Try.underlying56 (zeroU _) ((HO.out.mapB 2 rfl).stay hb) ⟨pr, he, hp, th, tp⟩ true
        rw [mapU_get] at this
        exact this
      cases hgu : getU ⟨pr, he, hp, th, tp⟩ m1 with
      | none =>
        have HPF := Lib.hid (HPN.out HV.out hgu)
        rw [hgu] at hlk
        clear hgu
        obtain ⟨ula, hula⟩ : ∃ n : Int, 0 = n := ⟨_, rfl⟩
        obtain ⟨unu, hunu⟩ : ∃ n : Int, 0 = n := ⟨_, rfl⟩
        generalize hΓ : ghN x11 (.cells #[.int .i64 0, .int .i64 0] 63) (.cells #[.int .i64 ula, .int .i64 unu] 63) = Γ
        have HST := Lib.hid (show Γ.inv [] x11 by rw [← hΓ]; exact ⟨Below.refl _ _, trivial⟩)
        have HWB := Lib.hid (show ∀ q : Γ.Wd, Below x11.heap.size x11 q.w by rw [← hΓ]; exact fun q => q.h.1)
        have hl : ∀ q : Γ.Wd, (Instr.lookup 56 (.map (some b)) (.agg #[.int .i64 pr, .int .i64 he, .int .i64 hp, .int .i64 th, .int .i64 tp]) true).run Try.prog q.w = .ok (.tuple #[.agg #[.int .i64 ula, .int .i64 unu], .bool false]) q.w := by
          subst hula hunu
          exact fun q => hlk q.w (HWB.out q)
        have c1 : ∀ q : Γ.Wd, q.w.cell? ⟨f, 1, none⟩ = some (.map (some b)) := fun q => keep (HWB.out q) (HO.out.cell 0 rfl 1 rfl)
        have e0 : ∀ q : Γ.Wd, q.w.cell? ⟨bx, 0, none⟩ = some (.int .i64 pr) := fun q => keep (HWB.out q) (HO.out.cell 3 rfl 0 rfl)
        have e1 : ∀ q : Γ.Wd, q.w.cell? ⟨bx, 1, none⟩ = some (.int .i64 he) := fun q => keep (HWB.out q) (HO.out.cell 3 rfl 1 rfl)
        have e2 : ∀ q : Γ.Wd, q.w.cell? ⟨bx, 2, none⟩ = some (.int .i64 hp) := fun q => keep (HWB.out q) (HO.out.cell 3 rfl 2 rfl)
        have e3 : ∀ q : Γ.Wd, q.w.cell? ⟨bx, 3, none⟩ = some (.int .i64 th) := fun q => keep (HWB.out q) (HO.out.cell 3 rfl 3 rfl)
        have e4 : ∀ q : Γ.Wd, q.w.cell? ⟨bx, 4, none⟩ = some (.int .i64 tp) := fun q => keep (HWB.out q) (HO.out.cell 3 rfl 4 rfl)
        have e5 : ∀ q : Γ.Wd, q.w.cell? ⟨bx, 5, none⟩ = some (.bool sy) := fun q => keep (HWB.out q) (HO.out.cell 3 rfl 5 rfl)
        have e6 : ∀ q : Γ.Wd, q.w.cell? ⟨bx, 6, none⟩ = some (.bool fi) := fun q => keep (HWB.out q) (HO.out.cell 3 rfl 6 rfl)
        have e7 : ∀ q : Γ.Wd, q.w.cell? ⟨bx, 7, none⟩ = some (.bool rs) := fun q => keep (HWB.out q) (HO.out.cell 3 rfl 7 rfl)
        have e8 : ∀ q : Γ.Wd, q.w.cell? ⟨bx, 8, none⟩ = some (.int .i64 sq) := fun q => keep (HWB.out q) (HO.out.cell 3 rfl 8 rfl)
        have HΓ := Lib.hid hΓ
        clear hΓ
        have ne : Nonempty Γ.Wd := ⟨⟨[], x11, HST.out⟩⟩
        refine wp_region_M Γ 12 [10, 11] (by kernel_rfl) (by kernel_rfl) (by kernel_rfl) (by kernel_rfl) HST.out ?_
        simp only [List.take, List.drop]
        iterate 5 (first | (refine wpM_want (by kernel_rfl) (by kernel_rfl) rfl rfl ?_; intro K hK; go_big_quiet_op; go_big_quiet_on) | (refine wpM_is (by kernel_rfl) (by kernel_rfl) rfl _ (fun _ w _ => rfl) ?_; simp only [Act.put, List.setIfInBounds_toArray, List.set_cons_succ, List.set_cons_zero]))
        refine wpM_call (by kernel_rfl) (by kernel_rfl) rfl 23 #[flV ⟨pr, he, hp, th, tp, sy, fi, rs, sq⟩] (.agg #[.int .i64 pr, .int .i64 he, .int .i64 hp, .int .i64 th, .int .i64 tp]) (fun w => by simp [go_sem]) (fun _ w _ => keyOf_l pr he hp th tp sy fi rs sq w) ?_
        simp only [Act.put, List.setIfInBounds_toArray, List.set_cons_succ, List.set_cons_zero]
        iterate 4 (first | (refine wpM_want (by kernel_rfl) (by kernel_rfl) rfl rfl ?_; intro K hK; go_big_quiet_op; go_big_quiet_on) | (refine wpM_is (by kernel_rfl) (by kernel_rfl) rfl _ (fun _ w _ => rfl) ?_; simp only [Act.put, List.setIfInBounds_toArray, List.set_cons_succ, List.set_cons_zero]))
        refine wpM_chainX 0 (gnth 0) (gnth_lasts _ _) (by kernel_rfl) (by kernel_rfl) (fun a' g hg hgl he => ?_) (fun d hd => ?_)
        · have hmv := ghN_alloc (by rw [HΓ.out]; exact hg) hgl
          rw [HΓ.out] at hmv
          have hv0 := List.eq_nil_of_length_eq_zero hgl
          simp [go_sem]
          exact ⟨_, rfl, hmv, by rw [hv0]; rfl⟩
        cases hd
        simp only [List.nil_append]
        refine wpM_store 1 (by kernel_rfl) rfl rfl (by kernel_rfl) (by kernel_rfl) (fun a' g hg hgl he => ?_) ?_
        · obtain ⟨v0, hv0⟩ := List.length_eq_one_iff.1 hgl
          obtain ⟨h10, h29, _⟩ := he
          have k10 : g.vs[0]? = some (a'.eval (.tmp 7)) := h10
          have k29 : a'.eval (.tmp 25) = .agg #[.int .i64 ula, .int .i64 unu] := h29
          rw [hv0] at k10
          have k11 : v0 = a'.eval (.tmp 7) := by simpa using k10
          clear h10 h29 k10
          have hgi : (ghN x11 (.cells #[.int .i64 0, .int .i64 0] 63) (.cells #[.int .i64 ula, .int .i64 unu] 63)).inv [v0] g.w := by rw [HΓ.out, ← hv0]; exact hg
          obtain ⟨b', e'', hst2⟩ := ghN_set2 hgi
          obtain ⟨q0, q1, z0, z1, hmv⟩ := hst2 (.int .i64 ula) (.int .i64 unu) rfl
          rw [HΓ.out, ← hv0] at hmv
          have t10 : a'.tmps.getD 7 undef = .pointer (some ⟨b', 0, none⟩) := k11.symm.trans e''
          have t29 : a'.tmps.getD 25 undef = .agg #[.int .i64 ula, .int .i64 unu] := k29
          simp [go_sem, t10, t29, q0, q1, z0, z1]
          exact ⟨_, hmv⟩
        refine wpM_nil (by kernel_rfl) (by simp) ?_
        rintro ⟨vs, w5⟩ hg hgl
        rw [← HΓ.out] at hg
        simp only [gexAll, List.drop]
        rintro u10 g10
        match vs, hgl, hg, g10 with
        | [v0, v1], _, ⟨hb5, bb, e0', hge, hbb⟩, g10 =>
        obtain rfl : v0 = u10 := by simpa [gnth] using g10
        subst e0'
        simp only [Act.put, List.setIfInBounds_toArray, List.set_cons_succ, List.set_cons_zero]
        have hO := HO.out.push (R := blkR bb (.cells #[.int .i64 ula, .int .i64 unu] 63)) (F := fun z => z = bb) ⟨fun _ => Iff.rfl, hbb⟩ (fun z hz => hz ▸ hge) hb5
        clear c1 e0 e1 e2 e3 e4 e5 e6 e7 e8 hl hb5 hge hbb ne HST HWB HΓ g10
        replace HO := Lib.hid (show Own w D w5 [blkF f vr (.map (some b)) ins, rowRl vr rl, mapR encK b (mapU m1), blkR bx (.cells #[.int .i64 pr, .int .i64 he, .int .i64 hp, .int .i64 th, .int .i64 tp, .bool sy, .bool fi, .bool rs, .int .i64 sq] 41), blkR bb (.cells #[.int .i64 ula, .int .i64 unu] 63)] from hO)
        clear hO
        clear hlk
        have hO := mapO_shut HO.out 2 rfl
        replace HO := Lib.hid (show Own w D w5 [blkF f vr (.map (some b)) ins, rowRl vr rl, mapO (.map (some b)) m1, blkR bx (.cells #[.int .i64 pr, .int .i64 he, .int .i64 hp, .int .i64 th, .int .i64 tp, .bool sy, .bool fi, .bool rs, .int .i64 sq] 41), blkR bb (.cells #[.int .i64 ula, .int .i64 unu] 63)] from hO)
        clear hO
        have hO := shutF' (st := ⟨rl, m1, ins⟩) HO.out
        replace HO := Lib.hid (show Own w D w5 [resF f ⟨rl, m1, ins⟩, blkR bx (.cells #[.int .i64 pr, .int .i64 he, .int .i64 hp, .int .i64 th, .int .i64 tp, .bool sy, .bool fi, .bool rs, .int .i64 sq] 41), blkR bb (.cells #[.int .i64 ula, .int .i64 unu] 63)] from hO)
        clear hO
        go_wp2
        go_ret
        exact ⟨by rw [HPF.out]; rfl, HO.out.take 1, HO.out.size⟩
      | some u =>
        have HPF := Lib.hid (HPS.out HV.out u hgu)
        rw [hgu] at hlk
        obtain ⟨ula, unu⟩ := u
        clear hgu
        generalize hΓ : ghN x11 (.cells #[.int .i64 0, .int .i64 0] 63) (.cells #[.int .i64 ula, .int .i64 unu] 63) = Γ
        have HST := Lib.hid (show Γ.inv [] x11 by rw [← hΓ]; exact ⟨Below.refl _ _, trivial⟩)
        have HWB := Lib.hid (show ∀ q : Γ.Wd, Below x11.heap.size x11 q.w by rw [← hΓ]; exact fun q => q.h.1)
        have hl : ∀ q : Γ.Wd, (Instr.lookup 56 (.map (some b)) (.agg #[.int .i64 pr, .int .i64 he, .int .i64 hp, .int .i64 th, .int .i64 tp]) true).run Try.prog q.w = .ok (.tuple #[.agg #[.int .i64 ula, .int .i64 unu], .bool true]) q.w := fun q => hlk q.w (HWB.out q)
        have c1 : ∀ q : Γ.Wd, q.w.cell? ⟨f, 1, none⟩ = some (.map (some b)) := fun q => keep (HWB.out q) (HO.out.cell 0 rfl 1 rfl)
        have e0 : ∀ q : Γ.Wd, q.w.cell? ⟨bx, 0, none⟩ = some (.int .i64 pr) := fun q => keep (HWB.out q) (HO.out.cell 3 rfl 0 rfl)
        have e1 : ∀ q : Γ.Wd, q.w.cell? ⟨bx, 1, none⟩ = some (.int .i64 he) := fun q => keep (HWB.out q) (HO.out.cell 3 rfl 1 rfl)
        have e2 : ∀ q : Γ.Wd, q.w.cell? ⟨bx, 2, none⟩ = some (.int .i64 hp) := fun q => keep (HWB.out q) (HO.out.cell 3 rfl 2 rfl)
        have e3 : ∀ q : Γ.Wd, q.w.cell? ⟨bx, 3, none⟩ = some (.int .i64 th) := fun q => keep (HWB.out q) (HO.out.cell 3 rfl 3 rfl)
        have e4 : ∀ q : Γ.Wd, q.w.cell? ⟨bx, 4, none⟩ = some (.int .i64 tp) := fun q => keep (HWB.out q) (HO.out.cell 3 rfl 4 rfl)
        have e5 : ∀ q : Γ.Wd, q.w.cell? ⟨bx, 5, none⟩ = some (.bool sy) := fun q => keep (HWB.out q) (HO.out.cell 3 rfl 5 rfl)
        have e6 : ∀ q : Γ.Wd, q.w.cell? ⟨bx, 6, none⟩ = some (.bool fi) := fun q => keep (HWB.out q) (HO.out.cell 3 rfl 6 rfl)
        have e7 : ∀ q : Γ.Wd, q.w.cell? ⟨bx, 7, none⟩ = some (.bool rs) := fun q => keep (HWB.out q) (HO.out.cell 3 rfl 7 rfl)
        have e8 : ∀ q : Γ.Wd, q.w.cell? ⟨bx, 8, none⟩ = some (.int .i64 sq) := fun q => keep (HWB.out q) (HO.out.cell 3 rfl 8 rfl)
        have HΓ := Lib.hid hΓ
        clear hΓ
        have ne : Nonempty Γ.Wd := ⟨⟨[], x11, HST.out⟩⟩
        refine wp_region_M Γ 12 [10, 11] (by kernel_rfl) (by kernel_rfl) (by kernel_rfl) (by kernel_rfl) HST.out ?_
        simp only [List.take, List.drop]
        iterate 5 (first | (refine wpM_want (by kernel_rfl) (by kernel_rfl) rfl rfl ?_; intro K hK; go_big_quiet_op; go_big_quiet_on) | (refine wpM_is (by kernel_rfl) (by kernel_rfl) rfl _ (fun _ w _ => rfl) ?_; simp only [Act.put, List.setIfInBounds_toArray, List.set_cons_succ, List.set_cons_zero]))
        refine wpM_call (by kernel_rfl) (by kernel_rfl) rfl 23 #[flV ⟨pr, he, hp, th, tp, sy, fi, rs, sq⟩] (.agg #[.int .i64 pr, .int .i64 he, .int .i64 hp, .int .i64 th, .int .i64 tp]) (fun w => by simp [go_sem]) (fun _ w _ => keyOf_l pr he hp th tp sy fi rs sq w) ?_
        simp only [Act.put, List.setIfInBounds_toArray, List.set_cons_succ, List.set_cons_zero]
        iterate 4 (first | (refine wpM_want (by kernel_rfl) (by kernel_rfl) rfl rfl ?_; intro K hK; go_big_quiet_op; go_big_quiet_on) | (refine wpM_is (by kernel_rfl) (by kernel_rfl) rfl _ (fun _ w _ => rfl) ?_; simp only [Act.put, List.setIfInBounds_toArray, List.set_cons_succ, List.set_cons_zero]))
        refine wpM_chainX 0 (gnth 0) (gnth_lasts _ _) (by kernel_rfl) (by kernel_rfl) (fun a' g hg hgl he => ?_) (fun d hd => ?_)
        · have hmv := ghN_alloc (by rw [HΓ.out]; exact hg) hgl
          rw [HΓ.out] at hmv
          have hv0 := List.eq_nil_of_length_eq_zero hgl
          simp [go_sem]
          exact ⟨_, rfl, hmv, by rw [hv0]; rfl⟩
        cases hd
        simp only [List.nil_append]
        refine wpM_store 1 (by kernel_rfl) rfl rfl (by kernel_rfl) (by kernel_rfl) (fun a' g hg hgl he => ?_) ?_
        · obtain ⟨v0, hv0⟩ := List.length_eq_one_iff.1 hgl
          obtain ⟨h10, h29, _⟩ := he
          have k10 : g.vs[0]? = some (a'.eval (.tmp 7)) := h10
          have k29 : a'.eval (.tmp 25) = .agg #[.int .i64 ula, .int .i64 unu] := h29
          rw [hv0] at k10
          have k11 : v0 = a'.eval (.tmp 7) := by simpa using k10
          clear h10 h29 k10
          have hgi : (ghN x11 (.cells #[.int .i64 0, .int .i64 0] 63) (.cells #[.int .i64 ula, .int .i64 unu] 63)).inv [v0] g.w := by rw [HΓ.out, ← hv0]; exact hg
          obtain ⟨b', e'', hst2⟩ := ghN_set2 hgi
          obtain ⟨q0, q1, z0, z1, hmv⟩ := hst2 (.int .i64 ula) (.int .i64 unu) rfl
          rw [HΓ.out, ← hv0] at hmv
          have t10 : a'.tmps.getD 7 undef = .pointer (some ⟨b', 0, none⟩) := k11.symm.trans e''
          have t29 : a'.tmps.getD 25 undef = .agg #[.int .i64 ula, .int .i64 unu] := k29
          simp [go_sem, t10, t29, q0, q1, z0, z1]
          exact ⟨_, hmv⟩
        refine wpM_nil (by kernel_rfl) (by simp) ?_
        rintro ⟨vs, w5⟩ hg hgl
        rw [← HΓ.out] at hg
        simp only [gexAll, List.drop]
        rintro u10 g10
        match vs, hgl, hg, g10 with
        | [v0, v1], _, ⟨hb5, bb, e0', hge, hbb⟩, g10 =>
        obtain rfl : v0 = u10 := by simpa [gnth] using g10
        subst e0'
        simp only [Act.put, List.setIfInBounds_toArray, List.set_cons_succ, List.set_cons_zero]
        have hO := HO.out.push (R := blkR bb (.cells #[.int .i64 ula, .int .i64 unu] 63)) (F := fun z => z = bb) ⟨fun _ => Iff.rfl, hbb⟩ (fun z hz => hz ▸ hge) hb5
        clear c1 e0 e1 e2 e3 e4 e5 e6 e7 e8 hl hb5 hge hbb ne HST HWB HΓ g10
        replace HO := Lib.hid (show Own w D w5 [blkF f vr (.map (some b)) ins, rowRl vr rl, mapR encK b (mapU m1), blkR bx (.cells #[.int .i64 pr, .int .i64 he, .int .i64 hp, .int .i64 th, .int .i64 tp, .bool sy, .bool fi, .bool rs, .int .i64 sq] 41), blkR bb (.cells #[.int .i64 ula, .int .i64 unu] 63)] from hO)
        clear hO
        clear hlk
        have hO := mapO_shut HO.out 2 rfl
        replace HO := Lib.hid (show Own w D w5 [blkF f vr (.map (some b)) ins, rowRl vr rl, mapO (.map (some b)) m1, blkR bx (.cells #[.int .i64 pr, .int .i64 he, .int .i64 hp, .int .i64 th, .int .i64 tp, .bool sy, .bool fi, .bool rs, .int .i64 sq] 41), blkR bb (.cells #[.int .i64 ula, .int .i64 unu] 63)] from hO)
        clear hO
        have hO := shutF' (st := ⟨rl, m1, ins⟩) HO.out
        replace HO := Lib.hid (show Own w D w5 [resF f ⟨rl, m1, ins⟩, blkR bx (.cells #[.int .i64 pr, .int .i64 he, .int .i64 hp, .int .i64 th, .int .i64 tp, .bool sy, .bool fi, .bool rs, .int .i64 sq] 41), blkR bb (.cells #[.int .i64 ula, .int .i64 unu] 63)] from hO)
        clear hO
        go_wp2
        go_ret
        exact ⟨by rw [HPF.out]; rfl, HO.out.take 1, HO.out.size⟩
end

end Go.Proofs.Ythhoknhjbkkflaa
