/- The contract of told: one call on both. Printed by wip/tools/gen23x.py. -/
import Derived.Test.YtfipamdknanlmaaPmmP
namespace Go.Proofs.Ytfipamdknanlmaa
open Go.RowKit Go.Sort
set_option linter.unusedVariables false

section
variable {w0 w : World} {D : Nat → Prop} {L : List Res} {q : Nat} {st st' : PSt}
theorem rlook_o {pr po th tp n : Int} {b : Bool} (h : Own w0 D w L) (i : Nat) (hi : L[i]? = some (resQ q st)) (he : rlookF st pr po th tp = (n, b)) (hl1 : st.B.length ≤ 1000000) (hl2 : st.J.length ≤ 1000000) :
    Calls Try.prog 17 #[.pointer (some ⟨q, 0, none⟩), .int .i64 pr, .int .i64 po, .int .i64 th, .int .i64 tp] w (OPost w0 D L (.tuple #[.int .i64 n, .bool b]) w) := by
  obtain ⟨F, h1, _⟩ := h.step hi
  have := rlookup_any pr po th tp (resQ_rd h1) hl1 hl2
  rw [he] at this
  exact o_same h this
theorem rlen_o {n : Int} (h : Own w0 D w L) (i : Nat) (hi : L[i]? = some (resQ q st)) (he : (st.B.length : Int) + st.J.length = n) (hl1 : st.B.length ≤ 1000000) (hl2 : st.J.length ≤ 1000000) :
    Calls Try.prog 15 #[.pointer (some ⟨q, 0, none⟩)] w (OPost w0 D L (.int .i64 n) w) := by
  obtain ⟨F, h1, _⟩ := h.step hi
  have := rlen_any (resQ_rd h1) hl1 hl2
  rw [he] at this
  exact o_still h this
theorem rbind_l {pr po s e : Int} (h : Own w0 D w L) (i : Nat) (hi : L[i]? = some (resQ q st)) (he : rbindE st pr po s = e) (hs : rbindS st pr po s = st') (hl1 : st.B.length ≤ 1000000) (hl2 : st.J.length ≤ 1000000) :
    Calls Try.prog 25 #[.pointer (some ⟨q, 0, none⟩), .int .i64 pr, .int .i64 po, .int .i64 s] w (OPost w0 D (L.set i (resQ q st')) (.int .i64 e) w) := he ▸ hs ▸ rbind_o h i hi hl1 hl2
theorem rconn_l {s po th tp e : Int} (h : Own w0 D w L) (i : Nat) (hi : L[i]? = some (resQ q st)) (he : rconnE st s po th tp = e) (hs : rconnS st s po th tp = st') (hl1 : st.B.length ≤ 1000000) (hl2 : st.J.length ≤ 1000000) :
    Calls Try.prog 27 #[.pointer (some ⟨q, 0, none⟩), .int .i64 s, .int .i64 po, .int .i64 th, .int .i64 tp] w (OPost w0 D (L.set i (resQ q st')) (.int .i64 e) w) := he ▸ hs ▸ rconn_o h i hi hl1 hl2
theorem rany_l {pr s n e : Int} (h : Own w0 D w L) (i : Nat) (hi : L[i]? = some (resQ q st)) (he : ranyR st pr s = (n, e, st')) (hl1 : st.B.length ≤ 1000000) (hl2 : st.J.length ≤ 1000000) (hsd : i64B st.seed) (hg : 0 ≤ st.given ∧ st.given ≤ 1000000) :
    Calls Try.prog 26 #[.pointer (some ⟨q, 0, none⟩), .int .i64 pr, .int .i64 s] w (OPost w0 D (L.set i (resQ q st')) (.tuple #[.int .i64 n, .int .i64 e]) w) := by
  have := rany_o (pr := pr) (s := s) h i hi hl1 hl2 hsd hg
  rw [he] at this; exact this
theorem rrel_l {s : Int} (h : Own w0 D w L) (i : Nat) (hi : L[i]? = some (resQ q st)) (hs : relS st s = st') (hl1 : st.B.length ≤ 1000000) (hl2 : st.J.length ≤ 1000000) :
    Calls Try.prog 28 #[.pointer (some ⟨q, 0, none⟩), .int .i64 s] w (OPost w0 D (L.set i (resQ q st')) (.tuple #[]) w) := hs ▸ rrel_o h i hi hl1 hl2
end

set_option maxRecDepth 100000 in
set_option maxHeartbeats 4000000 in
theorem told_o {w0 w : World} {D : Nat → Prop} {L : List Res} {p q : Nat} {st st' : PSt} {c : Cl} {pr : Int} (h : Own w0 D w L) (i j : Nat) (hi : L[i]? = some (resP p st)) (hj : L[j]? = some (resQ q st)) (hij : i ≠ j) (hs : toldS st c pr = st') (hI : PSI st) (hkd : 0 ≤ c.kd ∧ c.kd ≤ 255) (hF : Few st 100000) :
    Calls Try.prog 13 #[.pointer (some ⟨p, 0, none⟩), .pointer (some ⟨q, 0, none⟩), clV c, .int .i64 pr] w (OPost w0 D ((L.set i (resP p st')).set j (resQ q st')) (.bool true) w) := by
  refine o_two h hi hj hij fun D HO0 => ?_
  clear h hi hj hij
  obtain ⟨kd, ud, po, so, th, ot⟩ := c
  obtain ⟨hk0, hk1⟩ := hkd
  simp only at hk0 hk1
  have HL1 := Lib.hid (Nat.le_trans hF.1 (show 100000 ≤ 1000000 by decide))
  have HL2 := Lib.hid (Nat.le_trans hF.2.1 (show 100000 ≤ 1000000 by decide))
  have HG := Lib.hid (show 0 ≤ st.given ∧ st.given ≤ 1000000 from ⟨hI.gv, by have := hF.2.2; omega⟩)
  have HI := Lib.hid hI
  have h5 : kd % 5 = 0 ∨ kd % 5 = 1 ∨ kd % 5 = 2 ∨ kd % 5 = 3 ∨ kd % 5 = 4 := by omega
  clear hI hF
  have HO := Lib.hid (show Own w D w [resP p st, resQ q st] from HO0)
  clear HO0
  obtain ⟨x1, hx1⟩ : ∃ y, w.alloc (.cells #[.int .u8 kd, .bool ud, .int .i64 po, .int .i64 so, .int .i64 th, .int .i64 ot] 29) = y := ⟨_, rfl⟩
  obtain ⟨bx, hbx⟩ : ∃ y, w.heap.size = y := ⟨_, rfl⟩
  have hO := HO.out.alloc (.cells #[.int .u8 kd, .bool ud, .int .i64 po, .int .i64 so, .int .i64 th, .int .i64 ot] 29)
  rw [hx1, hbx] at hO
  replace HO := Lib.hid (show Own w D x1 [resP p st, resQ q st, blkR bx (.cells #[.int .u8 kd, .bool ud, .int .i64 po, .int .i64 so, .int .i64 th, .int .i64 ot] 29)] from hO)
  clear hO
  have z2_0 : x1.cell? ⟨bx, 0, none⟩ = some (.int .u8 kd) := HO.out.cell 2 rfl 0 rfl
  have z2_1 : x1.cell? ⟨bx, 1, none⟩ = some (.bool ud) := HO.out.cell 2 rfl 1 rfl
  have z2_2 : x1.cell? ⟨bx, 2, none⟩ = some (.int .i64 po) := HO.out.cell 2 rfl 2 rfl
  have z2_3 : x1.cell? ⟨bx, 3, none⟩ = some (.int .i64 so) := HO.out.cell 2 rfl 3 rfl
  have z2_4 : x1.cell? ⟨bx, 4, none⟩ = some (.int .i64 th) := HO.out.cell 2 rfl 4 rfl
  have z2_5 : x1.cell? ⟨bx, 5, none⟩ = some (.int .i64 ot) := HO.out.cell 2 rfl 5 rfl
  rcases h5 with h5 | h5 | h5 | h5 | h5
  · have m0 : (kd % 5 == 0) = true := by simp [h5]
    have m1 : (kd % 5 == 1) = false := by simp [h5]
    have m2 : (kd % 5 == 2) = false := by simp [h5]
    have m3 : (kd % 5 == 3) = false := by simp [h5]
    have m4 : (kd % 5 == 4) = false := by simp [h5]
    have hS : bindS st pr po so = st' := by rw [← hs]; simp [toldS, h5]
    clear h5 hs
    have HS := Lib.hid hS
    clear hS
    obtain ⟨e, he⟩ : ∃ e, bindE st pr po so = e := ⟨_, rfl⟩
    have HE := Lib.hid he
    have HE2 := Lib.hid (show rbindE st pr po so = e by rw [rbind_eq HI.out, he])
    have HS2 := Lib.hid (show rbindS st pr po so = st' by rw [rbindS_eq HI.out, HS.out])
    clear he
    go_enter Try.func13, Try.ntmps13
    go_wp2
    clear hx1 hbx z2_0 z2_1 z2_2 z2_3 z2_4 z2_5
    generalize hΓ : ghO w D [[resP p st, resQ q st, blkR bx (.cells #[.int .u8 kd, .bool ud, .int .i64 po, .int .i64 so, .int .i64 th, .int .i64 ot] 29)], [resP p st', resQ q st, blkR bx (.cells #[.int .u8 kd, .bool ud, .int .i64 po, .int .i64 so, .int .i64 th, .int .i64 ot] 29)], [resP p st', resQ q st', blkR bx (.cells #[.int .u8 kd, .bool ud, .int .i64 po, .int .i64 so, .int .i64 th, .int .i64 ot] 29)]] = Γ
    have HST := Lib.hid (show Γ.inv [] x1 by rw [← hΓ]; exact ghO_start HO.out)
    have g0 : ∀ z : Γ.Wd, z.w.cell? ⟨bx, 0, none⟩ = some (.int .u8 kd) := by rw [← hΓ]; exact ghO_cell (c := #[.int .u8 kd, .bool ud, .int .i64 po, .int .i64 so, .int .i64 th, .int .i64 ot]) (t := 29) 2 (by simp) 0 rfl
    have g1 : ∀ z : Γ.Wd, z.w.cell? ⟨bx, 1, none⟩ = some (.bool ud) := by rw [← hΓ]; exact ghO_cell (c := #[.int .u8 kd, .bool ud, .int .i64 po, .int .i64 so, .int .i64 th, .int .i64 ot]) (t := 29) 2 (by simp) 1 rfl
    have g2 : ∀ z : Γ.Wd, z.w.cell? ⟨bx, 2, none⟩ = some (.int .i64 po) := by rw [← hΓ]; exact ghO_cell (c := #[.int .u8 kd, .bool ud, .int .i64 po, .int .i64 so, .int .i64 th, .int .i64 ot]) (t := 29) 2 (by simp) 2 rfl
    have g3 : ∀ z : Γ.Wd, z.w.cell? ⟨bx, 3, none⟩ = some (.int .i64 so) := by rw [← hΓ]; exact ghO_cell (c := #[.int .u8 kd, .bool ud, .int .i64 po, .int .i64 so, .int .i64 th, .int .i64 ot]) (t := 29) 2 (by simp) 3 rfl
    have g4 : ∀ z : Γ.Wd, z.w.cell? ⟨bx, 4, none⟩ = some (.int .i64 th) := by rw [← hΓ]; exact ghO_cell (c := #[.int .u8 kd, .bool ud, .int .i64 po, .int .i64 so, .int .i64 th, .int .i64 ot]) (t := 29) 2 (by simp) 4 rfl
    have g5 : ∀ z : Γ.Wd, z.w.cell? ⟨bx, 5, none⟩ = some (.int .i64 ot) := by rw [← hΓ]; exact ghO_cell (c := #[.int .u8 kd, .bool ud, .int .i64 po, .int .i64 so, .int .i64 th, .int .i64 ot]) (t := 29) 2 (by simp) 5 rfl
    have HΓ := Lib.hid hΓ
    clear hΓ
    have ne : Nonempty Γ.Wd := ⟨⟨[], x1, HST.out⟩⟩
    refine wp_region_H Γ 15 [6, 13] (by kernel_rfl) (by kernel_rfl) (by kernel_rfl) (by kernel_rfl) HST.out ?_
    simp only [List.take, List.drop]
    iterate 6 (first | (refine wpH_want (by kernel_rfl) (by kernel_rfl) rfl rfl ?_; intro K hK; go_big_quiet_op; go_big_quiet_on) | (refine wpH_is (by kernel_rfl) (by kernel_rfl) rfl _ (fun _ w _ => rfl) ?_; simp only [Act.put, List.setIfInBounds_toArray, List.set_cons_succ, List.set_cons_zero]))
    refine wpH_chain 0 (by kernel_rfl) (by kernel_rfl) rfl 20 #[.pointer (some ⟨p, 0, none⟩), .int .i64 pr, .int .i64 po, .int .i64 so] (.int .i64 e) (fun w => by simp [go_sem]) (fun vs w hg hvs => by
      rw [← HΓ.out] at hg ⊢
      exact ghO_call 0 hg hvs rfl rfl fun ho => bind_o ho 0 rfl HE.out HS.out HL1.out) ?_
    simp only [Act.put, List.setIfInBounds_toArray, List.set_cons_succ, List.set_cons_zero]
    iterate 6 (first | (refine wpH_want (by kernel_rfl) (by kernel_rfl) rfl rfl ?_; intro K hK; go_big_quiet_op; go_big_quiet_on) | (refine wpH_is (by kernel_rfl) (by kernel_rfl) rfl _ (fun _ w _ => rfl) ?_; simp only [Act.put, List.setIfInBounds_toArray, List.set_cons_succ, List.set_cons_zero]))
    refine wpH_chain 1 (by kernel_rfl) (by kernel_rfl) rfl 25 #[.pointer (some ⟨q, 0, none⟩), .int .i64 pr, .int .i64 po, .int .i64 so] (.int .i64 e) (fun w => by simp [go_sem]) (fun vs w hg hvs => by
      rw [← HΓ.out] at hg ⊢
      exact ghO_call 1 hg hvs rfl rfl fun ho => rbind_l ho 1 rfl HE2.out HS2.out HL1.out HL2.out) ?_
    simp only [Act.put, List.setIfInBounds_toArray, List.set_cons_succ, List.set_cons_zero]
    (first | (refine wpH_want (by kernel_rfl) (by kernel_rfl) rfl rfl ?_; intro K hK; go_big_quiet_op; go_big_quiet_on) | (refine wpH_is (by kernel_rfl) (by kernel_rfl) rfl _ (fun _ w _ => rfl) ?_; simp only [Act.put, List.setIfInBounds_toArray, List.set_cons_succ, List.set_cons_zero]))
    refine wpH_nil (by kernel_rfl) (by simp) ?_
    rintro ⟨vs, xz⟩ hg hgl
    rw [← HΓ.out] at hg
    replace HO := Lib.hid (ghO_at hg 2 hgl rfl)
    simp only [gexAll, List.drop]
    clear g0 g1 g2 g3 g4 g5 ne HST hg hgl HΓ
    go_wp2
    go_ret
    exact ⟨rfl, HO.out.take 2, HO.out.size⟩
  · have m0 : (kd % 5 == 0) = false := by simp [h5]
    have m1 : (kd % 5 == 1) = true := by simp [h5]
    have m2 : (kd % 5 == 2) = false := by simp [h5]
    have m3 : (kd % 5 == 3) = false := by simp [h5]
    have m4 : (kd % 5 == 4) = false := by simp [h5]
    have hS : (anyR st pr so).2.2 = st' := by rw [← hs]; simp [toldS, h5]
    clear h5 hs
    obtain ⟨n, e, st2, he⟩ : ∃ n e s2, anyR st pr so = (n, e, s2) := ⟨_, _, _, rfl⟩
    rw [he] at hS
    simp only at hS
    subst hS
    have HE := Lib.hid he
    have HE2 := Lib.hid (show ranyR st pr so = (n, e, st2) by rw [rany_eq HI.out, he])
    clear he
    go_enter Try.func13, Try.ntmps13
    go_wp2_with fail
    refine (any_o HO.out 0 rfl HE.out HL1.out HL2.out HG.out.1 HG.out.2).mono ?_
    rintro e x2 ⟨rfl, hO, -⟩
    replace HO := Lib.hid (show Own w D x2 [resP p st2, resQ q st, blkR bx (.cells #[.int .u8 kd, .bool ud, .int .i64 po, .int .i64 so, .int .i64 th, .int .i64 ot] 29)] from hO)
    clear hO
    clear hx1 hbx z2_0 z2_1 z2_2 z2_3 z2_4 z2_5
    have z2_0 : x2.cell? ⟨bx, 0, none⟩ = some (.int .u8 kd) := HO.out.cell 2 rfl 0 rfl
    have z2_1 : x2.cell? ⟨bx, 1, none⟩ = some (.bool ud) := HO.out.cell 2 rfl 1 rfl
    have z2_2 : x2.cell? ⟨bx, 2, none⟩ = some (.int .i64 po) := HO.out.cell 2 rfl 2 rfl
    have z2_3 : x2.cell? ⟨bx, 3, none⟩ = some (.int .i64 so) := HO.out.cell 2 rfl 3 rfl
    have z2_4 : x2.cell? ⟨bx, 4, none⟩ = some (.int .i64 th) := HO.out.cell 2 rfl 4 rfl
    have z2_5 : x2.cell? ⟨bx, 5, none⟩ = some (.int .i64 ot) := HO.out.cell 2 rfl 5 rfl
    go_wp2_with fail
    refine (rany_l HO.out 1 rfl HE2.out HL1.out HL2.out HI.out.sd HG.out).mono ?_
    rintro e x3 ⟨rfl, hO, -⟩
    replace HO := Lib.hid (show Own w D x3 [resP p st2, resQ q st2, blkR bx (.cells #[.int .u8 kd, .bool ud, .int .i64 po, .int .i64 so, .int .i64 th, .int .i64 ot] 29)] from hO)
    clear hO
    clear z2_0 z2_1 z2_2 z2_3 z2_4 z2_5
    go_wp2
    go_ret
    exact ⟨rfl, HO.out.take 2, HO.out.size⟩
  · have m0 : (kd % 5 == 0) = false := by simp [h5]
    have m1 : (kd % 5 == 1) = false := by simp [h5]
    have m2 : (kd % 5 == 2) = true := by simp [h5]
    have m3 : (kd % 5 == 3) = false := by simp [h5]
    have m4 : (kd % 5 == 4) = false := by simp [h5]
    have hS : connS st so po th ot = st' := by rw [← hs]; simp [toldS, h5]
    clear h5 hs
    have HS := Lib.hid hS
    clear hS
    obtain ⟨e, he⟩ : ∃ e, connE st so po th ot = e := ⟨_, rfl⟩
    have HE := Lib.hid he
    have HE2 := Lib.hid (show rconnE st so po th ot = e by rw [rconn_eq, he])
    have HS2 := Lib.hid (show rconnS st so po th ot = st' by rw [rconnS_eq, HS.out])
    clear he
    go_enter Try.func13, Try.ntmps13
    go_wp2
    clear hx1 hbx z2_0 z2_1 z2_2 z2_3 z2_4 z2_5
    generalize hΓ : ghO w D [[resP p st, resQ q st, blkR bx (.cells #[.int .u8 kd, .bool ud, .int .i64 po, .int .i64 so, .int .i64 th, .int .i64 ot] 29)], [resP p st', resQ q st, blkR bx (.cells #[.int .u8 kd, .bool ud, .int .i64 po, .int .i64 so, .int .i64 th, .int .i64 ot] 29)], [resP p st', resQ q st', blkR bx (.cells #[.int .u8 kd, .bool ud, .int .i64 po, .int .i64 so, .int .i64 th, .int .i64 ot] 29)]] = Γ
    have HST := Lib.hid (show Γ.inv [] x1 by rw [← hΓ]; exact ghO_start HO.out)
    have g0 : ∀ z : Γ.Wd, z.w.cell? ⟨bx, 0, none⟩ = some (.int .u8 kd) := by rw [← hΓ]; exact ghO_cell (c := #[.int .u8 kd, .bool ud, .int .i64 po, .int .i64 so, .int .i64 th, .int .i64 ot]) (t := 29) 2 (by simp) 0 rfl
    have g1 : ∀ z : Γ.Wd, z.w.cell? ⟨bx, 1, none⟩ = some (.bool ud) := by rw [← hΓ]; exact ghO_cell (c := #[.int .u8 kd, .bool ud, .int .i64 po, .int .i64 so, .int .i64 th, .int .i64 ot]) (t := 29) 2 (by simp) 1 rfl
    have g2 : ∀ z : Γ.Wd, z.w.cell? ⟨bx, 2, none⟩ = some (.int .i64 po) := by rw [← hΓ]; exact ghO_cell (c := #[.int .u8 kd, .bool ud, .int .i64 po, .int .i64 so, .int .i64 th, .int .i64 ot]) (t := 29) 2 (by simp) 2 rfl
    have g3 : ∀ z : Γ.Wd, z.w.cell? ⟨bx, 3, none⟩ = some (.int .i64 so) := by rw [← hΓ]; exact ghO_cell (c := #[.int .u8 kd, .bool ud, .int .i64 po, .int .i64 so, .int .i64 th, .int .i64 ot]) (t := 29) 2 (by simp) 3 rfl
    have g4 : ∀ z : Γ.Wd, z.w.cell? ⟨bx, 4, none⟩ = some (.int .i64 th) := by rw [← hΓ]; exact ghO_cell (c := #[.int .u8 kd, .bool ud, .int .i64 po, .int .i64 so, .int .i64 th, .int .i64 ot]) (t := 29) 2 (by simp) 4 rfl
    have g5 : ∀ z : Γ.Wd, z.w.cell? ⟨bx, 5, none⟩ = some (.int .i64 ot) := by rw [← hΓ]; exact ghO_cell (c := #[.int .u8 kd, .bool ud, .int .i64 po, .int .i64 so, .int .i64 th, .int .i64 ot]) (t := 29) 2 (by simp) 5 rfl
    have HΓ := Lib.hid hΓ
    clear hΓ
    have ne : Nonempty Γ.Wd := ⟨⟨[], x1, HST.out⟩⟩
    refine wp_region_H Γ 21 [9, 19] (by kernel_rfl) (by kernel_rfl) (by kernel_rfl) (by kernel_rfl) HST.out ?_
    simp only [List.take, List.drop]
    iterate 9 (first | (refine wpH_want (by kernel_rfl) (by kernel_rfl) rfl rfl ?_; intro K hK; go_big_quiet_op; go_big_quiet_on) | (refine wpH_is (by kernel_rfl) (by kernel_rfl) rfl _ (fun _ w _ => rfl) ?_; simp only [Act.put, List.setIfInBounds_toArray, List.set_cons_succ, List.set_cons_zero]))
    refine wpH_chain 0 (by kernel_rfl) (by kernel_rfl) rfl 22 #[.pointer (some ⟨p, 0, none⟩), .int .i64 so, .int .i64 po, .int .i64 th, .int .i64 ot] (.int .i64 e) (fun w => by simp [go_sem]) (fun vs w hg hvs => by
      rw [← HΓ.out] at hg ⊢
      exact ghO_call 0 hg hvs rfl rfl fun ho => conn_o ho 0 rfl HE.out HS.out HL2.out) ?_
    simp only [Act.put, List.setIfInBounds_toArray, List.set_cons_succ, List.set_cons_zero]
    iterate 9 (first | (refine wpH_want (by kernel_rfl) (by kernel_rfl) rfl rfl ?_; intro K hK; go_big_quiet_op; go_big_quiet_on) | (refine wpH_is (by kernel_rfl) (by kernel_rfl) rfl _ (fun _ w _ => rfl) ?_; simp only [Act.put, List.setIfInBounds_toArray, List.set_cons_succ, List.set_cons_zero]))
    refine wpH_chain 1 (by kernel_rfl) (by kernel_rfl) rfl 27 #[.pointer (some ⟨q, 0, none⟩), .int .i64 so, .int .i64 po, .int .i64 th, .int .i64 ot] (.int .i64 e) (fun w => by simp [go_sem]) (fun vs w hg hvs => by
      rw [← HΓ.out] at hg ⊢
      exact ghO_call 1 hg hvs rfl rfl fun ho => rconn_l ho 1 rfl HE2.out HS2.out HL1.out HL2.out) ?_
    simp only [Act.put, List.setIfInBounds_toArray, List.set_cons_succ, List.set_cons_zero]
    (first | (refine wpH_want (by kernel_rfl) (by kernel_rfl) rfl rfl ?_; intro K hK; go_big_quiet_op; go_big_quiet_on) | (refine wpH_is (by kernel_rfl) (by kernel_rfl) rfl _ (fun _ w _ => rfl) ?_; simp only [Act.put, List.setIfInBounds_toArray, List.set_cons_succ, List.set_cons_zero]))
    refine wpH_nil (by kernel_rfl) (by simp) ?_
    rintro ⟨vs, xz⟩ hg hgl
    rw [← HΓ.out] at hg
    replace HO := Lib.hid (ghO_at hg 2 hgl rfl)
    simp only [gexAll, List.drop]
    clear g0 g1 g2 g3 g4 g5 ne HST hg hgl HΓ
    go_wp2
    go_ret
    exact ⟨rfl, HO.out.take 2, HO.out.size⟩
  · have m0 : (kd % 5 == 0) = false := by simp [h5]
    have m1 : (kd % 5 == 1) = false := by simp [h5]
    have m2 : (kd % 5 == 2) = false := by simp [h5]
    have m3 : (kd % 5 == 3) = true := by simp [h5]
    have m4 : (kd % 5 == 4) = false := by simp [h5]
    have hS : relS st so = st' := by rw [← hs]; simp [toldS, h5]
    clear h5 hs
    have HS := Lib.hid hS
    clear hS
    go_enter Try.func13, Try.ntmps13
    go_wp2_with fail
    refine (rel_o HO.out 0 rfl HS.out HL1.out HL2.out).mono ?_
    rintro e x2 ⟨rfl, hO, -⟩
    replace HO := Lib.hid (show Own w D x2 [resP p st', resQ q st, blkR bx (.cells #[.int .u8 kd, .bool ud, .int .i64 po, .int .i64 so, .int .i64 th, .int .i64 ot] 29)] from hO)
    clear hO
    clear hx1 hbx z2_0 z2_1 z2_2 z2_3 z2_4 z2_5
    have z2_0 : x2.cell? ⟨bx, 0, none⟩ = some (.int .u8 kd) := HO.out.cell 2 rfl 0 rfl
    have z2_1 : x2.cell? ⟨bx, 1, none⟩ = some (.bool ud) := HO.out.cell 2 rfl 1 rfl
    have z2_2 : x2.cell? ⟨bx, 2, none⟩ = some (.int .i64 po) := HO.out.cell 2 rfl 2 rfl
    have z2_3 : x2.cell? ⟨bx, 3, none⟩ = some (.int .i64 so) := HO.out.cell 2 rfl 3 rfl
    have z2_4 : x2.cell? ⟨bx, 4, none⟩ = some (.int .i64 th) := HO.out.cell 2 rfl 4 rfl
    have z2_5 : x2.cell? ⟨bx, 5, none⟩ = some (.int .i64 ot) := HO.out.cell 2 rfl 5 rfl
    go_wp2_with fail
    refine (rrel_l HO.out 1 rfl HS.out HL1.out HL2.out).mono ?_
    rintro e x3 ⟨rfl, hO, -⟩
    replace HO := Lib.hid (show Own w D x3 [resP p st', resQ q st', blkR bx (.cells #[.int .u8 kd, .bool ud, .int .i64 po, .int .i64 so, .int .i64 th, .int .i64 ot] 29)] from hO)
    clear hO
    clear z2_0 z2_1 z2_2 z2_3 z2_4 z2_5
    go_wp2
    go_ret
    exact ⟨rfl, HO.out.take 2, HO.out.size⟩
  · have m0 : (kd % 5 == 0) = false := by simp [h5]
    have m1 : (kd % 5 == 1) = false := by simp [h5]
    have m2 : (kd % 5 == 2) = false := by simp [h5]
    have m3 : (kd % 5 == 3) = false := by simp [h5]
    have m4 : (kd % 5 == 4) = true := by simp [h5]
    have hS : st = st' := by rw [← hs]; simp [toldS, h5]
    clear h5 hs
    subst hS
    obtain ⟨n, b, hl⟩ : ∃ n b, lookF st pr po th ot = (n, b) := ⟨_, _, rfl⟩
    have HK := Lib.hid hl
    have HK2 := Lib.hid (show rlookF st pr po th ot = (n, b) by rw [rlook_eq HI.out, hl])
    clear hl
    go_enter Try.func13, Try.ntmps13
    go_wp2_with fail
    refine (look_o HO.out 0 rfl HK.out HL2.out).mono ?_
    rintro e x2 ⟨rfl, hO, -⟩
    replace HO := Lib.hid (show Own w D x2 [resP p st, resQ q st, blkR bx (.cells #[.int .u8 kd, .bool ud, .int .i64 po, .int .i64 so, .int .i64 th, .int .i64 ot] 29)] from hO)
    clear hO
    clear hx1 hbx z2_0 z2_1 z2_2 z2_3 z2_4 z2_5
    have z2_0 : x2.cell? ⟨bx, 0, none⟩ = some (.int .u8 kd) := HO.out.cell 2 rfl 0 rfl
    have z2_1 : x2.cell? ⟨bx, 1, none⟩ = some (.bool ud) := HO.out.cell 2 rfl 1 rfl
    have z2_2 : x2.cell? ⟨bx, 2, none⟩ = some (.int .i64 po) := HO.out.cell 2 rfl 2 rfl
    have z2_3 : x2.cell? ⟨bx, 3, none⟩ = some (.int .i64 so) := HO.out.cell 2 rfl 3 rfl
    have z2_4 : x2.cell? ⟨bx, 4, none⟩ = some (.int .i64 th) := HO.out.cell 2 rfl 4 rfl
    have z2_5 : x2.cell? ⟨bx, 5, none⟩ = some (.int .i64 ot) := HO.out.cell 2 rfl 5 rfl
    go_wp2_with fail
    refine (rlook_o HO.out 1 rfl HK2.out HL1.out HL2.out).mono ?_
    rintro e x3 ⟨rfl, hO, -⟩
    replace HO := Lib.hid (show Own w D x3 [resP p st, resQ q st, blkR bx (.cells #[.int .u8 kd, .bool ud, .int .i64 po, .int .i64 so, .int .i64 th, .int .i64 ot] 29)] from hO)
    clear hO
    clear z2_0 z2_1 z2_2 z2_3 z2_4 z2_5
    cases b <;> (go_wp2; go_ret; exact ⟨rfl, HO.out.take 2, HO.out.size⟩)

end Go.Proofs.Ytfipamdknanlmaa
