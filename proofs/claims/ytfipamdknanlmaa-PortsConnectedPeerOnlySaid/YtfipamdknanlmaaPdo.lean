/- The contract of do: a call of Bind or Connect. Printed by wip/tools/gen23r.py. -/
import Derived.Test.YtfipamdknanlmaaPown
namespace Go.Proofs.Ytfipamdknanlmaa
open Go.RowKit Go.Sort
set_option linter.unusedVariables false

def doE (st : PSt) (c : Cl) : Int := if c.kd % 5 = 2 then connE st c.so c.po c.th c.ot else bindE st (protoF c) c.po c.so
def doS (st : PSt) (c : Cl) : PSt := if c.kd % 5 = 2 then connS st c.so c.po c.th c.ot else bindS st (protoF c) c.po c.so
set_option maxRecDepth 100000 in
set_option maxHeartbeats 1000000 in
theorem do_o {w0 w : World} {D : Nat → Prop} {L : List Res} {p : Nat} {st st' : PSt} {c : Cl} {e : Int} (h : Own w0 D w L) (i : Nat) (hi : L[i]? = some (resP p st)) (he : doE st c = e) (hs : doS st c = st') (hkd : 0 ≤ c.kd ∧ c.kd ≤ 255) (hl1 : st.B.length ≤ 1000000) (hl2 : st.J.length ≤ 1000000) :
    Calls Try.prog 23 #[.pointer (some ⟨p, 0, none⟩), clV c] w (OPost w0 D (L.set i (resP p st')) (.int .i64 e) w) := by
  refine o_one h hi fun D HO0 => ?_
  obtain ⟨kd, ud, po, so, th, ot⟩ := c
  obtain ⟨hk0, hk1⟩ := hkd
  simp only at hk0 hk1
  have HL1 := Lib.hid hl1
  have HL2 := Lib.hid hl2
  by_cases hk : kd % 5 = 2
  · have hk' : (kd % 5 == 2) = true := by simp [hk]
    have HE := Lib.hid (show connE st so po th ot = e by simpa [doE, hk] using he)
    have HS := Lib.hid (show connS st so po th ot = st' by simpa [doS, hk] using hs)
    have HO := Lib.hid (show Own w D w [resP p st] from HO0)
    clear HO0 h hi he hs hk hl1 hl2
    obtain ⟨x1, hx1⟩ : ∃ y, w.alloc (.cells #[.int .u8 kd, .bool ud, .int .i64 po, .int .i64 so, .int .i64 th, .int .i64 ot] 29) = y := ⟨_, rfl⟩
    obtain ⟨bx, hbx⟩ : ∃ y, w.heap.size = y := ⟨_, rfl⟩
    have hO := HO.out.alloc (.cells #[.int .u8 kd, .bool ud, .int .i64 po, .int .i64 so, .int .i64 th, .int .i64 ot] 29)
    rw [hx1, hbx] at hO
    replace HO := Lib.hid (show Own w D x1 [resP p st, blkR bx (.cells #[.int .u8 kd, .bool ud, .int .i64 po, .int .i64 so, .int .i64 th, .int .i64 ot] 29)] from hO)
    clear hO
    have z1_0 : x1.cell? ⟨bx, 0, none⟩ = some (.int .u8 kd) := HO.out.cell 1 rfl 0 rfl
    have z1_1 : x1.cell? ⟨bx, 1, none⟩ = some (.bool ud) := HO.out.cell 1 rfl 1 rfl
    have z1_2 : x1.cell? ⟨bx, 2, none⟩ = some (.int .i64 po) := HO.out.cell 1 rfl 2 rfl
    have z1_3 : x1.cell? ⟨bx, 3, none⟩ = some (.int .i64 so) := HO.out.cell 1 rfl 3 rfl
    have z1_4 : x1.cell? ⟨bx, 4, none⟩ = some (.int .i64 th) := HO.out.cell 1 rfl 4 rfl
    have z1_5 : x1.cell? ⟨bx, 5, none⟩ = some (.int .i64 ot) := HO.out.cell 1 rfl 5 rfl
    go_enter Try.func23, Try.ntmps23
    go_wp2_with fail
    refine (conn_o HO.out 0 rfl HE.out HS.out HL2.out).mono ?_
    rintro e x2 ⟨rfl, hO, -⟩
    replace HO := Lib.hid (show Own w D x2 [resP p st', blkR bx (.cells #[.int .u8 kd, .bool ud, .int .i64 po, .int .i64 so, .int .i64 th, .int .i64 ot] 29)] from hO)
    clear hO
    clear hx1 hbx z1_0 z1_1 z1_2 z1_3 z1_4 z1_5
    go_wp2
    go_ret
    exact ⟨rfl, HO.out.take 1, HO.out.size⟩
  · have hk' : (kd % 5 == 2) = false := by simp [hk]
    have HE := Lib.hid (show bindE st (protoF ⟨kd, ud, po, so, th, ot⟩) po so = e by simpa [doE, hk] using he)
    have HS := Lib.hid (show bindS st (protoF ⟨kd, ud, po, so, th, ot⟩) po so = st' by simpa [doS, hk] using hs)
    have HO := Lib.hid (show Own w D w [resP p st] from HO0)
    clear HO0 h hi he hs hk hl1 hl2
    obtain ⟨x1, hx1⟩ : ∃ y, w.alloc (.cells #[.int .u8 kd, .bool ud, .int .i64 po, .int .i64 so, .int .i64 th, .int .i64 ot] 29) = y := ⟨_, rfl⟩
    obtain ⟨bx, hbx⟩ : ∃ y, w.heap.size = y := ⟨_, rfl⟩
    have hO := HO.out.alloc (.cells #[.int .u8 kd, .bool ud, .int .i64 po, .int .i64 so, .int .i64 th, .int .i64 ot] 29)
    rw [hx1, hbx] at hO
    replace HO := Lib.hid (show Own w D x1 [resP p st, blkR bx (.cells #[.int .u8 kd, .bool ud, .int .i64 po, .int .i64 so, .int .i64 th, .int .i64 ot] 29)] from hO)
    clear hO
    have z1_0 : x1.cell? ⟨bx, 0, none⟩ = some (.int .u8 kd) := HO.out.cell 1 rfl 0 rfl
    have z1_1 : x1.cell? ⟨bx, 1, none⟩ = some (.bool ud) := HO.out.cell 1 rfl 1 rfl
    have z1_2 : x1.cell? ⟨bx, 2, none⟩ = some (.int .i64 po) := HO.out.cell 1 rfl 2 rfl
    have z1_3 : x1.cell? ⟨bx, 3, none⟩ = some (.int .i64 so) := HO.out.cell 1 rfl 3 rfl
    have z1_4 : x1.cell? ⟨bx, 4, none⟩ = some (.int .i64 th) := HO.out.cell 1 rfl 4 rfl
    have z1_5 : x1.cell? ⟨bx, 5, none⟩ = some (.int .i64 ot) := HO.out.cell 1 rfl 5 rfl
    go_enter Try.func23, Try.ntmps23
    go_wp2
    clear hx1 hbx z1_0 z1_1 z1_2 z1_3 z1_4 z1_5
    generalize hΓ : ghO w D [[resP p st, blkR bx (.cells #[.int .u8 kd, .bool ud, .int .i64 po, .int .i64 so, .int .i64 th, .int .i64 ot] 29)], [resP p st', blkR bx (.cells #[.int .u8 kd, .bool ud, .int .i64 po, .int .i64 so, .int .i64 th, .int .i64 ot] 29)]] = Γ
    have HST := Lib.hid (show Γ.inv [] x1 by rw [← hΓ]; exact ghO_start HO.out)
    have g0 : ∀ q : Γ.Wd, q.w.cell? ⟨bx, 0, none⟩ = some (.int .u8 kd) := by rw [← hΓ]; exact ghO_cell (c := #[.int .u8 kd, .bool ud, .int .i64 po, .int .i64 so, .int .i64 th, .int .i64 ot]) (t := 29) 1 (by simp) 0 rfl
    have g1 : ∀ q : Γ.Wd, q.w.cell? ⟨bx, 1, none⟩ = some (.bool ud) := by rw [← hΓ]; exact ghO_cell (c := #[.int .u8 kd, .bool ud, .int .i64 po, .int .i64 so, .int .i64 th, .int .i64 ot]) (t := 29) 1 (by simp) 1 rfl
    have g2 : ∀ q : Γ.Wd, q.w.cell? ⟨bx, 2, none⟩ = some (.int .i64 po) := by rw [← hΓ]; exact ghO_cell (c := #[.int .u8 kd, .bool ud, .int .i64 po, .int .i64 so, .int .i64 th, .int .i64 ot]) (t := 29) 1 (by simp) 2 rfl
    have g3 : ∀ q : Γ.Wd, q.w.cell? ⟨bx, 3, none⟩ = some (.int .i64 so) := by rw [← hΓ]; exact ghO_cell (c := #[.int .u8 kd, .bool ud, .int .i64 po, .int .i64 so, .int .i64 th, .int .i64 ot]) (t := 29) 1 (by simp) 3 rfl
    have g4 : ∀ q : Γ.Wd, q.w.cell? ⟨bx, 4, none⟩ = some (.int .i64 th) := by rw [← hΓ]; exact ghO_cell (c := #[.int .u8 kd, .bool ud, .int .i64 po, .int .i64 so, .int .i64 th, .int .i64 ot]) (t := 29) 1 (by simp) 4 rfl
    have g5 : ∀ q : Γ.Wd, q.w.cell? ⟨bx, 5, none⟩ = some (.int .i64 ot) := by rw [← hΓ]; exact ghO_cell (c := #[.int .u8 kd, .bool ud, .int .i64 po, .int .i64 so, .int .i64 th, .int .i64 ot]) (t := 29) 1 (by simp) 5 rfl
    have HΓ := Lib.hid hΓ
    clear hΓ
    have ne : Nonempty Γ.Wd := ⟨⟨[], x1, HST.out⟩⟩
    refine wp_region_H Γ 8 [7] (by kernel_rfl) (by kernel_rfl) (by kernel_rfl) (by kernel_rfl) HST.out ?_
    simp only [List.take, List.drop]
    iterate 2 (first | (refine wpH_want (by kernel_rfl) (by kernel_rfl) rfl rfl ?_; intro K hK; go_big_quiet_op; go_big_quiet_on) | (refine wpH_is (by kernel_rfl) (by kernel_rfl) rfl _ (fun _ w _ => rfl) ?_; simp only [Act.put, List.setIfInBounds_toArray, List.set_cons_succ, List.set_cons_zero]))
    refine wpH_call (by kernel_rfl) (by kernel_rfl) rfl 11 #[clV ⟨kd, ud, po, so, th, ot⟩] (.int .i64 (protoF ⟨kd, ud, po, so, th, ot⟩)) (fun w => by simp [go_sem]) (fun _ w _ => proto_any _ w) ?_
    simp only [Act.put, List.setIfInBounds_toArray, List.set_cons_succ, List.set_cons_zero]
    iterate 4 (first | (refine wpH_want (by kernel_rfl) (by kernel_rfl) rfl rfl ?_; intro K hK; go_big_quiet_op; go_big_quiet_on) | (refine wpH_is (by kernel_rfl) (by kernel_rfl) rfl _ (fun _ w _ => rfl) ?_; simp only [Act.put, List.setIfInBounds_toArray, List.set_cons_succ, List.set_cons_zero]))
    refine wpH_chain 0 (by kernel_rfl) (by kernel_rfl) rfl 20 #[.pointer (some ⟨p, 0, none⟩), .int .i64 (protoF ⟨kd, ud, po, so, th, ot⟩), .int .i64 po, .int .i64 so] (.int .i64 e) (fun w => by simp [go_sem]) (fun vs w hg hvs => by
      rw [← HΓ.out] at hg ⊢
      exact ghO_call 0 hg hvs rfl rfl fun ho => bind_o ho 0 rfl HE.out HS.out HL1.out) ?_
    simp only [Act.put, List.setIfInBounds_toArray, List.set_cons_succ, List.set_cons_zero]
    refine wpH_nil (by kernel_rfl) (by simp) ?_
    rintro ⟨vs, xz⟩ hg hgl
    rw [← HΓ.out] at hg
    replace HO := Lib.hid (ghO_at hg 1 hgl rfl)
    simp only [gexAll, List.drop]
    clear g0 g1 g2 g3 g4 g5 ne HST hg hgl HΓ
    go_wp2
    go_ret
    exact ⟨rfl, HO.out.take 1, HO.out.size⟩

end Go.Proofs.Ytfipamdknanlmaa
