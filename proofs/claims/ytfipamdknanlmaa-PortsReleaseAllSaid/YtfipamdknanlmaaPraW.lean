/- PortsReleaseAll, walked. Printed by wip/tools/gen23r.py. -/
import Derived.Test.YtfipamdknanlmaaPraP
import Derived.Test.YtfipamdknanlmaaOpn23
namespace Go.Proofs.Ytfipamdknanlmaa
open Go.RowKit Go.Sort
set_option linter.unusedVariables false

def tabR (n : Nat) : Int := ([80, 81, 49152, 49153, 49154, 49215, 7, 1] : List Int).getD n 0
theorem tabR_cell (n : Nat) (h1 : n < 8) : (#[Value.int .i64 80, .int .i64 81, .int .i64 49152, .int .i64 49153, .int .i64 49154, .int .i64 49215, .int .i64 7, .int .i64 1] : Array Value)[n]? = some (.int .i64 (tabR n)) := by
  obtain rfl | rfl | rfl | rfl | rfl | rfl | rfl | rfl : n = 0 ∨ n = 1 ∨ n = 2 ∨ n = 3 ∨ n = 4 ∨ n = 5 ∨ n = 6 ∨ n = 7 := by omega
  all_goals rfl
theorem run_bsR8 (w : World) : (Instr.buildSlice 37 8 #[(0, .int .i64 80), (1, .int .i64 81), (2, .int .i64 49152), (3, .int .i64 49153), (4, .int .i64 49154), (5, .int .i64 49215), (6, .int .i64 7), (7, .int .i64 1)]).run Try.prog w = .ok (.slice (some ⟨w.heap.size, 0, none⟩) 8 8) (w.alloc (.cells #[.int .i64 80, .int .i64 81, .int .i64 49152, .int .i64 49153, .int .i64 49154, .int .i64 49215, .int .i64 7, .int .i64 1] 3)) := by kernel_rfl

set_option maxRecDepth 100000 in
set_option maxHeartbeats 8000000 in
theorem relall_walk (len : Nat) (g : Nat → Cl) (v : Value) (wh : Int) (w : World) (hv : RdC w v len g) (hwh : 0 ≤ wh ∧ wh ≤ 255) :
    Calls Try.prog 6 #[v, .int .u8 wh] w fun e w' => e = .returned (.bool true) ∧ Below w.heap.size w w' := by
  obtain ⟨a, cap, rfl, hcap, hlen, hok, hcl⟩ := hv
  have HOK := Lib.hid hok
  have HCL := Lib.hid hcl
  clear hok hcl
  obtain ⟨hw0, hw1⟩ := hwh
  have hs0 : 0 ≤ wh % 6 := by omega
  have hs1 : wh % 6 < 6 := by omega
  have HO := Lib.hid (show Own w none0 w [] from Own.nil w none0)
  go_enter Try.func6, Try.ntmps6
  go_wp2_with fail
  refine (examples_o HO.out).mono ?_
  rintro e x1 ⟨rfl, hO, -⟩
  replace HO := Lib.hid (show Own w none0 x1 [] from hO)
  clear hO
  go_wp2_with fail
  refine (new_o 0 HO.out).mono ?_
  rintro e x2 ⟨p, rfl, hO, -⟩
  replace HO := Lib.hid (show Own w none0 x2 [resP p ⟨0, 0, [], []⟩] from hO)
  clear hO
  go_wp2_with fail
  refine (new_o 0 HO.out).mono ?_
  rintro e x3 ⟨q, rfl, hO, -⟩
  replace HO := Lib.hid (show Own w none0 x3 [resP p ⟨0, 0, [], []⟩, resP q ⟨0, 0, [], []⟩] from hO)
  clear hO
  go_wp2
  obtain ⟨sk, hsk⟩ : ∃ s, wh % 6 = s := ⟨_, rfl⟩
  rw [hsk] at hs0 hs1 ⊢
  clear hsk
  go_loopw [9, 10] (fun i _ wr => ∃ (kk : Nat) (Bs : List (Bk × Int)) (Js : List (Ck × Int)), kk ≤ len ∧ kk ≤ 60 ∧ i = .int .i64 kk ∧ Own w none0 wr [resP p ⟨0, 0, Bs, Js⟩, resP q ⟨0, 0, rel sk Bs, rel sk Js⟩] ∧ RA sk Bs Js ∧ Bs.length ≤ kk ∧ Js.length ≤ kk) (fun i _ _ => 60 - (intOf i).toNat)
  case atStart => exact ⟨0, [], [], Nat.zero_le _, by omega, rfl, HO.out, RA.nil _, Nat.le_refl _, Nat.le_refl _⟩
  case round =>
    obtain ⟨kk, Bs, Js, hk, hk60, rfl, hO, hR, hBl, hJl⟩ := hrel
    replace HO := Lib.hid hO
    have HR := Lib.hid hR
    have HL1 := Lib.hid (show Bs.length ≤ 1000000 by omega)
    have HL2 := Lib.hid (show Js.length ≤ 1000000 by omega)
    have HL3 := Lib.hid (Nat.le_trans (rel_len sk Bs) HL1.out)
    have HL4 := Lib.hid (Nat.le_trans (rel_len sk Js) HL2.out)
    have HBJ := Lib.hid (show Bs.length ≤ kk ∧ Js.length ≤ kk from ⟨hBl, hJl⟩)
    clear hO hR hBl hJl
    by_cases hlt : kk < len ∧ kk < 60
    · obtain ⟨hlt1, hlt2⟩ := hlt
      obtain ⟨b, o, rfl, hcc⟩ := HCL.out (by omega)
      have hcc := hcc kk hlt1
      have ok := HOK.out kk hlt1
      have ycell : ∀ j u, j < 6 → (clA (g kk))[j]? = some u → wr.cell? ⟨b, o + kk * 6 + j, none⟩ = some u := fun j u hj hu => keep HO.out.below ((hcc j hj).trans hu)
      generalize g kk = c at *
      obtain ⟨kd, ud, po, so, th, ot⟩ := c
      have y0 : wr.cell? ⟨b, o + kk * 6, none⟩ = some (.int .u8 kd) := ycell 0 _ (by decide) rfl
      have y1 : wr.cell? ⟨b, o + kk * 6 + 1, none⟩ = some (.bool ud) := ycell 1 _ (by decide) rfl
      have y2 : wr.cell? ⟨b, o + kk * 6 + 2, none⟩ = some (.int .i64 po) := ycell 2 _ (by decide) rfl
      have y3 : wr.cell? ⟨b, o + kk * 6 + 3, none⟩ = some (.int .i64 so) := ycell 3 _ (by decide) rfl
      have y4 : wr.cell? ⟨b, o + kk * 6 + 4, none⟩ = some (.int .i64 th) := ycell 4 _ (by decide) rfl
      have y5 : wr.cell? ⟨b, o + kk * 6 + 5, none⟩ = some (.int .i64 ot) := ycell 5 _ (by decide) rfl
      have HNR := Lib.hid (fun (x : World) (L : List Res) (h : Own w none0 x L) => near_o (w := x) (L := L) (c := ⟨kd, ud, po, so, th, ot⟩) h ok)
      obtain ⟨hk0, hk1⟩ := ok.kd
      simp only at hk0 hk1
      obtain ⟨s0, s1⟩ := pk_bd so 6 (by decide)
      have HNC := Lib.hid (show nearC ⟨kd, ud, po, so, th, ot⟩ = ⟨kd, ud, tabP (pk po 8), pk so 6, 100 + pk th 3, 900 + pk ot 3⟩ from rfl)
      rw [HNC.out] at HNR
      have HP7 := Lib.hid (tabP_ne7 (pk po 8))
      generalize pk so 6 = s at *
      generalize 100 + pk th 3 = th' at *
      generalize 900 + pk ot 3 = ot' at *
      generalize tabP (pk po 8) = po' at *
      clear ycell hcc HNC ok
      go_wp2_with fail
      refine (HNR.out _ _ HO.out).mono ?_
      rintro e x4 ⟨rfl, hO, -⟩
      replace HO := Lib.hid (show Own w none0 x4 [resP p ⟨0, 0, Bs, Js⟩, resP q ⟨0, 0, rel sk Bs, rel sk Js⟩] from hO)
      clear hO
      clear y0 y1 y2 y3 y4 y5 HNR
      obtain ⟨x5, hx5⟩ : ∃ y, x4.alloc (.cells #[.int .u8 kd, .bool ud, .int .i64 po', .int .i64 s, .int .i64 th', .int .i64 ot'] 29) = y := ⟨_, rfl⟩
      obtain ⟨bx, hbx⟩ : ∃ y, x4.heap.size = y := ⟨_, rfl⟩
      have hO := HO.out.alloc (.cells #[.int .u8 kd, .bool ud, .int .i64 po', .int .i64 s, .int .i64 th', .int .i64 ot'] 29)
      rw [hx5, hbx] at hO
      replace HO := Lib.hid (show Own w none0 x5 [resP p ⟨0, 0, Bs, Js⟩, resP q ⟨0, 0, rel sk Bs, rel sk Js⟩, blkR bx (.cells #[.int .u8 kd, .bool ud, .int .i64 po', .int .i64 s, .int .i64 th', .int .i64 ot'] 29)] from hO)
      clear hO
      have h4 : kd % 5 = 1 ∨ kd % 5 = 2 ∨ kd % 5 = 0 ∨ 2 < kd % 5 := by omega
      rcases h4 with h4 | h4 | h4 | h4
      · have k1 : (kd % 5 == 1) = true := by simp [h4]
        clear h4
        by_cases hsk : s = sk
        · subst hsk
          have hb1 : (s == s) = true := by simp
          have z2_0 : x5.cell? ⟨bx, 0, none⟩ = some (.int .u8 kd) := HO.out.cell 2 rfl 0 rfl
          have z2_3 : x5.cell? ⟨bx, 3, none⟩ = some (.int .i64 s) := HO.out.cell 2 rfl 3 rfl
          have y2_0 : x5.frozen? ⟨bx, 0, none⟩ = false := HO.out.frz 2 rfl 0
          obtain ⟨x6, hx6⟩ : ∃ y, x5.setCell ⟨bx, 0, none⟩ (.int .u8 0) = y := ⟨_, rfl⟩
          have hO := HO.out.setCell 2 rfl 0 (.int .u8 0)
          rw [hx6] at hO
          replace HO := Lib.hid (show Own w none0 x6 [resP p ⟨0, 0, Bs, Js⟩, resP q ⟨0, 0, rel s Bs, rel s Js⟩, blkR bx (.cells #[.int .u8 0, .bool ud, .int .i64 po', .int .i64 s, .int .i64 th', .int .i64 ot'] 29)] from hO)
          clear hO
          have z2_3b : x6.cell? ⟨bx, 3, none⟩ = some (.int .i64 s) := HO.out.cell 2 rfl 3 rfl
          have z2_0b : x6.cell? ⟨bx, 0, none⟩ = some (.int .u8 0) := HO.out.cell 2 rfl 0 rfl
          have y2_2 : x6.frozen? ⟨bx, 2, none⟩ = false := HO.out.frz 2 rfl 2
          have z2_2 : x6.cell? ⟨bx, 2, none⟩ = some (.int .i64 po') := HO.out.cell 2 rfl 2 rfl
          obtain ⟨x7, hx7⟩ : ∃ y, x6.setCell ⟨bx, 2, none⟩ (.int .i64 7) = y := ⟨_, rfl⟩
          have hO := HO.out.setCell 2 rfl 2 (.int .i64 7)
          rw [hx7] at hO
          replace HO := Lib.hid (show Own w none0 x7 [resP p ⟨0, 0, Bs, Js⟩, resP q ⟨0, 0, rel s Bs, rel s Js⟩, blkR bx (.cells #[.int .u8 0, .bool ud, .int .i64 7, .int .i64 s, .int .i64 th', .int .i64 ot'] 29)] from hO)
          clear hO
          have c0 : x7.cell? ⟨bx, 0, none⟩ = some (.int .u8 0) := HO.out.cell 2 rfl 0 rfl
          have c1 : x7.cell? ⟨bx, 1, none⟩ = some (.bool ud) := HO.out.cell 2 rfl 1 rfl
          have c2 : x7.cell? ⟨bx, 2, none⟩ = some (.int .i64 7) := HO.out.cell 2 rfl 2 rfl
          have c3 : x7.cell? ⟨bx, 3, none⟩ = some (.int .i64 s) := HO.out.cell 2 rfl 3 rfl
          have c4 : x7.cell? ⟨bx, 4, none⟩ = some (.int .i64 th') := HO.out.cell 2 rfl 4 rfl
          have c5 : x7.cell? ⟨bx, 5, none⟩ = some (.int .i64 ot') := HO.out.cell 2 rfl 5 rfl
          obtain ⟨Bs2, ⟨hS, hR2, hl1, hl2⟩, hrel⟩ := ra_bind HR.out (by omega) (protoF ⟨0, ud, 7, s, th', ot'⟩)
          have HS := Lib.hid hS
          have HR2 := Lib.hid hR2
          have HE := Lib.hid hrel
          have hbj := HBJ.out
          have HL5 := Lib.hid (show Bs2.length ≤ kk + 1 by omega)
          have HL6 := Lib.hid (show Js.length ≤ kk + 1 by omega)
          clear hS hR2 hl1 hl2 hrel hbj
          go_wp2_with fail
          refine (proto_o (c := ⟨0, ud, 7, s, th', ot'⟩) HO.out).mono ?_
          rintro e x8 ⟨rfl, hO, -⟩
          replace HO := Lib.hid (show Own w none0 x8 [resP p ⟨0, 0, Bs, Js⟩, resP q ⟨0, 0, rel s Bs, rel s Js⟩, blkR bx (.cells #[.int .u8 0, .bool ud, .int .i64 7, .int .i64 s, .int .i64 th', .int .i64 ot'] 29)] from hO)
          clear hO
          clear hx5 hbx z2_0 z2_3 y2_0 hx6 z2_3b z2_0b y2_2 z2_2 hx7 c0 c1 c2 c3 c4 c5
          go_wp2_with fail
          refine (bind_o HO.out 0 rfl rfl HS.out HL1.out).mono ?_
          rintro e x9 ⟨rfl, hO, -⟩
          replace HO := Lib.hid (show Own w none0 x9 [resP p ⟨0, 0, Bs2, Js⟩, resP q ⟨0, 0, rel s Bs, rel s Js⟩, blkR bx (.cells #[.int .u8 0, .bool ud, .int .i64 7, .int .i64 s, .int .i64 th', .int .i64 ot'] 29)] from hO)
          clear hO
          rw [← HE.out] at HO
          go_wp2
          go_roundw
          case rel => exact ⟨kk + 1, Bs2, Js, by omega, by omega, by go_num, HO.out.take 2, HR2.out, HL5.out, HL6.out⟩
          case measure => simp [intOf]; omega
        · have HSK := Lib.hid hsk
          have hb1 : (s == sk) = false := by simpa using hsk
          clear hsk
          have z2_0 : x5.cell? ⟨bx, 0, none⟩ = some (.int .u8 kd) := HO.out.cell 2 rfl 0 rfl
          have z2_3 : x5.cell? ⟨bx, 3, none⟩ = some (.int .i64 s) := HO.out.cell 2 rfl 3 rfl
          have y2_0 : x5.frozen? ⟨bx, 0, none⟩ = false := HO.out.frz 2 rfl 0
          obtain ⟨x6, hx6⟩ : ∃ y, x5.setCell ⟨bx, 0, none⟩ (.int .u8 0) = y := ⟨_, rfl⟩
          have hO := HO.out.setCell 2 rfl 0 (.int .u8 0)
          rw [hx6] at hO
          replace HO := Lib.hid (show Own w none0 x6 [resP p ⟨0, 0, Bs, Js⟩, resP q ⟨0, 0, rel sk Bs, rel sk Js⟩, blkR bx (.cells #[.int .u8 0, .bool ud, .int .i64 po', .int .i64 s, .int .i64 th', .int .i64 ot'] 29)] from hO)
          clear hO
          have z2_3b : x6.cell? ⟨bx, 3, none⟩ = some (.int .i64 s) := HO.out.cell 2 rfl 3 rfl
          have z2_0b : x6.cell? ⟨bx, 0, none⟩ = some (.int .u8 0) := HO.out.cell 2 rfl 0 rfl
          go_wp2
          clear hx5 hbx z2_0 z2_3 y2_0 hx6 z2_3b z2_0b
          obtain ⟨e, Bs2, Js2, hE1, hE2, ⟨hS1, hR2, hl1, hl2⟩, hS2⟩ := ra_do HR.out (c := ⟨0, ud, po', s, th', ot'⟩) HSK.out HP7.out (by simp only; omega)
          have HE1 := Lib.hid hE1
          have HE2 := Lib.hid hE2
          have HS1 := Lib.hid hS1
          have HS2 := Lib.hid hS2
          have HR2 := Lib.hid hR2
          have hbj := HBJ.out
          have HL5 := Lib.hid (show Bs2.length ≤ kk + 1 by omega)
          have HL6 := Lib.hid (show Js2.length ≤ kk + 1 by omega)
          clear hE1 hE2 hS1 hS2 hR2 hl1 hl2 hbj
          generalize hΓ : ghO w none0 [[resP p ⟨0, 0, Bs, Js⟩, resP q ⟨0, 0, rel sk Bs, rel sk Js⟩, blkR bx (.cells #[.int .u8 0, .bool ud, .int .i64 po', .int .i64 s, .int .i64 th', .int .i64 ot'] 29)], [resP p ⟨0, 0, Bs2, Js2⟩, resP q ⟨0, 0, rel sk Bs, rel sk Js⟩, blkR bx (.cells #[.int .u8 0, .bool ud, .int .i64 po', .int .i64 s, .int .i64 th', .int .i64 ot'] 29)], [resP p ⟨0, 0, Bs2, Js2⟩, resP q ⟨0, 0, rel sk Bs2, rel sk Js2⟩, blkR bx (.cells #[.int .u8 0, .bool ud, .int .i64 po', .int .i64 s, .int .i64 th', .int .i64 ot'] 29)]] = Γ
          have HST := Lib.hid (show Γ.inv [] x6 by rw [← hΓ]; exact ghO_start HO.out)
          have g0 : ∀ q : Γ.Wd, q.w.cell? ⟨bx, 0, none⟩ = some (.int .u8 0) := by rw [← hΓ]; exact ghO_cell (c := #[.int .u8 0, .bool ud, .int .i64 po', .int .i64 s, .int .i64 th', .int .i64 ot']) (t := 29) 2 (by simp) 0 rfl
          have g1 : ∀ q : Γ.Wd, q.w.cell? ⟨bx, 1, none⟩ = some (.bool ud) := by rw [← hΓ]; exact ghO_cell (c := #[.int .u8 0, .bool ud, .int .i64 po', .int .i64 s, .int .i64 th', .int .i64 ot']) (t := 29) 2 (by simp) 1 rfl
          have g2 : ∀ q : Γ.Wd, q.w.cell? ⟨bx, 2, none⟩ = some (.int .i64 po') := by rw [← hΓ]; exact ghO_cell (c := #[.int .u8 0, .bool ud, .int .i64 po', .int .i64 s, .int .i64 th', .int .i64 ot']) (t := 29) 2 (by simp) 2 rfl
          have g3 : ∀ q : Γ.Wd, q.w.cell? ⟨bx, 3, none⟩ = some (.int .i64 s) := by rw [← hΓ]; exact ghO_cell (c := #[.int .u8 0, .bool ud, .int .i64 po', .int .i64 s, .int .i64 th', .int .i64 ot']) (t := 29) 2 (by simp) 3 rfl
          have g4 : ∀ q : Γ.Wd, q.w.cell? ⟨bx, 4, none⟩ = some (.int .i64 th') := by rw [← hΓ]; exact ghO_cell (c := #[.int .u8 0, .bool ud, .int .i64 po', .int .i64 s, .int .i64 th', .int .i64 ot']) (t := 29) 2 (by simp) 4 rfl
          have g5 : ∀ q : Γ.Wd, q.w.cell? ⟨bx, 5, none⟩ = some (.int .i64 ot') := by rw [← hΓ]; exact ghO_cell (c := #[.int .u8 0, .bool ud, .int .i64 po', .int .i64 s, .int .i64 th', .int .i64 ot']) (t := 29) 2 (by simp) 5 rfl
          have HΓ := Lib.hid hΓ
          clear hΓ
          have ne : Nonempty Γ.Wd := ⟨⟨[], x6, HST.out⟩⟩
          refine wp_region_H Γ 7 [2, 5] (by kernel_rfl) (by kernel_rfl) (by kernel_rfl) (by kernel_rfl) HST.out ?_
          simp only [List.take, List.drop]
          iterate 2 (first | (refine wpH_want (by kernel_rfl) (by kernel_rfl) rfl rfl ?_; intro K hK; go_big_quiet_op; go_big_quiet_on) | (refine wpH_is (by kernel_rfl) (by kernel_rfl) rfl _ (fun _ w _ => rfl) ?_; simp only [Act.put, List.setIfInBounds_toArray, List.set_cons_succ, List.set_cons_zero]))
          refine wpH_chain 0 (by kernel_rfl) (by kernel_rfl) rfl 23 #[.pointer (some ⟨p, 0, none⟩), clV ⟨0, ud, po', s, th', ot'⟩] (.int .i64 e) (fun w => by simp [go_sem]) (fun vs w hg hvs => by
            rw [← HΓ.out] at hg ⊢
            exact ghO_call 0 hg hvs rfl rfl fun ho => do_o ho 0 rfl HE1.out HS1.out ⟨by simp only; omega, by simp only; omega⟩ HL1.out HL2.out) ?_
          simp only [Act.put, List.setIfInBounds_toArray, List.set_cons_succ, List.set_cons_zero]
          iterate 2 (first | (refine wpH_want (by kernel_rfl) (by kernel_rfl) rfl rfl ?_; intro K hK; go_big_quiet_op; go_big_quiet_on) | (refine wpH_is (by kernel_rfl) (by kernel_rfl) rfl _ (fun _ w _ => rfl) ?_; simp only [Act.put, List.setIfInBounds_toArray, List.set_cons_succ, List.set_cons_zero]))
          refine wpH_chain 1 (by kernel_rfl) (by kernel_rfl) rfl 23 #[.pointer (some ⟨q, 0, none⟩), clV ⟨0, ud, po', s, th', ot'⟩] (.int .i64 e) (fun w => by simp [go_sem]) (fun vs w hg hvs => by
            rw [← HΓ.out] at hg ⊢
            exact ghO_call 1 hg hvs rfl rfl fun ho => do_o ho 1 rfl HE2.out HS2.out ⟨by simp only; omega, by simp only; omega⟩ HL3.out HL4.out) ?_
          simp only [Act.put, List.setIfInBounds_toArray, List.set_cons_succ, List.set_cons_zero]
          (first | (refine wpH_want (by kernel_rfl) (by kernel_rfl) rfl rfl ?_; intro K hK; go_big_quiet_op; go_big_quiet_on) | (refine wpH_is (by kernel_rfl) (by kernel_rfl) rfl _ (fun _ w _ => rfl) ?_; simp only [Act.put, List.setIfInBounds_toArray, List.set_cons_succ, List.set_cons_zero]))
          refine wpH_nil (by kernel_rfl) (by simp) ?_
          rintro ⟨vs, xz⟩ hg hgl
          rw [← HΓ.out] at hg
          replace HO := Lib.hid (ghO_at hg 2 hgl rfl)
          simp only [gexAll, List.drop]
          clear g0 g1 g2 g3 g4 g5 ne HST hg hgl HΓ
          go_wp2
          go_roundw
          case rel => exact ⟨kk + 1, Bs2, Js2, by omega, by omega, by go_num, HO.out.take 2, HR2.out, HL5.out, HL6.out⟩
          case measure => simp [intOf]; omega
      · have k1 : (kd % 5 == 1) = false := by simp [h4]
        have k2 : decide (2 < kd % 5) = false := by simp [h4]
        have k3 : (kd % 5 == 2) = true := by simp [h4]
        clear h4
        by_cases hsk : s = sk
        · subst hsk
          have hb1 : (s == s) = true := by simp
          have z2_0 : x5.cell? ⟨bx, 0, none⟩ = some (.int .u8 kd) := HO.out.cell 2 rfl 0 rfl
          have z2_3 : x5.cell? ⟨bx, 3, none⟩ = some (.int .i64 s) := HO.out.cell 2 rfl 3 rfl
          have y2_2 : x5.frozen? ⟨bx, 2, none⟩ = false := HO.out.frz 2 rfl 2
          have z2_2 : x5.cell? ⟨bx, 2, none⟩ = some (.int .i64 po') := HO.out.cell 2 rfl 2 rfl
          obtain ⟨x6, hx6⟩ : ∃ y, x5.setCell ⟨bx, 2, none⟩ (.int .i64 7) = y := ⟨_, rfl⟩
          have hO := HO.out.setCell 2 rfl 2 (.int .i64 7)
          rw [hx6] at hO
          replace HO := Lib.hid (show Own w none0 x6 [resP p ⟨0, 0, Bs, Js⟩, resP q ⟨0, 0, rel s Bs, rel s Js⟩, blkR bx (.cells #[.int .u8 kd, .bool ud, .int .i64 7, .int .i64 s, .int .i64 th', .int .i64 ot'] 29)] from hO)
          clear hO
          have c0 : x6.cell? ⟨bx, 0, none⟩ = some (.int .u8 kd) := HO.out.cell 2 rfl 0 rfl
          have c1 : x6.cell? ⟨bx, 1, none⟩ = some (.bool ud) := HO.out.cell 2 rfl 1 rfl
          have c2 : x6.cell? ⟨bx, 2, none⟩ = some (.int .i64 7) := HO.out.cell 2 rfl 2 rfl
          have c3 : x6.cell? ⟨bx, 3, none⟩ = some (.int .i64 s) := HO.out.cell 2 rfl 3 rfl
          have c4 : x6.cell? ⟨bx, 4, none⟩ = some (.int .i64 th') := HO.out.cell 2 rfl 4 rfl
          have c5 : x6.cell? ⟨bx, 5, none⟩ = some (.int .i64 ot') := HO.out.cell 2 rfl 5 rfl
          obtain ⟨Js2, ⟨hS, hR2, hl1, hl2⟩, hrel⟩ := ra_conn HR.out (by omega) th' ot'
          have HS := Lib.hid hS
          have HR2 := Lib.hid hR2
          have HE := Lib.hid hrel
          have hbj := HBJ.out
          have HL5 := Lib.hid (show Bs.length ≤ kk + 1 by omega)
          have HL6 := Lib.hid (show Js2.length ≤ kk + 1 by omega)
          clear hS hR2 hl1 hl2 hrel hbj
          go_wp2_with fail
          refine (conn_o HO.out 0 rfl rfl HS.out HL2.out).mono ?_
          rintro e x7 ⟨rfl, hO, -⟩
          replace HO := Lib.hid (show Own w none0 x7 [resP p ⟨0, 0, Bs, Js2⟩, resP q ⟨0, 0, rel s Bs, rel s Js⟩, blkR bx (.cells #[.int .u8 kd, .bool ud, .int .i64 7, .int .i64 s, .int .i64 th', .int .i64 ot'] 29)] from hO)
          clear hO
          clear hx5 hbx z2_0 z2_3 y2_2 z2_2 hx6 c0 c1 c2 c3 c4 c5
          rw [← HE.out] at HO
          go_wp2
          go_roundw
          case rel => exact ⟨kk + 1, Bs, Js2, by omega, by omega, by go_num, HO.out.take 2, HR2.out, HL5.out, HL6.out⟩
          case measure => simp [intOf]; omega
        · have HSK := Lib.hid hsk
          have hb1 : (s == sk) = false := by simpa using hsk
          clear hsk
          have z2_0 : x5.cell? ⟨bx, 0, none⟩ = some (.int .u8 kd) := HO.out.cell 2 rfl 0 rfl
          have z2_3 : x5.cell? ⟨bx, 3, none⟩ = some (.int .i64 s) := HO.out.cell 2 rfl 3 rfl
          go_wp2
          clear hx5 hbx z2_0 z2_3
          obtain ⟨e, Bs2, Js2, hE1, hE2, ⟨hS1, hR2, hl1, hl2⟩, hS2⟩ := ra_do HR.out (c := ⟨kd, ud, po', s, th', ot'⟩) HSK.out HP7.out (by simp only; omega)
          have HE1 := Lib.hid hE1
          have HE2 := Lib.hid hE2
          have HS1 := Lib.hid hS1
          have HS2 := Lib.hid hS2
          have HR2 := Lib.hid hR2
          have hbj := HBJ.out
          have HL5 := Lib.hid (show Bs2.length ≤ kk + 1 by omega)
          have HL6 := Lib.hid (show Js2.length ≤ kk + 1 by omega)
          clear hE1 hE2 hS1 hS2 hR2 hl1 hl2 hbj
          generalize hΓ : ghO w none0 [[resP p ⟨0, 0, Bs, Js⟩, resP q ⟨0, 0, rel sk Bs, rel sk Js⟩, blkR bx (.cells #[.int .u8 kd, .bool ud, .int .i64 po', .int .i64 s, .int .i64 th', .int .i64 ot'] 29)], [resP p ⟨0, 0, Bs2, Js2⟩, resP q ⟨0, 0, rel sk Bs, rel sk Js⟩, blkR bx (.cells #[.int .u8 kd, .bool ud, .int .i64 po', .int .i64 s, .int .i64 th', .int .i64 ot'] 29)], [resP p ⟨0, 0, Bs2, Js2⟩, resP q ⟨0, 0, rel sk Bs2, rel sk Js2⟩, blkR bx (.cells #[.int .u8 kd, .bool ud, .int .i64 po', .int .i64 s, .int .i64 th', .int .i64 ot'] 29)]] = Γ
          have HST := Lib.hid (show Γ.inv [] x5 by rw [← hΓ]; exact ghO_start HO.out)
          have g0 : ∀ q : Γ.Wd, q.w.cell? ⟨bx, 0, none⟩ = some (.int .u8 kd) := by rw [← hΓ]; exact ghO_cell (c := #[.int .u8 kd, .bool ud, .int .i64 po', .int .i64 s, .int .i64 th', .int .i64 ot']) (t := 29) 2 (by simp) 0 rfl
          have g1 : ∀ q : Γ.Wd, q.w.cell? ⟨bx, 1, none⟩ = some (.bool ud) := by rw [← hΓ]; exact ghO_cell (c := #[.int .u8 kd, .bool ud, .int .i64 po', .int .i64 s, .int .i64 th', .int .i64 ot']) (t := 29) 2 (by simp) 1 rfl
          have g2 : ∀ q : Γ.Wd, q.w.cell? ⟨bx, 2, none⟩ = some (.int .i64 po') := by rw [← hΓ]; exact ghO_cell (c := #[.int .u8 kd, .bool ud, .int .i64 po', .int .i64 s, .int .i64 th', .int .i64 ot']) (t := 29) 2 (by simp) 2 rfl
          have g3 : ∀ q : Γ.Wd, q.w.cell? ⟨bx, 3, none⟩ = some (.int .i64 s) := by rw [← hΓ]; exact ghO_cell (c := #[.int .u8 kd, .bool ud, .int .i64 po', .int .i64 s, .int .i64 th', .int .i64 ot']) (t := 29) 2 (by simp) 3 rfl
          have g4 : ∀ q : Γ.Wd, q.w.cell? ⟨bx, 4, none⟩ = some (.int .i64 th') := by rw [← hΓ]; exact ghO_cell (c := #[.int .u8 kd, .bool ud, .int .i64 po', .int .i64 s, .int .i64 th', .int .i64 ot']) (t := 29) 2 (by simp) 4 rfl
          have g5 : ∀ q : Γ.Wd, q.w.cell? ⟨bx, 5, none⟩ = some (.int .i64 ot') := by rw [← hΓ]; exact ghO_cell (c := #[.int .u8 kd, .bool ud, .int .i64 po', .int .i64 s, .int .i64 th', .int .i64 ot']) (t := 29) 2 (by simp) 5 rfl
          have HΓ := Lib.hid hΓ
          clear hΓ
          have ne : Nonempty Γ.Wd := ⟨⟨[], x5, HST.out⟩⟩
          refine wp_region_H Γ 7 [2, 5] (by kernel_rfl) (by kernel_rfl) (by kernel_rfl) (by kernel_rfl) HST.out ?_
          simp only [List.take, List.drop]
          iterate 2 (first | (refine wpH_want (by kernel_rfl) (by kernel_rfl) rfl rfl ?_; intro K hK; go_big_quiet_op; go_big_quiet_on) | (refine wpH_is (by kernel_rfl) (by kernel_rfl) rfl _ (fun _ w _ => rfl) ?_; simp only [Act.put, List.setIfInBounds_toArray, List.set_cons_succ, List.set_cons_zero]))
          refine wpH_chain 0 (by kernel_rfl) (by kernel_rfl) rfl 23 #[.pointer (some ⟨p, 0, none⟩), clV ⟨kd, ud, po', s, th', ot'⟩] (.int .i64 e) (fun w => by simp [go_sem]) (fun vs w hg hvs => by
            rw [← HΓ.out] at hg ⊢
            exact ghO_call 0 hg hvs rfl rfl fun ho => do_o ho 0 rfl HE1.out HS1.out ⟨by simp only; omega, by simp only; omega⟩ HL1.out HL2.out) ?_
          simp only [Act.put, List.setIfInBounds_toArray, List.set_cons_succ, List.set_cons_zero]
          iterate 2 (first | (refine wpH_want (by kernel_rfl) (by kernel_rfl) rfl rfl ?_; intro K hK; go_big_quiet_op; go_big_quiet_on) | (refine wpH_is (by kernel_rfl) (by kernel_rfl) rfl _ (fun _ w _ => rfl) ?_; simp only [Act.put, List.setIfInBounds_toArray, List.set_cons_succ, List.set_cons_zero]))
          refine wpH_chain 1 (by kernel_rfl) (by kernel_rfl) rfl 23 #[.pointer (some ⟨q, 0, none⟩), clV ⟨kd, ud, po', s, th', ot'⟩] (.int .i64 e) (fun w => by simp [go_sem]) (fun vs w hg hvs => by
            rw [← HΓ.out] at hg ⊢
            exact ghO_call 1 hg hvs rfl rfl fun ho => do_o ho 1 rfl HE2.out HS2.out ⟨by simp only; omega, by simp only; omega⟩ HL3.out HL4.out) ?_
          simp only [Act.put, List.setIfInBounds_toArray, List.set_cons_succ, List.set_cons_zero]
          (first | (refine wpH_want (by kernel_rfl) (by kernel_rfl) rfl rfl ?_; intro K hK; go_big_quiet_op; go_big_quiet_on) | (refine wpH_is (by kernel_rfl) (by kernel_rfl) rfl _ (fun _ w _ => rfl) ?_; simp only [Act.put, List.setIfInBounds_toArray, List.set_cons_succ, List.set_cons_zero]))
          refine wpH_nil (by kernel_rfl) (by simp) ?_
          rintro ⟨vs, xz⟩ hg hgl
          rw [← HΓ.out] at hg
          replace HO := Lib.hid (ghO_at hg 2 hgl rfl)
          simp only [gexAll, List.drop]
          clear g0 g1 g2 g3 g4 g5 ne HST hg hgl HΓ
          go_wp2
          go_roundw
          case rel => exact ⟨kk + 1, Bs2, Js2, by omega, by omega, by go_num, HO.out.take 2, HR2.out, HL5.out, HL6.out⟩
          case measure => simp [intOf]; omega
      · have k1 : (kd % 5 == 1) = false := by simp [h4]
        have k2 : decide (2 < kd % 5) = false := by simp [h4]
        have k3 : (kd % 5 == 2) = false := by simp [h4]
        clear h4
        by_cases hsk : s = sk
        · subst hsk
          have hb1 : (s == s) = true := by simp
          have z2_0 : x5.cell? ⟨bx, 0, none⟩ = some (.int .u8 kd) := HO.out.cell 2 rfl 0 rfl
          have z2_3 : x5.cell? ⟨bx, 3, none⟩ = some (.int .i64 s) := HO.out.cell 2 rfl 3 rfl
          have y2_2 : x5.frozen? ⟨bx, 2, none⟩ = false := HO.out.frz 2 rfl 2
          have z2_2 : x5.cell? ⟨bx, 2, none⟩ = some (.int .i64 po') := HO.out.cell 2 rfl 2 rfl
          obtain ⟨x6, hx6⟩ : ∃ y, x5.setCell ⟨bx, 2, none⟩ (.int .i64 7) = y := ⟨_, rfl⟩
          have hO := HO.out.setCell 2 rfl 2 (.int .i64 7)
          rw [hx6] at hO
          replace HO := Lib.hid (show Own w none0 x6 [resP p ⟨0, 0, Bs, Js⟩, resP q ⟨0, 0, rel s Bs, rel s Js⟩, blkR bx (.cells #[.int .u8 kd, .bool ud, .int .i64 7, .int .i64 s, .int .i64 th', .int .i64 ot'] 29)] from hO)
          clear hO
          have c0 : x6.cell? ⟨bx, 0, none⟩ = some (.int .u8 kd) := HO.out.cell 2 rfl 0 rfl
          have c1 : x6.cell? ⟨bx, 1, none⟩ = some (.bool ud) := HO.out.cell 2 rfl 1 rfl
          have c2 : x6.cell? ⟨bx, 2, none⟩ = some (.int .i64 7) := HO.out.cell 2 rfl 2 rfl
          have c3 : x6.cell? ⟨bx, 3, none⟩ = some (.int .i64 s) := HO.out.cell 2 rfl 3 rfl
          have c4 : x6.cell? ⟨bx, 4, none⟩ = some (.int .i64 th') := HO.out.cell 2 rfl 4 rfl
          have c5 : x6.cell? ⟨bx, 5, none⟩ = some (.int .i64 ot') := HO.out.cell 2 rfl 5 rfl
          obtain ⟨Bs2, ⟨hS, hR2, hl1, hl2⟩, hrel⟩ := ra_bind HR.out (by omega) (protoF ⟨kd, ud, 7, s, th', ot'⟩)
          have HS := Lib.hid hS
          have HR2 := Lib.hid hR2
          have HE := Lib.hid hrel
          have hbj := HBJ.out
          have HL5 := Lib.hid (show Bs2.length ≤ kk + 1 by omega)
          have HL6 := Lib.hid (show Js.length ≤ kk + 1 by omega)
          clear hS hR2 hl1 hl2 hrel hbj
          go_wp2_with fail
          refine (proto_o (c := ⟨kd, ud, 7, s, th', ot'⟩) HO.out).mono ?_
          rintro e x7 ⟨rfl, hO, -⟩
          replace HO := Lib.hid (show Own w none0 x7 [resP p ⟨0, 0, Bs, Js⟩, resP q ⟨0, 0, rel s Bs, rel s Js⟩, blkR bx (.cells #[.int .u8 kd, .bool ud, .int .i64 7, .int .i64 s, .int .i64 th', .int .i64 ot'] 29)] from hO)
          clear hO
          clear hx5 hbx z2_0 z2_3 y2_2 z2_2 hx6 c0 c1 c2 c3 c4 c5
          go_wp2_with fail
          refine (bind_o HO.out 0 rfl rfl HS.out HL1.out).mono ?_
          rintro e x8 ⟨rfl, hO, -⟩
          replace HO := Lib.hid (show Own w none0 x8 [resP p ⟨0, 0, Bs2, Js⟩, resP q ⟨0, 0, rel s Bs, rel s Js⟩, blkR bx (.cells #[.int .u8 kd, .bool ud, .int .i64 7, .int .i64 s, .int .i64 th', .int .i64 ot'] 29)] from hO)
          clear hO
          rw [← HE.out] at HO
          go_wp2
          go_roundw
          case rel => exact ⟨kk + 1, Bs2, Js, by omega, by omega, by go_num, HO.out.take 2, HR2.out, HL5.out, HL6.out⟩
          case measure => simp [intOf]; omega
        · have HSK := Lib.hid hsk
          have hb1 : (s == sk) = false := by simpa using hsk
          clear hsk
          have z2_0 : x5.cell? ⟨bx, 0, none⟩ = some (.int .u8 kd) := HO.out.cell 2 rfl 0 rfl
          have z2_3 : x5.cell? ⟨bx, 3, none⟩ = some (.int .i64 s) := HO.out.cell 2 rfl 3 rfl
          go_wp2
          clear hx5 hbx z2_0 z2_3
          obtain ⟨e, Bs2, Js2, hE1, hE2, ⟨hS1, hR2, hl1, hl2⟩, hS2⟩ := ra_do HR.out (c := ⟨kd, ud, po', s, th', ot'⟩) HSK.out HP7.out (by simp only; omega)
          have HE1 := Lib.hid hE1
          have HE2 := Lib.hid hE2
          have HS1 := Lib.hid hS1
          have HS2 := Lib.hid hS2
          have HR2 := Lib.hid hR2
          have hbj := HBJ.out
          have HL5 := Lib.hid (show Bs2.length ≤ kk + 1 by omega)
          have HL6 := Lib.hid (show Js2.length ≤ kk + 1 by omega)
          clear hE1 hE2 hS1 hS2 hR2 hl1 hl2 hbj
          generalize hΓ : ghO w none0 [[resP p ⟨0, 0, Bs, Js⟩, resP q ⟨0, 0, rel sk Bs, rel sk Js⟩, blkR bx (.cells #[.int .u8 kd, .bool ud, .int .i64 po', .int .i64 s, .int .i64 th', .int .i64 ot'] 29)], [resP p ⟨0, 0, Bs2, Js2⟩, resP q ⟨0, 0, rel sk Bs, rel sk Js⟩, blkR bx (.cells #[.int .u8 kd, .bool ud, .int .i64 po', .int .i64 s, .int .i64 th', .int .i64 ot'] 29)], [resP p ⟨0, 0, Bs2, Js2⟩, resP q ⟨0, 0, rel sk Bs2, rel sk Js2⟩, blkR bx (.cells #[.int .u8 kd, .bool ud, .int .i64 po', .int .i64 s, .int .i64 th', .int .i64 ot'] 29)]] = Γ
          have HST := Lib.hid (show Γ.inv [] x5 by rw [← hΓ]; exact ghO_start HO.out)
          have g0 : ∀ q : Γ.Wd, q.w.cell? ⟨bx, 0, none⟩ = some (.int .u8 kd) := by rw [← hΓ]; exact ghO_cell (c := #[.int .u8 kd, .bool ud, .int .i64 po', .int .i64 s, .int .i64 th', .int .i64 ot']) (t := 29) 2 (by simp) 0 rfl
          have g1 : ∀ q : Γ.Wd, q.w.cell? ⟨bx, 1, none⟩ = some (.bool ud) := by rw [← hΓ]; exact ghO_cell (c := #[.int .u8 kd, .bool ud, .int .i64 po', .int .i64 s, .int .i64 th', .int .i64 ot']) (t := 29) 2 (by simp) 1 rfl
          have g2 : ∀ q : Γ.Wd, q.w.cell? ⟨bx, 2, none⟩ = some (.int .i64 po') := by rw [← hΓ]; exact ghO_cell (c := #[.int .u8 kd, .bool ud, .int .i64 po', .int .i64 s, .int .i64 th', .int .i64 ot']) (t := 29) 2 (by simp) 2 rfl
          have g3 : ∀ q : Γ.Wd, q.w.cell? ⟨bx, 3, none⟩ = some (.int .i64 s) := by rw [← hΓ]; exact ghO_cell (c := #[.int .u8 kd, .bool ud, .int .i64 po', .int .i64 s, .int .i64 th', .int .i64 ot']) (t := 29) 2 (by simp) 3 rfl
          have g4 : ∀ q : Γ.Wd, q.w.cell? ⟨bx, 4, none⟩ = some (.int .i64 th') := by rw [← hΓ]; exact ghO_cell (c := #[.int .u8 kd, .bool ud, .int .i64 po', .int .i64 s, .int .i64 th', .int .i64 ot']) (t := 29) 2 (by simp) 4 rfl
          have g5 : ∀ q : Γ.Wd, q.w.cell? ⟨bx, 5, none⟩ = some (.int .i64 ot') := by rw [← hΓ]; exact ghO_cell (c := #[.int .u8 kd, .bool ud, .int .i64 po', .int .i64 s, .int .i64 th', .int .i64 ot']) (t := 29) 2 (by simp) 5 rfl
          have HΓ := Lib.hid hΓ
          clear hΓ
          have ne : Nonempty Γ.Wd := ⟨⟨[], x5, HST.out⟩⟩
          refine wp_region_H Γ 7 [2, 5] (by kernel_rfl) (by kernel_rfl) (by kernel_rfl) (by kernel_rfl) HST.out ?_
          simp only [List.take, List.drop]
          iterate 2 (first | (refine wpH_want (by kernel_rfl) (by kernel_rfl) rfl rfl ?_; intro K hK; go_big_quiet_op; go_big_quiet_on) | (refine wpH_is (by kernel_rfl) (by kernel_rfl) rfl _ (fun _ w _ => rfl) ?_; simp only [Act.put, List.setIfInBounds_toArray, List.set_cons_succ, List.set_cons_zero]))
          refine wpH_chain 0 (by kernel_rfl) (by kernel_rfl) rfl 23 #[.pointer (some ⟨p, 0, none⟩), clV ⟨kd, ud, po', s, th', ot'⟩] (.int .i64 e) (fun w => by simp [go_sem]) (fun vs w hg hvs => by
            rw [← HΓ.out] at hg ⊢
            exact ghO_call 0 hg hvs rfl rfl fun ho => do_o ho 0 rfl HE1.out HS1.out ⟨by simp only; omega, by simp only; omega⟩ HL1.out HL2.out) ?_
          simp only [Act.put, List.setIfInBounds_toArray, List.set_cons_succ, List.set_cons_zero]
          iterate 2 (first | (refine wpH_want (by kernel_rfl) (by kernel_rfl) rfl rfl ?_; intro K hK; go_big_quiet_op; go_big_quiet_on) | (refine wpH_is (by kernel_rfl) (by kernel_rfl) rfl _ (fun _ w _ => rfl) ?_; simp only [Act.put, List.setIfInBounds_toArray, List.set_cons_succ, List.set_cons_zero]))
          refine wpH_chain 1 (by kernel_rfl) (by kernel_rfl) rfl 23 #[.pointer (some ⟨q, 0, none⟩), clV ⟨kd, ud, po', s, th', ot'⟩] (.int .i64 e) (fun w => by simp [go_sem]) (fun vs w hg hvs => by
            rw [← HΓ.out] at hg ⊢
            exact ghO_call 1 hg hvs rfl rfl fun ho => do_o ho 1 rfl HE2.out HS2.out ⟨by simp only; omega, by simp only; omega⟩ HL3.out HL4.out) ?_
          simp only [Act.put, List.setIfInBounds_toArray, List.set_cons_succ, List.set_cons_zero]
          (first | (refine wpH_want (by kernel_rfl) (by kernel_rfl) rfl rfl ?_; intro K hK; go_big_quiet_op; go_big_quiet_on) | (refine wpH_is (by kernel_rfl) (by kernel_rfl) rfl _ (fun _ w _ => rfl) ?_; simp only [Act.put, List.setIfInBounds_toArray, List.set_cons_succ, List.set_cons_zero]))
          refine wpH_nil (by kernel_rfl) (by simp) ?_
          rintro ⟨vs, xz⟩ hg hgl
          rw [← HΓ.out] at hg
          replace HO := Lib.hid (ghO_at hg 2 hgl rfl)
          simp only [gexAll, List.drop]
          clear g0 g1 g2 g3 g4 g5 ne HST hg hgl HΓ
          go_wp2
          go_roundw
          case rel => exact ⟨kk + 1, Bs2, Js2, by omega, by omega, by go_num, HO.out.take 2, HR2.out, HL5.out, HL6.out⟩
          case measure => simp [intOf]; omega
      · have k1 : (kd % 5 == 1) = false := by simp; omega
        have k2 : decide (2 < kd % 5) = true := by simpa using h4
        clear h4
        by_cases hsk : s = sk
        · subst hsk
          have hb1 : (s == s) = true := by simp
          have z2_0 : x5.cell? ⟨bx, 0, none⟩ = some (.int .u8 kd) := HO.out.cell 2 rfl 0 rfl
          have z2_3 : x5.cell? ⟨bx, 3, none⟩ = some (.int .i64 s) := HO.out.cell 2 rfl 3 rfl
          have y2_0 : x5.frozen? ⟨bx, 0, none⟩ = false := HO.out.frz 2 rfl 0
          obtain ⟨x6, hx6⟩ : ∃ y, x5.setCell ⟨bx, 0, none⟩ (.int .u8 0) = y := ⟨_, rfl⟩
          have hO := HO.out.setCell 2 rfl 0 (.int .u8 0)
          rw [hx6] at hO
          replace HO := Lib.hid (show Own w none0 x6 [resP p ⟨0, 0, Bs, Js⟩, resP q ⟨0, 0, rel s Bs, rel s Js⟩, blkR bx (.cells #[.int .u8 0, .bool ud, .int .i64 po', .int .i64 s, .int .i64 th', .int .i64 ot'] 29)] from hO)
          clear hO
          have z2_3b : x6.cell? ⟨bx, 3, none⟩ = some (.int .i64 s) := HO.out.cell 2 rfl 3 rfl
          have z2_0b : x6.cell? ⟨bx, 0, none⟩ = some (.int .u8 0) := HO.out.cell 2 rfl 0 rfl
          have y2_2 : x6.frozen? ⟨bx, 2, none⟩ = false := HO.out.frz 2 rfl 2
          have z2_2 : x6.cell? ⟨bx, 2, none⟩ = some (.int .i64 po') := HO.out.cell 2 rfl 2 rfl
          obtain ⟨x7, hx7⟩ : ∃ y, x6.setCell ⟨bx, 2, none⟩ (.int .i64 7) = y := ⟨_, rfl⟩
          have hO := HO.out.setCell 2 rfl 2 (.int .i64 7)
          rw [hx7] at hO
          replace HO := Lib.hid (show Own w none0 x7 [resP p ⟨0, 0, Bs, Js⟩, resP q ⟨0, 0, rel s Bs, rel s Js⟩, blkR bx (.cells #[.int .u8 0, .bool ud, .int .i64 7, .int .i64 s, .int .i64 th', .int .i64 ot'] 29)] from hO)
          clear hO
          have c0 : x7.cell? ⟨bx, 0, none⟩ = some (.int .u8 0) := HO.out.cell 2 rfl 0 rfl
          have c1 : x7.cell? ⟨bx, 1, none⟩ = some (.bool ud) := HO.out.cell 2 rfl 1 rfl
          have c2 : x7.cell? ⟨bx, 2, none⟩ = some (.int .i64 7) := HO.out.cell 2 rfl 2 rfl
          have c3 : x7.cell? ⟨bx, 3, none⟩ = some (.int .i64 s) := HO.out.cell 2 rfl 3 rfl
          have c4 : x7.cell? ⟨bx, 4, none⟩ = some (.int .i64 th') := HO.out.cell 2 rfl 4 rfl
          have c5 : x7.cell? ⟨bx, 5, none⟩ = some (.int .i64 ot') := HO.out.cell 2 rfl 5 rfl
          obtain ⟨Bs2, ⟨hS, hR2, hl1, hl2⟩, hrel⟩ := ra_bind HR.out (by omega) (protoF ⟨0, ud, 7, s, th', ot'⟩)
          have HS := Lib.hid hS
          have HR2 := Lib.hid hR2
          have HE := Lib.hid hrel
          have hbj := HBJ.out
          have HL5 := Lib.hid (show Bs2.length ≤ kk + 1 by omega)
          have HL6 := Lib.hid (show Js.length ≤ kk + 1 by omega)
          clear hS hR2 hl1 hl2 hrel hbj
          go_wp2_with fail
          refine (proto_o (c := ⟨0, ud, 7, s, th', ot'⟩) HO.out).mono ?_
          rintro e x8 ⟨rfl, hO, -⟩
          replace HO := Lib.hid (show Own w none0 x8 [resP p ⟨0, 0, Bs, Js⟩, resP q ⟨0, 0, rel s Bs, rel s Js⟩, blkR bx (.cells #[.int .u8 0, .bool ud, .int .i64 7, .int .i64 s, .int .i64 th', .int .i64 ot'] 29)] from hO)
          clear hO
          clear hx5 hbx z2_0 z2_3 y2_0 hx6 z2_3b z2_0b y2_2 z2_2 hx7 c0 c1 c2 c3 c4 c5
          go_wp2_with fail
          refine (bind_o HO.out 0 rfl rfl HS.out HL1.out).mono ?_
          rintro e x9 ⟨rfl, hO, -⟩
          replace HO := Lib.hid (show Own w none0 x9 [resP p ⟨0, 0, Bs2, Js⟩, resP q ⟨0, 0, rel s Bs, rel s Js⟩, blkR bx (.cells #[.int .u8 0, .bool ud, .int .i64 7, .int .i64 s, .int .i64 th', .int .i64 ot'] 29)] from hO)
          clear hO
          rw [← HE.out] at HO
          go_wp2
          go_roundw
          case rel => exact ⟨kk + 1, Bs2, Js, by omega, by omega, by go_num, HO.out.take 2, HR2.out, HL5.out, HL6.out⟩
          case measure => simp [intOf]; omega
        · have HSK := Lib.hid hsk
          have hb1 : (s == sk) = false := by simpa using hsk
          clear hsk
          have z2_0 : x5.cell? ⟨bx, 0, none⟩ = some (.int .u8 kd) := HO.out.cell 2 rfl 0 rfl
          have z2_3 : x5.cell? ⟨bx, 3, none⟩ = some (.int .i64 s) := HO.out.cell 2 rfl 3 rfl
          have y2_0 : x5.frozen? ⟨bx, 0, none⟩ = false := HO.out.frz 2 rfl 0
          obtain ⟨x6, hx6⟩ : ∃ y, x5.setCell ⟨bx, 0, none⟩ (.int .u8 0) = y := ⟨_, rfl⟩
          have hO := HO.out.setCell 2 rfl 0 (.int .u8 0)
          rw [hx6] at hO
          replace HO := Lib.hid (show Own w none0 x6 [resP p ⟨0, 0, Bs, Js⟩, resP q ⟨0, 0, rel sk Bs, rel sk Js⟩, blkR bx (.cells #[.int .u8 0, .bool ud, .int .i64 po', .int .i64 s, .int .i64 th', .int .i64 ot'] 29)] from hO)
          clear hO
          have z2_3b : x6.cell? ⟨bx, 3, none⟩ = some (.int .i64 s) := HO.out.cell 2 rfl 3 rfl
          have z2_0b : x6.cell? ⟨bx, 0, none⟩ = some (.int .u8 0) := HO.out.cell 2 rfl 0 rfl
          go_wp2
          clear hx5 hbx z2_0 z2_3 y2_0 hx6 z2_3b z2_0b
          obtain ⟨e, Bs2, Js2, hE1, hE2, ⟨hS1, hR2, hl1, hl2⟩, hS2⟩ := ra_do HR.out (c := ⟨0, ud, po', s, th', ot'⟩) HSK.out HP7.out (by simp only; omega)
          have HE1 := Lib.hid hE1
          have HE2 := Lib.hid hE2
          have HS1 := Lib.hid hS1
          have HS2 := Lib.hid hS2
          have HR2 := Lib.hid hR2
          have hbj := HBJ.out
          have HL5 := Lib.hid (show Bs2.length ≤ kk + 1 by omega)
          have HL6 := Lib.hid (show Js2.length ≤ kk + 1 by omega)
          clear hE1 hE2 hS1 hS2 hR2 hl1 hl2 hbj
          generalize hΓ : ghO w none0 [[resP p ⟨0, 0, Bs, Js⟩, resP q ⟨0, 0, rel sk Bs, rel sk Js⟩, blkR bx (.cells #[.int .u8 0, .bool ud, .int .i64 po', .int .i64 s, .int .i64 th', .int .i64 ot'] 29)], [resP p ⟨0, 0, Bs2, Js2⟩, resP q ⟨0, 0, rel sk Bs, rel sk Js⟩, blkR bx (.cells #[.int .u8 0, .bool ud, .int .i64 po', .int .i64 s, .int .i64 th', .int .i64 ot'] 29)], [resP p ⟨0, 0, Bs2, Js2⟩, resP q ⟨0, 0, rel sk Bs2, rel sk Js2⟩, blkR bx (.cells #[.int .u8 0, .bool ud, .int .i64 po', .int .i64 s, .int .i64 th', .int .i64 ot'] 29)]] = Γ
          have HST := Lib.hid (show Γ.inv [] x6 by rw [← hΓ]; exact ghO_start HO.out)
          have g0 : ∀ q : Γ.Wd, q.w.cell? ⟨bx, 0, none⟩ = some (.int .u8 0) := by rw [← hΓ]; exact ghO_cell (c := #[.int .u8 0, .bool ud, .int .i64 po', .int .i64 s, .int .i64 th', .int .i64 ot']) (t := 29) 2 (by simp) 0 rfl
          have g1 : ∀ q : Γ.Wd, q.w.cell? ⟨bx, 1, none⟩ = some (.bool ud) := by rw [← hΓ]; exact ghO_cell (c := #[.int .u8 0, .bool ud, .int .i64 po', .int .i64 s, .int .i64 th', .int .i64 ot']) (t := 29) 2 (by simp) 1 rfl
          have g2 : ∀ q : Γ.Wd, q.w.cell? ⟨bx, 2, none⟩ = some (.int .i64 po') := by rw [← hΓ]; exact ghO_cell (c := #[.int .u8 0, .bool ud, .int .i64 po', .int .i64 s, .int .i64 th', .int .i64 ot']) (t := 29) 2 (by simp) 2 rfl
          have g3 : ∀ q : Γ.Wd, q.w.cell? ⟨bx, 3, none⟩ = some (.int .i64 s) := by rw [← hΓ]; exact ghO_cell (c := #[.int .u8 0, .bool ud, .int .i64 po', .int .i64 s, .int .i64 th', .int .i64 ot']) (t := 29) 2 (by simp) 3 rfl
          have g4 : ∀ q : Γ.Wd, q.w.cell? ⟨bx, 4, none⟩ = some (.int .i64 th') := by rw [← hΓ]; exact ghO_cell (c := #[.int .u8 0, .bool ud, .int .i64 po', .int .i64 s, .int .i64 th', .int .i64 ot']) (t := 29) 2 (by simp) 4 rfl
          have g5 : ∀ q : Γ.Wd, q.w.cell? ⟨bx, 5, none⟩ = some (.int .i64 ot') := by rw [← hΓ]; exact ghO_cell (c := #[.int .u8 0, .bool ud, .int .i64 po', .int .i64 s, .int .i64 th', .int .i64 ot']) (t := 29) 2 (by simp) 5 rfl
          have HΓ := Lib.hid hΓ
          clear hΓ
          have ne : Nonempty Γ.Wd := ⟨⟨[], x6, HST.out⟩⟩
          refine wp_region_H Γ 7 [2, 5] (by kernel_rfl) (by kernel_rfl) (by kernel_rfl) (by kernel_rfl) HST.out ?_
          simp only [List.take, List.drop]
          iterate 2 (first | (refine wpH_want (by kernel_rfl) (by kernel_rfl) rfl rfl ?_; intro K hK; go_big_quiet_op; go_big_quiet_on) | (refine wpH_is (by kernel_rfl) (by kernel_rfl) rfl _ (fun _ w _ => rfl) ?_; simp only [Act.put, List.setIfInBounds_toArray, List.set_cons_succ, List.set_cons_zero]))
          refine wpH_chain 0 (by kernel_rfl) (by kernel_rfl) rfl 23 #[.pointer (some ⟨p, 0, none⟩), clV ⟨0, ud, po', s, th', ot'⟩] (.int .i64 e) (fun w => by simp [go_sem]) (fun vs w hg hvs => by
            rw [← HΓ.out] at hg ⊢
            exact ghO_call 0 hg hvs rfl rfl fun ho => do_o ho 0 rfl HE1.out HS1.out ⟨by simp only; omega, by simp only; omega⟩ HL1.out HL2.out) ?_
          simp only [Act.put, List.setIfInBounds_toArray, List.set_cons_succ, List.set_cons_zero]
          iterate 2 (first | (refine wpH_want (by kernel_rfl) (by kernel_rfl) rfl rfl ?_; intro K hK; go_big_quiet_op; go_big_quiet_on) | (refine wpH_is (by kernel_rfl) (by kernel_rfl) rfl _ (fun _ w _ => rfl) ?_; simp only [Act.put, List.setIfInBounds_toArray, List.set_cons_succ, List.set_cons_zero]))
          refine wpH_chain 1 (by kernel_rfl) (by kernel_rfl) rfl 23 #[.pointer (some ⟨q, 0, none⟩), clV ⟨0, ud, po', s, th', ot'⟩] (.int .i64 e) (fun w => by simp [go_sem]) (fun vs w hg hvs => by
            rw [← HΓ.out] at hg ⊢
            exact ghO_call 1 hg hvs rfl rfl fun ho => do_o ho 1 rfl HE2.out HS2.out ⟨by simp only; omega, by simp only; omega⟩ HL3.out HL4.out) ?_
          simp only [Act.put, List.setIfInBounds_toArray, List.set_cons_succ, List.set_cons_zero]
          (first | (refine wpH_want (by kernel_rfl) (by kernel_rfl) rfl rfl ?_; intro K hK; go_big_quiet_op; go_big_quiet_on) | (refine wpH_is (by kernel_rfl) (by kernel_rfl) rfl _ (fun _ w _ => rfl) ?_; simp only [Act.put, List.setIfInBounds_toArray, List.set_cons_succ, List.set_cons_zero]))
          refine wpH_nil (by kernel_rfl) (by simp) ?_
          rintro ⟨vs, xz⟩ hg hgl
          rw [← HΓ.out] at hg
          replace HO := Lib.hid (ghO_at hg 2 hgl rfl)
          simp only [gexAll, List.drop]
          clear g0 g1 g2 g3 g4 g5 ne HST hg hgl HΓ
          go_wp2
          go_roundw
          case rel => exact ⟨kk + 1, Bs2, Js2, by omega, by omega, by go_num, HO.out.take 2, HR2.out, HL5.out, HL6.out⟩
          case measure => simp [intOf]; omega
    · by_cases h1 : kk < len
      · obtain rfl : kk = 60 := by omega
        go_wp2_with fail
        refine (rel_o (st' := ⟨0, 0, rel sk Bs, rel sk Js⟩) HO.out 0 rfl rfl HL1.out HL2.out).mono ?_
        rintro e x101 ⟨rfl, hO, -⟩
        replace HO := Lib.hid (show Own w none0 x101 [resP p ⟨0, 0, rel sk Bs, rel sk Js⟩, resP q ⟨0, 0, rel sk Bs, rel sk Js⟩] from hO)
        clear hO
        obtain ⟨ln, hln⟩ : ∃ n : Int, ((rel sk Bs).length : Int) + (rel sk Js).length = n := ⟨_, rfl⟩
        have HLN := Lib.hid hln
        clear hln
        go_wp2_with fail
        refine (len_o HO.out 0 rfl HLN.out HL3.out HL4.out).mono ?_
        rintro e x102 ⟨rfl, hO, -⟩
        replace HO := Lib.hid (show Own w none0 x102 [resP p ⟨0, 0, rel sk Bs, rel sk Js⟩, resP q ⟨0, 0, rel sk Bs, rel sk Js⟩] from hO)
        clear hO
        go_wp2_with fail
        refine (len_o HO.out 1 rfl HLN.out HL3.out HL4.out).mono ?_
        rintro e x103 ⟨rfl, hO, -⟩
        replace HO := Lib.hid (show Own w none0 x103 [resP p ⟨0, 0, rel sk Bs, rel sk Js⟩, resP q ⟨0, 0, rel sk Bs, rel sk Js⟩] from hO)
        clear hO
        go_wp2
        go_loopw [11, 12, 13, 14, 15, 16, 17] (fun i _ _ _ _ _ _ wt => ∃ n : Nat, n ≤ 8 ∧ i = .int .i64 n ∧ Own w none0 wt [resP p ⟨0, 0, rel sk Bs, rel sk Js⟩, resP q ⟨0, 0, rel sk Bs, rel sk Js⟩]) (fun i _ _ _ _ _ _ _ => 8 - (intOf i).toNat)
        case atStart => exact ⟨0, by omega, rfl, HO.out⟩
        case round =>
          obtain ⟨n, hn, rfl, hO⟩ := hrel
          replace HO := Lib.hid hO
          clear hO
          by_cases hn8 : n < 8
          · have HTC := Lib.hid (tabR_cell n hn8)
            obtain ⟨nv, hnv⟩ : ∃ v, tabR n = v := ⟨_, rfl⟩
            rw [hnv] at HTC
            clear hnv
            have hd8 : decide ((n : Int) < 8) = true := by simp; omega
            have rb := run_bsR8
            obtain ⟨x104, hx104⟩ : ∃ y, wr.alloc (.cells #[.int .i64 80, .int .i64 81, .int .i64 49152, .int .i64 49153, .int .i64 49154, .int .i64 49215, .int .i64 7, .int .i64 1] 3) = y := ⟨_, rfl⟩
            obtain ⟨bt, hbt⟩ : ∃ y, wr.heap.size = y := ⟨_, rfl⟩
            have hO := HO.out.alloc (.cells #[.int .i64 80, .int .i64 81, .int .i64 49152, .int .i64 49153, .int .i64 49154, .int .i64 49215, .int .i64 7, .int .i64 1] 3)
            rw [hx104, hbt] at hO
            replace HO := Lib.hid (show Own w none0 x104 [resP p ⟨0, 0, rel sk Bs, rel sk Js⟩, resP q ⟨0, 0, rel sk Bs, rel sk Js⟩, blkR bt (.cells #[.int .i64 80, .int .i64 81, .int .i64 49152, .int .i64 49153, .int .i64 49154, .int .i64 49215, .int .i64 7, .int .i64 1] 3)] from hO)
            clear hO
            have z : x104.cell? ⟨bt, n, none⟩ = some (.int .i64 nv) := HO.out.cell 2 rfl n HTC.out
            go_wp2
            clear hx104 hbt z rb
            replace HO := Lib.hid (HO.out.take 2)
            go_loopw [13, 14, 15, 16, 17] (fun t _ _ _ _ wt => ∃ m : Nat, m ≤ 9 ∧ t = .int .i64 m ∧ Own w none0 wt [resP p ⟨0, 0, rel sk Bs, rel sk Js⟩, resP q ⟨0, 0, rel sk Bs, rel sk Js⟩]) (fun t _ _ _ _ _ => 9 - (intOf t).toNat)
            case atStart => exact ⟨0, by omega, rfl, HO.out⟩
            case round =>
              obtain ⟨m, hm, rfl, hO⟩ := hrel
              replace HO := Lib.hid hO
              clear hO
              by_cases hm9 : m < 9
              · obtain ⟨rs, rb, hl, h7⟩ := ra_look HR.out nv (100 + (m : Int) / 3) (900 + (m : Int) % 3)
                have HLK := Lib.hid hl
                clear hl
                have hd9 : decide ((m : Int) < 9) = true := by simp; omega
                cases hc : (nv == 7) with
                | false =>
                  clear h7
                  go_wp2_with fail
                  refine (look_o HO.out 0 rfl HLK.out HL4.out).mono ?_
                  rintro e x105 ⟨rfl, hO, -⟩
                  replace HO := Lib.hid (show Own w none0 x105 [resP p ⟨0, 0, rel sk Bs, rel sk Js⟩, resP q ⟨0, 0, rel sk Bs, rel sk Js⟩] from hO)
                  clear hO
                  go_wp2_with fail
                  refine (look_o HO.out 1 rfl HLK.out HL4.out).mono ?_
                  rintro e x106 ⟨rfl, hO, -⟩
                  replace HO := Lib.hid (show Own w none0 x106 [resP p ⟨0, 0, rel sk Bs, rel sk Js⟩, resP q ⟨0, 0, rel sk Bs, rel sk Js⟩] from hO)
                  clear hO
                  go_wp2
                  go_roundw
                  case rel => exact ⟨m + 1, by omega, by go_num, HO.out⟩
                  case measure => simp [intOf]; omega
                | true =>
                  obtain rfl : rb = false := h7 (by simpa using hc)
                  clear h7
                  go_wp2_with fail
                  refine (look_o HO.out 0 rfl HLK.out HL4.out).mono ?_
                  rintro e x105 ⟨rfl, hO, -⟩
                  replace HO := Lib.hid (show Own w none0 x105 [resP p ⟨0, 0, rel sk Bs, rel sk Js⟩, resP q ⟨0, 0, rel sk Bs, rel sk Js⟩] from hO)
                  clear hO
                  go_wp2_with fail
                  refine (look_o HO.out 1 rfl HLK.out HL4.out).mono ?_
                  rintro e x106 ⟨rfl, hO, -⟩
                  replace HO := Lib.hid (show Own w none0 x106 [resP p ⟨0, 0, rel sk Bs, rel sk Js⟩, resP q ⟨0, 0, rel sk Bs, rel sk Js⟩] from hO)
                  clear hO
                  go_wp2
                  go_roundw
                  case rel => exact ⟨m + 1, by omega, by go_num, HO.out⟩
                  case measure => simp [intOf]; omega
              · obtain rfl : m = 9 := by omega
                go_wp2
                go_roundw
                case rel => exact ⟨n + 1, by omega, by go_num, HO.out⟩
                case measure => simp [intOf]; omega
          · obtain rfl : n = 8 := by omega
            obtain ⟨hb1, hb2⟩ := ra_end1 HR.out
            have HB1 := Lib.hid hb1
            have HB2 := Lib.hid hb2
            have HC1 := Lib.hid (ra_end2 (B2 := rel sk Bs ++ [(⟨6, 7⟩, 99)]) HR.out)
            clear hb1 hb2
            go_wp2_with fail
            refine (bind_o HO.out 0 rfl HB1.out HB2.out HL3.out).mono ?_
            rintro e x105 ⟨rfl, hO, -⟩
            replace HO := Lib.hid (show Own w none0 x105 [resP p ⟨0, 0, rel sk Bs ++ [(⟨6, 7⟩, 99)], rel sk Js⟩, resP q ⟨0, 0, rel sk Bs, rel sk Js⟩] from hO)
            clear hO
            go_wp2_with fail
            refine (conn_o HO.out 0 rfl HC1.out rfl HL4.out).mono ?_
            rintro e x106 ⟨rfl, hO, -⟩
            replace HO := Lib.hid (show Own w none0 x106 [resP p (connS ⟨0, 0, rel sk Bs ++ [(⟨6, 7⟩, 99)], rel sk Js⟩ 98 7 100 900), resP q ⟨0, 0, rel sk Bs, rel sk Js⟩] from hO)
            clear hO
            go_wp2
            go_ret
            exact ⟨rfl, HO.out.below⟩
      · obtain rfl : kk = len := by omega
        go_wp2_with fail
        refine (rel_o (st' := ⟨0, 0, rel sk Bs, rel sk Js⟩) HO.out 0 rfl rfl HL1.out HL2.out).mono ?_
        rintro e x101 ⟨rfl, hO, -⟩
        replace HO := Lib.hid (show Own w none0 x101 [resP p ⟨0, 0, rel sk Bs, rel sk Js⟩, resP q ⟨0, 0, rel sk Bs, rel sk Js⟩] from hO)
        clear hO
        obtain ⟨ln, hln⟩ : ∃ n : Int, ((rel sk Bs).length : Int) + (rel sk Js).length = n := ⟨_, rfl⟩
        have HLN := Lib.hid hln
        clear hln
        go_wp2_with fail
        refine (len_o HO.out 0 rfl HLN.out HL3.out HL4.out).mono ?_
        rintro e x102 ⟨rfl, hO, -⟩
        replace HO := Lib.hid (show Own w none0 x102 [resP p ⟨0, 0, rel sk Bs, rel sk Js⟩, resP q ⟨0, 0, rel sk Bs, rel sk Js⟩] from hO)
        clear hO
        go_wp2_with fail
        refine (len_o HO.out 1 rfl HLN.out HL3.out HL4.out).mono ?_
        rintro e x103 ⟨rfl, hO, -⟩
        replace HO := Lib.hid (show Own w none0 x103 [resP p ⟨0, 0, rel sk Bs, rel sk Js⟩, resP q ⟨0, 0, rel sk Bs, rel sk Js⟩] from hO)
        clear hO
        go_wp2
        go_loopw [11, 12, 13, 14, 15, 16, 17] (fun i _ _ _ _ _ _ wt => ∃ n : Nat, n ≤ 8 ∧ i = .int .i64 n ∧ Own w none0 wt [resP p ⟨0, 0, rel sk Bs, rel sk Js⟩, resP q ⟨0, 0, rel sk Bs, rel sk Js⟩]) (fun i _ _ _ _ _ _ _ => 8 - (intOf i).toNat)
        case atStart => exact ⟨0, by omega, rfl, HO.out⟩
        case round =>
          obtain ⟨n, hn, rfl, hO⟩ := hrel
          replace HO := Lib.hid hO
          clear hO
          by_cases hn8 : n < 8
          · have HTC := Lib.hid (tabR_cell n hn8)
            obtain ⟨nv, hnv⟩ : ∃ v, tabR n = v := ⟨_, rfl⟩
            rw [hnv] at HTC
            clear hnv
            have hd8 : decide ((n : Int) < 8) = true := by simp; omega
            have rb := run_bsR8
            obtain ⟨x104, hx104⟩ : ∃ y, wr.alloc (.cells #[.int .i64 80, .int .i64 81, .int .i64 49152, .int .i64 49153, .int .i64 49154, .int .i64 49215, .int .i64 7, .int .i64 1] 3) = y := ⟨_, rfl⟩
            obtain ⟨bt, hbt⟩ : ∃ y, wr.heap.size = y := ⟨_, rfl⟩
            have hO := HO.out.alloc (.cells #[.int .i64 80, .int .i64 81, .int .i64 49152, .int .i64 49153, .int .i64 49154, .int .i64 49215, .int .i64 7, .int .i64 1] 3)
            rw [hx104, hbt] at hO
            replace HO := Lib.hid (show Own w none0 x104 [resP p ⟨0, 0, rel sk Bs, rel sk Js⟩, resP q ⟨0, 0, rel sk Bs, rel sk Js⟩, blkR bt (.cells #[.int .i64 80, .int .i64 81, .int .i64 49152, .int .i64 49153, .int .i64 49154, .int .i64 49215, .int .i64 7, .int .i64 1] 3)] from hO)
            clear hO
            have z : x104.cell? ⟨bt, n, none⟩ = some (.int .i64 nv) := HO.out.cell 2 rfl n HTC.out
            go_wp2
            clear hx104 hbt z rb
            replace HO := Lib.hid (HO.out.take 2)
            go_loopw [13, 14, 15, 16, 17] (fun t _ _ _ _ wt => ∃ m : Nat, m ≤ 9 ∧ t = .int .i64 m ∧ Own w none0 wt [resP p ⟨0, 0, rel sk Bs, rel sk Js⟩, resP q ⟨0, 0, rel sk Bs, rel sk Js⟩]) (fun t _ _ _ _ _ => 9 - (intOf t).toNat)
            case atStart => exact ⟨0, by omega, rfl, HO.out⟩
            case round =>
              obtain ⟨m, hm, rfl, hO⟩ := hrel
              replace HO := Lib.hid hO
              clear hO
              by_cases hm9 : m < 9
              · obtain ⟨rs, rb, hl, h7⟩ := ra_look HR.out nv (100 + (m : Int) / 3) (900 + (m : Int) % 3)
                have HLK := Lib.hid hl
                clear hl
                have hd9 : decide ((m : Int) < 9) = true := by simp; omega
                cases hc : (nv == 7) with
                | false =>
                  clear h7
                  go_wp2_with fail
                  refine (look_o HO.out 0 rfl HLK.out HL4.out).mono ?_
                  rintro e x105 ⟨rfl, hO, -⟩
                  replace HO := Lib.hid (show Own w none0 x105 [resP p ⟨0, 0, rel sk Bs, rel sk Js⟩, resP q ⟨0, 0, rel sk Bs, rel sk Js⟩] from hO)
                  clear hO
                  go_wp2_with fail
                  refine (look_o HO.out 1 rfl HLK.out HL4.out).mono ?_
                  rintro e x106 ⟨rfl, hO, -⟩
                  replace HO := Lib.hid (show Own w none0 x106 [resP p ⟨0, 0, rel sk Bs, rel sk Js⟩, resP q ⟨0, 0, rel sk Bs, rel sk Js⟩] from hO)
                  clear hO
                  go_wp2
                  go_roundw
                  case rel => exact ⟨m + 1, by omega, by go_num, HO.out⟩
                  case measure => simp [intOf]; omega
                | true =>
                  obtain rfl : rb = false := h7 (by simpa using hc)
                  clear h7
                  go_wp2_with fail
                  refine (look_o HO.out 0 rfl HLK.out HL4.out).mono ?_
                  rintro e x105 ⟨rfl, hO, -⟩
                  replace HO := Lib.hid (show Own w none0 x105 [resP p ⟨0, 0, rel sk Bs, rel sk Js⟩, resP q ⟨0, 0, rel sk Bs, rel sk Js⟩] from hO)
                  clear hO
                  go_wp2_with fail
                  refine (look_o HO.out 1 rfl HLK.out HL4.out).mono ?_
                  rintro e x106 ⟨rfl, hO, -⟩
                  replace HO := Lib.hid (show Own w none0 x106 [resP p ⟨0, 0, rel sk Bs, rel sk Js⟩, resP q ⟨0, 0, rel sk Bs, rel sk Js⟩] from hO)
                  clear hO
                  go_wp2
                  go_roundw
                  case rel => exact ⟨m + 1, by omega, by go_num, HO.out⟩
                  case measure => simp [intOf]; omega
              · obtain rfl : m = 9 := by omega
                go_wp2
                go_roundw
                case rel => exact ⟨n + 1, by omega, by go_num, HO.out⟩
                case measure => simp [intOf]; omega
          · obtain rfl : n = 8 := by omega
            obtain ⟨hb1, hb2⟩ := ra_end1 HR.out
            have HB1 := Lib.hid hb1
            have HB2 := Lib.hid hb2
            have HC1 := Lib.hid (ra_end2 (B2 := rel sk Bs ++ [(⟨6, 7⟩, 99)]) HR.out)
            clear hb1 hb2
            go_wp2_with fail
            refine (bind_o HO.out 0 rfl HB1.out HB2.out HL3.out).mono ?_
            rintro e x105 ⟨rfl, hO, -⟩
            replace HO := Lib.hid (show Own w none0 x105 [resP p ⟨0, 0, rel sk Bs ++ [(⟨6, 7⟩, 99)], rel sk Js⟩, resP q ⟨0, 0, rel sk Bs, rel sk Js⟩] from hO)
            clear hO
            go_wp2_with fail
            refine (conn_o HO.out 0 rfl HC1.out rfl HL4.out).mono ?_
            rintro e x106 ⟨rfl, hO, -⟩
            replace HO := Lib.hid (show Own w none0 x106 [resP p (connS ⟨0, 0, rel sk Bs ++ [(⟨6, 7⟩, 99)], rel sk Js⟩ 98 7 100 900), resP q ⟨0, 0, rel sk Bs, rel sk Js⟩] from hO)
            clear hO
            go_wp2
            go_ret
            exact ⟨rfl, HO.out.below⟩

end Go.Proofs.Ytfipamdknanlmaa
