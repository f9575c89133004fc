/- PortsBindUnique, walked. -/
import Derived.Test.YtfipamdknanlmaaPbuP
import Derived.Test.YtfipamdknanlmaaOpn23
namespace Go.Proofs.Ytfipamdknanlmaa
open Go.RowKit Go.Sort
set_option linter.unusedVariables false

theorem run_mkI (w : World) : (Instr.makeSlice 37 (.int .i64 8) (.int .i64 8)).run Try.prog w = .ok (.slice (some ⟨w.heap.size, 0, none⟩) 8 8) (w.alloc (.cells (Array.replicate 8 (.int .i64 0)) 3)) := by kernel_rfl
structure ArrF (arr : Array Value) (f : Nat → Int) : Prop where
  size : arr.size = 8
  get : ∀ j, j < 8 → arr[j]? = some (.int .i64 (f j))
theorem arrF_zero : ArrF (Array.replicate 8 (.int .i64 0)) (fun _ => 0) := ⟨by simp, fun j hj => by simp [hj]⟩
theorem ArrF.set {arr : Array Value} {f : Nat → Int} (h : ArrF arr f) {k : Nat} (hk : k < 8) (x : Int) : ArrF (arr.setIfInBounds k (.int .i64 x)) (fun j => if j = k then x else f j) := by
  refine ⟨by simp [h.size], fun j hj => ?_⟩
  rw [Array.getElem?_setIfInBounds]
  by_cases e : k = j
  · subst e; simp [h.size, hk]
  · rw [if_neg e, h.get j hj]; simp [show ¬ j = k from fun h => e h.symm]

set_option maxRecDepth 100000 in
set_option maxHeartbeats 8000000 in
theorem unique_walk (len : Nat) (g : Nat → Cl) (v : Value) (w : World) (hv : RdC w v len g) :
    Calls Try.prog 7 #[v] w fun e w' => e = .returned (.bool true) ∧ Below w.heap.size w w' := by
  have B := Lib.hid (Below.refl w.heap.size w)
  obtain ⟨a, cap, rfl, hcap, hlen, hok, hcl⟩ := hv
  have HOK := Lib.hid hok
  have HCL := Lib.hid hcl
  clear hok hcl
  go_enter Try.func7, Try.ntmps7
  go_wp2_with fail
  refine (examples_any _).mono ?_
  rintro e x1 ⟨rfl, hb⟩
  replace B := Lib.hid (below_mid B.out hb)
  clear hb
  go_wp2_with fail
  refine (new_any 3 _).mono ?_
  rintro e x2 ⟨p, rfl, hP, hge, hb⟩
  obtain ⟨F0, hP, hFn⟩ : ∃ F : Nat → Prop, PAt x2 p ⟨3, 0, [], []⟩ F ∧ ∀ b, F b → b = p := ⟨_, hP, fun _ h => h⟩
  have HP := Lib.hid (show Ob w x2 p ⟨3, 0, [], []⟩ F0 from ⟨hP, fun b h => by have := hFn b h; have := B.out.size; omega⟩)
  replace B := Lib.hid (below_mid B.out hb)
  clear hP hge hb hFn
  have rM := run_mkI
  obtain ⟨x4, hx4⟩ : ∃ y, x2.alloc (.cells (Array.replicate 8 (.int .i64 0)) 3) = y := ⟨_, rfl⟩
  have hb : Below x2.heap.size x2 x4 := by rw [← hx4]; exact below_one _ _
  have LM := Lib.hid (show x4.heap[x2.heap.size]? = some (.cells (Array.replicate 8 (.int .i64 0)) 3) by rw [← hx4]; exact new_blk _ _)
  have NM := Lib.hid (show ¬ F0 x2.heap.size from fun h => by have := HP.out.at.bound _ h; omega)
  have HMB := Lib.hid (show w.heap.size ≤ x2.heap.size from B.out.size)
  replace B := Lib.hid (below_mid B.out hb)
  replace HP := Lib.hid (HP.out.stay hb)
  clear hb
  go_wp2
  clear rM
  obtain ⟨ob, hob⟩ : ∃ ob, x2.heap.size = ob := ⟨_, rfl⟩
  rw [hob] at LM NM HMB ⊢
  clear hob hx4
  go_loopw [6, 7, 8, 9, 10, 11, 12, 13, 14, 15] (fun i _ _ _ _ _ _ _ _ _ wr => ∃ (k : Nat) (F : Nat → Prop) (Bs : List (Bk × Int)) (f : Nat → Int) (arr : Array Value), k ≤ len ∧ k ≤ 80 ∧ i = .int .i64 k ∧ Ob w wr p ⟨3, 0, Bs, []⟩ F ∧ OwnR Bs f ∧ Bs.length ≤ k ∧ wr.heap[ob]? = some (.cells arr 3) ∧ ArrF arr f ∧ ¬ F ob ∧ Below w.heap.size w wr) (fun i _ _ _ _ _ _ _ _ _ _ => 80 - (intOf i).toNat)
  case atStart => exact ⟨0, F0, [], fun _ => 0, _, Nat.zero_le _, by omega, rfl, HP.out, OwnR.nil, Nat.le_refl _, LM.out, arrF_zero, NM.out, B.out⟩
  case round =>
    obtain ⟨k, F, Bs, f, arr, hk, hk80, rfl, hO, hR, hBl, hA, hAF, hNF, hBe⟩ := hrel
    have HO := Lib.hid hO
    have HR := Lib.hid hR
    have HA := Lib.hid hA
    have HAF := Lib.hid hAF
    have HNF := Lib.hid hNF
    have HB := Lib.hid hBe
    clear hO hR hA hAF hNF hBe LM NM HP B
    by_cases hlt : k < len ∧ k < 80
    · obtain ⟨hlt1, hlt2⟩ := hlt
      obtain ⟨b, o, rfl, hcc⟩ := HCL.out (by omega)
      have hcc := hcc k hlt1
      have ok := HOK.out k hlt1
      have ycell : ∀ j u, j < 6 → (clA (g k))[j]? = some u → wr.cell? ⟨b, o + k * 6 + j, none⟩ = some u := fun j u hj hu => keep HB.out ((hcc j hj).trans hu)
      generalize g k = c at *
      obtain ⟨kd, ud, po, so, th, ot⟩ := c
      have y0 : wr.cell? ⟨b, o + k * 6, none⟩ = some (.int .u8 kd) := ycell 0 _ (by decide) rfl
      have y1 : wr.cell? ⟨b, o + k * 6 + 1, none⟩ = some (.bool ud) := ycell 1 _ (by decide) rfl
      have y2 : wr.cell? ⟨b, o + k * 6 + 2, none⟩ = some (.int .i64 po) := ycell 2 _ (by decide) rfl
      have y3 : wr.cell? ⟨b, o + k * 6 + 3, none⟩ = some (.int .i64 so) := ycell 3 _ (by decide) rfl
      have y4 : wr.cell? ⟨b, o + k * 6 + 4, none⟩ = some (.int .i64 th) := ycell 4 _ (by decide) rfl
      have y5 : wr.cell? ⟨b, o + k * 6 + 5, none⟩ = some (.int .i64 ot) := ycell 5 _ (by decide) rfl
      have HOKC := Lib.hid ok
      have HPK := Lib.hid (fun w => pick_any po 8 w ok.po (by decide))
      have HNR := Lib.hid (fun w => near_any ⟨kd, ud, po, so, th, ot⟩ w ok)
      obtain ⟨hk0, hk1⟩ := ok.kd
      simp only at hk0 hk1
      obtain ⟨q0, q1⟩ := pk_bd po 8 (by decide)
      obtain ⟨s0, s1⟩ := pk_bd so 6 (by decide)
      have HNC := Lib.hid (show nearC ⟨kd, ud, po, so, th, ot⟩ = ⟨kd, ud, tabP (pk po 8), pk so 6, 100 + pk th 3, 900 + pk ot 3⟩ from rfl)
      rw [HNC.out] at HNR
      generalize pk so 6 = s at *
      generalize 100 + pk th 3 = th' at *
      generalize 900 + pk ot 3 = ot' at *
      generalize tabP (pk po 8) = po' at *
      obtain ⟨q, hq⟩ : ∃ q : Nat, pk po 8 = (q : Int) := ⟨(pk po 8).toNat, by omega⟩
      rw [hq] at HPK q1
      have hq8 : q < 8 := by omega
      clear ycell hcc HNC q0 q1 hq ok
      go_wp2_with fail
      refine (HPK.out _).mono ?_
      rintro e w1 ⟨rfl, rfl⟩
      go_wp2_with fail
      refine (HNR.out _).mono ?_
      rintro e x1 ⟨rfl, hb⟩
      replace HO := Lib.hid (HO.out.stay hb)
      replace HA := Lib.hid (blk_stay hb HA.out)
      replace HB := Lib.hid (below_mid HB.out hb)
      clear hb y0 y1 y2 y3 y4 y5 HPK HNR
      -- GEN
      obtain ⟨x2, hx2⟩ : ∃ y, x1.alloc (.cells #[.int .u8 kd, .bool ud, .int .i64 (1000 + (q : Int)), .int .i64 s, .int .i64 th', .int .i64 ot'] 29) = y := ⟨_, rfl⟩
      have hb : Below x1.heap.size x1 x2 := by rw [← hx2]; exact below_one _ _
      have LX := Lib.hid (show x2.heap[x1.heap.size]? = some (.cells #[.int .u8 kd, .bool ud, .int .i64 (1000 + (q : Int)), .int .i64 s, .int .i64 th', .int .i64 ot'] 29) by rw [← hx2]; exact new_blk _ _)
      have NX := Lib.hid (show ¬ F x1.heap.size from fun h => by have := HO.out.at.bound _ h; omega)
      replace HO := Lib.hid (HO.out.stay hb)
      replace HA := Lib.hid (blk_stay hb HA.out)
      have HBX := Lib.hid (show w.heap.size ≤ x1.heap.size from HB.out.size)
      have NOX := Lib.hid (show ob ≠ x1.heap.size from fun e => by have := blk_lt HA.out; have h2 := LX.out; rw [← e, HA.out] at h2; cases h2)
      replace HB := Lib.hid (below_mid HB.out hb)
      clear hb
      go_wp2_with fail
      clear hx2
      obtain ⟨bx, hbx⟩ : ∃ bx, x1.heap.size = bx := ⟨_, rfl⟩
      rw [hbx] at LX NX HBX NOX ⊢
      clear hbx
      refine (len_l (n := Bs.length) (by simp) _ HO.out.at (by show Bs.length ≤ _; omega) (by simp)).mono ?_
      rintro e x3 ⟨rfl, hb⟩
      replace HO := Lib.hid (HO.out.stay hb)
      replace HA := Lib.hid (blk_stay hb HA.out)
      replace LX := Lib.hid (blk_stay hb LX.out)
      replace HB := Lib.hid (below_mid HB.out hb)
      clear hb
      have z2 : x3.cell? ⟨bx, 2, none⟩ = some (.int .i64 (1000 + (q : Int))) := blk_cell LX.out 2
      have z3 : x3.cell? ⟨bx, 3, none⟩ = some (.int .i64 s) := blk_cell LX.out 3
      go_wp2_with fail
      clear z2 z3
      have hE := HR.out.bind 3 0 hq8 (s := s) (by omega)
      cases hok1 : (f q == 0 && !hasO f s 8) with
      | false =>
        rw [hok1] at hE
        simp only [Bool.false_eq_true, if_false] at hE
        have HS := Lib.hid (show bindS ⟨3, 0, Bs, []⟩ 17 (1000 + (q : Int)) s = ⟨3, 0, Bs, []⟩ by unfold bindS; rw [hE, if_neg (by decide)])
        have HE := Lib.hid hE
        have HK1 := Lib.hid hok1
        clear hE hok1
        refine (bind_l HE.out HS.out _ HO.out.at (by show Bs.length ≤ _; omega)).mono ?_
        rintro e x4 ⟨rfl, F2, hP, hF, hU⟩
        have HOn := Lib.hid (show Ob w x4 p ⟨3, 0, Bs, []⟩ F2 from ⟨hP, fun b h => (hF b h).elim (HO.out.low b) (fun h => Nat.le_trans HB.out.size h)⟩)
        have HNn := Lib.hid (show ¬ F2 ob from fun h => (hF _ h).elim HNF.out (fun h => by have := blk_lt HA.out; omega))
        have NXn := Lib.hid (show ¬ F2 bx from fun h => (hF _ h).elim NX.out (fun h => by have := blk_lt LX.out; omega))
        replace HA := Lib.hid (blk_upd hU HNF.out HA.out)
        replace LX := Lib.hid (blk_upd hU NX.out LX.out)
        replace HB := Lib.hid (HB.out.trans (hU.below HB.out.size HO.out.low))
        replace HO := HOn
        replace HNF := HNn
        replace NX := NXn
        clear hP hF hU HOn HNn NXn
        clear HS HE
        go_wp2
        obtain ⟨wo, hwo⟩ : ∃ wo : World, wo = x4 := ⟨_, rfl⟩
        go_loopw [11, 12] (fun h j wt => ∃ n : Nat, n ≤ 8 ∧ j = .int .i64 n ∧ h = .bool (hasO f s n) ∧ Below x4.heap.size x4 wt) (fun _ j _ => 8 - (intOf j).toNat)
        case atStart => exact ⟨0, by omega, rfl, rfl, Below.refl _ _⟩
        case round =>
          obtain ⟨n, hn8, rfl, rfl, hbt⟩ := hrel
          by_cases hn : n < 8
          · have w3 : wr.cell? ⟨bx, 3, none⟩ = some (.int .i64 s) := keep hbt (show x4.cell? ⟨bx, 3, none⟩ = some (.int .i64 s) from blk_cell LX.out 3)
            have w4 : wr.cell? ⟨ob, n, none⟩ = some (.int .i64 (f n)) := keep hbt (by rw [blk_cell HA.out]; exact HAF.out.get n hn)
            have HSU := Lib.hid (hasO_succ f s n)
            have HBT := Lib.hid hbt
            clear hbt
            obtain ⟨hb0, hh0⟩ : ∃ b, hasO f s n = b := ⟨_, rfl⟩
            rw [hh0] at HSU ⊢
            clear hh0
            obtain ⟨fn, hfn⟩ : ∃ fn, f n = fn := ⟨_, rfl⟩
            rw [hfn] at w4 HSU
            clear hfn
            cases hb0
            · go_wp2
              go_quiet (fail)
              go_wp2
              go_roundw
              case rel => exact ⟨n + 1, by omega, by go_num, by rw [HSU.out]; rfl, HBT.out.trans ⟨rfl, rfl, rfl, Nat.le_refl _, fun _ _ => rfl⟩⟩
              case measure => simp [intOf]; omega
            · go_wp2
              go_quiet (fail)
              go_wp2
              go_roundw
              case rel => exact ⟨n + 1, by omega, by go_num, by rw [HSU.out]; rfl, HBT.out.trans ⟨rfl, rfl, rfl, Nat.le_refl _, fun _ _ => rfl⟩⟩
              case measure => simp [intOf]; omega
          · obtain rfl : n = 8 := by omega
            replace HO := Lib.hid (HO.out.stay hbt)
            replace HA := Lib.hid (blk_stay hbt HA.out)
            replace LX := Lib.hid (blk_stay hbt LX.out)
            replace HB := Lib.hid (below_mid HB.out hbt)
            clear hbt
            have hnn := HR.out.nn hq8
            have hA1 : wr.cell? ⟨ob, q, none⟩ = some (.int .i64 (f q)) := by rw [blk_cell HA.out, HAF.out.get q hq8]
            have z2 : wr.cell? ⟨bx, 2, none⟩ = some (.int .i64 (1000 + (q : Int))) := blk_cell LX.out 2
            obtain ⟨hs, hhs⟩ : ∃ b, hasO f s 8 = b := ⟨_, rfl⟩
            rw [hhs] at HK1 ⊢
            have HR2 := HR
            have HAF2 := HAF
            obtain ⟨f2, hf2⟩ : ∃ f2, f = f2 := ⟨_, rfl⟩
            rw [hf2] at HR2 HAF2 HK1 hA1 hnn
            have HFQ := Lib.hid (show f2 q = f2 q from rfl)
            have HLK := Lib.hid (HR2.out.look 3 0 hq8)
            have HBL := Lib.hid (show Bs.length ≤ k + 1 by omega)
            obtain ⟨Bs2, hBs2⟩ : ∃ B, Bs = B := ⟨_, rfl⟩
            rw [hBs2] at HO HR2 HLK HBL
            clear hf2 hhs
            obtain ⟨fq, hfq⟩ : ∃ fq, f2 q = fq := ⟨_, rfl⟩
            rw [hfq] at HLK hA1 hnn HK1 HFQ
            have HFQ2 := Lib.hid hfq
            clear hfq
            have hk1' := HK1.out
            by_cases hf0 : fq = 0
            · subst hf0
              obtain rfl : hs = true := by simpa using hk1'
              clear hk1' HK1
              rw [if_neg (by decide), show decide ((0 : Int) < 0) = false from rfl] at HLK
              go_wp2_with fail
              refine (len_l (n := Bs.length) (by simp [← hBs2]) _ HO.out.at (by show Bs2.length ≤ _; have := HBL.out; omega) (by simp)).mono ?_
              rintro e x5 ⟨rfl, hb⟩
              clear hA1 z2
              replace HO := Lib.hid (HO.out.stay hb)
              replace HA := Lib.hid (blk_stay hb HA.out)
              replace LX := Lib.hid (blk_stay hb LX.out)
              replace HB := Lib.hid (below_mid HB.out hb)
              clear hb
              have z2 : x5.cell? ⟨bx, 2, none⟩ = some (.int .i64 (1000 + (q : Int))) := blk_cell LX.out 2
              go_wp2_with fail
              clear z2
              refine (look_l HLK.out _ HO.out.at (by simp)).mono ?_
              rintro e x6 ⟨rfl, hb⟩
              replace HO := Lib.hid (HO.out.stay hb)
              replace HA := Lib.hid (blk_stay hb HA.out)
              replace LX := Lib.hid (blk_stay hb LX.out)
              replace HB := Lib.hid (below_mid HB.out hb)
              clear hb
              have hA1 : x6.cell? ⟨ob, q, none⟩ = some (.int .i64 0) := by rw [blk_cell HA.out, HAF2.out.get q hq8, HFQ2.out]
              have z0 : x6.cell? ⟨bx, 0, none⟩ = some (.int .u8 kd) := blk_cell LX.out 0
              have z3 : x6.cell? ⟨bx, 3, none⟩ = some (.int .i64 s) := blk_cell LX.out 3
              by_cases hk5 : kd % 5 = 3
              · have hk5' : (kd % 5 == 3) = true := by simp [hk5]
                clear hk5
                go_wp2_with fail
                clear hA1 z0 z3
                refine (rel_l (st := ⟨3, 0, Bs2, []⟩) (s := s) rfl _ HO.out.at (by show Bs2.length ≤ _; have := HBL.out; omega) (by simp)).mono ?_
                rintro e x7 ⟨rfl, F3, hP, hF, hU⟩
                have HOn := Lib.hid (show Ob w x7 p ⟨3, 0, rel s Bs2, []⟩ F3 from ⟨hP, fun b h => (hF b h).elim (HO.out.low b) (fun h => Nat.le_trans HB.out.size h)⟩)
                have HNn := Lib.hid (show ¬ F3 ob from fun h => (hF _ h).elim HNF.out (fun h => by have := blk_lt HA.out; omega))
                have NXn := Lib.hid (show ¬ F3 bx from fun h => (hF _ h).elim NX.out (fun h => by have := blk_lt LX.out; omega))
                replace HA := Lib.hid (blk_upd hU HNF.out HA.out)
                replace LX := Lib.hid (blk_upd hU NX.out LX.out)
                replace HB := Lib.hid (HB.out.trans (hU.below HB.out.size HO.out.low))
                replace HO := HOn
                replace HNF := HNn
                replace NX := NXn
                clear hP hF hU HOn HNn NXn
                go_wp2
                go_loopw [15] (fun j wt => ∃ (n : Nat) (arr' : Array Value), n ≤ 8 ∧ j = .int .i64 n ∧ wt.heap[ob]? = some (.cells arr' 3) ∧ ArrF arr' (rst f2 s n) ∧ Upd (fun b => b = ob) x7 wt) (fun j _ => 8 - (intOf j).toNat)
                case atStart => exact ⟨0, _, by omega, rfl, HA.out, by rw [rst_zero]; exact HAF2.out, Upd.refl _ _⟩
                case round =>
                  obtain ⟨n, arr', hn8, rfl, ha, haf, hut⟩ := hrel
                  have HA' := Lib.hid ha
                  have HAF' := Lib.hid haf
                  have HUT := Lib.hid hut
                  clear ha haf hut
                  by_cases hn : n < 8
                  · have w3 : wr.cell? ⟨bx, 3, none⟩ = some (.int .i64 s) := HUT.out.keep (Ne.symm NOX.out) (show x7.cell? ⟨bx, 3, none⟩ = some (.int .i64 s) from blk_cell LX.out 3)
                    have w4 : wr.cell? ⟨ob, n, none⟩ = some (.int .i64 (f2 n)) := by rw [blk_cell HA'.out, HAF'.out.get n hn, rst_at]
                    have w5 : wr.frozen? ⟨ob, n, none⟩ = false := blk_frz HA'.out n
                    obtain ⟨fn, hfn⟩ : ∃ fn, f2 n = fn := ⟨_, rfl⟩
                    rw [hfn] at w4
                    have HFN := Lib.hid hfn
                    clear hfn
                    by_cases hfs : fn = s + 1
                    · have hfs' : (fn == s + 1) = true := by simp [hfs]
                      have HRY := Lib.hid (rst_yes (f := f2) (s := s) (n := n) (by rw [HFN.out]; exact hfs))
                      have HAN := Lib.hid (HAF'.out.set hn 0)
                      rw [HRY.out] at HAN
                      clear hfs
                      go_wp2
                      go_quiet (fail)
                      go_wp2
                      go_roundw
                      case rel => exact ⟨n + 1, _, by omega, by go_num, blk_set HA'.out n _, HAN.out, Upd.setCell (F := fun b => b = ob) (w := wr.drewN nq) (p := ⟨ob, n, none⟩) (HUT.out.trans ⟨rfl, rfl, rfl, Nat.le_refl _, fun _ _ _ => rfl⟩) (fun _ => rfl) _⟩
                      case measure => simp [intOf]; omega
                    · have hfs' : (fn == s + 1) = false := by simp [hfs]
                      have HRN := Lib.hid (rst_no (f := f2) (s := s) (n := n) (by rw [HFN.out]; exact hfs))
                      clear hfs
                      go_wp2
                      go_quiet (fail)
                      go_wp2
                      go_roundw
                      case rel => exact ⟨n + 1, _, by omega, by go_num, HA'.out, by rw [HRN.out]; exact HAF'.out, HUT.out.trans ⟨rfl, rfl, rfl, Nat.le_refl _, fun _ _ _ => rfl⟩⟩
                      case measure => simp [intOf]; omega
                  · obtain rfl : n = 8 := by omega
                    have HR3 := Lib.hid (HR2.out.rel s (by omega))
                    have HAF3 := Lib.hid (show ArrF arr' (fun j => if f2 j = s + 1 then 0 else f2 j) from ⟨HAF'.out.size, fun j hj => by rw [HAF'.out.get j hj, rst_all hj]⟩)
                    replace HO := Lib.hid (HO.out.other HUT.out (fun b e h => HNF.out (e ▸ h)))
                    replace HB := Lib.hid (HB.out.trans (HUT.out.below HB.out.size (fun b e => by rw [e]; exact HMB.out)))
                    have HBL3 := Lib.hid (Nat.le_trans (List.length_filter_le (fun x : Bk × Int => decide (x.2 ≠ s)) Bs2) HBL.out)
                    go_wp2
                    go_roundw
                    case rel => exact ⟨k + 1, _, rel s Bs2, _, _, by omega, by omega, by go_num, HO.out, HR3.out, HBL3.out, HA'.out, HAF3.out, HNF.out, HB.out⟩
                    case measure => simp [intOf]; omega
              · have hk5' : (kd % 5 == 3) = false := by simp [hk5]
                clear hk5
                go_wp2
                go_roundw
                case rel => exact ⟨k + 1, _, Bs2, f2, _, by omega, by omega, by go_num, HO.out, HR2.out, HBL.out, HA.out, HAF2.out, HNF.out, HB.out⟩
                case measure => simp [intOf]; omega
            · have hf0' : (fq == 0) = false := by simp [hf0]
              have hf1 : 0 < fq := by omega
              have hf1' : decide (0 < fq) = true := by simp [hf1]
              rw [if_pos hf1, hf1'] at HLK
              clear hk1' HK1 hf0
              go_wp2_with fail
              refine (len_l (n := Bs.length) (by simp [← hBs2]) _ HO.out.at (by show Bs2.length ≤ _; have := HBL.out; omega) (by simp)).mono ?_
              rintro e x5 ⟨rfl, hb⟩
              clear hA1 z2
              replace HO := Lib.hid (HO.out.stay hb)
              replace HA := Lib.hid (blk_stay hb HA.out)
              replace LX := Lib.hid (blk_stay hb LX.out)
              replace HB := Lib.hid (below_mid HB.out hb)
              clear hb
              have z2 : x5.cell? ⟨bx, 2, none⟩ = some (.int .i64 (1000 + (q : Int))) := blk_cell LX.out 2
              go_wp2_with fail
              clear z2
              refine (look_l HLK.out _ HO.out.at (by simp)).mono ?_
              rintro e x6 ⟨rfl, hb⟩
              replace HO := Lib.hid (HO.out.stay hb)
              replace HA := Lib.hid (blk_stay hb HA.out)
              replace LX := Lib.hid (blk_stay hb LX.out)
              replace HB := Lib.hid (below_mid HB.out hb)
              clear hb
              have hA1 : x6.cell? ⟨ob, q, none⟩ = some (.int .i64 fq) := by rw [blk_cell HA.out, HAF2.out.get q hq8, HFQ2.out]
              have z0 : x6.cell? ⟨bx, 0, none⟩ = some (.int .u8 kd) := blk_cell LX.out 0
              have z3 : x6.cell? ⟨bx, 3, none⟩ = some (.int .i64 s) := blk_cell LX.out 3
              by_cases hk5 : kd % 5 = 3
              · have hk5' : (kd % 5 == 3) = true := by simp [hk5]
                clear hk5
                go_wp2_with fail
                clear hA1 z0 z3
                refine (rel_l (st := ⟨3, 0, Bs2, []⟩) (s := s) rfl _ HO.out.at (by show Bs2.length ≤ _; have := HBL.out; omega) (by simp)).mono ?_
                rintro e x7 ⟨rfl, F3, hP, hF, hU⟩
                have HOn := Lib.hid (show Ob w x7 p ⟨3, 0, rel s Bs2, []⟩ F3 from ⟨hP, fun b h => (hF b h).elim (HO.out.low b) (fun h => Nat.le_trans HB.out.size h)⟩)
                have HNn := Lib.hid (show ¬ F3 ob from fun h => (hF _ h).elim HNF.out (fun h => by have := blk_lt HA.out; omega))
                have NXn := Lib.hid (show ¬ F3 bx from fun h => (hF _ h).elim NX.out (fun h => by have := blk_lt LX.out; omega))
                replace HA := Lib.hid (blk_upd hU HNF.out HA.out)
                replace LX := Lib.hid (blk_upd hU NX.out LX.out)
                replace HB := Lib.hid (HB.out.trans (hU.below HB.out.size HO.out.low))
                replace HO := HOn
                replace HNF := HNn
                replace NX := NXn
                clear hP hF hU HOn HNn NXn
                go_wp2
                go_loopw [15] (fun j wt => ∃ (n : Nat) (arr' : Array Value), n ≤ 8 ∧ j = .int .i64 n ∧ wt.heap[ob]? = some (.cells arr' 3) ∧ ArrF arr' (rst f2 s n) ∧ Upd (fun b => b = ob) x7 wt) (fun j _ => 8 - (intOf j).toNat)
                case atStart => exact ⟨0, _, by omega, rfl, HA.out, by rw [rst_zero]; exact HAF2.out, Upd.refl _ _⟩
                case round =>
                  obtain ⟨n, arr', hn8, rfl, ha, haf, hut⟩ := hrel
                  have HA' := Lib.hid ha
                  have HAF' := Lib.hid haf
                  have HUT := Lib.hid hut
                  clear ha haf hut
                  by_cases hn : n < 8
                  · have w3 : wr.cell? ⟨bx, 3, none⟩ = some (.int .i64 s) := HUT.out.keep (Ne.symm NOX.out) (show x7.cell? ⟨bx, 3, none⟩ = some (.int .i64 s) from blk_cell LX.out 3)
                    have w4 : wr.cell? ⟨ob, n, none⟩ = some (.int .i64 (f2 n)) := by rw [blk_cell HA'.out, HAF'.out.get n hn, rst_at]
                    have w5 : wr.frozen? ⟨ob, n, none⟩ = false := blk_frz HA'.out n
                    obtain ⟨fn, hfn⟩ : ∃ fn, f2 n = fn := ⟨_, rfl⟩
                    rw [hfn] at w4
                    have HFN := Lib.hid hfn
                    clear hfn
                    by_cases hfs : fn = s + 1
                    · have hfs' : (fn == s + 1) = true := by simp [hfs]
                      have HRY := Lib.hid (rst_yes (f := f2) (s := s) (n := n) (by rw [HFN.out]; exact hfs))
                      have HAN := Lib.hid (HAF'.out.set hn 0)
                      rw [HRY.out] at HAN
                      clear hfs
                      go_wp2
                      go_quiet (fail)
                      go_wp2
                      go_roundw
                      case rel => exact ⟨n + 1, _, by omega, by go_num, blk_set HA'.out n _, HAN.out, Upd.setCell (F := fun b => b = ob) (w := wr.drewN nq) (p := ⟨ob, n, none⟩) (HUT.out.trans ⟨rfl, rfl, rfl, Nat.le_refl _, fun _ _ _ => rfl⟩) (fun _ => rfl) _⟩
                      case measure => simp [intOf]; omega
                    · have hfs' : (fn == s + 1) = false := by simp [hfs]
                      have HRN := Lib.hid (rst_no (f := f2) (s := s) (n := n) (by rw [HFN.out]; exact hfs))
                      clear hfs
                      go_wp2
                      go_quiet (fail)
                      go_wp2
                      go_roundw
                      case rel => exact ⟨n + 1, _, by omega, by go_num, HA'.out, by rw [HRN.out]; exact HAF'.out, HUT.out.trans ⟨rfl, rfl, rfl, Nat.le_refl _, fun _ _ _ => rfl⟩⟩
                      case measure => simp [intOf]; omega
                  · obtain rfl : n = 8 := by omega
                    have HR3 := Lib.hid (HR2.out.rel s (by omega))
                    have HAF3 := Lib.hid (show ArrF arr' (fun j => if f2 j = s + 1 then 0 else f2 j) from ⟨HAF'.out.size, fun j hj => by rw [HAF'.out.get j hj, rst_all hj]⟩)
                    replace HO := Lib.hid (HO.out.other HUT.out (fun b e h => HNF.out (e ▸ h)))
                    replace HB := Lib.hid (HB.out.trans (HUT.out.below HB.out.size (fun b e => by rw [e]; exact HMB.out)))
                    have HBL3 := Lib.hid (Nat.le_trans (List.length_filter_le (fun x : Bk × Int => decide (x.2 ≠ s)) Bs2) HBL.out)
                    go_wp2
                    go_roundw
                    case rel => exact ⟨k + 1, _, rel s Bs2, _, _, by omega, by omega, by go_num, HO.out, HR3.out, HBL3.out, HA'.out, HAF3.out, HNF.out, HB.out⟩
                    case measure => simp [intOf]; omega
              · have hk5' : (kd % 5 == 3) = false := by simp [hk5]
                clear hk5
                go_wp2
                go_roundw
                case rel => exact ⟨k + 1, _, Bs2, f2, _, by omega, by omega, by go_num, HO.out, HR2.out, HBL.out, HA.out, HAF2.out, HNF.out, HB.out⟩
                case measure => simp [intOf]; omega
      | true =>
        rw [hok1] at hE
        simp only [if_true] at hE
        have hf0 : f q = 0 := by simp only [Bool.and_eq_true, beq_iff_eq] at hok1; exact hok1.1
        have hhs : hasO f s 8 = false := by simp only [Bool.and_eq_true, Bool.not_eq_true'] at hok1; exact hok1.2
        have HHS := Lib.hid hhs
        have HF0 := Lib.hid hf0
        have HS := Lib.hid (show bindS ⟨3, 0, Bs, []⟩ 17 (1000 + (q : Int)) s = ⟨3, 0, Bs ++ [(⟨17, 1000 + (q : Int)⟩, s)], []⟩ by unfold bindS; rw [hE, if_pos rfl]; rfl)
        have HE := Lib.hid hE
        clear hE hf0 hhs hok1
        refine (bind_l HE.out HS.out _ HO.out.at (by show Bs.length ≤ _; omega)).mono ?_
        rintro e x4 ⟨rfl, F2, hP, hF, hU⟩
        have HOn := Lib.hid (show Ob w x4 p ⟨3, 0, Bs ++ [(⟨17, 1000 + (q : Int)⟩, s)], []⟩ F2 from ⟨hP, fun b h => (hF b h).elim (HO.out.low b) (fun h => Nat.le_trans HB.out.size h)⟩)
        have HNn := Lib.hid (show ¬ F2 ob from fun h => (hF _ h).elim HNF.out (fun h => by have := blk_lt HA.out; omega))
        have NXn := Lib.hid (show ¬ F2 bx from fun h => (hF _ h).elim NX.out (fun h => by have := blk_lt LX.out; omega))
        replace HA := Lib.hid (blk_upd hU HNF.out HA.out)
        replace LX := Lib.hid (blk_upd hU NX.out LX.out)
        replace HB := Lib.hid (HB.out.trans (hU.below HB.out.size HO.out.low))
        replace HO := HOn
        replace HNF := HNn
        replace NX := NXn
        clear hP hF hU HOn HNn NXn
        clear HS HE
        go_wp2
        obtain ⟨wo, hwo⟩ : ∃ wo : World, wo = x4 := ⟨_, rfl⟩
        go_loopw [11, 12] (fun h j wt => ∃ n : Nat, n ≤ 8 ∧ j = .int .i64 n ∧ h = .bool (hasO f s n) ∧ Below x4.heap.size x4 wt) (fun _ j _ => 8 - (intOf j).toNat)
        case atStart => exact ⟨0, by omega, rfl, rfl, Below.refl _ _⟩
        case round =>
          obtain ⟨n, hn8, rfl, rfl, hbt⟩ := hrel
          by_cases hn : n < 8
          · have w3 : wr.cell? ⟨bx, 3, none⟩ = some (.int .i64 s) := keep hbt (show x4.cell? ⟨bx, 3, none⟩ = some (.int .i64 s) from blk_cell LX.out 3)
            have w4 : wr.cell? ⟨ob, n, none⟩ = some (.int .i64 (f n)) := keep hbt (by rw [blk_cell HA.out]; exact HAF.out.get n hn)
            have HSU := Lib.hid (hasO_succ f s n)
            have HBT := Lib.hid hbt
            clear hbt
            obtain ⟨hb0, hh0⟩ : ∃ b, hasO f s n = b := ⟨_, rfl⟩
            rw [hh0] at HSU ⊢
            clear hh0
            obtain ⟨fn, hfn⟩ : ∃ fn, f n = fn := ⟨_, rfl⟩
            rw [hfn] at w4 HSU
            clear hfn
            cases hb0
            · go_wp2
              go_quiet (fail)
              go_wp2
              go_roundw
              case rel => exact ⟨n + 1, by omega, by go_num, by rw [HSU.out]; rfl, HBT.out.trans ⟨rfl, rfl, rfl, Nat.le_refl _, fun _ _ => rfl⟩⟩
              case measure => simp [intOf]; omega
            · go_wp2
              go_quiet (fail)
              go_wp2
              go_roundw
              case rel => exact ⟨n + 1, by omega, by go_num, by rw [HSU.out]; rfl, HBT.out.trans ⟨rfl, rfl, rfl, Nat.le_refl _, fun _ _ => rfl⟩⟩
              case measure => simp [intOf]; omega
          · obtain rfl : n = 8 := by omega
            replace HO := Lib.hid (HO.out.stay hbt)
            replace HA := Lib.hid (blk_stay hbt HA.out)
            replace LX := Lib.hid (blk_stay hbt LX.out)
            replace HB := Lib.hid (below_mid HB.out hbt)
            clear hbt
            have hA1 : wr.cell? ⟨ob, q, none⟩ = some (.int .i64 0) := by rw [blk_cell HA.out, HAF.out.get q hq8, HF0.out]
            have hA2 : wr.frozen? ⟨ob, q, none⟩ = false := blk_frz HA.out q
            have z3 : wr.cell? ⟨bx, 3, none⟩ = some (.int .i64 s) := blk_cell LX.out 3
            rw [HHS.out]
            obtain ⟨x5, hx5⟩ : ∃ y, wr.setCell ⟨ob, q, none⟩ (.int .i64 (s + 1)) = y := ⟨_, rfl⟩
            have HU5 := Lib.hid (show Upd (fun b => b = ob) wr x5 by rw [← hx5]; exact Upd.setCell (p := ⟨ob, q, none⟩) (Upd.refl (fun b => b = ob) wr) (fun _ => rfl) _)
            replace HA := Lib.hid (show x5.heap[ob]? = some (.cells (arr.setIfInBounds q (.int .i64 (s + 1))) 3) by rw [← hx5]; exact blk_set HA.out _ _)
            replace HO := Lib.hid (HO.out.other HU5.out (fun b e h => HNF.out (e ▸ h)))
            replace LX := Lib.hid (blk_upd HU5.out (Ne.symm NOX.out) LX.out)
            replace HB := Lib.hid (show Below w.heap.size w x5 by rw [← hx5]; exact HB.out.setCell HMB.out _)
            obtain ⟨f2, hf2⟩ : ∃ f2 : Nat → Int, f2 = fun j => if j = q then s + 1 else f j := ⟨_, rfl⟩
            have HR2 := Lib.hid (show OwnR (Bs ++ [((⟨17, 1000 + (q : Int)⟩ : Bk), s)]) f2 by rw [hf2]; exact HR.out.add hq8 (s := s) ⟨by omega, by omega⟩ HF0.out)
            have HAF2 := Lib.hid (show ArrF (arr.setIfInBounds q (.int .i64 (s + 1))) f2 by rw [hf2]; exact HAF.out.set hq8 (s + 1))
            have HFQ := Lib.hid (show f2 q = s + 1 by rw [hf2]; simp)
            have HLK := Lib.hid (HR2.out.look 3 0 hq8)
            rw [HFQ.out] at HLK
            clear hf2
            have z2 : x5.cell? ⟨bx, 2, none⟩ = some (.int .i64 (1000 + (q : Int))) := blk_cell LX.out 2
            have hs1 : 0 < s + 1 := by omega
            rw [if_pos hs1] at HLK
            have hs1' : decide (0 < s + 1) = true := by simp [hs1]
            rw [hs1'] at HLK
            have HBL := Lib.hid (show (Bs ++ [((⟨17, 1000 + (q : Int)⟩ : Bk), s)]).length ≤ k + 1 by simp; omega)
            generalize hBs2 : Bs ++ [((⟨17, 1000 + (q : Int)⟩ : Bk), s)] = Bs2 at *
            clear hBs2
            go_wp2_with fail
            clear hA1 hA2 z2 z3 hx5 HU5
            refine (look_l HLK.out _ HO.out.at (by simp)).mono ?_
            rintro e x6 ⟨rfl, hb⟩
            replace HO := Lib.hid (HO.out.stay hb)
            replace HA := Lib.hid (blk_stay hb HA.out)
            replace LX := Lib.hid (blk_stay hb LX.out)
            replace HB := Lib.hid (below_mid HB.out hb)
            clear hb
            have hA1 : x6.cell? ⟨ob, q, none⟩ = some (.int .i64 (s + 1)) := by rw [blk_cell HA.out, HAF2.out.get q hq8, HFQ.out]
            have z0 : x6.cell? ⟨bx, 0, none⟩ = some (.int .u8 kd) := blk_cell LX.out 0
            have z3 : x6.cell? ⟨bx, 3, none⟩ = some (.int .i64 s) := blk_cell LX.out 3
            by_cases hk5 : kd % 5 = 3
            · have hk5' : (kd % 5 == 3) = true := by simp [hk5]
              clear hk5
              go_wp2_with fail
              clear hA1 z0 z3
              refine (rel_l (st := ⟨3, 0, Bs2, []⟩) (s := s) rfl _ HO.out.at (by show Bs2.length ≤ _; have := HBL.out; omega) (by simp)).mono ?_
              rintro e x7 ⟨rfl, F3, hP, hF, hU⟩
              have HOn := Lib.hid (show Ob w x7 p ⟨3, 0, rel s Bs2, []⟩ F3 from ⟨hP, fun b h => (hF b h).elim (HO.out.low b) (fun h => Nat.le_trans HB.out.size h)⟩)
              have HNn := Lib.hid (show ¬ F3 ob from fun h => (hF _ h).elim HNF.out (fun h => by have := blk_lt HA.out; omega))
              have NXn := Lib.hid (show ¬ F3 bx from fun h => (hF _ h).elim NX.out (fun h => by have := blk_lt LX.out; omega))
              replace HA := Lib.hid (blk_upd hU HNF.out HA.out)
              replace LX := Lib.hid (blk_upd hU NX.out LX.out)
              replace HB := Lib.hid (HB.out.trans (hU.below HB.out.size HO.out.low))
              replace HO := HOn
              replace HNF := HNn
              replace NX := NXn
              clear hP hF hU HOn HNn NXn
              go_wp2
              go_loopw [15] (fun j wt => ∃ (n : Nat) (arr' : Array Value), n ≤ 8 ∧ j = .int .i64 n ∧ wt.heap[ob]? = some (.cells arr' 3) ∧ ArrF arr' (rst f2 s n) ∧ Upd (fun b => b = ob) x7 wt) (fun j _ => 8 - (intOf j).toNat)
              case atStart => exact ⟨0, _, by omega, rfl, HA.out, by rw [rst_zero]; exact HAF2.out, Upd.refl _ _⟩
              case round =>
                obtain ⟨n, arr', hn8, rfl, ha, haf, hut⟩ := hrel
                have HA' := Lib.hid ha
                have HAF' := Lib.hid haf
                have HUT := Lib.hid hut
                clear ha haf hut
                by_cases hn : n < 8
                · have w3 : wr.cell? ⟨bx, 3, none⟩ = some (.int .i64 s) := HUT.out.keep (Ne.symm NOX.out) (show x7.cell? ⟨bx, 3, none⟩ = some (.int .i64 s) from blk_cell LX.out 3)
                  have w4 : wr.cell? ⟨ob, n, none⟩ = some (.int .i64 (f2 n)) := by rw [blk_cell HA'.out, HAF'.out.get n hn, rst_at]
                  have w5 : wr.frozen? ⟨ob, n, none⟩ = false := blk_frz HA'.out n
                  obtain ⟨fn, hfn⟩ : ∃ fn, f2 n = fn := ⟨_, rfl⟩
                  rw [hfn] at w4
                  have HFN := Lib.hid hfn
                  clear hfn
                  by_cases hfs : fn = s + 1
                  · have hfs' : (fn == s + 1) = true := by simp [hfs]
                    have HRY := Lib.hid (rst_yes (f := f2) (s := s) (n := n) (by rw [HFN.out]; exact hfs))
                    have HAN := Lib.hid (HAF'.out.set hn 0)
                    rw [HRY.out] at HAN
                    clear hfs
                    go_wp2
                    go_quiet (fail)
                    go_wp2
                    go_roundw
                    case rel => exact ⟨n + 1, _, by omega, by go_num, blk_set HA'.out n _, HAN.out, Upd.setCell (F := fun b => b = ob) (w := wr.drewN nq) (p := ⟨ob, n, none⟩) (HUT.out.trans ⟨rfl, rfl, rfl, Nat.le_refl _, fun _ _ _ => rfl⟩) (fun _ => rfl) _⟩
                    case measure => simp [intOf]; omega
                  · have hfs' : (fn == s + 1) = false := by simp [hfs]
                    have HRN := Lib.hid (rst_no (f := f2) (s := s) (n := n) (by rw [HFN.out]; exact hfs))
                    clear hfs
                    go_wp2
                    go_quiet (fail)
                    go_wp2
                    go_roundw
                    case rel => exact ⟨n + 1, _, by omega, by go_num, HA'.out, by rw [HRN.out]; exact HAF'.out, HUT.out.trans ⟨rfl, rfl, rfl, Nat.le_refl _, fun _ _ _ => rfl⟩⟩
                    case measure => simp [intOf]; omega
                · obtain rfl : n = 8 := by omega
                  have HR3 := Lib.hid (HR2.out.rel s (by omega))
                  have HAF3 := Lib.hid (show ArrF arr' (fun j => if f2 j = s + 1 then 0 else f2 j) from ⟨HAF'.out.size, fun j hj => by rw [HAF'.out.get j hj, rst_all hj]⟩)
                  replace HO := Lib.hid (HO.out.other HUT.out (fun b e h => HNF.out (e ▸ h)))
                  replace HB := Lib.hid (HB.out.trans (HUT.out.below HB.out.size (fun b e => by rw [e]; exact HMB.out)))
                  have HBL3 := Lib.hid (Nat.le_trans (List.length_filter_le (fun x : Bk × Int => decide (x.2 ≠ s)) Bs2) HBL.out)
                  go_wp2
                  go_roundw
                  case rel => exact ⟨k + 1, _, rel s Bs2, _, _, by omega, by omega, by go_num, HO.out, HR3.out, HBL3.out, HA'.out, HAF3.out, HNF.out, HB.out⟩
                  case measure => simp [intOf]; omega
            · have hk5' : (kd % 5 == 3) = false := by simp [hk5]
              clear hk5
              go_wp2
              go_roundw
              case rel => exact ⟨k + 1, _, Bs2, f2, _, by omega, by omega, by go_num, HO.out, HR2.out, HBL.out, HA.out, HAF2.out, HNF.out, HB.out⟩
              case measure => simp [intOf]; omega
    · by_cases h1 : k < len
      · obtain rfl : k = 80 := by omega
        go_wp2
        go_ret
        exact ⟨rfl, HB.out⟩
      · obtain rfl : k = len := by omega
        go_wp2
        go_ret
        exact ⟨rfl, HB.out⟩

end Go.Proofs.Ytfipamdknanlmaa
