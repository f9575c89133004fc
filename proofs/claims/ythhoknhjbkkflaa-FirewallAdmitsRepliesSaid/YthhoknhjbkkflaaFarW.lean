/- The walk of FirewallAdmitsReplies. Printed by wip/tools/gen22r.py. -/
import Derived.Test.YthhoknhjbkkflaaFlw3
namespace Go.Proofs.Ythhoknhjbkkflaa
open Go.RowKit Go.Sort
set_option linter.unusedVariables false

set_option maxRecDepth 100000 in
set_option maxHeartbeats 16000000 in
theorem admitsReplies_walk (n : Nat) (x : Nat → Rw) (v : Value) (y : Fw) (m : Nat) (g : Nat → Fw) (v2 : Value) (af : Int) (w : World) (hR : RdR w v n x) (hy : FwOk y) (hM : RdF w v2 m g) (ha : i64B af) : Calls Try.prog 4 #[v, fwV y, v2, .int .i64 af] w fun e w' => e = .returned (.bool true) ∧ Below w.heap.size w w' := by
  obtain ⟨a2, cap2, rfl, hcap2, hlen2, hok2, hp2⟩ := hM
  have HP := Lib.hid hp2
  have HOK := Lib.hid hok2
  have HR := Lib.hid hR
  have HY := Lib.hid hy
  have P1 := Lib.hid (fun w => pick_b af 800 w ha (by decide))
  obtain ⟨q1, q2⟩ := pk_bd af 800 (by decide)
  generalize pk af 800 = nn at *
  clear hp2 hok2 hR hy ha
  obtain ⟨yqho, yqpr, yqpo, yqth, yqfl, yqaf⟩ := y
  have HO := Lib.hid (show Own w none0 w [] from Own.nil w none0)
  obtain ⟨x1, hx1⟩ : ∃ y, w.alloc (.cells #[.int .i64 yqho, .int .i64 yqpr, .int .i64 yqpo, .int .i64 yqth, .int .i64 yqfl, .int .i64 yqaf] 39) = y := ⟨_, rfl⟩
  obtain ⟨bx, hbx⟩ : ∃ y, w.heap.size = y := ⟨_, rfl⟩
  have hO := HO.out.alloc (.cells #[.int .i64 yqho, .int .i64 yqpr, .int .i64 yqpo, .int .i64 yqth, .int .i64 yqfl, .int .i64 yqaf] 39)
  rw [hx1, hbx] at hO
  replace HO := Lib.hid (show Own w none0 x1 [blkR bx (.cells #[.int .i64 yqho, .int .i64 yqpr, .int .i64 yqpo, .int .i64 yqth, .int .i64 yqfl, .int .i64 yqaf] 39)] from hO)
  clear hO
  go_enter Try.func4, Try.ntmps4
  go_wp2_with fail
  refine (o_still HO.out (sane_any _)).mono ?_
  rintro e x2 ⟨rfl, hO, -⟩
  replace HO := Lib.hid (show Own w none0 x2 [blkR bx (.cells #[.int .i64 yqho, .int .i64 yqpr, .int .i64 yqpo, .int .i64 yqth, .int .i64 yqfl, .int .i64 yqaf] 39)] from hO)
  clear hO
  clear hx1 hbx
  go_wp2_with fail
  refine (rules_any n x _ _ (HR.out.stay HO.out.below)).mono ?_
  rintro e x3 ⟨u, rfl, hO1, -⟩
  have hO := HO.out.join1 hO1
  clear hO1
  obtain ⟨A, hA⟩ : ∃ A, rulesTo x (min n 16) = A := ⟨_, rfl⟩
  have HCK := Lib.hid (show ∀ p, checkE (A.filter p) = 0 from fun p => by rw [← hA]; exact rules_ok x n p)
  have HAL := Lib.hid (show A.length ≤ 16 by rw [← hA, rulesTo_len]; omega)
  rw [hA] at hO
  clear hA
  obtain ⟨ua, uc, rfl, -⟩ := row_at (c := cRl) (fun x => rfl) (hO.row 1 rfl) rfl
  obtain ⟨an, han⟩ : ∃ an, A.length = an := ⟨_, rfl⟩
  have HAN := Lib.hid han
  have hab : an ≤ 16 := by rw [← han]; exact HAL.out
  replace HO := Lib.hid (show Own w none0 x3 [blkR bx (.cells #[.int .i64 yqho, .int .i64 yqpr, .int .i64 yqpo, .int .i64 yqth, .int .i64 yqfl, .int .i64 yqaf] 39), rowRl (.slice ua A.length uc) A] from hO)
  clear hO
  rw [han] at HO ⊢
  clear han
  go_wp2
  go_loopw [10, 12] (fun rs i wr => ∃ k : Nat, k ≤ an ∧ i = .int .i64 k ∧ Own w none0 wr [blkR bx (.cells #[.int .i64 yqho, .int .i64 yqpr, .int .i64 yqpo, .int .i64 yqth, .int .i64 yqfl, .int .i64 yqaf] 39), rowRl (.slice ua an uc) A, rowRl rs ((A.take k).filter (fun r => !r.inn))]) (fun _ i _ => an - (intOf i).toNat)
  case atStart => exact ⟨0, Nat.zero_le _, rfl, HO.out.rowNew _ _⟩
  case round =>
    obtain ⟨k, hk, rfl, hO⟩ := hrel
    replace HO := Lib.hid hO
    clear hO
    by_cases hlt : k < an
    · have hrw := HO.out.row 1 rfl
      rw [HAN.out] at hrw
      obtain ⟨g, rfl, hc⟩ := row_sl (c := cRl) (fun x => rfl) hrw HAN.out (by omega)
      clear hrw
      have hkA : k < A.length := by have := HAN.out; omega
      have hc := hc k hkA
      have HFS := Lib.hid (filter_step (p := (fun r => !r.inn)) hkA)
      have HKN := Lib.hid (show ((A.take k).filter (fun r => !r.inn)).length ≤ k from Nat.le_trans (List.length_filter_le _ _) (List.length_take_le _ _))
      generalize A[k] = r at *
      obtain ⟨inn, pr, na, nb, lo, hi, ps⟩ := r
      have ycell : ∀ j u, j < 7 → (cRl ⟨inn, pr, na, nb, lo, hi, ps⟩)[j]? = some u → wr.cell? ⟨g, k * 7 + j, none⟩ = some u := fun j u hj hu => (hc j hj).trans hu
      clear hc hkA
      have y0 : wr.cell? ⟨g, k * 7, none⟩ = some (.bool inn) := ycell 0 _ (by decide) rfl
      have y1 : wr.cell? ⟨g, k * 7 + 1, none⟩ = some (.int .i64 pr) := ycell 1 _ (by decide) rfl
      have y2 : wr.cell? ⟨g, k * 7 + 2, none⟩ = some (.int .i64 na) := ycell 2 _ (by decide) rfl
      have y3 : wr.cell? ⟨g, k * 7 + 3, none⟩ = some (.int .i64 nb) := ycell 3 _ (by decide) rfl
      have y4 : wr.cell? ⟨g, k * 7 + 4, none⟩ = some (.int .i64 lo) := ycell 4 _ (by decide) rfl
      have y5 : wr.cell? ⟨g, k * 7 + 5, none⟩ = some (.int .i64 hi) := ycell 5 _ (by decide) rfl
      have y6 : wr.cell? ⟨g, k * 7 + 6, none⟩ = some (.bool ps) := ycell 6 _ (by decide) rfl
      clear ycell
      cases inn with
      | false =>
        have HRT := Lib.hid (show (A.take (k + 1)).filter (fun r => !r.inn) = (A.take k).filter (fun r => !r.inn) ++ [⟨false, pr, na, nb, lo, hi, ps⟩] by rw [HFS.out]; simp)
        clear HFS
        have rb := run_bsRl
        obtain ⟨x24, hx24⟩ : ∃ y, wr.alloc (.cells #[.bool false, .int .i64 pr, .int .i64 na, .int .i64 nb, .int .i64 lo, .int .i64 hi, .bool ps] 30) = y := ⟨_, rfl⟩
        obtain ⟨bn, hbn⟩ : ∃ y, wr.heap.size = y := ⟨_, rfl⟩
        have hO := HO.out.alloc (.cells #[.bool false, .int .i64 pr, .int .i64 na, .int .i64 nb, .int .i64 lo, .int .i64 hi, .bool ps] 30)
        rw [hx24, hbn] at hO
        replace HO := Lib.hid (show Own w none0 x24 [blkR bx (.cells #[.int .i64 yqho, .int .i64 yqpr, .int .i64 yqpo, .int .i64 yqth, .int .i64 yqfl, .int .i64 yqaf] 39), rowRl (.slice (some ⟨g, 0, none⟩) an uc) A, rowRl u10 ((A.take k).filter (fun r => !r.inn)), blkR bn (.cells #[.bool false, .int .i64 pr, .int .i64 na, .int .i64 nb, .int .i64 lo, .int .i64 hi, .bool ps] 30)] from hO)
        clear hO
        go_wp2_with ((at_builtin; refine (show _ = True → _ from fun h => of_eq_true h) ?_))
        refine eq_true ?_
        refine wpList_appO rfl (.tmp 37) (.tmp 42) 25 rfl Try.underlying25 infoRl rfl (by decide) HO.out 2 rfl rfl 3 1 1 [.bool false, .int .i64 pr, .int .i64 na, .int .i64 nb, .int .i64 lo, .int .i64 hi, .bool ps] rfl rfl rfl (oneRl _ _ _ _ _ _ _) (by have := HKN.out; have := HAL.out; have := HAN.out; unfold maxLen; omega) (by have := HKN.out; have := HAL.out; have := HAN.out; omega) ?_
        intro v9 x9 hO
        clear hx24 hbn
        clear rb y0 y1 y2 y3 y4 y5 y6
        have e1 : rowR v9 30 7 (((A.take k).filter (fun r => !r.inn)).length + 1) (((A.take k).filter (fun r => !r.inn)).flatMap cRl ++ [.bool false, .int .i64 pr, .int .i64 na, .int .i64 nb, .int .i64 lo, .int .i64 hi, .bool ps]) = rowRl v9 ((A.take (k + 1)).filter (fun r => !r.inn)) := by
          rw [HRT.out]
          show _ = rowR _ _ _ _ _
          rw [List.length_append, List.flatMap_append]; rfl
        simp only [List.set_cons_succ, List.set_cons_zero, e1] at hO
        replace HO := Lib.hid (show Own w none0 x9 [blkR bx (.cells #[.int .i64 yqho, .int .i64 yqpr, .int .i64 yqpo, .int .i64 yqth, .int .i64 yqfl, .int .i64 yqaf] 39), rowRl (.slice (some ⟨g, 0, none⟩) an uc) A, rowRl v9 ((A.take (k + 1)).filter (fun r => !r.inn))] from hO.take 3)
        clear hO e1
        go_wp2
        go_roundw
        case rel => exact ⟨k + 1, by omega, by go_num, HO.out⟩
        case measure => simp [intOf]; omega
      | true =>
        have HRT := Lib.hid (show (A.take (k + 1)).filter (fun r => !r.inn) = (A.take k).filter (fun r => !r.inn) by rw [HFS.out]; simp)
        clear HFS
        go_wp2
        go_roundw
        case rel => exact ⟨k + 1, by omega, by go_num, by rw [HRT.out]; exact HO.out⟩
        case measure => simp [intOf]; omega
    · have hke : an = k := by omega
      subst hke
      have hO := HO.out
      rw [show A.take an = A by rw [← HAN.out]; exact List.take_length] at hO
      replace HO := Lib.hid (show Own w none0 wr [blkR bx (.cells #[.int .i64 yqho, .int .i64 yqpr, .int .i64 yqpo, .int .i64 yqth, .int .i64 yqfl, .int .i64 yqaf] 39), rowRl (.slice ua an uc) A, rowRl u10 (A.filter (fun r => !r.inn))] from hO)
      clear hO hlt hk
      obtain ⟨rl, hrl⟩ : ∃ rl, A.filter (fun r => !r.inn) = rl := ⟨_, rfl⟩
      have HRC := Lib.hid (show checkE rl = 0 by rw [← hrl]; exact HCK.out _)
      have HRL := Lib.hid (show rl.length ≤ 1000 by rw [← hrl]; exact Nat.le_trans (List.length_filter_le _ _) (by have := HAL.out; omega))
      have HRI := Lib.hid (show ∀ r ∈ rl, r.inn = true → r.ps = false from fun r hr hi => by
        rw [← hrl] at hr
        have := (List.mem_filter.1 hr).2
        simp [hi] at this)
      have hO := HO.out
      rw [hrl] at hO
      replace HO := Lib.hid (show Own w none0 wr [blkR bx (.cells #[.int .i64 yqho, .int .i64 yqpr, .int .i64 yqpo, .int .i64 yqth, .int .i64 yqfl, .int .i64 yqaf] 39), rowRl (.slice ua an uc) A, rowRl u10 rl] from hO)
      clear hO hrl HCK
      go_wp2_with fail
      refine (new_ok HO.out 2 rfl HRL.out HRC.out).mono ?_
      rintro e x44 ⟨f, rfl, hO, -⟩
      replace HO := Lib.hid (show Own w none0 x44 [blkR bx (.cells #[.int .i64 yqho, .int .i64 yqpr, .int .i64 yqpo, .int .i64 yqth, .int .i64 yqfl, .int .i64 yqaf] 39), rowRl (.slice ua an uc) A, rowRl u10 rl, resF f ⟨rl, [], 0⟩] from hO)
      clear hO
      have z0_0 : x44.cell? ⟨bx, 0, none⟩ = some (.int .i64 yqho) := HO.out.cell 0 rfl 0 rfl
      have z0_1 : x44.cell? ⟨bx, 1, none⟩ = some (.int .i64 yqpr) := HO.out.cell 0 rfl 1 rfl
      have z0_2 : x44.cell? ⟨bx, 2, none⟩ = some (.int .i64 yqpo) := HO.out.cell 0 rfl 2 rfl
      have z0_3 : x44.cell? ⟨bx, 3, none⟩ = some (.int .i64 yqth) := HO.out.cell 0 rfl 3 rfl
      have z0_4 : x44.cell? ⟨bx, 4, none⟩ = some (.int .i64 yqfl) := HO.out.cell 0 rfl 4 rfl
      have z0_5 : x44.cell? ⟨bx, 5, none⟩ = some (.int .i64 yqaf) := HO.out.cell 0 rfl 5 rfl
      have HFFy := Lib.hid (fun w => flowFrom_any ⟨yqho, yqpr, yqpo, yqth, yqfl, yqaf⟩ HY.out w)
      have HVYy := Lib.hid (flowF_valid ⟨yqho, yqpr, yqpo, yqth, yqfl, yqaf⟩)
      generalize flowF ⟨yqho, yqpr, yqpo, yqth, yqfl, yqaf⟩ = fy at HFFy HVYy
      obtain ⟨ypr, yhe, yhp, yth, ytp, ysy, yfi, yrs, ysq⟩ := fy
      go_wp2_with fail
      refine (o_still HO.out (HFFy.out _)).mono ?_
      rintro e x45 ⟨rfl, hO, -⟩
      replace HO := Lib.hid (show Own w none0 x45 [blkR bx (.cells #[.int .i64 yqho, .int .i64 yqpr, .int .i64 yqpo, .int .i64 yqth, .int .i64 yqfl, .int .i64 yqaf] 39), rowRl (.slice ua an uc) A, rowRl u10 rl, resF f ⟨rl, [], 0⟩] from hO)
      clear hO
      obtain ⟨x46, hx46⟩ : ∃ y, x45.alloc (.cells #[.int .i64 0, .int .i64 0, .int .i64 0, .int .i64 0, .int .i64 0, .bool false, .bool false, .bool false, .int .i64 0] 41) = y := ⟨_, rfl⟩
      obtain ⟨bv, hbv⟩ : ∃ y, x45.heap.size = y := ⟨_, rfl⟩
      have hO := HO.out.alloc (.cells #[.int .i64 0, .int .i64 0, .int .i64 0, .int .i64 0, .int .i64 0, .bool false, .bool false, .bool false, .int .i64 0] 41)
      rw [hx46, hbv] at hO
      replace HO := Lib.hid (show Own w none0 x46 [blkR bx (.cells #[.int .i64 yqho, .int .i64 yqpr, .int .i64 yqpo, .int .i64 yqth, .int .i64 yqfl, .int .i64 yqaf] 39), rowRl (.slice ua an uc) A, rowRl u10 rl, resF f ⟨rl, [], 0⟩, blkR bv (.cells #[.int .i64 0, .int .i64 0, .int .i64 0, .int .i64 0, .int .i64 0, .bool false, .bool false, .bool false, .int .i64 0] 41)] from hO)
      clear hO
      have k4_0_47 : x46.cell? ⟨bv, 0, none⟩ = some (.int .i64 0) := HO.out.cell 4 rfl 0 rfl
      have lk4_0_47 : x46.frozen? ⟨bv, 0, none⟩ = false := HO.out.frz 4 rfl 0
      have k4_1_48 : x46.cell? ⟨bv, 1, none⟩ = some (.int .i64 0) := HO.out.cell 4 rfl 1 rfl
      have lk4_1_48 : x46.frozen? ⟨bv, 1, none⟩ = false := HO.out.frz 4 rfl 1
      have k4_2_49 : x46.cell? ⟨bv, 2, none⟩ = some (.int .i64 0) := HO.out.cell 4 rfl 2 rfl
      have lk4_2_49 : x46.frozen? ⟨bv, 2, none⟩ = false := HO.out.frz 4 rfl 2
      have k4_3_50 : x46.cell? ⟨bv, 3, none⟩ = some (.int .i64 0) := HO.out.cell 4 rfl 3 rfl
      have lk4_3_50 : x46.frozen? ⟨bv, 3, none⟩ = false := HO.out.frz 4 rfl 3
      have k4_4_51 : x46.cell? ⟨bv, 4, none⟩ = some (.int .i64 0) := HO.out.cell 4 rfl 4 rfl
      have lk4_4_51 : x46.frozen? ⟨bv, 4, none⟩ = false := HO.out.frz 4 rfl 4
      have k4_5_52 : x46.cell? ⟨bv, 5, none⟩ = some (.bool false) := HO.out.cell 4 rfl 5 rfl
      have lk4_5_52 : x46.frozen? ⟨bv, 5, none⟩ = false := HO.out.frz 4 rfl 5
      have k4_6_53 : x46.cell? ⟨bv, 6, none⟩ = some (.bool false) := HO.out.cell 4 rfl 6 rfl
      have lk4_6_53 : x46.frozen? ⟨bv, 6, none⟩ = false := HO.out.frz 4 rfl 6
      have k4_7_54 : x46.cell? ⟨bv, 7, none⟩ = some (.bool false) := HO.out.cell 4 rfl 7 rfl
      have lk4_7_54 : x46.frozen? ⟨bv, 7, none⟩ = false := HO.out.frz 4 rfl 7
      have k4_8_55 : x46.cell? ⟨bv, 8, none⟩ = some (.int .i64 0) := HO.out.cell 4 rfl 8 rfl
      have lk4_8_55 : x46.frozen? ⟨bv, 8, none⟩ = false := HO.out.frz 4 rfl 8
      obtain ⟨x56, hx56⟩ : ∃ y, x46.setCell ⟨bv, 0, none⟩ (.int .i64 ypr) = y := ⟨_, rfl⟩
      have hO := HO.out.setCell 4 rfl 0 (.int .i64 ypr)
      rw [hx56] at hO
      replace HO := Lib.hid (show Own w none0 x56 [blkR bx (.cells #[.int .i64 yqho, .int .i64 yqpr, .int .i64 yqpo, .int .i64 yqth, .int .i64 yqfl, .int .i64 yqaf] 39), rowRl (.slice ua an uc) A, rowRl u10 rl, resF f ⟨rl, [], 0⟩, blkR bv (.cells #[.int .i64 ypr, .int .i64 0, .int .i64 0, .int .i64 0, .int .i64 0, .bool false, .bool false, .bool false, .int .i64 0] 41)] from hO)
      clear hO
      have k4_1_57 : x56.cell? ⟨bv, 1, none⟩ = some (.int .i64 0) := HO.out.cell 4 rfl 1 rfl
      have lk4_1_57 : x56.frozen? ⟨bv, 1, none⟩ = false := HO.out.frz 4 rfl 1
      have k4_2_58 : x56.cell? ⟨bv, 2, none⟩ = some (.int .i64 0) := HO.out.cell 4 rfl 2 rfl
      have lk4_2_58 : x56.frozen? ⟨bv, 2, none⟩ = false := HO.out.frz 4 rfl 2
      have k4_3_59 : x56.cell? ⟨bv, 3, none⟩ = some (.int .i64 0) := HO.out.cell 4 rfl 3 rfl
      have lk4_3_59 : x56.frozen? ⟨bv, 3, none⟩ = false := HO.out.frz 4 rfl 3
      have k4_4_60 : x56.cell? ⟨bv, 4, none⟩ = some (.int .i64 0) := HO.out.cell 4 rfl 4 rfl
      have lk4_4_60 : x56.frozen? ⟨bv, 4, none⟩ = false := HO.out.frz 4 rfl 4
      have k4_5_61 : x56.cell? ⟨bv, 5, none⟩ = some (.bool false) := HO.out.cell 4 rfl 5 rfl
      have lk4_5_61 : x56.frozen? ⟨bv, 5, none⟩ = false := HO.out.frz 4 rfl 5
      have k4_6_62 : x56.cell? ⟨bv, 6, none⟩ = some (.bool false) := HO.out.cell 4 rfl 6 rfl
      have lk4_6_62 : x56.frozen? ⟨bv, 6, none⟩ = false := HO.out.frz 4 rfl 6
      have k4_7_63 : x56.cell? ⟨bv, 7, none⟩ = some (.bool false) := HO.out.cell 4 rfl 7 rfl
      have lk4_7_63 : x56.frozen? ⟨bv, 7, none⟩ = false := HO.out.frz 4 rfl 7
      have k4_8_64 : x56.cell? ⟨bv, 8, none⟩ = some (.int .i64 0) := HO.out.cell 4 rfl 8 rfl
      have lk4_8_64 : x56.frozen? ⟨bv, 8, none⟩ = false := HO.out.frz 4 rfl 8
      obtain ⟨x65, hx65⟩ : ∃ y, x56.setCell ⟨bv, 1, none⟩ (.int .i64 yhe) = y := ⟨_, rfl⟩
      have hO := HO.out.setCell 4 rfl 1 (.int .i64 yhe)
      rw [hx65] at hO
      replace HO := Lib.hid (show Own w none0 x65 [blkR bx (.cells #[.int .i64 yqho, .int .i64 yqpr, .int .i64 yqpo, .int .i64 yqth, .int .i64 yqfl, .int .i64 yqaf] 39), rowRl (.slice ua an uc) A, rowRl u10 rl, resF f ⟨rl, [], 0⟩, blkR bv (.cells #[.int .i64 ypr, .int .i64 yhe, .int .i64 0, .int .i64 0, .int .i64 0, .bool false, .bool false, .bool false, .int .i64 0] 41)] from hO)
      clear hO
      have k4_2_66 : x65.cell? ⟨bv, 2, none⟩ = some (.int .i64 0) := HO.out.cell 4 rfl 2 rfl
      have lk4_2_66 : x65.frozen? ⟨bv, 2, none⟩ = false := HO.out.frz 4 rfl 2
      have k4_3_67 : x65.cell? ⟨bv, 3, none⟩ = some (.int .i64 0) := HO.out.cell 4 rfl 3 rfl
      have lk4_3_67 : x65.frozen? ⟨bv, 3, none⟩ = false := HO.out.frz 4 rfl 3
      have k4_4_68 : x65.cell? ⟨bv, 4, none⟩ = some (.int .i64 0) := HO.out.cell 4 rfl 4 rfl
      have lk4_4_68 : x65.frozen? ⟨bv, 4, none⟩ = false := HO.out.frz 4 rfl 4
      have k4_5_69 : x65.cell? ⟨bv, 5, none⟩ = some (.bool false) := HO.out.cell 4 rfl 5 rfl
      have lk4_5_69 : x65.frozen? ⟨bv, 5, none⟩ = false := HO.out.frz 4 rfl 5
      have k4_6_70 : x65.cell? ⟨bv, 6, none⟩ = some (.bool false) := HO.out.cell 4 rfl 6 rfl
      have lk4_6_70 : x65.frozen? ⟨bv, 6, none⟩ = false := HO.out.frz 4 rfl 6
      have k4_7_71 : x65.cell? ⟨bv, 7, none⟩ = some (.bool false) := HO.out.cell 4 rfl 7 rfl
      have lk4_7_71 : x65.frozen? ⟨bv, 7, none⟩ = false := HO.out.frz 4 rfl 7
      have k4_8_72 : x65.cell? ⟨bv, 8, none⟩ = some (.int .i64 0) := HO.out.cell 4 rfl 8 rfl
      have lk4_8_72 : x65.frozen? ⟨bv, 8, none⟩ = false := HO.out.frz 4 rfl 8
      obtain ⟨x73, hx73⟩ : ∃ y, x65.setCell ⟨bv, 2, none⟩ (.int .i64 yhp) = y := ⟨_, rfl⟩
      have hO := HO.out.setCell 4 rfl 2 (.int .i64 yhp)
      rw [hx73] at hO
      replace HO := Lib.hid (show Own w none0 x73 [blkR bx (.cells #[.int .i64 yqho, .int .i64 yqpr, .int .i64 yqpo, .int .i64 yqth, .int .i64 yqfl, .int .i64 yqaf] 39), rowRl (.slice ua an uc) A, rowRl u10 rl, resF f ⟨rl, [], 0⟩, blkR bv (.cells #[.int .i64 ypr, .int .i64 yhe, .int .i64 yhp, .int .i64 0, .int .i64 0, .bool false, .bool false, .bool false, .int .i64 0] 41)] from hO)
      clear hO
      have k4_3_74 : x73.cell? ⟨bv, 3, none⟩ = some (.int .i64 0) := HO.out.cell 4 rfl 3 rfl
      have lk4_3_74 : x73.frozen? ⟨bv, 3, none⟩ = false := HO.out.frz 4 rfl 3
      have k4_4_75 : x73.cell? ⟨bv, 4, none⟩ = some (.int .i64 0) := HO.out.cell 4 rfl 4 rfl
      have lk4_4_75 : x73.frozen? ⟨bv, 4, none⟩ = false := HO.out.frz 4 rfl 4
      have k4_5_76 : x73.cell? ⟨bv, 5, none⟩ = some (.bool false) := HO.out.cell 4 rfl 5 rfl
      have lk4_5_76 : x73.frozen? ⟨bv, 5, none⟩ = false := HO.out.frz 4 rfl 5
      have k4_6_77 : x73.cell? ⟨bv, 6, none⟩ = some (.bool false) := HO.out.cell 4 rfl 6 rfl
      have lk4_6_77 : x73.frozen? ⟨bv, 6, none⟩ = false := HO.out.frz 4 rfl 6
      have k4_7_78 : x73.cell? ⟨bv, 7, none⟩ = some (.bool false) := HO.out.cell 4 rfl 7 rfl
      have lk4_7_78 : x73.frozen? ⟨bv, 7, none⟩ = false := HO.out.frz 4 rfl 7
      have k4_8_79 : x73.cell? ⟨bv, 8, none⟩ = some (.int .i64 0) := HO.out.cell 4 rfl 8 rfl
      have lk4_8_79 : x73.frozen? ⟨bv, 8, none⟩ = false := HO.out.frz 4 rfl 8
      obtain ⟨x80, hx80⟩ : ∃ y, x73.setCell ⟨bv, 3, none⟩ (.int .i64 yth) = y := ⟨_, rfl⟩
      have hO := HO.out.setCell 4 rfl 3 (.int .i64 yth)
      rw [hx80] at hO
      replace HO := Lib.hid (show Own w none0 x80 [blkR bx (.cells #[.int .i64 yqho, .int .i64 yqpr, .int .i64 yqpo, .int .i64 yqth, .int .i64 yqfl, .int .i64 yqaf] 39), rowRl (.slice ua an uc) A, rowRl u10 rl, resF f ⟨rl, [], 0⟩, blkR bv (.cells #[.int .i64 ypr, .int .i64 yhe, .int .i64 yhp, .int .i64 yth, .int .i64 0, .bool false, .bool false, .bool false, .int .i64 0] 41)] from hO)
      clear hO
      have k4_4_81 : x80.cell? ⟨bv, 4, none⟩ = some (.int .i64 0) := HO.out.cell 4 rfl 4 rfl
      have lk4_4_81 : x80.frozen? ⟨bv, 4, none⟩ = false := HO.out.frz 4 rfl 4
      have k4_5_82 : x80.cell? ⟨bv, 5, none⟩ = some (.bool false) := HO.out.cell 4 rfl 5 rfl
      have lk4_5_82 : x80.frozen? ⟨bv, 5, none⟩ = false := HO.out.frz 4 rfl 5
      have k4_6_83 : x80.cell? ⟨bv, 6, none⟩ = some (.bool false) := HO.out.cell 4 rfl 6 rfl
      have lk4_6_83 : x80.frozen? ⟨bv, 6, none⟩ = false := HO.out.frz 4 rfl 6
      have k4_7_84 : x80.cell? ⟨bv, 7, none⟩ = some (.bool false) := HO.out.cell 4 rfl 7 rfl
      have lk4_7_84 : x80.frozen? ⟨bv, 7, none⟩ = false := HO.out.frz 4 rfl 7
      have k4_8_85 : x80.cell? ⟨bv, 8, none⟩ = some (.int .i64 0) := HO.out.cell 4 rfl 8 rfl
      have lk4_8_85 : x80.frozen? ⟨bv, 8, none⟩ = false := HO.out.frz 4 rfl 8
      obtain ⟨x86, hx86⟩ : ∃ y, x80.setCell ⟨bv, 4, none⟩ (.int .i64 ytp) = y := ⟨_, rfl⟩
      have hO := HO.out.setCell 4 rfl 4 (.int .i64 ytp)
      rw [hx86] at hO
      replace HO := Lib.hid (show Own w none0 x86 [blkR bx (.cells #[.int .i64 yqho, .int .i64 yqpr, .int .i64 yqpo, .int .i64 yqth, .int .i64 yqfl, .int .i64 yqaf] 39), rowRl (.slice ua an uc) A, rowRl u10 rl, resF f ⟨rl, [], 0⟩, blkR bv (.cells #[.int .i64 ypr, .int .i64 yhe, .int .i64 yhp, .int .i64 yth, .int .i64 ytp, .bool false, .bool false, .bool false, .int .i64 0] 41)] from hO)
      clear hO
      have k4_5_87 : x86.cell? ⟨bv, 5, none⟩ = some (.bool false) := HO.out.cell 4 rfl 5 rfl
      have lk4_5_87 : x86.frozen? ⟨bv, 5, none⟩ = false := HO.out.frz 4 rfl 5
      have k4_6_88 : x86.cell? ⟨bv, 6, none⟩ = some (.bool false) := HO.out.cell 4 rfl 6 rfl
      have lk4_6_88 : x86.frozen? ⟨bv, 6, none⟩ = false := HO.out.frz 4 rfl 6
      have k4_7_89 : x86.cell? ⟨bv, 7, none⟩ = some (.bool false) := HO.out.cell 4 rfl 7 rfl
      have lk4_7_89 : x86.frozen? ⟨bv, 7, none⟩ = false := HO.out.frz 4 rfl 7
      have k4_8_90 : x86.cell? ⟨bv, 8, none⟩ = some (.int .i64 0) := HO.out.cell 4 rfl 8 rfl
      have lk4_8_90 : x86.frozen? ⟨bv, 8, none⟩ = false := HO.out.frz 4 rfl 8
      obtain ⟨x91, hx91⟩ : ∃ y, x86.setCell ⟨bv, 5, none⟩ (.bool ysy) = y := ⟨_, rfl⟩
      have hO := HO.out.setCell 4 rfl 5 (.bool ysy)
      rw [hx91] at hO
      replace HO := Lib.hid (show Own w none0 x91 [blkR bx (.cells #[.int .i64 yqho, .int .i64 yqpr, .int .i64 yqpo, .int .i64 yqth, .int .i64 yqfl, .int .i64 yqaf] 39), rowRl (.slice ua an uc) A, rowRl u10 rl, resF f ⟨rl, [], 0⟩, blkR bv (.cells #[.int .i64 ypr, .int .i64 yhe, .int .i64 yhp, .int .i64 yth, .int .i64 ytp, .bool ysy, .bool false, .bool false, .int .i64 0] 41)] from hO)
      clear hO
      have k4_6_92 : x91.cell? ⟨bv, 6, none⟩ = some (.bool false) := HO.out.cell 4 rfl 6 rfl
      have lk4_6_92 : x91.frozen? ⟨bv, 6, none⟩ = false := HO.out.frz 4 rfl 6
      have k4_7_93 : x91.cell? ⟨bv, 7, none⟩ = some (.bool false) := HO.out.cell 4 rfl 7 rfl
      have lk4_7_93 : x91.frozen? ⟨bv, 7, none⟩ = false := HO.out.frz 4 rfl 7
      have k4_8_94 : x91.cell? ⟨bv, 8, none⟩ = some (.int .i64 0) := HO.out.cell 4 rfl 8 rfl
      have lk4_8_94 : x91.frozen? ⟨bv, 8, none⟩ = false := HO.out.frz 4 rfl 8
      obtain ⟨x95, hx95⟩ : ∃ y, x91.setCell ⟨bv, 6, none⟩ (.bool yfi) = y := ⟨_, rfl⟩
      have hO := HO.out.setCell 4 rfl 6 (.bool yfi)
      rw [hx95] at hO
      replace HO := Lib.hid (show Own w none0 x95 [blkR bx (.cells #[.int .i64 yqho, .int .i64 yqpr, .int .i64 yqpo, .int .i64 yqth, .int .i64 yqfl, .int .i64 yqaf] 39), rowRl (.slice ua an uc) A, rowRl u10 rl, resF f ⟨rl, [], 0⟩, blkR bv (.cells #[.int .i64 ypr, .int .i64 yhe, .int .i64 yhp, .int .i64 yth, .int .i64 ytp, .bool ysy, .bool yfi, .bool false, .int .i64 0] 41)] from hO)
      clear hO
      have k4_7_96 : x95.cell? ⟨bv, 7, none⟩ = some (.bool false) := HO.out.cell 4 rfl 7 rfl
      have lk4_7_96 : x95.frozen? ⟨bv, 7, none⟩ = false := HO.out.frz 4 rfl 7
      have k4_8_97 : x95.cell? ⟨bv, 8, none⟩ = some (.int .i64 0) := HO.out.cell 4 rfl 8 rfl
      have lk4_8_97 : x95.frozen? ⟨bv, 8, none⟩ = false := HO.out.frz 4 rfl 8
      obtain ⟨x98, hx98⟩ : ∃ y, x95.setCell ⟨bv, 7, none⟩ (.bool yrs) = y := ⟨_, rfl⟩
      have hO := HO.out.setCell 4 rfl 7 (.bool yrs)
      rw [hx98] at hO
      replace HO := Lib.hid (show Own w none0 x98 [blkR bx (.cells #[.int .i64 yqho, .int .i64 yqpr, .int .i64 yqpo, .int .i64 yqth, .int .i64 yqfl, .int .i64 yqaf] 39), rowRl (.slice ua an uc) A, rowRl u10 rl, resF f ⟨rl, [], 0⟩, blkR bv (.cells #[.int .i64 ypr, .int .i64 yhe, .int .i64 yhp, .int .i64 yth, .int .i64 ytp, .bool ysy, .bool yfi, .bool yrs, .int .i64 0] 41)] from hO)
      clear hO
      have k4_8_99 : x98.cell? ⟨bv, 8, none⟩ = some (.int .i64 0) := HO.out.cell 4 rfl 8 rfl
      have lk4_8_99 : x98.frozen? ⟨bv, 8, none⟩ = false := HO.out.frz 4 rfl 8
      obtain ⟨x100, hx100⟩ : ∃ y, x98.setCell ⟨bv, 8, none⟩ (.int .i64 ysq) = y := ⟨_, rfl⟩
      have hO := HO.out.setCell 4 rfl 8 (.int .i64 ysq)
      rw [hx100] at hO
      replace HO := Lib.hid (show Own w none0 x100 [blkR bx (.cells #[.int .i64 yqho, .int .i64 yqpr, .int .i64 yqpo, .int .i64 yqth, .int .i64 yqfl, .int .i64 yqaf] 39), rowRl (.slice ua an uc) A, rowRl u10 rl, resF f ⟨rl, [], 0⟩, blkR bv (.cells #[.int .i64 ypr, .int .i64 yhe, .int .i64 yhp, .int .i64 yth, .int .i64 ytp, .bool ysy, .bool yfi, .bool yrs, .int .i64 ysq] 41)] from hO)
      clear hO
      have y4_5 : x100.frozen? ⟨bv, 5, none⟩ = false := HO.out.frz 4 rfl 5
      have z4_5 : x100.cell? ⟨bv, 5, none⟩ = some (.bool ysy) := HO.out.cell 4 rfl 5 rfl
      obtain ⟨x101, hx101⟩ : ∃ y, x100.setCell ⟨bv, 5, none⟩ (.bool false) = y := ⟨_, rfl⟩
      have hO := HO.out.setCell 4 rfl 5 (.bool false)
      rw [hx101] at hO
      replace HO := Lib.hid (show Own w none0 x101 [blkR bx (.cells #[.int .i64 yqho, .int .i64 yqpr, .int .i64 yqpo, .int .i64 yqth, .int .i64 yqfl, .int .i64 yqaf] 39), rowRl (.slice ua an uc) A, rowRl u10 rl, resF f ⟨rl, [], 0⟩, blkR bv (.cells #[.int .i64 ypr, .int .i64 yhe, .int .i64 yhp, .int .i64 yth, .int .i64 ytp, .bool false, .bool yfi, .bool yrs, .int .i64 ysq] 41)] from hO)
      clear hO
      have y4_6 : x101.frozen? ⟨bv, 6, none⟩ = false := HO.out.frz 4 rfl 6
      have z4_6 : x101.cell? ⟨bv, 6, none⟩ = some (.bool yfi) := HO.out.cell 4 rfl 6 rfl
      obtain ⟨x102, hx102⟩ : ∃ y, x101.setCell ⟨bv, 6, none⟩ (.bool false) = y := ⟨_, rfl⟩
      have hO := HO.out.setCell 4 rfl 6 (.bool false)
      rw [hx102] at hO
      replace HO := Lib.hid (show Own w none0 x102 [blkR bx (.cells #[.int .i64 yqho, .int .i64 yqpr, .int .i64 yqpo, .int .i64 yqth, .int .i64 yqfl, .int .i64 yqaf] 39), rowRl (.slice ua an uc) A, rowRl u10 rl, resF f ⟨rl, [], 0⟩, blkR bv (.cells #[.int .i64 ypr, .int .i64 yhe, .int .i64 yhp, .int .i64 yth, .int .i64 ytp, .bool false, .bool false, .bool yrs, .int .i64 ysq] 41)] from hO)
      clear hO
      have y4_7 : x102.frozen? ⟨bv, 7, none⟩ = false := HO.out.frz 4 rfl 7
      have z4_7 : x102.cell? ⟨bv, 7, none⟩ = some (.bool yrs) := HO.out.cell 4 rfl 7 rfl
      obtain ⟨x103, hx103⟩ : ∃ y, x102.setCell ⟨bv, 7, none⟩ (.bool false) = y := ⟨_, rfl⟩
      have hO := HO.out.setCell 4 rfl 7 (.bool false)
      rw [hx103] at hO
      replace HO := Lib.hid (show Own w none0 x103 [blkR bx (.cells #[.int .i64 yqho, .int .i64 yqpr, .int .i64 yqpo, .int .i64 yqth, .int .i64 yqfl, .int .i64 yqaf] 39), rowRl (.slice ua an uc) A, rowRl u10 rl, resF f ⟨rl, [], 0⟩, blkR bv (.cells #[.int .i64 ypr, .int .i64 yhe, .int .i64 yhp, .int .i64 yth, .int .i64 ytp, .bool false, .bool false, .bool false, .int .i64 ysq] 41)] from hO)
      clear hO
      have z4_0 : x103.cell? ⟨bv, 0, none⟩ = some (.int .i64 ypr) := HO.out.cell 4 rfl 0 rfl
      have z4_1 : x103.cell? ⟨bv, 1, none⟩ = some (.int .i64 yhe) := HO.out.cell 4 rfl 1 rfl
      have z4_2 : x103.cell? ⟨bv, 2, none⟩ = some (.int .i64 yhp) := HO.out.cell 4 rfl 2 rfl
      have z4_3 : x103.cell? ⟨bv, 3, none⟩ = some (.int .i64 yth) := HO.out.cell 4 rfl 3 rfl
      have z4_4 : x103.cell? ⟨bv, 4, none⟩ = some (.int .i64 ytp) := HO.out.cell 4 rfl 4 rfl
      have z4_5t : x103.cell? ⟨bv, 5, none⟩ = some (.bool false) := HO.out.cell 4 rfl 5 rfl
      have z4_6t : x103.cell? ⟨bv, 6, none⟩ = some (.bool false) := HO.out.cell 4 rfl 6 rfl
      have z4_7t : x103.cell? ⟨bv, 7, none⟩ = some (.bool false) := HO.out.cell 4 rfl 7 rfl
      have z4_8 : x103.cell? ⟨bv, 8, none⟩ = some (.int .i64 ysq) := HO.out.cell 4 rfl 8 rfl
      have HVY := Lib.hid (show validF ⟨ypr, yhe, yhp, yth, ytp, false, false, false, ysq⟩ = true by rw [← HVYy.out]; exact valid_flags rfl)
      clear HVYy
      have HF0 := Lib.hid (fw_start HRL.out)
      obtain ⟨⟨r0, st0⟩, hdd⟩ : ∃ p, didF ⟨rl, [], 0⟩ 0 0 ⟨ypr, yhe, yhp, yth, ytp, false, false, false, ysq⟩ = p := ⟨_, rfl⟩
      have HDst0 := Lib.hid hdd
      clear hdd
      go_wp2_with fail
      refine (did_f (T := 0) (N := 0) HO.out 3 rfl HDst0.out HF0.out (by simp) (by omega) (by omega) (by unfold timeB; omega) (by unfold i64B; omega)).mono ?_
      rintro e x104 ⟨rfl, hO, -⟩
      replace HO := Lib.hid (show Own w none0 x104 [blkR bx (.cells #[.int .i64 yqho, .int .i64 yqpr, .int .i64 yqpo, .int .i64 yqth, .int .i64 yqfl, .int .i64 yqaf] 39), rowRl (.slice ua an uc) A, rowRl u10 rl, resF f st0, blkR bv (.cells #[.int .i64 ypr, .int .i64 yhe, .int .i64 yhp, .int .i64 yth, .int .i64 ytp, .bool false, .bool false, .bool false, .int .i64 ysq] 41)] from hO)
      clear hO
      clear z0_0 z0_1 z0_2 z0_3 z0_4 z0_5 hx46 hbv k4_0_47 lk4_0_47 k4_1_48 lk4_1_48 k4_2_49 lk4_2_49 k4_3_50 lk4_3_50 k4_4_51 lk4_4_51 k4_5_52 lk4_5_52 k4_6_53 lk4_6_53 k4_7_54 lk4_7_54 k4_8_55 lk4_8_55 hx56 k4_1_57 lk4_1_57 k4_2_58 lk4_2_58 k4_3_59 lk4_3_59 k4_4_60 lk4_4_60 k4_5_61 lk4_5_61 k4_6_62 lk4_6_62 k4_7_63 lk4_7_63 k4_8_64 lk4_8_64 hx65 k4_2_66 lk4_2_66 k4_3_67 lk4_3_67 k4_4_68 lk4_4_68 k4_5_69 lk4_5_69 k4_6_70 lk4_6_70 k4_7_71 lk4_7_71 k4_8_72 lk4_8_72 hx73 k4_3_74 lk4_3_74 k4_4_75 lk4_4_75 k4_5_76 lk4_5_76 k4_6_77 lk4_6_77 k4_7_78 lk4_7_78 k4_8_79 lk4_8_79 hx80 k4_4_81 lk4_4_81 k4_5_82 lk4_5_82 k4_6_83 lk4_6_83 k4_7_84 lk4_7_84 k4_8_85 lk4_8_85 hx86 k4_5_87 lk4_5_87 k4_6_88 lk4_6_88 k4_7_89 lk4_7_89 k4_8_90 lk4_8_90 hx91 k4_6_92 lk4_6_92 k4_7_93 lk4_7_93 k4_8_94 lk4_8_94 hx95 k4_7_96 lk4_7_96 k4_8_97 lk4_8_97 hx98 k4_8_99 lk4_8_99 hx100 y4_5 z4_5 hx101 y4_6 z4_6 hx102 y4_7 z4_7 hx103 z4_0 z4_1 z4_2 z4_3 z4_4 z4_5t z4_6t z4_7t z4_8
      have HI0 := Lib.hid (rep_start HRL.out rfl HDst0.out)
      clear HF0 HDst0
      go_wp2
      go_loopw [17] (fun i wr => ∃ (k : Nat) (st : FSt), k ≤ min m 20 ∧ i = .int .i64 k ∧ RepI r0 (keyF ⟨ypr, yhe, yhp, yth, ytp, false, false, false, ysq⟩) rl k st ∧ Own w none0 wr [blkR bx (.cells #[.int .i64 yqho, .int .i64 yqpr, .int .i64 yqpo, .int .i64 yqth, .int .i64 yqfl, .int .i64 yqaf] 39), rowRl (.slice ua an uc) A, rowRl u10 rl, resF f st, blkR bv (.cells #[.int .i64 ypr, .int .i64 yhe, .int .i64 yhp, .int .i64 yth, .int .i64 ytp, .bool false, .bool false, .bool false, .int .i64 ysq] 41)]) (fun i _ => 20 - (intOf i).toNat)
      case atStart => exact ⟨0, st0, Nat.zero_le _, rfl, HI0.out, HO.out⟩
      case round =>
        rename_i wq _
        obtain ⟨k2, st, hk, rfl, hI, hO⟩ := hrel
        replace HO := Lib.hid hO
        have HI := Lib.hid hI
        clear hO hI HI0
        by_cases hlt : k2 < m ∧ k2 < 20
        · obtain ⟨hk1, hk2⟩ := hlt
          obtain ⟨b, o, rfl, hcc⟩ := HP.out (by omega)
          have HXO := Lib.hid (HOK.out k2 hk1)
          have hcc := hcc k2 hk1
          generalize g k2 = gk at *
          obtain ⟨zqho, zqpr, zqpo, zqth, zqfl, zqaf⟩ := gk
          have ycell : ∀ j u, j < 6 → (fwA ⟨zqho, zqpr, zqpo, zqth, zqfl, zqaf⟩)[j]? = some u → w.cell? ⟨b, o + k2 * 6 + j, none⟩ = some u := fun j u hj hu => (hcc j hj).trans hu
          have v0 : w.cell? ⟨b, o + k2 * 6, none⟩ = some (.int .i64 zqho) := ycell 0 _ (by decide) rfl
          have y0 : wr.cell? ⟨b, o + k2 * 6, none⟩ = some (.int .i64 zqho) := keep HO.out.below v0
          have v1 : w.cell? ⟨b, o + k2 * 6 + 1, none⟩ = some (.int .i64 zqpr) := ycell 1 _ (by decide) rfl
          have y1 : wr.cell? ⟨b, o + k2 * 6 + 1, none⟩ = some (.int .i64 zqpr) := keep HO.out.below v1
          have v2 : w.cell? ⟨b, o + k2 * 6 + 2, none⟩ = some (.int .i64 zqpo) := ycell 2 _ (by decide) rfl
          have y2 : wr.cell? ⟨b, o + k2 * 6 + 2, none⟩ = some (.int .i64 zqpo) := keep HO.out.below v2
          have v3 : w.cell? ⟨b, o + k2 * 6 + 3, none⟩ = some (.int .i64 zqth) := ycell 3 _ (by decide) rfl
          have y3 : wr.cell? ⟨b, o + k2 * 6 + 3, none⟩ = some (.int .i64 zqth) := keep HO.out.below v3
          have v4 : w.cell? ⟨b, o + k2 * 6 + 4, none⟩ = some (.int .i64 zqfl) := ycell 4 _ (by decide) rfl
          have y4 : wr.cell? ⟨b, o + k2 * 6 + 4, none⟩ = some (.int .i64 zqfl) := keep HO.out.below v4
          have v5 : w.cell? ⟨b, o + k2 * 6 + 5, none⟩ = some (.int .i64 zqaf) := ycell 5 _ (by decide) rfl
          have y5 : wr.cell? ⟨b, o + k2 * 6 + 5, none⟩ = some (.int .i64 zqaf) := keep HO.out.below v5
          have HV0 := Lib.hid v0
          clear ycell hcc v0 v1 v2 v3 v4 v5
          have HFFz := Lib.hid (fun w => flowFrom_any ⟨zqho, zqpr, zqpo, zqth, zqfl, zqaf⟩ HXO.out w)
          have HVYz := Lib.hid (flowF_valid ⟨zqho, zqpr, zqpo, zqth, zqfl, zqaf⟩)
          generalize flowF ⟨zqho, zqpr, zqpo, zqth, zqfl, zqaf⟩ = fy at HFFz HVYz
          obtain ⟨zpr, zhe, zhp, zth, ztp, zsy, zfi, zrs, zsq⟩ := fy
          go_wp2_with fail
          refine (o_still HO.out (HFFz.out _)).mono ?_
          rintro e x201 ⟨rfl, hO, -⟩
          replace HO := Lib.hid (show Own w none0 x201 [blkR bx (.cells #[.int .i64 yqho, .int .i64 yqpr, .int .i64 yqpo, .int .i64 yqth, .int .i64 yqfl, .int .i64 yqaf] 39), rowRl (.slice ua an uc) A, rowRl u10 rl, resF f st, blkR bv (.cells #[.int .i64 ypr, .int .i64 yhe, .int .i64 yhp, .int .i64 yth, .int .i64 ytp, .bool false, .bool false, .bool false, .int .i64 ysq] 41)] from hO)
          clear hO
          obtain ⟨x202, hx202⟩ : ∃ y, x201.alloc (.cells #[.int .i64 0, .int .i64 0, .int .i64 0, .int .i64 0, .int .i64 0, .bool false, .bool false, .bool false, .int .i64 0] 41) = y := ⟨_, rfl⟩
          obtain ⟨bz, hbz⟩ : ∃ y, x201.heap.size = y := ⟨_, rfl⟩
          have hO := HO.out.alloc (.cells #[.int .i64 0, .int .i64 0, .int .i64 0, .int .i64 0, .int .i64 0, .bool false, .bool false, .bool false, .int .i64 0] 41)
          rw [hx202, hbz] at hO
          replace HO := Lib.hid (show Own w none0 x202 [blkR bx (.cells #[.int .i64 yqho, .int .i64 yqpr, .int .i64 yqpo, .int .i64 yqth, .int .i64 yqfl, .int .i64 yqaf] 39), rowRl (.slice ua an uc) A, rowRl u10 rl, resF f st, blkR bv (.cells #[.int .i64 ypr, .int .i64 yhe, .int .i64 yhp, .int .i64 yth, .int .i64 ytp, .bool false, .bool false, .bool false, .int .i64 ysq] 41), blkR bz (.cells #[.int .i64 0, .int .i64 0, .int .i64 0, .int .i64 0, .int .i64 0, .bool false, .bool false, .bool false, .int .i64 0] 41)] from hO)
          clear hO
          have k5_0_203 : x202.cell? ⟨bz, 0, none⟩ = some (.int .i64 0) := HO.out.cell 5 rfl 0 rfl
          have lk5_0_203 : x202.frozen? ⟨bz, 0, none⟩ = false := HO.out.frz 5 rfl 0
          have k5_1_204 : x202.cell? ⟨bz, 1, none⟩ = some (.int .i64 0) := HO.out.cell 5 rfl 1 rfl
          have lk5_1_204 : x202.frozen? ⟨bz, 1, none⟩ = false := HO.out.frz 5 rfl 1
          have k5_2_205 : x202.cell? ⟨bz, 2, none⟩ = some (.int .i64 0) := HO.out.cell 5 rfl 2 rfl
          have lk5_2_205 : x202.frozen? ⟨bz, 2, none⟩ = false := HO.out.frz 5 rfl 2
          have k5_3_206 : x202.cell? ⟨bz, 3, none⟩ = some (.int .i64 0) := HO.out.cell 5 rfl 3 rfl
          have lk5_3_206 : x202.frozen? ⟨bz, 3, none⟩ = false := HO.out.frz 5 rfl 3
          have k5_4_207 : x202.cell? ⟨bz, 4, none⟩ = some (.int .i64 0) := HO.out.cell 5 rfl 4 rfl
          have lk5_4_207 : x202.frozen? ⟨bz, 4, none⟩ = false := HO.out.frz 5 rfl 4
          have k5_5_208 : x202.cell? ⟨bz, 5, none⟩ = some (.bool false) := HO.out.cell 5 rfl 5 rfl
          have lk5_5_208 : x202.frozen? ⟨bz, 5, none⟩ = false := HO.out.frz 5 rfl 5
          have k5_6_209 : x202.cell? ⟨bz, 6, none⟩ = some (.bool false) := HO.out.cell 5 rfl 6 rfl
          have lk5_6_209 : x202.frozen? ⟨bz, 6, none⟩ = false := HO.out.frz 5 rfl 6
          have k5_7_210 : x202.cell? ⟨bz, 7, none⟩ = some (.bool false) := HO.out.cell 5 rfl 7 rfl
          have lk5_7_210 : x202.frozen? ⟨bz, 7, none⟩ = false := HO.out.frz 5 rfl 7
          have k5_8_211 : x202.cell? ⟨bz, 8, none⟩ = some (.int .i64 0) := HO.out.cell 5 rfl 8 rfl
          have lk5_8_211 : x202.frozen? ⟨bz, 8, none⟩ = false := HO.out.frz 5 rfl 8
          obtain ⟨x212, hx212⟩ : ∃ y, x202.setCell ⟨bz, 0, none⟩ (.int .i64 zpr) = y := ⟨_, rfl⟩
          have hO := HO.out.setCell 5 rfl 0 (.int .i64 zpr)
          rw [hx212] at hO
          replace HO := Lib.hid (show Own w none0 x212 [blkR bx (.cells #[.int .i64 yqho, .int .i64 yqpr, .int .i64 yqpo, .int .i64 yqth, .int .i64 yqfl, .int .i64 yqaf] 39), rowRl (.slice ua an uc) A, rowRl u10 rl, resF f st, blkR bv (.cells #[.int .i64 ypr, .int .i64 yhe, .int .i64 yhp, .int .i64 yth, .int .i64 ytp, .bool false, .bool false, .bool false, .int .i64 ysq] 41), blkR bz (.cells #[.int .i64 zpr, .int .i64 0, .int .i64 0, .int .i64 0, .int .i64 0, .bool false, .bool false, .bool false, .int .i64 0] 41)] from hO)
          clear hO
          have k5_1_213 : x212.cell? ⟨bz, 1, none⟩ = some (.int .i64 0) := HO.out.cell 5 rfl 1 rfl
          have lk5_1_213 : x212.frozen? ⟨bz, 1, none⟩ = false := HO.out.frz 5 rfl 1
          have k5_2_214 : x212.cell? ⟨bz, 2, none⟩ = some (.int .i64 0) := HO.out.cell 5 rfl 2 rfl
          have lk5_2_214 : x212.frozen? ⟨bz, 2, none⟩ = false := HO.out.frz 5 rfl 2
          have k5_3_215 : x212.cell? ⟨bz, 3, none⟩ = some (.int .i64 0) := HO.out.cell 5 rfl 3 rfl
          have lk5_3_215 : x212.frozen? ⟨bz, 3, none⟩ = false := HO.out.frz 5 rfl 3
          have k5_4_216 : x212.cell? ⟨bz, 4, none⟩ = some (.int .i64 0) := HO.out.cell 5 rfl 4 rfl
          have lk5_4_216 : x212.frozen? ⟨bz, 4, none⟩ = false := HO.out.frz 5 rfl 4
          have k5_5_217 : x212.cell? ⟨bz, 5, none⟩ = some (.bool false) := HO.out.cell 5 rfl 5 rfl
          have lk5_5_217 : x212.frozen? ⟨bz, 5, none⟩ = false := HO.out.frz 5 rfl 5
          have k5_6_218 : x212.cell? ⟨bz, 6, none⟩ = some (.bool false) := HO.out.cell 5 rfl 6 rfl
          have lk5_6_218 : x212.frozen? ⟨bz, 6, none⟩ = false := HO.out.frz 5 rfl 6
          have k5_7_219 : x212.cell? ⟨bz, 7, none⟩ = some (.bool false) := HO.out.cell 5 rfl 7 rfl
          have lk5_7_219 : x212.frozen? ⟨bz, 7, none⟩ = false := HO.out.frz 5 rfl 7
          have k5_8_220 : x212.cell? ⟨bz, 8, none⟩ = some (.int .i64 0) := HO.out.cell 5 rfl 8 rfl
          have lk5_8_220 : x212.frozen? ⟨bz, 8, none⟩ = false := HO.out.frz 5 rfl 8
          obtain ⟨x221, hx221⟩ : ∃ y, x212.setCell ⟨bz, 1, none⟩ (.int .i64 zhe) = y := ⟨_, rfl⟩
          have hO := HO.out.setCell 5 rfl 1 (.int .i64 zhe)
          rw [hx221] at hO
          replace HO := Lib.hid (show Own w none0 x221 [blkR bx (.cells #[.int .i64 yqho, .int .i64 yqpr, .int .i64 yqpo, .int .i64 yqth, .int .i64 yqfl, .int .i64 yqaf] 39), rowRl (.slice ua an uc) A, rowRl u10 rl, resF f st, blkR bv (.cells #[.int .i64 ypr, .int .i64 yhe, .int .i64 yhp, .int .i64 yth, .int .i64 ytp, .bool false, .bool false, .bool false, .int .i64 ysq] 41), blkR bz (.cells #[.int .i64 zpr, .int .i64 zhe, .int .i64 0, .int .i64 0, .int .i64 0, .bool false, .bool false, .bool false, .int .i64 0] 41)] from hO)
          clear hO
          have k5_2_222 : x221.cell? ⟨bz, 2, none⟩ = some (.int .i64 0) := HO.out.cell 5 rfl 2 rfl
          have lk5_2_222 : x221.frozen? ⟨bz, 2, none⟩ = false := HO.out.frz 5 rfl 2
          have k5_3_223 : x221.cell? ⟨bz, 3, none⟩ = some (.int .i64 0) := HO.out.cell 5 rfl 3 rfl
          have lk5_3_223 : x221.frozen? ⟨bz, 3, none⟩ = false := HO.out.frz 5 rfl 3
          have k5_4_224 : x221.cell? ⟨bz, 4, none⟩ = some (.int .i64 0) := HO.out.cell 5 rfl 4 rfl
          have lk5_4_224 : x221.frozen? ⟨bz, 4, none⟩ = false := HO.out.frz 5 rfl 4
          have k5_5_225 : x221.cell? ⟨bz, 5, none⟩ = some (.bool false) := HO.out.cell 5 rfl 5 rfl
          have lk5_5_225 : x221.frozen? ⟨bz, 5, none⟩ = false := HO.out.frz 5 rfl 5
          have k5_6_226 : x221.cell? ⟨bz, 6, none⟩ = some (.bool false) := HO.out.cell 5 rfl 6 rfl
          have lk5_6_226 : x221.frozen? ⟨bz, 6, none⟩ = false := HO.out.frz 5 rfl 6
          have k5_7_227 : x221.cell? ⟨bz, 7, none⟩ = some (.bool false) := HO.out.cell 5 rfl 7 rfl
          have lk5_7_227 : x221.frozen? ⟨bz, 7, none⟩ = false := HO.out.frz 5 rfl 7
          have k5_8_228 : x221.cell? ⟨bz, 8, none⟩ = some (.int .i64 0) := HO.out.cell 5 rfl 8 rfl
          have lk5_8_228 : x221.frozen? ⟨bz, 8, none⟩ = false := HO.out.frz 5 rfl 8
          obtain ⟨x229, hx229⟩ : ∃ y, x221.setCell ⟨bz, 2, none⟩ (.int .i64 zhp) = y := ⟨_, rfl⟩
          have hO := HO.out.setCell 5 rfl 2 (.int .i64 zhp)
          rw [hx229] at hO
          replace HO := Lib.hid (show Own w none0 x229 [blkR bx (.cells #[.int .i64 yqho, .int .i64 yqpr, .int .i64 yqpo, .int .i64 yqth, .int .i64 yqfl, .int .i64 yqaf] 39), rowRl (.slice ua an uc) A, rowRl u10 rl, resF f st, blkR bv (.cells #[.int .i64 ypr, .int .i64 yhe, .int .i64 yhp, .int .i64 yth, .int .i64 ytp, .bool false, .bool false, .bool false, .int .i64 ysq] 41), blkR bz (.cells #[.int .i64 zpr, .int .i64 zhe, .int .i64 zhp, .int .i64 0, .int .i64 0, .bool false, .bool false, .bool false, .int .i64 0] 41)] from hO)
          clear hO
          have k5_3_230 : x229.cell? ⟨bz, 3, none⟩ = some (.int .i64 0) := HO.out.cell 5 rfl 3 rfl
          have lk5_3_230 : x229.frozen? ⟨bz, 3, none⟩ = false := HO.out.frz 5 rfl 3
          have k5_4_231 : x229.cell? ⟨bz, 4, none⟩ = some (.int .i64 0) := HO.out.cell 5 rfl 4 rfl
          have lk5_4_231 : x229.frozen? ⟨bz, 4, none⟩ = false := HO.out.frz 5 rfl 4
          have k5_5_232 : x229.cell? ⟨bz, 5, none⟩ = some (.bool false) := HO.out.cell 5 rfl 5 rfl
          have lk5_5_232 : x229.frozen? ⟨bz, 5, none⟩ = false := HO.out.frz 5 rfl 5
          have k5_6_233 : x229.cell? ⟨bz, 6, none⟩ = some (.bool false) := HO.out.cell 5 rfl 6 rfl
          have lk5_6_233 : x229.frozen? ⟨bz, 6, none⟩ = false := HO.out.frz 5 rfl 6
          have k5_7_234 : x229.cell? ⟨bz, 7, none⟩ = some (.bool false) := HO.out.cell 5 rfl 7 rfl
          have lk5_7_234 : x229.frozen? ⟨bz, 7, none⟩ = false := HO.out.frz 5 rfl 7
          have k5_8_235 : x229.cell? ⟨bz, 8, none⟩ = some (.int .i64 0) := HO.out.cell 5 rfl 8 rfl
          have lk5_8_235 : x229.frozen? ⟨bz, 8, none⟩ = false := HO.out.frz 5 rfl 8
          obtain ⟨x236, hx236⟩ : ∃ y, x229.setCell ⟨bz, 3, none⟩ (.int .i64 zth) = y := ⟨_, rfl⟩
          have hO := HO.out.setCell 5 rfl 3 (.int .i64 zth)
          rw [hx236] at hO
          replace HO := Lib.hid (show Own w none0 x236 [blkR bx (.cells #[.int .i64 yqho, .int .i64 yqpr, .int .i64 yqpo, .int .i64 yqth, .int .i64 yqfl, .int .i64 yqaf] 39), rowRl (.slice ua an uc) A, rowRl u10 rl, resF f st, blkR bv (.cells #[.int .i64 ypr, .int .i64 yhe, .int .i64 yhp, .int .i64 yth, .int .i64 ytp, .bool false, .bool false, .bool false, .int .i64 ysq] 41), blkR bz (.cells #[.int .i64 zpr, .int .i64 zhe, .int .i64 zhp, .int .i64 zth, .int .i64 0, .bool false, .bool false, .bool false, .int .i64 0] 41)] from hO)
          clear hO
          have k5_4_237 : x236.cell? ⟨bz, 4, none⟩ = some (.int .i64 0) := HO.out.cell 5 rfl 4 rfl
          have lk5_4_237 : x236.frozen? ⟨bz, 4, none⟩ = false := HO.out.frz 5 rfl 4
          have k5_5_238 : x236.cell? ⟨bz, 5, none⟩ = some (.bool false) := HO.out.cell 5 rfl 5 rfl
          have lk5_5_238 : x236.frozen? ⟨bz, 5, none⟩ = false := HO.out.frz 5 rfl 5
          have k5_6_239 : x236.cell? ⟨bz, 6, none⟩ = some (.bool false) := HO.out.cell 5 rfl 6 rfl
          have lk5_6_239 : x236.frozen? ⟨bz, 6, none⟩ = false := HO.out.frz 5 rfl 6
          have k5_7_240 : x236.cell? ⟨bz, 7, none⟩ = some (.bool false) := HO.out.cell 5 rfl 7 rfl
          have lk5_7_240 : x236.frozen? ⟨bz, 7, none⟩ = false := HO.out.frz 5 rfl 7
          have k5_8_241 : x236.cell? ⟨bz, 8, none⟩ = some (.int .i64 0) := HO.out.cell 5 rfl 8 rfl
          have lk5_8_241 : x236.frozen? ⟨bz, 8, none⟩ = false := HO.out.frz 5 rfl 8
          obtain ⟨x242, hx242⟩ : ∃ y, x236.setCell ⟨bz, 4, none⟩ (.int .i64 ztp) = y := ⟨_, rfl⟩
          have hO := HO.out.setCell 5 rfl 4 (.int .i64 ztp)
          rw [hx242] at hO
          replace HO := Lib.hid (show Own w none0 x242 [blkR bx (.cells #[.int .i64 yqho, .int .i64 yqpr, .int .i64 yqpo, .int .i64 yqth, .int .i64 yqfl, .int .i64 yqaf] 39), rowRl (.slice ua an uc) A, rowRl u10 rl, resF f st, blkR bv (.cells #[.int .i64 ypr, .int .i64 yhe, .int .i64 yhp, .int .i64 yth, .int .i64 ytp, .bool false, .bool false, .bool false, .int .i64 ysq] 41), blkR bz (.cells #[.int .i64 zpr, .int .i64 zhe, .int .i64 zhp, .int .i64 zth, .int .i64 ztp, .bool false, .bool false, .bool false, .int .i64 0] 41)] from hO)
          clear hO
          have k5_5_243 : x242.cell? ⟨bz, 5, none⟩ = some (.bool false) := HO.out.cell 5 rfl 5 rfl
          have lk5_5_243 : x242.frozen? ⟨bz, 5, none⟩ = false := HO.out.frz 5 rfl 5
          have k5_6_244 : x242.cell? ⟨bz, 6, none⟩ = some (.bool false) := HO.out.cell 5 rfl 6 rfl
          have lk5_6_244 : x242.frozen? ⟨bz, 6, none⟩ = false := HO.out.frz 5 rfl 6
          have k5_7_245 : x242.cell? ⟨bz, 7, none⟩ = some (.bool false) := HO.out.cell 5 rfl 7 rfl
          have lk5_7_245 : x242.frozen? ⟨bz, 7, none⟩ = false := HO.out.frz 5 rfl 7
          have k5_8_246 : x242.cell? ⟨bz, 8, none⟩ = some (.int .i64 0) := HO.out.cell 5 rfl 8 rfl
          have lk5_8_246 : x242.frozen? ⟨bz, 8, none⟩ = false := HO.out.frz 5 rfl 8
          obtain ⟨x247, hx247⟩ : ∃ y, x242.setCell ⟨bz, 5, none⟩ (.bool zsy) = y := ⟨_, rfl⟩
          have hO := HO.out.setCell 5 rfl 5 (.bool zsy)
          rw [hx247] at hO
          replace HO := Lib.hid (show Own w none0 x247 [blkR bx (.cells #[.int .i64 yqho, .int .i64 yqpr, .int .i64 yqpo, .int .i64 yqth, .int .i64 yqfl, .int .i64 yqaf] 39), rowRl (.slice ua an uc) A, rowRl u10 rl, resF f st, blkR bv (.cells #[.int .i64 ypr, .int .i64 yhe, .int .i64 yhp, .int .i64 yth, .int .i64 ytp, .bool false, .bool false, .bool false, .int .i64 ysq] 41), blkR bz (.cells #[.int .i64 zpr, .int .i64 zhe, .int .i64 zhp, .int .i64 zth, .int .i64 ztp, .bool zsy, .bool false, .bool false, .int .i64 0] 41)] from hO)
          clear hO
          have k5_6_248 : x247.cell? ⟨bz, 6, none⟩ = some (.bool false) := HO.out.cell 5 rfl 6 rfl
          have lk5_6_248 : x247.frozen? ⟨bz, 6, none⟩ = false := HO.out.frz 5 rfl 6
          have k5_7_249 : x247.cell? ⟨bz, 7, none⟩ = some (.bool false) := HO.out.cell 5 rfl 7 rfl
          have lk5_7_249 : x247.frozen? ⟨bz, 7, none⟩ = false := HO.out.frz 5 rfl 7
          have k5_8_250 : x247.cell? ⟨bz, 8, none⟩ = some (.int .i64 0) := HO.out.cell 5 rfl 8 rfl
          have lk5_8_250 : x247.frozen? ⟨bz, 8, none⟩ = false := HO.out.frz 5 rfl 8
          obtain ⟨x251, hx251⟩ : ∃ y, x247.setCell ⟨bz, 6, none⟩ (.bool zfi) = y := ⟨_, rfl⟩
          have hO := HO.out.setCell 5 rfl 6 (.bool zfi)
          rw [hx251] at hO
          replace HO := Lib.hid (show Own w none0 x251 [blkR bx (.cells #[.int .i64 yqho, .int .i64 yqpr, .int .i64 yqpo, .int .i64 yqth, .int .i64 yqfl, .int .i64 yqaf] 39), rowRl (.slice ua an uc) A, rowRl u10 rl, resF f st, blkR bv (.cells #[.int .i64 ypr, .int .i64 yhe, .int .i64 yhp, .int .i64 yth, .int .i64 ytp, .bool false, .bool false, .bool false, .int .i64 ysq] 41), blkR bz (.cells #[.int .i64 zpr, .int .i64 zhe, .int .i64 zhp, .int .i64 zth, .int .i64 ztp, .bool zsy, .bool zfi, .bool false, .int .i64 0] 41)] from hO)
          clear hO
          have k5_7_252 : x251.cell? ⟨bz, 7, none⟩ = some (.bool false) := HO.out.cell 5 rfl 7 rfl
          have lk5_7_252 : x251.frozen? ⟨bz, 7, none⟩ = false := HO.out.frz 5 rfl 7
          have k5_8_253 : x251.cell? ⟨bz, 8, none⟩ = some (.int .i64 0) := HO.out.cell 5 rfl 8 rfl
          have lk5_8_253 : x251.frozen? ⟨bz, 8, none⟩ = false := HO.out.frz 5 rfl 8
          obtain ⟨x254, hx254⟩ : ∃ y, x251.setCell ⟨bz, 7, none⟩ (.bool zrs) = y := ⟨_, rfl⟩
          have hO := HO.out.setCell 5 rfl 7 (.bool zrs)
          rw [hx254] at hO
          replace HO := Lib.hid (show Own w none0 x254 [blkR bx (.cells #[.int .i64 yqho, .int .i64 yqpr, .int .i64 yqpo, .int .i64 yqth, .int .i64 yqfl, .int .i64 yqaf] 39), rowRl (.slice ua an uc) A, rowRl u10 rl, resF f st, blkR bv (.cells #[.int .i64 ypr, .int .i64 yhe, .int .i64 yhp, .int .i64 yth, .int .i64 ytp, .bool false, .bool false, .bool false, .int .i64 ysq] 41), blkR bz (.cells #[.int .i64 zpr, .int .i64 zhe, .int .i64 zhp, .int .i64 zth, .int .i64 ztp, .bool zsy, .bool zfi, .bool zrs, .int .i64 0] 41)] from hO)
          clear hO
          have k5_8_255 : x254.cell? ⟨bz, 8, none⟩ = some (.int .i64 0) := HO.out.cell 5 rfl 8 rfl
          have lk5_8_255 : x254.frozen? ⟨bz, 8, none⟩ = false := HO.out.frz 5 rfl 8
          obtain ⟨x256, hx256⟩ : ∃ y, x254.setCell ⟨bz, 8, none⟩ (.int .i64 zsq) = y := ⟨_, rfl⟩
          have hO := HO.out.setCell 5 rfl 8 (.int .i64 zsq)
          rw [hx256] at hO
          replace HO := Lib.hid (show Own w none0 x256 [blkR bx (.cells #[.int .i64 yqho, .int .i64 yqpr, .int .i64 yqpo, .int .i64 yqth, .int .i64 yqfl, .int .i64 yqaf] 39), rowRl (.slice ua an uc) A, rowRl u10 rl, resF f st, blkR bv (.cells #[.int .i64 ypr, .int .i64 yhe, .int .i64 yhp, .int .i64 yth, .int .i64 ytp, .bool false, .bool false, .bool false, .int .i64 ysq] 41), blkR bz (.cells #[.int .i64 zpr, .int .i64 zhe, .int .i64 zhp, .int .i64 zth, .int .i64 ztp, .bool zsy, .bool zfi, .bool zrs, .int .i64 zsq] 41)] from hO)
          clear hO
          clear y0 y1 y2 y3 y4 y5
          have z4_0 : x256.cell? ⟨bv, 0, none⟩ = some (.int .i64 ypr) := HO.out.cell 4 rfl 0 rfl
          have z4_1 : x256.cell? ⟨bv, 1, none⟩ = some (.int .i64 yhe) := HO.out.cell 4 rfl 1 rfl
          have z4_2 : x256.cell? ⟨bv, 2, none⟩ = some (.int .i64 yhp) := HO.out.cell 4 rfl 2 rfl
          have z4_3 : x256.cell? ⟨bv, 3, none⟩ = some (.int .i64 yth) := HO.out.cell 4 rfl 3 rfl
          have z4_4 : x256.cell? ⟨bv, 4, none⟩ = some (.int .i64 ytp) := HO.out.cell 4 rfl 4 rfl
          have z4_5 : x256.cell? ⟨bv, 5, none⟩ = some (.bool false) := HO.out.cell 4 rfl 5 rfl
          have z4_6 : x256.cell? ⟨bv, 6, none⟩ = some (.bool false) := HO.out.cell 4 rfl 6 rfl
          have z4_7 : x256.cell? ⟨bv, 7, none⟩ = some (.bool false) := HO.out.cell 4 rfl 7 rfl
          have z4_8 : x256.cell? ⟨bv, 8, none⟩ = some (.int .i64 ysq) := HO.out.cell 4 rfl 8 rfl
          have z5_0 : x256.cell? ⟨bz, 0, none⟩ = some (.int .i64 zpr) := HO.out.cell 5 rfl 0 rfl
          have z5_1 : x256.cell? ⟨bz, 1, none⟩ = some (.int .i64 zhe) := HO.out.cell 5 rfl 1 rfl
          have z5_2 : x256.cell? ⟨bz, 2, none⟩ = some (.int .i64 zhp) := HO.out.cell 5 rfl 2 rfl
          have z5_3 : x256.cell? ⟨bz, 3, none⟩ = some (.int .i64 zth) := HO.out.cell 5 rfl 3 rfl
          have z5_4 : x256.cell? ⟨bz, 4, none⟩ = some (.int .i64 ztp) := HO.out.cell 5 rfl 4 rfl
          have z5_5 : x256.cell? ⟨bz, 5, none⟩ = some (.bool zsy) := HO.out.cell 5 rfl 5 rfl
          have z5_6 : x256.cell? ⟨bz, 6, none⟩ = some (.bool zfi) := HO.out.cell 5 rfl 6 rfl
          have z5_7 : x256.cell? ⟨bz, 7, none⟩ = some (.bool zrs) := HO.out.cell 5 rfl 7 rfl
          have z5_8 : x256.cell? ⟨bz, 8, none⟩ = some (.int .i64 zsq) := HO.out.cell 5 rfl 8 rfl
          cases hd : decide (keyF ⟨zpr, zhe, zhp, zth, ztp, zsy, zfi, zrs, zsq⟩ = keyF ⟨ypr, yhe, yhp, yth, ytp, false, false, false, ysq⟩) with
          | true =>
            go_wp2_with fail
            refine (o_still HO.out (five_r hd _)).mono ?_
            rintro e x257 ⟨rfl, hO, -⟩
            replace HO := Lib.hid (show Own w none0 x257 [blkR bx (.cells #[.int .i64 yqho, .int .i64 yqpr, .int .i64 yqpo, .int .i64 yqth, .int .i64 yqfl, .int .i64 yqaf] 39), rowRl (.slice ua an uc) A, rowRl u10 rl, resF f st, blkR bv (.cells #[.int .i64 ypr, .int .i64 yhe, .int .i64 yhp, .int .i64 yth, .int .i64 ytp, .bool false, .bool false, .bool false, .int .i64 ysq] 41), blkR bz (.cells #[.int .i64 zpr, .int .i64 zhe, .int .i64 zhp, .int .i64 zth, .int .i64 ztp, .bool zsy, .bool zfi, .bool zrs, .int .i64 zsq] 41)] from hO)
            clear hO
            clear hx202 hbz k5_0_203 lk5_0_203 k5_1_204 lk5_1_204 k5_2_205 lk5_2_205 k5_3_206 lk5_3_206 k5_4_207 lk5_4_207 k5_5_208 lk5_5_208 k5_6_209 lk5_6_209 k5_7_210 lk5_7_210 k5_8_211 lk5_8_211 hx212 k5_1_213 lk5_1_213 k5_2_214 lk5_2_214 k5_3_215 lk5_3_215 k5_4_216 lk5_4_216 k5_5_217 lk5_5_217 k5_6_218 lk5_6_218 k5_7_219 lk5_7_219 k5_8_220 lk5_8_220 hx221 k5_2_222 lk5_2_222 k5_3_223 lk5_3_223 k5_4_224 lk5_4_224 k5_5_225 lk5_5_225 k5_6_226 lk5_6_226 k5_7_227 lk5_7_227 k5_8_228 lk5_8_228 hx229 k5_3_230 lk5_3_230 k5_4_231 lk5_4_231 k5_5_232 lk5_5_232 k5_6_233 lk5_6_233 k5_7_234 lk5_7_234 k5_8_235 lk5_8_235 hx236 k5_4_237 lk5_4_237 k5_5_238 lk5_5_238 k5_6_239 lk5_6_239 k5_7_240 lk5_7_240 k5_8_241 lk5_8_241 hx242 k5_5_243 lk5_5_243 k5_6_244 lk5_6_244 k5_7_245 lk5_7_245 k5_8_246 lk5_8_246 hx247 k5_6_248 lk5_6_248 k5_7_249 lk5_7_249 k5_8_250 lk5_8_250 hx251 k5_7_252 lk5_7_252 k5_8_253 lk5_8_253 hx254 k5_8_255 lk5_8_255 hx256 z4_0 z4_1 z4_2 z4_3 z4_4 z4_5 z4_6 z4_7 z4_8 z5_0 z5_1 z5_2 z5_3 z5_4 z5_5 z5_6 z5_7 z5_8
            clear hd
            simp only [i01_t]
            have HI2 := Lib.hid HI.out.up
            go_wp2
            go_roundw
            case rel => exact ⟨k2 + 1, st, by omega, by go_num, HI2.out, HO.out.take 5⟩
            case measure => simp [intOf]; omega
          | false =>
            have HKE := Lib.hid (of_decide_eq_false hd)
            go_wp2_with fail
            refine (o_still HO.out (five_r hd _)).mono ?_
            rintro e x257 ⟨rfl, hO, -⟩
            replace HO := Lib.hid (show Own w none0 x257 [blkR bx (.cells #[.int .i64 yqho, .int .i64 yqpr, .int .i64 yqpo, .int .i64 yqth, .int .i64 yqfl, .int .i64 yqaf] 39), rowRl (.slice ua an uc) A, rowRl u10 rl, resF f st, blkR bv (.cells #[.int .i64 ypr, .int .i64 yhe, .int .i64 yhp, .int .i64 yth, .int .i64 ytp, .bool false, .bool false, .bool false, .int .i64 ysq] 41), blkR bz (.cells #[.int .i64 zpr, .int .i64 zhe, .int .i64 zhp, .int .i64 zth, .int .i64 ztp, .bool zsy, .bool zfi, .bool zrs, .int .i64 zsq] 41)] from hO)
            clear hO
            clear hx202 hbz k5_0_203 lk5_0_203 k5_1_204 lk5_1_204 k5_2_205 lk5_2_205 k5_3_206 lk5_3_206 k5_4_207 lk5_4_207 k5_5_208 lk5_5_208 k5_6_209 lk5_6_209 k5_7_210 lk5_7_210 k5_8_211 lk5_8_211 hx212 k5_1_213 lk5_1_213 k5_2_214 lk5_2_214 k5_3_215 lk5_3_215 k5_4_216 lk5_4_216 k5_5_217 lk5_5_217 k5_6_218 lk5_6_218 k5_7_219 lk5_7_219 k5_8_220 lk5_8_220 hx221 k5_2_222 lk5_2_222 k5_3_223 lk5_3_223 k5_4_224 lk5_4_224 k5_5_225 lk5_5_225 k5_6_226 lk5_6_226 k5_7_227 lk5_7_227 k5_8_228 lk5_8_228 hx229 k5_3_230 lk5_3_230 k5_4_231 lk5_4_231 k5_5_232 lk5_5_232 k5_6_233 lk5_6_233 k5_7_234 lk5_7_234 k5_8_235 lk5_8_235 hx236 k5_4_237 lk5_4_237 k5_5_238 lk5_5_238 k5_6_239 lk5_6_239 k5_7_240 lk5_7_240 k5_8_241 lk5_8_241 hx242 k5_5_243 lk5_5_243 k5_6_244 lk5_6_244 k5_7_245 lk5_7_245 k5_8_246 lk5_8_246 hx247 k5_6_248 lk5_6_248 k5_7_249 lk5_7_249 k5_8_250 lk5_8_250 hx251 k5_7_252 lk5_7_252 k5_8_253 lk5_8_253 hx254 k5_8_255 lk5_8_255 hx256 z4_0 z4_1 z4_2 z4_3 z4_4 z4_5 z4_6 z4_7 z4_8 z5_0 z5_1 z5_2 z5_3 z5_4 z5_5 z5_6 z5_7 z5_8
            clear hd
            simp only [i01_f]
            obtain ⟨⟨r1, st1⟩, hdd⟩ : ∃ p, didF st zqho 0 ⟨zpr, zhe, zhp, zth, ztp, zsy, zfi, zrs, zsq⟩ = p := ⟨_, rfl⟩
            have HD1 := Lib.hid hdd
            clear hdd
            have HI2 := Lib.hid (HI.out.step hk2 HKE.out HD1.out)
            have HLT := Lib.hid (show st.m.length < 32 by have := HI.out.len; omega)
            go_wp2
            generalize hΓ : ghO w none0 [[blkR bx (.cells #[.int .i64 yqho, .int .i64 yqpr, .int .i64 yqpo, .int .i64 yqth, .int .i64 yqfl, .int .i64 yqaf] 39), rowRl (.slice ua an uc) A, rowRl u10 rl, resF f st, blkR bv (.cells #[.int .i64 ypr, .int .i64 yhe, .int .i64 yhp, .int .i64 yth, .int .i64 ytp, .bool false, .bool false, .bool false, .int .i64 ysq] 41), blkR bz (.cells #[.int .i64 zpr, .int .i64 zhe, .int .i64 zhp, .int .i64 zth, .int .i64 ztp, .bool zsy, .bool zfi, .bool zrs, .int .i64 zsq] 41)], [blkR bx (.cells #[.int .i64 yqho, .int .i64 yqpr, .int .i64 yqpo, .int .i64 yqth, .int .i64 yqfl, .int .i64 yqaf] 39), rowRl (.slice ua an uc) A, rowRl u10 rl, resF f st1, blkR bv (.cells #[.int .i64 ypr, .int .i64 yhe, .int .i64 yhp, .int .i64 yth, .int .i64 ytp, .bool false, .bool false, .bool false, .int .i64 ysq] 41), blkR bz (.cells #[.int .i64 zpr, .int .i64 zhe, .int .i64 zhp, .int .i64 zth, .int .i64 ztp, .bool zsy, .bool zfi, .bool zrs, .int .i64 zsq] 41)]] = Γ
            have HST := Lib.hid (show Γ.inv [] x257 by rw [← hΓ]; exact ghO_start HO.out)
            have g0 : ∀ q : Γ.Wd, q.w.cell? ⟨bz, 0, none⟩ = some (.int .i64 zpr) := by rw [← hΓ]; exact ghO_cell (c := #[.int .i64 zpr, .int .i64 zhe, .int .i64 zhp, .int .i64 zth, .int .i64 ztp, .bool zsy, .bool zfi, .bool zrs, .int .i64 zsq]) (t := 41) 5 (by simp) 0 rfl
            have g1 : ∀ q : Γ.Wd, q.w.cell? ⟨bz, 1, none⟩ = some (.int .i64 zhe) := by rw [← hΓ]; exact ghO_cell (c := #[.int .i64 zpr, .int .i64 zhe, .int .i64 zhp, .int .i64 zth, .int .i64 ztp, .bool zsy, .bool zfi, .bool zrs, .int .i64 zsq]) (t := 41) 5 (by simp) 1 rfl
            have g2 : ∀ q : Γ.Wd, q.w.cell? ⟨bz, 2, none⟩ = some (.int .i64 zhp) := by rw [← hΓ]; exact ghO_cell (c := #[.int .i64 zpr, .int .i64 zhe, .int .i64 zhp, .int .i64 zth, .int .i64 ztp, .bool zsy, .bool zfi, .bool zrs, .int .i64 zsq]) (t := 41) 5 (by simp) 2 rfl
            have g3 : ∀ q : Γ.Wd, q.w.cell? ⟨bz, 3, none⟩ = some (.int .i64 zth) := by rw [← hΓ]; exact ghO_cell (c := #[.int .i64 zpr, .int .i64 zhe, .int .i64 zhp, .int .i64 zth, .int .i64 ztp, .bool zsy, .bool zfi, .bool zrs, .int .i64 zsq]) (t := 41) 5 (by simp) 3 rfl
            have g4 : ∀ q : Γ.Wd, q.w.cell? ⟨bz, 4, none⟩ = some (.int .i64 ztp) := by rw [← hΓ]; exact ghO_cell (c := #[.int .i64 zpr, .int .i64 zhe, .int .i64 zhp, .int .i64 zth, .int .i64 ztp, .bool zsy, .bool zfi, .bool zrs, .int .i64 zsq]) (t := 41) 5 (by simp) 4 rfl
            have g5 : ∀ q : Γ.Wd, q.w.cell? ⟨bz, 5, none⟩ = some (.bool zsy) := by rw [← hΓ]; exact ghO_cell (c := #[.int .i64 zpr, .int .i64 zhe, .int .i64 zhp, .int .i64 zth, .int .i64 ztp, .bool zsy, .bool zfi, .bool zrs, .int .i64 zsq]) (t := 41) 5 (by simp) 5 rfl
            have g6 : ∀ q : Γ.Wd, q.w.cell? ⟨bz, 6, none⟩ = some (.bool zfi) := by rw [← hΓ]; exact ghO_cell (c := #[.int .i64 zpr, .int .i64 zhe, .int .i64 zhp, .int .i64 zth, .int .i64 ztp, .bool zsy, .bool zfi, .bool zrs, .int .i64 zsq]) (t := 41) 5 (by simp) 6 rfl
            have g7 : ∀ q : Γ.Wd, q.w.cell? ⟨bz, 7, none⟩ = some (.bool zrs) := by rw [← hΓ]; exact ghO_cell (c := #[.int .i64 zpr, .int .i64 zhe, .int .i64 zhp, .int .i64 zth, .int .i64 ztp, .bool zsy, .bool zfi, .bool zrs, .int .i64 zsq]) (t := 41) 5 (by simp) 7 rfl
            have g8 : ∀ q : Γ.Wd, q.w.cell? ⟨bz, 8, none⟩ = some (.int .i64 zsq) := by rw [← hΓ]; exact ghO_cell (c := #[.int .i64 zpr, .int .i64 zhe, .int .i64 zhp, .int .i64 zth, .int .i64 ztp, .bool zsy, .bool zfi, .bool zrs, .int .i64 zsq]) (t := 41) 5 (by simp) 8 rfl
            have g9 : ∀ q : Γ.Wd, q.w.cell? ⟨b, o + k2 * 6, none⟩ = some (.int .i64 zqho) := by rw [← hΓ]; exact ghO_old HV0.out id
            have HΓ := Lib.hid hΓ
            clear hΓ
            have ne : Nonempty Γ.Wd := ⟨⟨[], x257, HST.out⟩⟩
            refine wp_region_H Γ 8 [7] (by kernel_rfl) (by kernel_rfl) (by kernel_rfl) (by kernel_rfl) HST.out ?_
            simp only [List.take, List.drop]
            iterate 7 (first | (refine wpH_want (by kernel_rfl) (by kernel_rfl) rfl rfl ?_; intro K hK; go_big_quiet_op; go_big_quiet_on) | (refine wpH_is (by kernel_rfl) (by kernel_rfl) rfl _ (fun _ w _ => rfl) ?_; simp only [Act.put, List.setIfInBounds_toArray, List.set_cons_succ, List.set_cons_zero]))
            refine wpH_chain 0 (by kernel_rfl) (by kernel_rfl) rfl 13 #[.pointer (some ⟨f, 0, none⟩), .int .i64 zqho, .int .i64 0, flV ⟨zpr, zhe, zhp, zth, ztp, zsy, zfi, zrs, zsq⟩] (.int .i64 (i01 r1)) (fun w => by simp [go_sem]) (fun vs w hg hvs => by
              rw [← HΓ.out] at hg ⊢
              exact ghO_call 0 hg hvs rfl rfl fun ho => did_f (T := 0) (N := k2 + 1) ho 3 rfl HD1.out HI.out.fw HLT.out (by omega) (by omega) (by unfold timeB; omega) HXO.out.ho) ?_
            simp only [Act.put, List.setIfInBounds_toArray, List.set_cons_succ, List.set_cons_zero]
            refine wpH_nil (by kernel_rfl) (by simp) ?_
            rintro ⟨vs, xz⟩ hg hgl
            rw [← HΓ.out] at hg
            replace HO := Lib.hid (ghO_at hg 1 hgl rfl)
            simp only [gexAll, List.drop]
            clear g0 g1 g2 g3 g4 g5 g6 g7 g8 g9 ne HST hg hgl HΓ
            go_wp2
            go_roundw
            case rel => exact ⟨k2 + 1, st1, by omega, by go_num, HI2.out, HO.out.take 5⟩
            case measure => simp [intOf]; omega
        · have hke : k2 = min m 20 := by omega
          have HK20 := Lib.hid (show k2 ≤ 20 by omega)
          have HLT := Lib.hid (show st.m.length < 32 by have := HI.out.len; omega)
          have HFW := Lib.hid (show FW 0 30 st from HI.out.fw.mono (Int.le_refl _) (by omega))
          by_cases h1 : k2 < m
          · have h2 : ¬ (k2 : Int) < 20 := by omega
            clear hlt hke
            go_wp2_with fail
            refine (o_still HO.out (P1.out _)).mono ?_
            rintro e x301 ⟨rfl, hO, -⟩
            replace HO := Lib.hid (show Own w none0 x301 [blkR bx (.cells #[.int .i64 yqho, .int .i64 yqpr, .int .i64 yqpo, .int .i64 yqth, .int .i64 yqfl, .int .i64 yqaf] 39), rowRl (.slice ua an uc) A, rowRl u10 rl, resF f st, blkR bv (.cells #[.int .i64 ypr, .int .i64 yhe, .int .i64 yhp, .int .i64 yth, .int .i64 ytp, .bool false, .bool false, .bool false, .int .i64 ysq] 41)] from hO)
            clear hO
            have z4_0 : x301.cell? ⟨bv, 0, none⟩ = some (.int .i64 ypr) := HO.out.cell 4 rfl 0 rfl
            have z4_1 : x301.cell? ⟨bv, 1, none⟩ = some (.int .i64 yhe) := HO.out.cell 4 rfl 1 rfl
            have z4_2 : x301.cell? ⟨bv, 2, none⟩ = some (.int .i64 yhp) := HO.out.cell 4 rfl 2 rfl
            have z4_3 : x301.cell? ⟨bv, 3, none⟩ = some (.int .i64 yth) := HO.out.cell 4 rfl 3 rfl
            have z4_4 : x301.cell? ⟨bv, 4, none⟩ = some (.int .i64 ytp) := HO.out.cell 4 rfl 4 rfl
            have z4_5 : x301.cell? ⟨bv, 5, none⟩ = some (.bool false) := HO.out.cell 4 rfl 5 rfl
            have z4_6 : x301.cell? ⟨bv, 6, none⟩ = some (.bool false) := HO.out.cell 4 rfl 6 rfl
            have z4_7 : x301.cell? ⟨bv, 7, none⟩ = some (.bool false) := HO.out.cell 4 rfl 7 rfl
            have z4_8 : x301.cell? ⟨bv, 8, none⟩ = some (.int .i64 ysq) := HO.out.cell 4 rfl 8 rfl
            obtain ⟨⟨rq, st2⟩, hdd⟩ : ∃ p, didF st 4 nn ⟨ypr, yhe, yhp, yth, ytp, false, false, false, ysq⟩ = p := ⟨_, rfl⟩
            have HDst2 := Lib.hid hdd
            clear hdd
            go_wp2_with fail
            refine (did_f (T := 0) (N := 30) HO.out 3 rfl HDst2.out HFW.out HLT.out (by omega) (by omega) (by unfold timeB; omega) (by unfold i64B; omega)).mono ?_
            rintro e x302 ⟨rfl, hO, -⟩
            replace HO := Lib.hid (show Own w none0 x302 [blkR bx (.cells #[.int .i64 yqho, .int .i64 yqpr, .int .i64 yqpo, .int .i64 yqth, .int .i64 yqfl, .int .i64 yqaf] 39), rowRl (.slice ua an uc) A, rowRl u10 rl, resF f st2, blkR bv (.cells #[.int .i64 ypr, .int .i64 yhe, .int .i64 yhp, .int .i64 yth, .int .i64 ytp, .bool false, .bool false, .bool false, .int .i64 ysq] 41)] from hO)
            clear hO
            clear z4_0 z4_1 z4_2 z4_3 z4_4 z4_5 z4_6 z4_7 z4_8
            have HA2 := Lib.hid (did_fw HFW.out (show (0:Int) ≤ nn by omega) (by omega) (didF_R HDst2.out HLT.out))
            have HLT2 := Lib.hid (show st2.m.length < 32 by rw [(did_quo (didF_R HDst2.out HLT.out)).2]; exact Nat.lt_of_le_of_lt (expF_len _ _) HLT.out)
            have z4_0 : x302.cell? ⟨bv, 0, none⟩ = some (.int .i64 ypr) := HO.out.cell 4 rfl 0 rfl
            have z4_1 : x302.cell? ⟨bv, 1, none⟩ = some (.int .i64 yhe) := HO.out.cell 4 rfl 1 rfl
            have z4_2 : x302.cell? ⟨bv, 2, none⟩ = some (.int .i64 yhp) := HO.out.cell 4 rfl 2 rfl
            have z4_3 : x302.cell? ⟨bv, 3, none⟩ = some (.int .i64 yth) := HO.out.cell 4 rfl 3 rfl
            have z4_4 : x302.cell? ⟨bv, 4, none⟩ = some (.int .i64 ytp) := HO.out.cell 4 rfl 4 rfl
            have z4_5 : x302.cell? ⟨bv, 5, none⟩ = some (.bool false) := HO.out.cell 4 rfl 5 rfl
            have z4_6 : x302.cell? ⟨bv, 6, none⟩ = some (.bool false) := HO.out.cell 4 rfl 6 rfl
            have z4_7 : x302.cell? ⟨bv, 7, none⟩ = some (.bool false) := HO.out.cell 4 rfl 7 rfl
            have z4_8 : x302.cell? ⟨bv, 8, none⟩ = some (.int .i64 ysq) := HO.out.cell 4 rfl 8 rfl
            obtain ⟨⟨rb, st3⟩, hdd⟩ : ∃ p, didF st2 2 nn ⟨ypr, yhe, yhp, yth, ytp, false, false, false, ysq⟩ = p := ⟨_, rfl⟩
            have HDst3 := Lib.hid hdd
            clear hdd
            go_wp2_with fail
            refine (did_f (T := nn) (N := 31) HO.out 3 rfl HDst3.out HA2.out.1 HLT2.out (by omega) (by omega) (by unfold timeB; omega) (by unfold i64B; omega)).mono ?_
            rintro e x303 ⟨rfl, hO, -⟩
            replace HO := Lib.hid (show Own w none0 x303 [blkR bx (.cells #[.int .i64 yqho, .int .i64 yqpr, .int .i64 yqpo, .int .i64 yqth, .int .i64 yqfl, .int .i64 yqaf] 39), rowRl (.slice ua an uc) A, rowRl u10 rl, resF f st3, blkR bv (.cells #[.int .i64 ypr, .int .i64 yhe, .int .i64 yhp, .int .i64 yth, .int .i64 ytp, .bool false, .bool false, .bool false, .int .i64 ysq] 41)] from hO)
            clear hO
            clear z4_0 z4_1 z4_2 z4_3 z4_4 z4_5 z4_6 z4_7 z4_8
            obtain ⟨e1, e2⟩ := rep_end HI.out HK20.out q1 HVY.out HRI.out HDst2.out HDst3.out
            subst e1 e2
            clear HDst2 HDst3 HI HA2
            cases r0 with
            | false =>
              simp only [Bool.false_and, i01_f]
              go_wp2
              go_ret
              exact ⟨rfl, HO.out.below⟩
            | true =>
              simp only [Bool.true_and]
              by_cases h4 : nn ≤ 400
              · have h5 : decide (400 < nn) = false := by simp; omega
                have h6 : decide (nn ≤ 400) = true := decide_eq_true h4
                simp only [h6, i01_t]
                clear h4 h6
                go_wp2
                go_ret
                exact ⟨rfl, HO.out.below⟩
              · have h5 : decide (400 < nn) = true := by simp; omega
                have h6 : decide (nn ≤ 400) = false := by simp; omega
                simp only [h6, i01_t, i01_f]
                clear h4 h6
                go_wp2
                go_ret
                exact ⟨rfl, HO.out.below⟩
          · clear hlt hke
            go_wp2_with fail
            refine (o_still HO.out (P1.out _)).mono ?_
            rintro e x301 ⟨rfl, hO, -⟩
            replace HO := Lib.hid (show Own w none0 x301 [blkR bx (.cells #[.int .i64 yqho, .int .i64 yqpr, .int .i64 yqpo, .int .i64 yqth, .int .i64 yqfl, .int .i64 yqaf] 39), rowRl (.slice ua an uc) A, rowRl u10 rl, resF f st, blkR bv (.cells #[.int .i64 ypr, .int .i64 yhe, .int .i64 yhp, .int .i64 yth, .int .i64 ytp, .bool false, .bool false, .bool false, .int .i64 ysq] 41)] from hO)
            clear hO
            have z4_0 : x301.cell? ⟨bv, 0, none⟩ = some (.int .i64 ypr) := HO.out.cell 4 rfl 0 rfl
            have z4_1 : x301.cell? ⟨bv, 1, none⟩ = some (.int .i64 yhe) := HO.out.cell 4 rfl 1 rfl
            have z4_2 : x301.cell? ⟨bv, 2, none⟩ = some (.int .i64 yhp) := HO.out.cell 4 rfl 2 rfl
            have z4_3 : x301.cell? ⟨bv, 3, none⟩ = some (.int .i64 yth) := HO.out.cell 4 rfl 3 rfl
            have z4_4 : x301.cell? ⟨bv, 4, none⟩ = some (.int .i64 ytp) := HO.out.cell 4 rfl 4 rfl
            have z4_5 : x301.cell? ⟨bv, 5, none⟩ = some (.bool false) := HO.out.cell 4 rfl 5 rfl
            have z4_6 : x301.cell? ⟨bv, 6, none⟩ = some (.bool false) := HO.out.cell 4 rfl 6 rfl
            have z4_7 : x301.cell? ⟨bv, 7, none⟩ = some (.bool false) := HO.out.cell 4 rfl 7 rfl
            have z4_8 : x301.cell? ⟨bv, 8, none⟩ = some (.int .i64 ysq) := HO.out.cell 4 rfl 8 rfl
            obtain ⟨⟨rq, st2⟩, hdd⟩ : ∃ p, didF st 4 nn ⟨ypr, yhe, yhp, yth, ytp, false, false, false, ysq⟩ = p := ⟨_, rfl⟩
            have HDst2 := Lib.hid hdd
            clear hdd
            go_wp2_with fail
            refine (did_f (T := 0) (N := 30) HO.out 3 rfl HDst2.out HFW.out HLT.out (by omega) (by omega) (by unfold timeB; omega) (by unfold i64B; omega)).mono ?_
            rintro e x302 ⟨rfl, hO, -⟩
            replace HO := Lib.hid (show Own w none0 x302 [blkR bx (.cells #[.int .i64 yqho, .int .i64 yqpr, .int .i64 yqpo, .int .i64 yqth, .int .i64 yqfl, .int .i64 yqaf] 39), rowRl (.slice ua an uc) A, rowRl u10 rl, resF f st2, blkR bv (.cells #[.int .i64 ypr, .int .i64 yhe, .int .i64 yhp, .int .i64 yth, .int .i64 ytp, .bool false, .bool false, .bool false, .int .i64 ysq] 41)] from hO)
            clear hO
            clear z4_0 z4_1 z4_2 z4_3 z4_4 z4_5 z4_6 z4_7 z4_8
            have HA2 := Lib.hid (did_fw HFW.out (show (0:Int) ≤ nn by omega) (by omega) (didF_R HDst2.out HLT.out))
            have HLT2 := Lib.hid (show st2.m.length < 32 by rw [(did_quo (didF_R HDst2.out HLT.out)).2]; exact Nat.lt_of_le_of_lt (expF_len _ _) HLT.out)
            have z4_0 : x302.cell? ⟨bv, 0, none⟩ = some (.int .i64 ypr) := HO.out.cell 4 rfl 0 rfl
            have z4_1 : x302.cell? ⟨bv, 1, none⟩ = some (.int .i64 yhe) := HO.out.cell 4 rfl 1 rfl
            have z4_2 : x302.cell? ⟨bv, 2, none⟩ = some (.int .i64 yhp) := HO.out.cell 4 rfl 2 rfl
            have z4_3 : x302.cell? ⟨bv, 3, none⟩ = some (.int .i64 yth) := HO.out.cell 4 rfl 3 rfl
            have z4_4 : x302.cell? ⟨bv, 4, none⟩ = some (.int .i64 ytp) := HO.out.cell 4 rfl 4 rfl
            have z4_5 : x302.cell? ⟨bv, 5, none⟩ = some (.bool false) := HO.out.cell 4 rfl 5 rfl
            have z4_6 : x302.cell? ⟨bv, 6, none⟩ = some (.bool false) := HO.out.cell 4 rfl 6 rfl
            have z4_7 : x302.cell? ⟨bv, 7, none⟩ = some (.bool false) := HO.out.cell 4 rfl 7 rfl
            have z4_8 : x302.cell? ⟨bv, 8, none⟩ = some (.int .i64 ysq) := HO.out.cell 4 rfl 8 rfl
            obtain ⟨⟨rb, st3⟩, hdd⟩ : ∃ p, didF st2 2 nn ⟨ypr, yhe, yhp, yth, ytp, false, false, false, ysq⟩ = p := ⟨_, rfl⟩
            have HDst3 := Lib.hid hdd
            clear hdd
            go_wp2_with fail
            refine (did_f (T := nn) (N := 31) HO.out 3 rfl HDst3.out HA2.out.1 HLT2.out (by omega) (by omega) (by unfold timeB; omega) (by unfold i64B; omega)).mono ?_
            rintro e x303 ⟨rfl, hO, -⟩
            replace HO := Lib.hid (show Own w none0 x303 [blkR bx (.cells #[.int .i64 yqho, .int .i64 yqpr, .int .i64 yqpo, .int .i64 yqth, .int .i64 yqfl, .int .i64 yqaf] 39), rowRl (.slice ua an uc) A, rowRl u10 rl, resF f st3, blkR bv (.cells #[.int .i64 ypr, .int .i64 yhe, .int .i64 yhp, .int .i64 yth, .int .i64 ytp, .bool false, .bool false, .bool false, .int .i64 ysq] 41)] from hO)
            clear hO
            clear z4_0 z4_1 z4_2 z4_3 z4_4 z4_5 z4_6 z4_7 z4_8
            obtain ⟨e1, e2⟩ := rep_end HI.out HK20.out q1 HVY.out HRI.out HDst2.out HDst3.out
            subst e1 e2
            clear HDst2 HDst3 HI HA2
            cases r0 with
            | false =>
              simp only [Bool.false_and, i01_f]
              go_wp2
              go_ret
              exact ⟨rfl, HO.out.below⟩
            | true =>
              simp only [Bool.true_and]
              by_cases h4 : nn ≤ 400
              · have h5 : decide (400 < nn) = false := by simp; omega
                have h6 : decide (nn ≤ 400) = true := decide_eq_true h4
                simp only [h6, i01_t]
                clear h4 h6
                go_wp2
                go_ret
                exact ⟨rfl, HO.out.below⟩
              · have h5 : decide (400 < nn) = true := by simp; omega
                have h6 : decide (nn ≤ 400) = false := by simp; omega
                simp only [h6, i01_t, i01_f]
                clear h4 h6
                go_wp2
                go_ret
                exact ⟨rfl, HO.out.below⟩

end Go.Proofs.Ythhoknhjbkkflaa
