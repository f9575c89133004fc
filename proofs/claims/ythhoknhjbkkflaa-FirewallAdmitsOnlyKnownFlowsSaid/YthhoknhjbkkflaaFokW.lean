/- The walk of FirewallAdmitsOnlyKnownFlows. Printed by wip/tools/gen22t.py. -/
import Derived.Test.YthhoknhjbkkflaaFlw3
import Derived.Test.YthhoknhjbkkflaaFpl4
import Derived.Test.YthhoknhjbkkflaaRset
namespace Go.Proofs.Ythhoknhjbkkflaa
open Go.RowKit Go.Sort
set_option linter.unusedVariables false

def cFl (x : Fl) : List Value := (flA x).toList
def cI (x : Int) : List Value := [.int .i64 x]
abbrev rowFl (v : Value) (l : List Fl) : Res := rowR v 41 9 l.length (l.flatMap cFl)
abbrev rowI (v : Value) (l : List Int) : Res := rowR v 3 1 l.length (l.map (Value.int .i64))
theorem run_bsFl (a b c d e : Int) (f g h : Bool) (i : Int) (w : World) : (Instr.buildSlice 35 1 #[(0, .agg #[.int .i64 a, .int .i64 b, .int .i64 c, .int .i64 d, .int .i64 e, .bool f, .bool g, .bool h, .int .i64 i])]).run Try.prog w = .ok (.slice (some ⟨w.heap.size, 0, none⟩) 1 1) (w.alloc (.cells #[.int .i64 a, .int .i64 b, .int .i64 c, .int .i64 d, .int .i64 e, .bool f, .bool g, .bool h, .int .i64 i] 41)) := by kernel_rfl
theorem infoFl : (Try.prog.info? 41).map (fun i => (i.zero, i.size, i.bytes)) = some (some (.agg #[.int .i64 0, .int .i64 0, .int .i64 0, .int .i64 0, .int .i64 0, .bool false, .bool false, .bool false, .int .i64 0]), 9, 56) := by kernel_rfl
theorem infoI1 : (Try.prog.info? 3).map (fun i => (i.zero, i.size, i.bytes)) = some (some (.int .i64 0), 1, 8) := by kernel_rfl
theorem oneFl (a b c d e : Int) (f g h : Bool) (i : Int) : ∀ u ∈ ([.int .i64 a, .int .i64 b, .int .i64 c, .int .i64 d, .int .i64 e, .bool f, .bool g, .bool h, .int .i64 i] : List Value), u.oneCell' = true := by
  intro u hu; simp at hu; rcases hu with h | h | h | h | h | h | h | h | h <;> (subst h; rfl)
theorem oneI1 (a : Int) : ∀ u ∈ ([.int .i64 a] : List Value), u.oneCell' = true := by
  intro u hu; simp at hu; subst hu; rfl
set_option maxRecDepth 100000 in
set_option maxHeartbeats 32000000 in
theorem onlyKnown_walk (n : Nat) (x : Nat → Rw) (v : Value) (m : Nat) (g : Nat → Fw) (v2 : Value) (w : World) (hR : RdR w v n x) (hM : RdF w v2 m g) : Calls Try.prog 3 #[v, v2] w fun e w' => e = .returned (.bool true) ∧ Below w.heap.size w w' := by
  obtain ⟨a2, cap2, rfl, hcap2, hlen2, hok2, hp2⟩ := hM
  have HP := Lib.hid hp2
  have HOK := Lib.hid hok2
  have HR := Lib.hid hR
  clear hp2 hok2 hR
  have HO := Lib.hid (show Own w none0 w [] from Own.nil w none0)
  go_enter Try.func3, Try.ntmps3
  go_wp2_with fail
  refine (o_still HO.out (sane_any _)).mono ?_
  rintro e x1 ⟨rfl, hO, -⟩
  replace HO := Lib.hid (show Own w none0 x1 [] from hO)
  clear hO
  go_wp2_with fail
  refine (rules_any n x _ _ (HR.out.stay HO.out.below)).mono ?_
  rintro e x2 ⟨u, rfl, hO1, -⟩
  have hO := HO.out.join1 hO1
  clear hO1
  obtain ⟨A, hA⟩ : ∃ A, rulesTo x (min n 16) = A := ⟨_, rfl⟩
  have HCK := Lib.hid (show ∀ p, checkE (A.filter p) = 0 from fun p => by rw [← hA]; exact rules_ok x n p)
  have HAL := Lib.hid (show A.length ≤ 16 by rw [← hA, rulesTo_len]; omega)
  rw [hA] at hO
  clear hA
  obtain ⟨ua, uc, rfl, -⟩ := row_at (c := cRl) (fun x => rfl) (hO.row 0 rfl) rfl
  obtain ⟨an, han⟩ : ∃ an, A.length = an := ⟨_, rfl⟩
  have HAN := Lib.hid han
  have hab : an ≤ 16 := by rw [← han]; exact HAL.out
  replace HO := Lib.hid (show Own w none0 x2 [rowRl (.slice ua A.length uc) A] from hO)
  clear hO
  rw [han] at HO ⊢
  clear han
  go_wp2
  go_loopw [6, 8] (fun rs i wr => ∃ k : Nat, k ≤ an ∧ i = .int .i64 k ∧ Own w none0 wr [rowRl (.slice ua an uc) A, rowRl rs ((A.take k).filter (fun r => !r.inn || !r.ps))]) (fun _ i _ => an - (intOf i).toNat)
  case atStart => exact ⟨0, Nat.zero_le _, rfl, HO.out.rowNew _ _⟩
  case round =>
    obtain ⟨k, hk, rfl, hO⟩ := hrel
    replace HO := Lib.hid hO
    clear hO
    by_cases hlt : k < an
    · have hrw := HO.out.row 0 rfl
      rw [HAN.out] at hrw
      obtain ⟨g, rfl, hc⟩ := row_sl (c := cRl) (fun x => rfl) hrw HAN.out (by omega)
      clear hrw
      have hkA : k < A.length := by have := HAN.out; omega
      have hc := hc k hkA
      have HFS := Lib.hid (filter_step (p := (fun r => !r.inn || !r.ps)) hkA)
      have HKN := Lib.hid (show ((A.take k).filter (fun r => !r.inn || !r.ps)).length ≤ k from Nat.le_trans (List.length_filter_le _ _) (List.length_take_le _ _))
      generalize A[k] = r at *
      obtain ⟨inn, pr, na, nb, lo, hi, ps⟩ := r
      have ycell : ∀ j u, j < 7 → (cRl ⟨inn, pr, na, nb, lo, hi, ps⟩)[j]? = some u → wr.cell? ⟨g, k * 7 + j, none⟩ = some u := fun j u hj hu => (hc j hj).trans hu
      clear hc hkA
      have y0 : wr.cell? ⟨g, k * 7, none⟩ = some (.bool inn) := ycell 0 _ (by decide) rfl
      have y1 : wr.cell? ⟨g, k * 7 + 1, none⟩ = some (.int .i64 pr) := ycell 1 _ (by decide) rfl
      have y2 : wr.cell? ⟨g, k * 7 + 2, none⟩ = some (.int .i64 na) := ycell 2 _ (by decide) rfl
      have y3 : wr.cell? ⟨g, k * 7 + 3, none⟩ = some (.int .i64 nb) := ycell 3 _ (by decide) rfl
      have y4 : wr.cell? ⟨g, k * 7 + 4, none⟩ = some (.int .i64 lo) := ycell 4 _ (by decide) rfl
      have y5 : wr.cell? ⟨g, k * 7 + 5, none⟩ = some (.int .i64 hi) := ycell 5 _ (by decide) rfl
      have y6 : wr.cell? ⟨g, k * 7 + 6, none⟩ = some (.bool ps) := ycell 6 _ (by decide) rfl
      clear ycell
      cases inn with
      | false =>
        have HRT := Lib.hid (show (A.take (k + 1)).filter (fun r => !r.inn || !r.ps) = (A.take k).filter (fun r => !r.inn || !r.ps) ++ [⟨false, pr, na, nb, lo, hi, ps⟩] by rw [HFS.out]; simp)
        clear HFS
        have rb := run_bsRl
        obtain ⟨x23, hx23⟩ : ∃ y, wr.alloc (.cells #[.bool false, .int .i64 pr, .int .i64 na, .int .i64 nb, .int .i64 lo, .int .i64 hi, .bool ps] 30) = y := ⟨_, rfl⟩
        obtain ⟨bn, hbn⟩ : ∃ y, wr.heap.size = y := ⟨_, rfl⟩
        have hO := HO.out.alloc (.cells #[.bool false, .int .i64 pr, .int .i64 na, .int .i64 nb, .int .i64 lo, .int .i64 hi, .bool ps] 30)
        rw [hx23, hbn] at hO
        replace HO := Lib.hid (show Own w none0 x23 [rowRl (.slice (some ⟨g, 0, none⟩) an uc) A, rowRl u6 ((A.take k).filter (fun r => !r.inn || !r.ps)), blkR bn (.cells #[.bool false, .int .i64 pr, .int .i64 na, .int .i64 nb, .int .i64 lo, .int .i64 hi, .bool ps] 30)] from hO)
        clear hO
        go_wp2_with ((at_builtin; refine (show _ = True → _ from fun h => of_eq_true h) ?_))
        refine eq_true ?_
        refine wpList_appO rfl (.tmp 43) (.tmp 48) 25 rfl Try.underlying25 infoRl rfl (by decide) HO.out 1 rfl rfl 2 1 1 [.bool false, .int .i64 pr, .int .i64 na, .int .i64 nb, .int .i64 lo, .int .i64 hi, .bool ps] rfl rfl rfl (oneRl _ _ _ _ _ _ _) (by have := HKN.out; have := HAL.out; have := HAN.out; unfold maxLen; omega) (by have := HKN.out; have := HAL.out; have := HAN.out; omega) ?_
        intro v9 x9 hO
        clear hx23 hbn
        clear rb y0 y1 y2 y3 y4 y5 y6
        have e1 : rowR v9 30 7 (((A.take k).filter (fun r => !r.inn || !r.ps)).length + 1) (((A.take k).filter (fun r => !r.inn || !r.ps)).flatMap cRl ++ [.bool false, .int .i64 pr, .int .i64 na, .int .i64 nb, .int .i64 lo, .int .i64 hi, .bool ps]) = rowRl v9 ((A.take (k + 1)).filter (fun r => !r.inn || !r.ps)) := by
          rw [HRT.out]
          show _ = rowR _ _ _ _ _
          rw [List.length_append, List.flatMap_append]; rfl
        simp only [List.set_cons_succ, List.set_cons_zero, e1] at hO
        replace HO := Lib.hid (show Own w none0 x9 [rowRl (.slice (some ⟨g, 0, none⟩) an uc) A, rowRl v9 ((A.take (k + 1)).filter (fun r => !r.inn || !r.ps))] from hO.take 2)
        clear hO e1
        go_wp2
        go_roundw
        case rel => exact ⟨k + 1, by omega, by go_num, HO.out⟩
        case measure => simp [intOf]; omega
      | true =>
        cases ps with
        | false =>
          have HRT := Lib.hid (show (A.take (k + 1)).filter (fun r => !r.inn || !r.ps) = (A.take k).filter (fun r => !r.inn || !r.ps) ++ [⟨true, pr, na, nb, lo, hi, false⟩] by rw [HFS.out]; simp)
          clear HFS
          have rb := run_bsRl
          obtain ⟨x23, hx23⟩ : ∃ y, wr.alloc (.cells #[.bool true, .int .i64 pr, .int .i64 na, .int .i64 nb, .int .i64 lo, .int .i64 hi, .bool false] 30) = y := ⟨_, rfl⟩
          obtain ⟨bn, hbn⟩ : ∃ y, wr.heap.size = y := ⟨_, rfl⟩
          have hO := HO.out.alloc (.cells #[.bool true, .int .i64 pr, .int .i64 na, .int .i64 nb, .int .i64 lo, .int .i64 hi, .bool false] 30)
          rw [hx23, hbn] at hO
          replace HO := Lib.hid (show Own w none0 x23 [rowRl (.slice (some ⟨g, 0, none⟩) an uc) A, rowRl u6 ((A.take k).filter (fun r => !r.inn || !r.ps)), blkR bn (.cells #[.bool true, .int .i64 pr, .int .i64 na, .int .i64 nb, .int .i64 lo, .int .i64 hi, .bool false] 30)] from hO)
          clear hO
          go_wp2_with ((at_builtin; refine (show _ = True → _ from fun h => of_eq_true h) ?_))
          refine eq_true ?_
          refine wpList_appO rfl (.tmp 43) (.tmp 48) 25 rfl Try.underlying25 infoRl rfl (by decide) HO.out 1 rfl rfl 2 1 1 [.bool true, .int .i64 pr, .int .i64 na, .int .i64 nb, .int .i64 lo, .int .i64 hi, .bool false] rfl rfl rfl (oneRl _ _ _ _ _ _ _) (by have := HKN.out; have := HAL.out; have := HAN.out; unfold maxLen; omega) (by have := HKN.out; have := HAL.out; have := HAN.out; omega) ?_
          intro v9 x9 hO
          clear hx23 hbn
          clear rb y0 y1 y2 y3 y4 y5 y6
          have e1 : rowR v9 30 7 (((A.take k).filter (fun r => !r.inn || !r.ps)).length + 1) (((A.take k).filter (fun r => !r.inn || !r.ps)).flatMap cRl ++ [.bool true, .int .i64 pr, .int .i64 na, .int .i64 nb, .int .i64 lo, .int .i64 hi, .bool false]) = rowRl v9 ((A.take (k + 1)).filter (fun r => !r.inn || !r.ps)) := by
            rw [HRT.out]
            show _ = rowR _ _ _ _ _
            rw [List.length_append, List.flatMap_append]; rfl
          simp only [List.set_cons_succ, List.set_cons_zero, e1] at hO
          replace HO := Lib.hid (show Own w none0 x9 [rowRl (.slice (some ⟨g, 0, none⟩) an uc) A, rowRl v9 ((A.take (k + 1)).filter (fun r => !r.inn || !r.ps))] from hO.take 2)
          clear hO e1
          go_wp2
          go_roundw
          case rel => exact ⟨k + 1, by omega, by go_num, HO.out⟩
          case measure => simp [intOf]; omega
        | true =>
          have HRT := Lib.hid (show (A.take (k + 1)).filter (fun r => !r.inn || !r.ps) = (A.take k).filter (fun r => !r.inn || !r.ps) by rw [HFS.out]; simp)
          clear HFS
          go_wp2
          go_roundw
          case rel => exact ⟨k + 1, by omega, by go_num, by rw [HRT.out]; exact HO.out⟩
          case measure => simp [intOf]; omega
    · have hke : an = k := by omega
      subst hke
      have hO := HO.out
      rw [show A.take an = A by rw [← HAN.out]; exact List.take_length] at hO
      replace HO := Lib.hid (show Own w none0 wr [rowRl (.slice ua an uc) A, rowRl u6 (A.filter (fun r => !r.inn || !r.ps))] from hO)
      clear hO hlt hk
      obtain ⟨rl, hrl⟩ : ∃ rl, A.filter (fun r => !r.inn || !r.ps) = rl := ⟨_, rfl⟩
      have HRC := Lib.hid (show checkE rl = 0 by rw [← hrl]; exact HCK.out _)
      have HRL := Lib.hid (show rl.length ≤ 1000 by rw [← hrl]; exact Nat.le_trans (List.length_filter_le _ _) (by have := HAL.out; omega))
      have HRI := Lib.hid (show ∀ r ∈ rl, r.inn = true → r.ps = false from fun r hr hi => by
        rw [← hrl] at hr
        have := (List.mem_filter.1 hr).2
        simpa [hi] using this)
      have hO := HO.out
      rw [hrl] at hO
      replace HO := Lib.hid (show Own w none0 wr [rowRl (.slice ua an uc) A, rowRl u6 rl] from hO)
      clear hO hrl HCK
      go_wp2_with fail
      refine (new_ok HO.out 1 rfl HRL.out HRC.out).mono ?_
      rintro e x43 ⟨f, rfl, hO, -⟩
      replace HO := Lib.hid (show Own w none0 x43 [rowRl (.slice ua an uc) A, rowRl u6 rl, resF f ⟨rl, [], 0⟩] from hO)
      clear hO
      have HK0 := Lib.hid (kn_start HRL.out)
      go_wp2
      have hO := (HO.out.rowNew 41 9).rowNew 3 1
      replace HO := Lib.hid (show Own w none0 x43 [rowRl (.slice ua an uc) A, rowRl u6 rl, resF f ⟨rl, [], 0⟩, rowFl (.slice none 0 0) [], rowI (.slice none 0 0) []] from hO)
      clear hO
      go_loopw [11, 12, 13, 14] (fun fv iv now i wr => ∃ (k : Nat) (nw : Int) (fs : List Fl) (la : List Int) (st : FSt), k ≤ min m 30 ∧ now = .int .i64 nw ∧ i = .int .i64 k ∧ 0 ≤ nw ∧ nw ≤ 150 * k ∧ KnI rl fs la nw k st ∧ Own w none0 wr [rowRl (.slice ua an uc) A, rowRl u6 rl, resF f st, rowFl fv fs, rowI iv la]) (fun _ _ _ i _ => 30 - (intOf i).toNat)
      case atStart => exact ⟨0, 0, [], [], ⟨rl, [], 0⟩, Nat.zero_le _, rfl, rfl, by omega, by omega, HK0.out, HO.out⟩
      case round =>
        obtain ⟨k2, nw, fs, la, st, hk, rfl, rfl, hw0, hw1, hI, hO⟩ := hrel
        replace HO := Lib.hid hO
        have HI := Lib.hid hI
        clear hO hI HK0
        by_cases hlt : k2 < m ∧ k2 < 30
        · obtain ⟨hk1, hk2⟩ := hlt
          obtain ⟨b, o, rfl, hcc⟩ := HP.out (by omega)
          have HXO := Lib.hid (HOK.out k2 hk1)
          have hcc := hcc k2 hk1
          generalize g k2 = gk at *
          obtain ⟨zqho, zqpr, zqpo, zqth, zqfl, zqaf⟩ := gk
          obtain ⟨fa, fc, hfv⟩ := row_shape (HO.out.row 3 rfl)
          obtain ⟨ia, ic, hiv⟩ := row_shape (HO.out.row 4 rfl)
          obtain ⟨fn, hfn⟩ : ∃ fn, fs.length = fn := ⟨_, rfl⟩
          have hln : la.length = fn := by rw [← hfn]; exact HI.out.ll
          have hfk : fn ≤ k2 := by rw [← hfn]; exact HI.out.fk
          rw [hfn] at hfv
          rw [hln] at hiv
          have HFN := Lib.hid hfn
          have HLN := Lib.hid hln
          subst hfv hiv
          clear hfn hln
          replace HO := Lib.hid (show Own w none0 wr [rowRl (.slice ua an uc) A, rowRl u6 rl, resF f st, rowFl (.slice fa fn fc) fs, rowI (.slice ia fn ic) la] from HO.out)
          have ycell : ∀ j u, j < 6 → (fwA ⟨zqho, zqpr, zqpo, zqth, zqfl, zqaf⟩)[j]? = some u → w.cell? ⟨b, o + k2 * 6 + j, none⟩ = some u := fun j u hj hu => (hcc j hj).trans hu
          have v0 : w.cell? ⟨b, o + k2 * 6, none⟩ = some (.int .i64 zqho) := ycell 0 _ (by decide) rfl
          have v1 : w.cell? ⟨b, o + k2 * 6 + 1, none⟩ = some (.int .i64 zqpr) := ycell 1 _ (by decide) rfl
          have v2 : w.cell? ⟨b, o + k2 * 6 + 2, none⟩ = some (.int .i64 zqpo) := ycell 2 _ (by decide) rfl
          have v3 : w.cell? ⟨b, o + k2 * 6 + 3, none⟩ = some (.int .i64 zqth) := ycell 3 _ (by decide) rfl
          have v4 : w.cell? ⟨b, o + k2 * 6 + 4, none⟩ = some (.int .i64 zqfl) := ycell 4 _ (by decide) rfl
          have v5 : w.cell? ⟨b, o + k2 * 6 + 5, none⟩ = some (.int .i64 zqaf) := ycell 5 _ (by decide) rfl
          have HV0 := Lib.hid v0
          have HV5 := Lib.hid v5
          have HVA := Lib.hid (show True from trivial)
          have y5 : wr.cell? ⟨b, o + k2 * 6 + 5, none⟩ = some (.int .i64 zqaf) := keep HO.out.below v5
          have P2 := Lib.hid (fun w => pick_b zqaf 150 w HXO.out.af (by decide))
          obtain ⟨q3, q4⟩ := pk_bd zqaf 150 (by decide)
          generalize pk zqaf 150 = pa at *
          have P3 := Lib.hid (fun w => pick_b zqho 2 w HXO.out.ho (by decide))
          obtain ⟨q5, q6⟩ := pk_bd zqho 2 (by decide)
          generalize pk zqho 2 = ph at *
          go_wp2_with fail
          refine (o_still HO.out (P2.out _)).mono ?_
          rintro e x201 ⟨rfl, hO, -⟩
          replace HO := Lib.hid (show Own w none0 x201 [rowRl (.slice ua an uc) A, rowRl u6 rl, resF f st, rowFl (.slice fa fn fc) fs, rowI (.slice ia fn ic) la] from hO)
          clear hO
          clear y5
          have y0 : x201.cell? ⟨b, o + k2 * 6, none⟩ = some (.int .i64 zqho) := keep HO.out.below v0
          have y1 : x201.cell? ⟨b, o + k2 * 6 + 1, none⟩ = some (.int .i64 zqpr) := keep HO.out.below v1
          have y2 : x201.cell? ⟨b, o + k2 * 6 + 2, none⟩ = some (.int .i64 zqpo) := keep HO.out.below v2
          have y3 : x201.cell? ⟨b, o + k2 * 6 + 3, none⟩ = some (.int .i64 zqth) := keep HO.out.below v3
          have y4 : x201.cell? ⟨b, o + k2 * 6 + 4, none⟩ = some (.int .i64 zqfl) := keep HO.out.below v4
          have y5 : x201.cell? ⟨b, o + k2 * 6 + 5, none⟩ = some (.int .i64 zqaf) := keep HO.out.below v5
          clear ycell hcc v0 v1 v2 v3 v4 v5
          have HFFy := Lib.hid (fun w => flowFrom_any ⟨zqho, zqpr, zqpo, zqth, zqfl, zqaf⟩ HXO.out w)
          have HVYy := Lib.hid (flowF_valid ⟨zqho, zqpr, zqpo, zqth, zqfl, zqaf⟩)
          generalize flowF ⟨zqho, zqpr, zqpo, zqth, zqfl, zqaf⟩ = fy at HFFy HVYy
          obtain ⟨ypr, yhe, yhp, yth, ytp, ysy, yfi, yrs, ysq⟩ := fy
          go_wp2_with fail
          refine (o_still HO.out (HFFy.out _)).mono ?_
          rintro e x202 ⟨rfl, hO, -⟩
          replace HO := Lib.hid (show Own w none0 x202 [rowRl (.slice ua an uc) A, rowRl u6 rl, resF f st, rowFl (.slice fa fn fc) fs, rowI (.slice ia fn ic) la] from hO)
          clear hO
          obtain ⟨x203, hx203⟩ : ∃ y, x202.alloc (.cells #[.int .i64 0, .int .i64 0, .int .i64 0, .int .i64 0, .int .i64 0, .bool false, .bool false, .bool false, .int .i64 0] 41) = y := ⟨_, rfl⟩
          obtain ⟨bv, hbv⟩ : ∃ y, x202.heap.size = y := ⟨_, rfl⟩
          have hO := HO.out.alloc (.cells #[.int .i64 0, .int .i64 0, .int .i64 0, .int .i64 0, .int .i64 0, .bool false, .bool false, .bool false, .int .i64 0] 41)
          rw [hx203, hbv] at hO
          replace HO := Lib.hid (show Own w none0 x203 [rowRl (.slice ua an uc) A, rowRl u6 rl, resF f st, rowFl (.slice fa fn fc) fs, rowI (.slice ia fn ic) la, blkR bv (.cells #[.int .i64 0, .int .i64 0, .int .i64 0, .int .i64 0, .int .i64 0, .bool false, .bool false, .bool false, .int .i64 0] 41)] from hO)
          clear hO
          have k5_0_204 : x203.cell? ⟨bv, 0, none⟩ = some (.int .i64 0) := HO.out.cell 5 rfl 0 rfl
          have lk5_0_204 : x203.frozen? ⟨bv, 0, none⟩ = false := HO.out.frz 5 rfl 0
          have k5_1_205 : x203.cell? ⟨bv, 1, none⟩ = some (.int .i64 0) := HO.out.cell 5 rfl 1 rfl
          have lk5_1_205 : x203.frozen? ⟨bv, 1, none⟩ = false := HO.out.frz 5 rfl 1
          have k5_2_206 : x203.cell? ⟨bv, 2, none⟩ = some (.int .i64 0) := HO.out.cell 5 rfl 2 rfl
          have lk5_2_206 : x203.frozen? ⟨bv, 2, none⟩ = false := HO.out.frz 5 rfl 2
          have k5_3_207 : x203.cell? ⟨bv, 3, none⟩ = some (.int .i64 0) := HO.out.cell 5 rfl 3 rfl
          have lk5_3_207 : x203.frozen? ⟨bv, 3, none⟩ = false := HO.out.frz 5 rfl 3
          have k5_4_208 : x203.cell? ⟨bv, 4, none⟩ = some (.int .i64 0) := HO.out.cell 5 rfl 4 rfl
          have lk5_4_208 : x203.frozen? ⟨bv, 4, none⟩ = false := HO.out.frz 5 rfl 4
          have k5_5_209 : x203.cell? ⟨bv, 5, none⟩ = some (.bool false) := HO.out.cell 5 rfl 5 rfl
          have lk5_5_209 : x203.frozen? ⟨bv, 5, none⟩ = false := HO.out.frz 5 rfl 5
          have k5_6_210 : x203.cell? ⟨bv, 6, none⟩ = some (.bool false) := HO.out.cell 5 rfl 6 rfl
          have lk5_6_210 : x203.frozen? ⟨bv, 6, none⟩ = false := HO.out.frz 5 rfl 6
          have k5_7_211 : x203.cell? ⟨bv, 7, none⟩ = some (.bool false) := HO.out.cell 5 rfl 7 rfl
          have lk5_7_211 : x203.frozen? ⟨bv, 7, none⟩ = false := HO.out.frz 5 rfl 7
          have k5_8_212 : x203.cell? ⟨bv, 8, none⟩ = some (.int .i64 0) := HO.out.cell 5 rfl 8 rfl
          have lk5_8_212 : x203.frozen? ⟨bv, 8, none⟩ = false := HO.out.frz 5 rfl 8
          obtain ⟨x213, hx213⟩ : ∃ y, x203.setCell ⟨bv, 0, none⟩ (.int .i64 ypr) = y := ⟨_, rfl⟩
          have hO := HO.out.setCell 5 rfl 0 (.int .i64 ypr)
          rw [hx213] at hO
          replace HO := Lib.hid (show Own w none0 x213 [rowRl (.slice ua an uc) A, rowRl u6 rl, resF f st, rowFl (.slice fa fn fc) fs, rowI (.slice ia fn ic) la, blkR bv (.cells #[.int .i64 ypr, .int .i64 0, .int .i64 0, .int .i64 0, .int .i64 0, .bool false, .bool false, .bool false, .int .i64 0] 41)] from hO)
          clear hO
          have k5_1_214 : x213.cell? ⟨bv, 1, none⟩ = some (.int .i64 0) := HO.out.cell 5 rfl 1 rfl
          have lk5_1_214 : x213.frozen? ⟨bv, 1, none⟩ = false := HO.out.frz 5 rfl 1
          have k5_2_215 : x213.cell? ⟨bv, 2, none⟩ = some (.int .i64 0) := HO.out.cell 5 rfl 2 rfl
          have lk5_2_215 : x213.frozen? ⟨bv, 2, none⟩ = false := HO.out.frz 5 rfl 2
          have k5_3_216 : x213.cell? ⟨bv, 3, none⟩ = some (.int .i64 0) := HO.out.cell 5 rfl 3 rfl
          have lk5_3_216 : x213.frozen? ⟨bv, 3, none⟩ = false := HO.out.frz 5 rfl 3
          have k5_4_217 : x213.cell? ⟨bv, 4, none⟩ = some (.int .i64 0) := HO.out.cell 5 rfl 4 rfl
          have lk5_4_217 : x213.frozen? ⟨bv, 4, none⟩ = false := HO.out.frz 5 rfl 4
          have k5_5_218 : x213.cell? ⟨bv, 5, none⟩ = some (.bool false) := HO.out.cell 5 rfl 5 rfl
          have lk5_5_218 : x213.frozen? ⟨bv, 5, none⟩ = false := HO.out.frz 5 rfl 5
          have k5_6_219 : x213.cell? ⟨bv, 6, none⟩ = some (.bool false) := HO.out.cell 5 rfl 6 rfl
          have lk5_6_219 : x213.frozen? ⟨bv, 6, none⟩ = false := HO.out.frz 5 rfl 6
          have k5_7_220 : x213.cell? ⟨bv, 7, none⟩ = some (.bool false) := HO.out.cell 5 rfl 7 rfl
          have lk5_7_220 : x213.frozen? ⟨bv, 7, none⟩ = false := HO.out.frz 5 rfl 7
          have k5_8_221 : x213.cell? ⟨bv, 8, none⟩ = some (.int .i64 0) := HO.out.cell 5 rfl 8 rfl
          have lk5_8_221 : x213.frozen? ⟨bv, 8, none⟩ = false := HO.out.frz 5 rfl 8
          obtain ⟨x222, hx222⟩ : ∃ y, x213.setCell ⟨bv, 1, none⟩ (.int .i64 yhe) = y := ⟨_, rfl⟩
          have hO := HO.out.setCell 5 rfl 1 (.int .i64 yhe)
          rw [hx222] at hO
          replace HO := Lib.hid (show Own w none0 x222 [rowRl (.slice ua an uc) A, rowRl u6 rl, resF f st, rowFl (.slice fa fn fc) fs, rowI (.slice ia fn ic) la, blkR bv (.cells #[.int .i64 ypr, .int .i64 yhe, .int .i64 0, .int .i64 0, .int .i64 0, .bool false, .bool false, .bool false, .int .i64 0] 41)] from hO)
          clear hO
          have k5_2_223 : x222.cell? ⟨bv, 2, none⟩ = some (.int .i64 0) := HO.out.cell 5 rfl 2 rfl
          have lk5_2_223 : x222.frozen? ⟨bv, 2, none⟩ = false := HO.out.frz 5 rfl 2
          have k5_3_224 : x222.cell? ⟨bv, 3, none⟩ = some (.int .i64 0) := HO.out.cell 5 rfl 3 rfl
          have lk5_3_224 : x222.frozen? ⟨bv, 3, none⟩ = false := HO.out.frz 5 rfl 3
          have k5_4_225 : x222.cell? ⟨bv, 4, none⟩ = some (.int .i64 0) := HO.out.cell 5 rfl 4 rfl
          have lk5_4_225 : x222.frozen? ⟨bv, 4, none⟩ = false := HO.out.frz 5 rfl 4
          have k5_5_226 : x222.cell? ⟨bv, 5, none⟩ = some (.bool false) := HO.out.cell 5 rfl 5 rfl
          have lk5_5_226 : x222.frozen? ⟨bv, 5, none⟩ = false := HO.out.frz 5 rfl 5
          have k5_6_227 : x222.cell? ⟨bv, 6, none⟩ = some (.bool false) := HO.out.cell 5 rfl 6 rfl
          have lk5_6_227 : x222.frozen? ⟨bv, 6, none⟩ = false := HO.out.frz 5 rfl 6
          have k5_7_228 : x222.cell? ⟨bv, 7, none⟩ = some (.bool false) := HO.out.cell 5 rfl 7 rfl
          have lk5_7_228 : x222.frozen? ⟨bv, 7, none⟩ = false := HO.out.frz 5 rfl 7
          have k5_8_229 : x222.cell? ⟨bv, 8, none⟩ = some (.int .i64 0) := HO.out.cell 5 rfl 8 rfl
          have lk5_8_229 : x222.frozen? ⟨bv, 8, none⟩ = false := HO.out.frz 5 rfl 8
          obtain ⟨x230, hx230⟩ : ∃ y, x222.setCell ⟨bv, 2, none⟩ (.int .i64 yhp) = y := ⟨_, rfl⟩
          have hO := HO.out.setCell 5 rfl 2 (.int .i64 yhp)
          rw [hx230] at hO
          replace HO := Lib.hid (show Own w none0 x230 [rowRl (.slice ua an uc) A, rowRl u6 rl, resF f st, rowFl (.slice fa fn fc) fs, rowI (.slice ia fn ic) la, blkR bv (.cells #[.int .i64 ypr, .int .i64 yhe, .int .i64 yhp, .int .i64 0, .int .i64 0, .bool false, .bool false, .bool false, .int .i64 0] 41)] from hO)
          clear hO
          have k5_3_231 : x230.cell? ⟨bv, 3, none⟩ = some (.int .i64 0) := HO.out.cell 5 rfl 3 rfl
          have lk5_3_231 : x230.frozen? ⟨bv, 3, none⟩ = false := HO.out.frz 5 rfl 3
          have k5_4_232 : x230.cell? ⟨bv, 4, none⟩ = some (.int .i64 0) := HO.out.cell 5 rfl 4 rfl
          have lk5_4_232 : x230.frozen? ⟨bv, 4, none⟩ = false := HO.out.frz 5 rfl 4
          have k5_5_233 : x230.cell? ⟨bv, 5, none⟩ = some (.bool false) := HO.out.cell 5 rfl 5 rfl
          have lk5_5_233 : x230.frozen? ⟨bv, 5, none⟩ = false := HO.out.frz 5 rfl 5
          have k5_6_234 : x230.cell? ⟨bv, 6, none⟩ = some (.bool false) := HO.out.cell 5 rfl 6 rfl
          have lk5_6_234 : x230.frozen? ⟨bv, 6, none⟩ = false := HO.out.frz 5 rfl 6
          have k5_7_235 : x230.cell? ⟨bv, 7, none⟩ = some (.bool false) := HO.out.cell 5 rfl 7 rfl
          have lk5_7_235 : x230.frozen? ⟨bv, 7, none⟩ = false := HO.out.frz 5 rfl 7
          have k5_8_236 : x230.cell? ⟨bv, 8, none⟩ = some (.int .i64 0) := HO.out.cell 5 rfl 8 rfl
          have lk5_8_236 : x230.frozen? ⟨bv, 8, none⟩ = false := HO.out.frz 5 rfl 8
          obtain ⟨x237, hx237⟩ : ∃ y, x230.setCell ⟨bv, 3, none⟩ (.int .i64 yth) = y := ⟨_, rfl⟩
          have hO := HO.out.setCell 5 rfl 3 (.int .i64 yth)
          rw [hx237] at hO
          replace HO := Lib.hid (show Own w none0 x237 [rowRl (.slice ua an uc) A, rowRl u6 rl, resF f st, rowFl (.slice fa fn fc) fs, rowI (.slice ia fn ic) la, blkR bv (.cells #[.int .i64 ypr, .int .i64 yhe, .int .i64 yhp, .int .i64 yth, .int .i64 0, .bool false, .bool false, .bool false, .int .i64 0] 41)] from hO)
          clear hO
          have k5_4_238 : x237.cell? ⟨bv, 4, none⟩ = some (.int .i64 0) := HO.out.cell 5 rfl 4 rfl
          have lk5_4_238 : x237.frozen? ⟨bv, 4, none⟩ = false := HO.out.frz 5 rfl 4
          have k5_5_239 : x237.cell? ⟨bv, 5, none⟩ = some (.bool false) := HO.out.cell 5 rfl 5 rfl
          have lk5_5_239 : x237.frozen? ⟨bv, 5, none⟩ = false := HO.out.frz 5 rfl 5
          have k5_6_240 : x237.cell? ⟨bv, 6, none⟩ = some (.bool false) := HO.out.cell 5 rfl 6 rfl
          have lk5_6_240 : x237.frozen? ⟨bv, 6, none⟩ = false := HO.out.frz 5 rfl 6
          have k5_7_241 : x237.cell? ⟨bv, 7, none⟩ = some (.bool false) := HO.out.cell 5 rfl 7 rfl
          have lk5_7_241 : x237.frozen? ⟨bv, 7, none⟩ = false := HO.out.frz 5 rfl 7
          have k5_8_242 : x237.cell? ⟨bv, 8, none⟩ = some (.int .i64 0) := HO.out.cell 5 rfl 8 rfl
          have lk5_8_242 : x237.frozen? ⟨bv, 8, none⟩ = false := HO.out.frz 5 rfl 8
          obtain ⟨x243, hx243⟩ : ∃ y, x237.setCell ⟨bv, 4, none⟩ (.int .i64 ytp) = y := ⟨_, rfl⟩
          have hO := HO.out.setCell 5 rfl 4 (.int .i64 ytp)
          rw [hx243] at hO
          replace HO := Lib.hid (show Own w none0 x243 [rowRl (.slice ua an uc) A, rowRl u6 rl, resF f st, rowFl (.slice fa fn fc) fs, rowI (.slice ia fn ic) la, blkR bv (.cells #[.int .i64 ypr, .int .i64 yhe, .int .i64 yhp, .int .i64 yth, .int .i64 ytp, .bool false, .bool false, .bool false, .int .i64 0] 41)] from hO)
          clear hO
          have k5_5_244 : x243.cell? ⟨bv, 5, none⟩ = some (.bool false) := HO.out.cell 5 rfl 5 rfl
          have lk5_5_244 : x243.frozen? ⟨bv, 5, none⟩ = false := HO.out.frz 5 rfl 5
          have k5_6_245 : x243.cell? ⟨bv, 6, none⟩ = some (.bool false) := HO.out.cell 5 rfl 6 rfl
          have lk5_6_245 : x243.frozen? ⟨bv, 6, none⟩ = false := HO.out.frz 5 rfl 6
          have k5_7_246 : x243.cell? ⟨bv, 7, none⟩ = some (.bool false) := HO.out.cell 5 rfl 7 rfl
          have lk5_7_246 : x243.frozen? ⟨bv, 7, none⟩ = false := HO.out.frz 5 rfl 7
          have k5_8_247 : x243.cell? ⟨bv, 8, none⟩ = some (.int .i64 0) := HO.out.cell 5 rfl 8 rfl
          have lk5_8_247 : x243.frozen? ⟨bv, 8, none⟩ = false := HO.out.frz 5 rfl 8
          obtain ⟨x248, hx248⟩ : ∃ y, x243.setCell ⟨bv, 5, none⟩ (.bool ysy) = y := ⟨_, rfl⟩
          have hO := HO.out.setCell 5 rfl 5 (.bool ysy)
          rw [hx248] at hO
          replace HO := Lib.hid (show Own w none0 x248 [rowRl (.slice ua an uc) A, rowRl u6 rl, resF f st, rowFl (.slice fa fn fc) fs, rowI (.slice ia fn ic) la, blkR bv (.cells #[.int .i64 ypr, .int .i64 yhe, .int .i64 yhp, .int .i64 yth, .int .i64 ytp, .bool ysy, .bool false, .bool false, .int .i64 0] 41)] from hO)
          clear hO
          have k5_6_249 : x248.cell? ⟨bv, 6, none⟩ = some (.bool false) := HO.out.cell 5 rfl 6 rfl
          have lk5_6_249 : x248.frozen? ⟨bv, 6, none⟩ = false := HO.out.frz 5 rfl 6
          have k5_7_250 : x248.cell? ⟨bv, 7, none⟩ = some (.bool false) := HO.out.cell 5 rfl 7 rfl
          have lk5_7_250 : x248.frozen? ⟨bv, 7, none⟩ = false := HO.out.frz 5 rfl 7
          have k5_8_251 : x248.cell? ⟨bv, 8, none⟩ = some (.int .i64 0) := HO.out.cell 5 rfl 8 rfl
          have lk5_8_251 : x248.frozen? ⟨bv, 8, none⟩ = false := HO.out.frz 5 rfl 8
          obtain ⟨x252, hx252⟩ : ∃ y, x248.setCell ⟨bv, 6, none⟩ (.bool yfi) = y := ⟨_, rfl⟩
          have hO := HO.out.setCell 5 rfl 6 (.bool yfi)
          rw [hx252] at hO
          replace HO := Lib.hid (show Own w none0 x252 [rowRl (.slice ua an uc) A, rowRl u6 rl, resF f st, rowFl (.slice fa fn fc) fs, rowI (.slice ia fn ic) la, blkR bv (.cells #[.int .i64 ypr, .int .i64 yhe, .int .i64 yhp, .int .i64 yth, .int .i64 ytp, .bool ysy, .bool yfi, .bool false, .int .i64 0] 41)] from hO)
          clear hO
          have k5_7_253 : x252.cell? ⟨bv, 7, none⟩ = some (.bool false) := HO.out.cell 5 rfl 7 rfl
          have lk5_7_253 : x252.frozen? ⟨bv, 7, none⟩ = false := HO.out.frz 5 rfl 7
          have k5_8_254 : x252.cell? ⟨bv, 8, none⟩ = some (.int .i64 0) := HO.out.cell 5 rfl 8 rfl
          have lk5_8_254 : x252.frozen? ⟨bv, 8, none⟩ = false := HO.out.frz 5 rfl 8
          obtain ⟨x255, hx255⟩ : ∃ y, x252.setCell ⟨bv, 7, none⟩ (.bool yrs) = y := ⟨_, rfl⟩
          have hO := HO.out.setCell 5 rfl 7 (.bool yrs)
          rw [hx255] at hO
          replace HO := Lib.hid (show Own w none0 x255 [rowRl (.slice ua an uc) A, rowRl u6 rl, resF f st, rowFl (.slice fa fn fc) fs, rowI (.slice ia fn ic) la, blkR bv (.cells #[.int .i64 ypr, .int .i64 yhe, .int .i64 yhp, .int .i64 yth, .int .i64 ytp, .bool ysy, .bool yfi, .bool yrs, .int .i64 0] 41)] from hO)
          clear hO
          have k5_8_256 : x255.cell? ⟨bv, 8, none⟩ = some (.int .i64 0) := HO.out.cell 5 rfl 8 rfl
          have lk5_8_256 : x255.frozen? ⟨bv, 8, none⟩ = false := HO.out.frz 5 rfl 8
          obtain ⟨x257, hx257⟩ : ∃ y, x255.setCell ⟨bv, 8, none⟩ (.int .i64 ysq) = y := ⟨_, rfl⟩
          have hO := HO.out.setCell 5 rfl 8 (.int .i64 ysq)
          rw [hx257] at hO
          replace HO := Lib.hid (show Own w none0 x257 [rowRl (.slice ua an uc) A, rowRl u6 rl, resF f st, rowFl (.slice fa fn fc) fs, rowI (.slice ia fn ic) la, blkR bv (.cells #[.int .i64 ypr, .int .i64 yhe, .int .i64 yhp, .int .i64 yth, .int .i64 ytp, .bool ysy, .bool yfi, .bool yrs, .int .i64 ysq] 41)] from hO)
          clear hO
          clear y0 y1 y2 y3 y4 y5
          go_wp2
          clear hx203 hbv k5_0_204 lk5_0_204 k5_1_205 lk5_1_205 k5_2_206 lk5_2_206 k5_3_207 lk5_3_207 k5_4_208 lk5_4_208 k5_5_209 lk5_5_209 k5_6_210 lk5_6_210 k5_7_211 lk5_7_211 k5_8_212 lk5_8_212 hx213 k5_1_214 lk5_1_214 k5_2_215 lk5_2_215 k5_3_216 lk5_3_216 k5_4_217 lk5_4_217 k5_5_218 lk5_5_218 k5_6_219 lk5_6_219 k5_7_220 lk5_7_220 k5_8_221 lk5_8_221 hx222 k5_2_223 lk5_2_223 k5_3_224 lk5_3_224 k5_4_225 lk5_4_225 k5_5_226 lk5_5_226 k5_6_227 lk5_6_227 k5_7_228 lk5_7_228 k5_8_229 lk5_8_229 hx230 k5_3_231 lk5_3_231 k5_4_232 lk5_4_232 k5_5_233 lk5_5_233 k5_6_234 lk5_6_234 k5_7_235 lk5_7_235 k5_8_236 lk5_8_236 hx237 k5_4_238 lk5_4_238 k5_5_239 lk5_5_239 k5_6_240 lk5_6_240 k5_7_241 lk5_7_241 k5_8_242 lk5_8_242 hx243 k5_5_244 lk5_5_244 k5_6_245 lk5_6_245 k5_7_246 lk5_7_246 k5_8_247 lk5_8_247 hx248 k5_6_249 lk5_6_249 k5_7_250 lk5_7_250 k5_8_251 lk5_8_251 hx252 k5_7_253 lk5_7_253 k5_8_254 lk5_8_254 hx255 k5_8_256 lk5_8_256 hx257
          go_loopw [16, 17] (fun kk j wr => ∃ j2 : Nat, j2 ≤ fn ∧ j = .int .i64 j2 ∧ kk = .int .i64 (ixTo (keyF ⟨ypr, yhe, yhp, yth, ytp, ysy, yfi, yrs, ysq⟩) fs j2) ∧ Own w none0 wr [rowRl (.slice ua an uc) A, rowRl u6 rl, resF f st, rowFl (.slice fa fn fc) fs, rowI (.slice ia fn ic) la, blkR bv (.cells #[.int .i64 ypr, .int .i64 yhe, .int .i64 yhp, .int .i64 yth, .int .i64 ytp, .bool ysy, .bool yfi, .bool yrs, .int .i64 ysq] 41)]) (fun _ j _ => fn - (intOf j).toNat)
          case atStart => exact ⟨0, Nat.zero_le _, rfl, rfl, HO.out⟩
          case round =>
            obtain ⟨j2, hj, rfl, rfl, hO⟩ := hrel
            replace HO := Lib.hid hO
            clear hO
            by_cases hjl : j2 < fn
            · have hrw := HO.out.row 3 rfl
              rw [HFN.out] at hrw
              obtain ⟨gf, rfl, hc⟩ := row_sl (c := cFl) (fun x => rfl) hrw HFN.out (by omega)
              clear hrw
              have hkA : j2 < fs.length := by have := HFN.out; omega
              have hc := hc j2 hkA
              have HFG := Lib.hid (List.getElem?_eq_getElem hkA)
              generalize fs[j2] = fj at *
              obtain ⟨epr, ehe, ehp, eth, etp, esy, efi, ers, esq⟩ := fj
              have ecell : ∀ j u, j < 9 → (cFl ⟨epr, ehe, ehp, eth, etp, esy, efi, ers, esq⟩)[j]? = some u → wr.cell? ⟨gf, j2 * 9 + j, none⟩ = some u := fun j u hj hu => (hc j hj).trans hu
              clear hc hkA
              go_wp2
              have e0 := cell_regrown (show wr.cell? ⟨gf, j2 * 9, none⟩ = some (.int .i64 epr) from ecell 0 _ (by decide) rfl)
              have e1 := cell_regrown (show wr.cell? ⟨gf, j2 * 9 + 1, none⟩ = some (.int .i64 ehe) from ecell 1 _ (by decide) rfl)
              have e2 := cell_regrown (show wr.cell? ⟨gf, j2 * 9 + 2, none⟩ = some (.int .i64 ehp) from ecell 2 _ (by decide) rfl)
              have e3 := cell_regrown (show wr.cell? ⟨gf, j2 * 9 + 3, none⟩ = some (.int .i64 eth) from ecell 3 _ (by decide) rfl)
              have e4 := cell_regrown (show wr.cell? ⟨gf, j2 * 9 + 4, none⟩ = some (.int .i64 etp) from ecell 4 _ (by decide) rfl)
              have e5 := cell_regrown (show wr.cell? ⟨gf, j2 * 9 + 5, none⟩ = some (.bool esy) from ecell 5 _ (by decide) rfl)
              have e6 := cell_regrown (show wr.cell? ⟨gf, j2 * 9 + 6, none⟩ = some (.bool efi) from ecell 6 _ (by decide) rfl)
              have e7 := cell_regrown (show wr.cell? ⟨gf, j2 * 9 + 7, none⟩ = some (.bool ers) from ecell 7 _ (by decide) rfl)
              have e8 := cell_regrown (show wr.cell? ⟨gf, j2 * 9 + 8, none⟩ = some (.int .i64 esq) from ecell 8 _ (by decide) rfl)
              clear ecell
              have g5_0 := cell_regrown (show wr.cell? ⟨bv, 0, none⟩ = some (.int .i64 ypr) from HO.out.cell 5 rfl 0 rfl)
              have g5_1 := cell_regrown (show wr.cell? ⟨bv, 1, none⟩ = some (.int .i64 yhe) from HO.out.cell 5 rfl 1 rfl)
              have g5_2 := cell_regrown (show wr.cell? ⟨bv, 2, none⟩ = some (.int .i64 yhp) from HO.out.cell 5 rfl 2 rfl)
              have g5_3 := cell_regrown (show wr.cell? ⟨bv, 3, none⟩ = some (.int .i64 yth) from HO.out.cell 5 rfl 3 rfl)
              have g5_4 := cell_regrown (show wr.cell? ⟨bv, 4, none⟩ = some (.int .i64 ytp) from HO.out.cell 5 rfl 4 rfl)
              have g5_5 := cell_regrown (show wr.cell? ⟨bv, 5, none⟩ = some (.bool ysy) from HO.out.cell 5 rfl 5 rfl)
              have g5_6 := cell_regrown (show wr.cell? ⟨bv, 6, none⟩ = some (.bool yfi) from HO.out.cell 5 rfl 6 rfl)
              have g5_7 := cell_regrown (show wr.cell? ⟨bv, 7, none⟩ = some (.bool yrs) from HO.out.cell 5 rfl 7 rfl)
              have g5_8 := cell_regrown (show wr.cell? ⟨bv, 8, none⟩ = some (.int .i64 ysq) from HO.out.cell 5 rfl 8 rfl)
              cases hd : decide (keyF ⟨epr, ehe, ehp, eth, etp, esy, efi, ers, esq⟩ = keyF ⟨ypr, yhe, yhp, yth, ytp, ysy, yfi, yrs, ysq⟩) with
              | true =>
                have HIX := Lib.hid (ixTo_yes HFG.out (of_decide_eq_true hd))
                refine wp_region_R 7 (by kernel_rfl) (by kernel_rfl) ?_
                simp only [List.take, List.drop]
                iterate 5 (first | (refine wpR_want (by kernel_rfl) rfl rfl ?_; intro K hK; go_big_quiet_op; go_big_quiet_on) | (refine wpR_is (by kernel_rfl) rfl _ (fun w _ => rfl) ?_; simp only [Act.put, List.setIfInBounds_toArray, List.set_cons_succ, List.set_cons_zero]))
                refine wpR_call (by kernel_rfl) rfl 12 #[flV ⟨epr, ehe, ehp, eth, etp, esy, efi, ers, esq⟩, flV ⟨ypr, yhe, yhp, yth, ytp, ysy, yfi, yrs, ysq⟩] (.int .i64 1) (fun w => by simp [go_sem]) (fun w _ => five_r hd w) ?_
                simp only [Act.put, List.setIfInBounds_toArray, List.set_cons_succ, List.set_cons_zero]
                iterate 1 (first | (refine wpR_want (by kernel_rfl) rfl rfl ?_; intro K hK; go_big_quiet_op; go_big_quiet_on) | (refine wpR_is (by kernel_rfl) rfl _ (fun w _ => rfl) ?_; simp only [Act.put, List.setIfInBounds_toArray, List.set_cons_succ, List.set_cons_zero]))
                refine wpR_nil (by kernel_rfl) (by simp) ?_
                rintro xg hbw
                simp only [exAll]
                simp only [List.drop]
                have hO := HO.out.stay hbw
                replace HO := Lib.hid (show Own w none0 xg [rowRl (.slice ua an uc) A, rowRl u6 rl, resF f st, rowFl (.slice (some ⟨gf, 0, none⟩) fn fc) fs, rowI (.slice ia fn ic) la, blkR bv (.cells #[.int .i64 ypr, .int .i64 yhe, .int .i64 yhp, .int .i64 yth, .int .i64 ytp, .bool ysy, .bool yfi, .bool yrs, .int .i64 ysq] 41)] from hO)
                clear hO hbw g5_0 g5_1 g5_2 g5_3 g5_4 g5_5 g5_6 g5_7 g5_8 e0 e1 e2 e3 e4 e5 e6 e7 e8 hd
                go_wp2
                go_roundw
                case rel => exact ⟨j2 + 1, by omega, by go_num, by rw [HIX.out], HO.out⟩
                case measure => simp [intOf]; omega
              | false =>
                have HIX := Lib.hid (ixTo_no HFG.out (of_decide_eq_false hd))
                refine wp_region_R 7 (by kernel_rfl) (by kernel_rfl) ?_
                simp only [List.take, List.drop]
                iterate 5 (first | (refine wpR_want (by kernel_rfl) rfl rfl ?_; intro K hK; go_big_quiet_op; go_big_quiet_on) | (refine wpR_is (by kernel_rfl) rfl _ (fun w _ => rfl) ?_; simp only [Act.put, List.setIfInBounds_toArray, List.set_cons_succ, List.set_cons_zero]))
                refine wpR_call (by kernel_rfl) rfl 12 #[flV ⟨epr, ehe, ehp, eth, etp, esy, efi, ers, esq⟩, flV ⟨ypr, yhe, yhp, yth, ytp, ysy, yfi, yrs, ysq⟩] (.int .i64 0) (fun w => by simp [go_sem]) (fun w _ => five_r hd w) ?_
                simp only [Act.put, List.setIfInBounds_toArray, List.set_cons_succ, List.set_cons_zero]
                iterate 1 (first | (refine wpR_want (by kernel_rfl) rfl rfl ?_; intro K hK; go_big_quiet_op; go_big_quiet_on) | (refine wpR_is (by kernel_rfl) rfl _ (fun w _ => rfl) ?_; simp only [Act.put, List.setIfInBounds_toArray, List.set_cons_succ, List.set_cons_zero]))
                refine wpR_nil (by kernel_rfl) (by simp) ?_
                rintro xg hbw
                simp only [exAll]
                simp only [List.drop]
                have hO := HO.out.stay hbw
                replace HO := Lib.hid (show Own w none0 xg [rowRl (.slice ua an uc) A, rowRl u6 rl, resF f st, rowFl (.slice (some ⟨gf, 0, none⟩) fn fc) fs, rowI (.slice ia fn ic) la, blkR bv (.cells #[.int .i64 ypr, .int .i64 yhe, .int .i64 yhp, .int .i64 yth, .int .i64 ytp, .bool ysy, .bool yfi, .bool yrs, .int .i64 ysq] 41)] from hO)
                clear hO hbw g5_0 g5_1 g5_2 g5_3 g5_4 g5_5 g5_6 g5_7 g5_8 e0 e1 e2 e3 e4 e5 e6 e7 e8 hd
                go_wp2
                go_roundw
                case rel => exact ⟨j2 + 1, by omega, by go_num, by rw [HIX.out], HO.out⟩
                case measure => simp [intOf]; omega
            · have hje : fn = j2 := by omega
              subst hje
              have HIXL := Lib.hid (show ixTo (keyF ⟨ypr, yhe, yhp, yth, ytp, ysy, yfi, yrs, ysq⟩) fs fs.length = ixTo (keyF ⟨ypr, yhe, yhp, yth, ytp, ysy, yfi, yrs, ysq⟩) fs fn by rw [HFN.out])
              obtain ⟨kk, hkk⟩ : ∃ kk, ixTo (keyF ⟨ypr, yhe, yhp, yth, ytp, ysy, yfi, yrs, ysq⟩) fs fn = kk := ⟨_, rfl⟩
              rw [hkk] at HIXL ⊢
              clear hkk
              have y0 : wr.cell? ⟨b, o + k2 * 6, none⟩ = some (.int .i64 zqho) := keep HO.out.below HV0.out
              go_wp2_with fail
              refine (o_still HO.out (P3.out _)).mono ?_
              rintro e x401 ⟨rfl, hO, -⟩
              replace HO := Lib.hid (show Own w none0 x401 [rowRl (.slice ua an uc) A, rowRl u6 rl, resF f st, rowFl (.slice fa fn fc) fs, rowI (.slice ia fn ic) la, blkR bv (.cells #[.int .i64 ypr, .int .i64 yhe, .int .i64 yhp, .int .i64 yth, .int .i64 ytp, .bool ysy, .bool yfi, .bool yrs, .int .i64 ysq] 41)] from hO)
              clear hO
              clear y0
              have HNN := Lib.hid (show nw ≤ nw + pa by omega)
              have HN0 := Lib.hid (show (0:Int) ≤ nw + pa by omega)
              have HLT := Lib.hid (show st.m.length < 32 by have := HI.out.len; omega)
              cases hcm : (ph == 0) with
              | true =>
                have z5_0 : x401.cell? ⟨bv, 0, none⟩ = some (.int .i64 ypr) := HO.out.cell 5 rfl 0 rfl
                have z5_1 : x401.cell? ⟨bv, 1, none⟩ = some (.int .i64 yhe) := HO.out.cell 5 rfl 1 rfl
                have z5_2 : x401.cell? ⟨bv, 2, none⟩ = some (.int .i64 yhp) := HO.out.cell 5 rfl 2 rfl
                have z5_3 : x401.cell? ⟨bv, 3, none⟩ = some (.int .i64 yth) := HO.out.cell 5 rfl 3 rfl
                have z5_4 : x401.cell? ⟨bv, 4, none⟩ = some (.int .i64 ytp) := HO.out.cell 5 rfl 4 rfl
                have z5_5 : x401.cell? ⟨bv, 5, none⟩ = some (.bool ysy) := HO.out.cell 5 rfl 5 rfl
                have z5_6 : x401.cell? ⟨bv, 6, none⟩ = some (.bool yfi) := HO.out.cell 5 rfl 6 rfl
                have z5_7 : x401.cell? ⟨bv, 7, none⟩ = some (.bool yrs) := HO.out.cell 5 rfl 7 rfl
                have z5_8 : x401.cell? ⟨bv, 8, none⟩ = some (.int .i64 ysq) := HO.out.cell 5 rfl 8 rfl
                obtain ⟨⟨r, st1⟩, hdd⟩ : ∃ p, didF st 2 (nw + pa) ⟨ypr, yhe, yhp, yth, ytp, ysy, yfi, yrs, ysq⟩ = p := ⟨_, rfl⟩
                have HPS := Lib.hid (did_in (didF_R hdd HLT.out))
                have HD1 := Lib.hid hdd
                clear hdd
                go_wp2_with fail
                refine (did_f (T := nw) (N := k2) HO.out 2 rfl HD1.out HI.out.fw HLT.out (by omega) (by omega) (by unfold timeB; omega) (by unfold i64B; omega)).mono ?_
                rintro e x402 ⟨rfl, hO, -⟩
                replace HO := Lib.hid (show Own w none0 x402 [rowRl (.slice ua an uc) A, rowRl u6 rl, resF f st1, rowFl (.slice fa fn fc) fs, rowI (.slice ia fn ic) la, blkR bv (.cells #[.int .i64 ypr, .int .i64 yhe, .int .i64 yhp, .int .i64 yth, .int .i64 ytp, .bool ysy, .bool yfi, .bool yrs, .int .i64 ysq] 41)] from hO)
                clear hO
                clear z5_0 z5_1 z5_2 z5_3 z5_4 z5_5 z5_6 z5_7 z5_8
                clear HD1
                cases r with
                | false =>
                  simp only [i01_f]
                  have HK2 := Lib.hid (kn_no HI.out HNN.out HN0.out HPS.out)
                  go_wp2
                  go_roundw
                  case rel => exact ⟨k2 + 1, nw + pa, fs, la, st1, by omega, rfl, by go_num, by omega, by omega, HK2.out, HO.out.take 5⟩
                  case measure => simp [intOf]; omega
                | true =>
                  simp only [i01_t]
                  obtain ⟨j3, l3, hi1, hi2, hi3, hi4, hi5, hi6⟩ := kn_in HI.out HRI.out HPS.out
                  rw [HIXL.out] at hi1
                  rw [HFN.out] at hi2
                  subst hi1
                  have HL3 := Lib.hid hi3
                  clear hi3
                  obtain ⟨gi, rfl⟩ := row_some (show x402.ownsRow 0 3 1 (.slice ia fn ic) fn (la.map (Value.int .i64)) by have := HO.out.row 4 rfl; rwa [HLN.out] at this) (by omega)
                  have hc3 : x402.cell? ⟨gi, j3, none⟩ = some (.int .i64 l3) := (row_cells (show x402.ownsRow 0 3 1 (.slice (some ⟨gi, 0, none⟩) fn ic) fn (la.map (Value.int .i64)) by have := HO.out.row 4 rfl; rwa [HLN.out] at this)).1 j3 _ (by rw [List.getElem?_map, HL3.out]; rfl)
                  have hd4 : decide (400 < nw + pa - l3) = false := by simp; omega
                  have HK2 := Lib.hid (kn_set (j := j3) HI.out HNN.out HN0.out (by rw [HIXL.out]) HPS.out)
                  obtain ⟨x7, hx7⟩ : ∃ y, x402.setCell ⟨gi, j3, none⟩ (.int .i64 (nw + pa)) = y := ⟨_, rfl⟩
                  have hsl := row_cells (show x402.ownsRow 0 3 1 (.slice (some ⟨gi, 0, none⟩) fn ic) fn (la.map (Value.int .i64)) by have := HO.out.row 4 rfl; rwa [HLN.out] at this)
                  have z7 : x402.cell? ⟨gi, j3, none⟩ = some (.int .i64 (la.getD j3 0)) := hsl.1 j3 _ (by rw [List.getElem?_map, List.getElem?_eq_getElem (by have := HLN.out; omega)]; simp [List.getD_eq_getElem?_getD, List.getElem?_eq_getElem (show j3 < la.length by have := HLN.out; omega)])
                  have f7 : x402.frozen? ⟨gi, j3, none⟩ = false := hsl.2 j3
                  have hO := Own.rowSet (n := fn) (cap := ic) HO.out 4 (by rw [← HLN.out]; rfl) j3 (.int .i64 (nw + pa))
                  rw [hx7] at hO
                  have e1 : rowR (.slice (some ⟨gi, 0, none⟩) fn ic) 3 1 fn ((la.map (Value.int .i64)).set j3 (.int .i64 (nw + pa))) = rowI (.slice (some ⟨gi, 0, none⟩) fn ic) (la.set j3 (nw + pa)) := by
                    show _ = rowR _ _ _ _ _
                    rw [List.length_set, HLN.out, List.map_set]
                  simp only [List.set_cons_succ, List.set_cons_zero, e1] at hO
                  clear e1 hsl
                  replace HO := Lib.hid (show Own w none0 x7 [rowRl (.slice ua an uc) A, rowRl u6 rl, resF f st1, rowFl (.slice fa fn fc) fs, rowI (.slice (some ⟨gi, 0, none⟩) fn ic) (la.set j3 (nw + pa)), blkR bv (.cells #[.int .i64 ypr, .int .i64 yhe, .int .i64 yhp, .int .i64 yth, .int .i64 ytp, .bool ysy, .bool yfi, .bool yrs, .int .i64 ysq] 41)] from hO)
                  clear hO
                  go_wp2
                  go_roundw
                  case rel => exact ⟨k2 + 1, nw + pa, fs, (la.set j3 (nw + pa)), st1, by omega, rfl, by go_num, by omega, by omega, HK2.out, HO.out.take 5⟩
                  case measure => simp [intOf]; omega
              | false =>
                have z5_0 : x401.cell? ⟨bv, 0, none⟩ = some (.int .i64 ypr) := HO.out.cell 5 rfl 0 rfl
                have z5_1 : x401.cell? ⟨bv, 1, none⟩ = some (.int .i64 yhe) := HO.out.cell 5 rfl 1 rfl
                have z5_2 : x401.cell? ⟨bv, 2, none⟩ = some (.int .i64 yhp) := HO.out.cell 5 rfl 2 rfl
                have z5_3 : x401.cell? ⟨bv, 3, none⟩ = some (.int .i64 yth) := HO.out.cell 5 rfl 3 rfl
                have z5_4 : x401.cell? ⟨bv, 4, none⟩ = some (.int .i64 ytp) := HO.out.cell 5 rfl 4 rfl
                have z5_5 : x401.cell? ⟨bv, 5, none⟩ = some (.bool ysy) := HO.out.cell 5 rfl 5 rfl
                have z5_6 : x401.cell? ⟨bv, 6, none⟩ = some (.bool yfi) := HO.out.cell 5 rfl 6 rfl
                have z5_7 : x401.cell? ⟨bv, 7, none⟩ = some (.bool yrs) := HO.out.cell 5 rfl 7 rfl
                have z5_8 : x401.cell? ⟨bv, 8, none⟩ = some (.int .i64 ysq) := HO.out.cell 5 rfl 8 rfl
                obtain ⟨⟨r, st1⟩, hdd⟩ : ∃ p, didF st 0 (nw + pa) ⟨ypr, yhe, yhp, yth, ytp, ysy, yfi, yrs, ysq⟩ = p := ⟨_, rfl⟩
                have HPS := Lib.hid (did_out (didF_R hdd HLT.out))
                have HD1 := Lib.hid hdd
                clear hdd
                go_wp2_with fail
                refine (did_f (T := nw) (N := k2) HO.out 2 rfl HD1.out HI.out.fw HLT.out (by omega) (by omega) (by unfold timeB; omega) (by unfold i64B; omega)).mono ?_
                rintro e x402 ⟨rfl, hO, -⟩
                replace HO := Lib.hid (show Own w none0 x402 [rowRl (.slice ua an uc) A, rowRl u6 rl, resF f st1, rowFl (.slice fa fn fc) fs, rowI (.slice ia fn ic) la, blkR bv (.cells #[.int .i64 ypr, .int .i64 yhe, .int .i64 yhp, .int .i64 yth, .int .i64 ytp, .bool ysy, .bool yfi, .bool yrs, .int .i64 ysq] 41)] from hO)
                clear hO
                clear z5_0 z5_1 z5_2 z5_3 z5_4 z5_5 z5_6 z5_7 z5_8
                clear HD1
                cases r with
                | false =>
                  simp only [i01_f]
                  have HK2 := Lib.hid (kn_no HI.out HNN.out HN0.out HPS.out)
                  go_wp2
                  go_roundw
                  case rel => exact ⟨k2 + 1, nw + pa, fs, la, st1, by omega, rfl, by go_num, by omega, by omega, HK2.out, HO.out.take 5⟩
                  case measure => simp [intOf]; omega
                | true =>
                  simp only [i01_t]
                  rcases ixTo_spec (keyF ⟨ypr, yhe, yhp, yth, ytp, ysy, yfi, yrs, ysq⟩) fs fs.length with ⟨hi1, -⟩ | ⟨j3, hi2, hi1, -⟩
                  · have hkn : kk < 0 := by rw [← HIXL.out, hi1]; decide
                    clear hi1
                    have HK2 := Lib.hid (kn_new HI.out HNN.out HN0.out (by rw [HIXL.out]; exact hkn) HPS.out)
                    have z5_0 : x402.cell? ⟨bv, 0, none⟩ = some (.int .i64 ypr) := HO.out.cell 5 rfl 0 rfl
                    have z5_1 : x402.cell? ⟨bv, 1, none⟩ = some (.int .i64 yhe) := HO.out.cell 5 rfl 1 rfl
                    have z5_2 : x402.cell? ⟨bv, 2, none⟩ = some (.int .i64 yhp) := HO.out.cell 5 rfl 2 rfl
                    have z5_3 : x402.cell? ⟨bv, 3, none⟩ = some (.int .i64 yth) := HO.out.cell 5 rfl 3 rfl
                    have z5_4 : x402.cell? ⟨bv, 4, none⟩ = some (.int .i64 ytp) := HO.out.cell 5 rfl 4 rfl
                    have z5_5 : x402.cell? ⟨bv, 5, none⟩ = some (.bool ysy) := HO.out.cell 5 rfl 5 rfl
                    have z5_6 : x402.cell? ⟨bv, 6, none⟩ = some (.bool yfi) := HO.out.cell 5 rfl 6 rfl
                    have z5_7 : x402.cell? ⟨bv, 7, none⟩ = some (.bool yrs) := HO.out.cell 5 rfl 7 rfl
                    have z5_8 : x402.cell? ⟨bv, 8, none⟩ = some (.int .i64 ysq) := HO.out.cell 5 rfl 8 rfl
                    have rb := run_bsFl
                    obtain ⟨x403, hx403⟩ : ∃ y, x402.alloc (.cells #[.int .i64 ypr, .int .i64 yhe, .int .i64 yhp, .int .i64 yth, .int .i64 ytp, .bool ysy, .bool yfi, .bool yrs, .int .i64 ysq] 41) = y := ⟨_, rfl⟩
                    obtain ⟨bn, hbn⟩ : ∃ y, x402.heap.size = y := ⟨_, rfl⟩
                    have hO := HO.out.alloc (.cells #[.int .i64 ypr, .int .i64 yhe, .int .i64 yhp, .int .i64 yth, .int .i64 ytp, .bool ysy, .bool yfi, .bool yrs, .int .i64 ysq] 41)
                    rw [hx403, hbn] at hO
                    replace HO := Lib.hid (show Own w none0 x403 [rowRl (.slice ua an uc) A, rowRl u6 rl, resF f st1, rowFl (.slice fa fn fc) fs, rowI (.slice ia fn ic) la, blkR bv (.cells #[.int .i64 ypr, .int .i64 yhe, .int .i64 yhp, .int .i64 yth, .int .i64 ytp, .bool ysy, .bool yfi, .bool yrs, .int .i64 ysq] 41), blkR bn (.cells #[.int .i64 ypr, .int .i64 yhe, .int .i64 yhp, .int .i64 yth, .int .i64 ytp, .bool ysy, .bool yfi, .bool yrs, .int .i64 ysq] 41)] from hO)
                    clear hO
                    go_wp2_with ((at_builtin; refine (show _ = True → _ from fun h => of_eq_true h) ?_))
                    refine eq_true ?_
                    refine wpList_appO rfl (.tmp 133) (.tmp 135) 35 rfl Try.underlying35 infoFl rfl (by decide) HO.out 3 rfl rfl 6 1 1 [.int .i64 ypr, .int .i64 yhe, .int .i64 yhp, .int .i64 yth, .int .i64 ytp, .bool ysy, .bool yfi, .bool yrs, .int .i64 ysq] rfl rfl rfl (oneFl _ _ _ _ _ _ _ _ _) (by have := HFN.out; unfold maxLen; omega) (by have := HFN.out; omega) ?_
                    intro v9 x9 hO
                    clear z5_0 z5_1 z5_2 z5_3 z5_4 z5_5 z5_6 z5_7 z5_8 hx403 hbn
                    clear rb
                    have e1 : rowR v9 41 9 (fs.length + 1) (fs.flatMap cFl ++ [.int .i64 ypr, .int .i64 yhe, .int .i64 yhp, .int .i64 yth, .int .i64 ytp, .bool ysy, .bool yfi, .bool yrs, .int .i64 ysq]) = rowFl v9 (fs ++ [⟨ypr, yhe, yhp, yth, ytp, ysy, yfi, yrs, ysq⟩]) := by
                      show _ = rowR _ _ _ _ _
                      rw [List.length_append, List.flatMap_append]; rfl
                    simp only [List.set_cons_succ, List.set_cons_zero, e1] at hO
                    replace HO := Lib.hid (show Own w none0 x9 [rowRl (.slice ua an uc) A, rowRl u6 rl, resF f st1, rowFl v9 (fs ++ [⟨ypr, yhe, yhp, yth, ytp, ysy, yfi, yrs, ysq⟩]), rowI (.slice ia fn ic) la, blkR bv (.cells #[.int .i64 ypr, .int .i64 yhe, .int .i64 yhp, .int .i64 yth, .int .i64 ytp, .bool ysy, .bool yfi, .bool yrs, .int .i64 ysq] 41), blkR bn (.cells #[.int .i64 ypr, .int .i64 yhe, .int .i64 yhp, .int .i64 yth, .int .i64 ytp, .bool ysy, .bool yfi, .bool yrs, .int .i64 ysq] 41)] from hO)
                    clear hO e1
                    obtain ⟨x404, hx404⟩ : ∃ y, x9.alloc (.cells #[.int .i64 (nw + pa)] 3) = y := ⟨_, rfl⟩
                    obtain ⟨bm, hbm⟩ : ∃ y, x9.heap.size = y := ⟨_, rfl⟩
                    have hO := HO.out.alloc (.cells #[.int .i64 (nw + pa)] 3)
                    rw [hx404, hbm] at hO
                    replace HO := Lib.hid (show Own w none0 x404 [rowRl (.slice ua an uc) A, rowRl u6 rl, resF f st1, rowFl v9 (fs ++ [⟨ypr, yhe, yhp, yth, ytp, ysy, yfi, yrs, ysq⟩]), rowI (.slice ia fn ic) la, blkR bv (.cells #[.int .i64 ypr, .int .i64 yhe, .int .i64 yhp, .int .i64 yth, .int .i64 ytp, .bool ysy, .bool yfi, .bool yrs, .int .i64 ysq] 41), blkR bn (.cells #[.int .i64 ypr, .int .i64 yhe, .int .i64 yhp, .int .i64 yth, .int .i64 ytp, .bool ysy, .bool yfi, .bool yrs, .int .i64 ysq] 41), blkR bm (.cells #[.int .i64 (nw + pa)] 3)] from hO)
                    clear hO
                    go_wp2_with ((at_builtin; refine (show _ = True → _ from fun h => of_eq_true h) ?_))
                    refine eq_true ?_
                    refine wpList_appO rfl (.tmp 137) (.tmp 139) 36 rfl Try.underlying36 infoI1 rfl (by decide) HO.out 4 rfl rfl 7 1 1 [.int .i64 (nw + pa)] rfl rfl rfl (oneI1 _) (by have := HLN.out; unfold maxLen; omega) (by have := HLN.out; omega) ?_
                    intro v8 x8 hO
                    clear hx404 hbm
                    have e1 : rowR v8 3 1 (la.length + 1) (la.map (Value.int .i64) ++ [.int .i64 (nw + pa)]) = rowI v8 (la ++ [nw + pa]) := by
                      show _ = rowR _ _ _ _ _
                      rw [List.length_append, List.map_append]; rfl
                    simp only [List.set_cons_succ, List.set_cons_zero, e1] at hO
                    replace HO := Lib.hid (show Own w none0 x8 [rowRl (.slice ua an uc) A, rowRl u6 rl, resF f st1, rowFl v9 (fs ++ [⟨ypr, yhe, yhp, yth, ytp, ysy, yfi, yrs, ysq⟩]), rowI v8 (la ++ [nw + pa]), blkR bv (.cells #[.int .i64 ypr, .int .i64 yhe, .int .i64 yhp, .int .i64 yth, .int .i64 ytp, .bool ysy, .bool yfi, .bool yrs, .int .i64 ysq] 41), blkR bn (.cells #[.int .i64 ypr, .int .i64 yhe, .int .i64 yhp, .int .i64 yth, .int .i64 ytp, .bool ysy, .bool yfi, .bool yrs, .int .i64 ysq] 41), blkR bm (.cells #[.int .i64 (nw + pa)] 3)] from hO)
                    clear hO e1
                    go_wp2
                    go_roundw
                    case rel => exact ⟨k2 + 1, nw + pa, (fs ++ [(⟨ypr, yhe, yhp, yth, ytp, ysy, yfi, yrs, ysq⟩ : Fl)]), (la ++ [nw + pa]), st1, by omega, rfl, by go_num, by omega, by omega, HK2.out, HO.out.take 5⟩
                    case measure => simp [intOf]; omega
                  · rw [HIXL.out] at hi1
                    rw [HFN.out] at hi2
                    subst hi1
                    obtain ⟨gi, rfl⟩ := row_some (show x402.ownsRow 0 3 1 (.slice ia fn ic) fn (la.map (Value.int .i64)) by have := HO.out.row 4 rfl; rwa [HLN.out] at this) (by omega)
                    have HK2 := Lib.hid (kn_set (j := j3) HI.out HNN.out HN0.out (by rw [HIXL.out]) HPS.out)
                    obtain ⟨x7, hx7⟩ : ∃ y, x402.setCell ⟨gi, j3, none⟩ (.int .i64 (nw + pa)) = y := ⟨_, rfl⟩
                    have hsl := row_cells (show x402.ownsRow 0 3 1 (.slice (some ⟨gi, 0, none⟩) fn ic) fn (la.map (Value.int .i64)) by have := HO.out.row 4 rfl; rwa [HLN.out] at this)
                    have z7 : x402.cell? ⟨gi, j3, none⟩ = some (.int .i64 (la.getD j3 0)) := hsl.1 j3 _ (by rw [List.getElem?_map, List.getElem?_eq_getElem (by have := HLN.out; omega)]; simp [List.getD_eq_getElem?_getD, List.getElem?_eq_getElem (show j3 < la.length by have := HLN.out; omega)])
                    have f7 : x402.frozen? ⟨gi, j3, none⟩ = false := hsl.2 j3
                    have hO := Own.rowSet (n := fn) (cap := ic) HO.out 4 (by rw [← HLN.out]; rfl) j3 (.int .i64 (nw + pa))
                    rw [hx7] at hO
                    have e1 : rowR (.slice (some ⟨gi, 0, none⟩) fn ic) 3 1 fn ((la.map (Value.int .i64)).set j3 (.int .i64 (nw + pa))) = rowI (.slice (some ⟨gi, 0, none⟩) fn ic) (la.set j3 (nw + pa)) := by
                      show _ = rowR _ _ _ _ _
                      rw [List.length_set, HLN.out, List.map_set]
                    simp only [List.set_cons_succ, List.set_cons_zero, e1] at hO
                    clear e1 hsl
                    replace HO := Lib.hid (show Own w none0 x7 [rowRl (.slice ua an uc) A, rowRl u6 rl, resF f st1, rowFl (.slice fa fn fc) fs, rowI (.slice (some ⟨gi, 0, none⟩) fn ic) (la.set j3 (nw + pa)), blkR bv (.cells #[.int .i64 ypr, .int .i64 yhe, .int .i64 yhp, .int .i64 yth, .int .i64 ytp, .bool ysy, .bool yfi, .bool yrs, .int .i64 ysq] 41)] from hO)
                    clear hO
                    go_wp2
                    go_roundw
                    case rel => exact ⟨k2 + 1, nw + pa, fs, (la.set j3 (nw + pa)), st1, by omega, rfl, by go_num, by omega, by omega, HK2.out, HO.out.take 5⟩
                    case measure => simp [intOf]; omega
        · have hke : k2 = min m 30 := by omega
          by_cases h1 : k2 < m
          · have h2 : ¬ (k2 : Int) < 30 := by omega
            clear hlt hke
            go_wp2
            go_ret
            exact ⟨rfl, HO.out.below⟩
          · clear hlt hke
            go_wp2
            go_ret
            exact ⟨rfl, HO.out.below⟩

end Go.Proofs.Ythhoknhjbkkflaa
