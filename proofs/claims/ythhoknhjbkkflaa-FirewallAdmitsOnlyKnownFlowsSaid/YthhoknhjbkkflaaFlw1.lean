/- Contracts of the laws' helpers of chapter 22: pick, five, FlowFrom. Printed by wip/tools/gen22j.py. -/
import Derived.Test.YthhoknhjbkkflaaFdat
import Derived.Test.YthhoknhjbkkflaaTbl
namespace Go.Proofs.Ythhoknhjbkkflaa
open Go.RowKit Go.Sort
set_option linter.unusedVariables false

theorem ret_i64' {a b : Int} (h : a = b) : Ending.returned (.int .i64 a) = .returned (.int .i64 b) := by rw [h]
def pk (c n : Int) : Int := (if c < 0 then -(c + 1) else c) % n
theorem pk_bd (c n : Int) (h : 0 < n) : 0 ≤ pk c n ∧ pk c n < n := by
  unfold pk; exact ⟨Int.emod_nonneg _ (by omega), Int.emod_lt_of_pos _ h⟩
theorem pick_any (c n : Int) (w : World) (hc : -9223372036854775808 ≤ c ∧ c ≤ 9223372036854775807) (hn : 0 < n) :
    Calls Try.prog 10 #[.int .i64 c, .int .i64 n] w fun e w' => e = .returned (.int .i64 (pk c n)) ∧ w = w' := by
  obtain ⟨hc1, hc2⟩ := hc
  have hz : (n == 0) = false := by simp; omega
  by_cases h : c < 0
  · have HP := Lib.hid (show pk c n = (-(c + 1)) % n by simp [pk, h])
    go_enter Try.func10, Try.ntmps10
    go_wp2
    all_goals go_ret
    all_goals exact ⟨ret_i64' (by rw [HP.out, ← Int.neg_tmod, Int.tmod_eq_emod_of_nonneg (by omega)]), rfl⟩
  · have HP := Lib.hid (show pk c n = c % n by simp [pk, h])
    go_enter Try.func10, Try.ntmps10
    go_wp2
    all_goals go_ret
    all_goals exact ⟨ret_i64' (by rw [HP.out]), rfl⟩
theorem pick_b (c n : Int) (w : World) (hc : -9223372036854775808 ≤ c ∧ c ≤ 9223372036854775807) (hn : 0 < n) :
    Calls Try.prog 10 #[.int .i64 c, .int .i64 n] w fun e w' => e = .returned (.int .i64 (pk c n)) ∧ Below w.heap.size w w' := (pick_any c n w hc hn).mono fun e w' ⟨h1, h2⟩ => ⟨h1, h2 ▸ Below.refl _ _⟩
def i64B (n : Int) : Prop := -9223372036854775808 ≤ n ∧ n ≤ 9223372036854775807
def i01 (b : Bool) : Int := if b then 1 else 0
theorem i01_t : i01 true = 1 := rfl
theorem i01_f : i01 false = 0 := rfl
structure Fw where
  ho : Int
  pr : Int
  po : Int
  th : Int
  fl : Int
  af : Int
abbrev fwA (x : Fw) : Array Value := #[.int .i64 x.ho, .int .i64 x.pr, .int .i64 x.po, .int .i64 x.th, .int .i64 x.fl, .int .i64 x.af]
abbrev fwV (x : Fw) : Value := .agg (fwA x)
structure FwOk (x : Fw) : Prop where
  ho : i64B x.ho
  pr : i64B x.pr
  po : i64B x.po
  th : i64B x.th
  fl : i64B x.fl
  af : i64B x.af
def flowF (x : Fw) : Fl := ⟨tabI [6, 6, 17, 1] (pk x.pr 4), 167772170, tabI [5000, 80, 5001] (pk x.po 3), 167772161 + pk x.th 7, tabI [80, 5000, 79] (pk (x.po.tdiv 3) 3), pk x.fl 6 == 1, pk x.fl 6 == 2, pk x.fl 6 == 3, 0⟩
theorem tdiv3_bd {n : Int} (h : i64B n) : i64B (n.tdiv 3) := by
  unfold i64B at *
  rcases Int.le_total 0 n with h0 | h0
  · rw [Int.tdiv_eq_ediv_of_nonneg h0]; omega
  · obtain ⟨m, rfl⟩ : ∃ m : Int, n = -m := ⟨-n, by omega⟩
    rw [Int.neg_tdiv, Int.tdiv_eq_ediv_of_nonneg (by omega)]; omega
theorem five_any (a b : Fl) (w : World) : Calls Try.prog 12 #[flV a, flV b] w fun e w' => e = .returned (.int .i64 (i01 (decide (keyF a = keyF b)))) ∧ Below w.heap.size w w' := by
  obtain ⟨apr, ahe, ahp, ath, atp, asy, afi, ars, asq⟩ := a
  obtain ⟨bpr, bhe, bhp, bth, btp, bsy, bfi, brs, bsq⟩ := b
  have HD := Lib.hid (show decide (keyF ⟨apr, ahe, ahp, ath, atp, asy, afi, ars, asq⟩ = keyF ⟨bpr, bhe, bhp, bth, btp, bsy, bfi, brs, bsq⟩) = ((apr == bpr) && (ahe == bhe) && (ahp == bhp) && (ath == bth) && (atp == btp)) by rw [Bool.eq_iff_iff]; simp [keyF, and_assoc])
  obtain ⟨r, hr⟩ : ∃ r, decide (keyF ⟨apr, ahe, ahp, ath, atp, asy, afi, ars, asq⟩ = keyF ⟨bpr, bhe, bhp, bth, btp, bsy, bfi, brs, bsq⟩) = r := ⟨_, rfl⟩
  rw [hr] at HD ⊢
  clear hr
  have HO := Lib.hid (show Own w none0 w [] from Own.nil w none0)
  obtain ⟨x1, hx1⟩ : ∃ y, w.alloc (.cells #[.int .i64 apr, .int .i64 ahe, .int .i64 ahp, .int .i64 ath, .int .i64 atp, .bool asy, .bool afi, .bool ars, .int .i64 asq] 41) = y := ⟨_, rfl⟩
  obtain ⟨ba, hba⟩ : ∃ y, w.heap.size = y := ⟨_, rfl⟩
  have hO := HO.out.alloc (.cells #[.int .i64 apr, .int .i64 ahe, .int .i64 ahp, .int .i64 ath, .int .i64 atp, .bool asy, .bool afi, .bool ars, .int .i64 asq] 41)
  rw [hx1, hba] at hO
  replace HO := Lib.hid (show Own w none0 x1 [blkR ba (.cells #[.int .i64 apr, .int .i64 ahe, .int .i64 ahp, .int .i64 ath, .int .i64 atp, .bool asy, .bool afi, .bool ars, .int .i64 asq] 41)] from hO)
  clear hO
  obtain ⟨x2, hx2⟩ : ∃ y, x1.alloc (.cells #[.int .i64 bpr, .int .i64 bhe, .int .i64 bhp, .int .i64 bth, .int .i64 btp, .bool bsy, .bool bfi, .bool brs, .int .i64 bsq] 41) = y := ⟨_, rfl⟩
  obtain ⟨bb, hbb⟩ : ∃ y, x1.heap.size = y := ⟨_, rfl⟩
  have hO := HO.out.alloc (.cells #[.int .i64 bpr, .int .i64 bhe, .int .i64 bhp, .int .i64 bth, .int .i64 btp, .bool bsy, .bool bfi, .bool brs, .int .i64 bsq] 41)
  rw [hx2, hbb] at hO
  replace HO := Lib.hid (show Own w none0 x2 [blkR ba (.cells #[.int .i64 apr, .int .i64 ahe, .int .i64 ahp, .int .i64 ath, .int .i64 atp, .bool asy, .bool afi, .bool ars, .int .i64 asq] 41), blkR bb (.cells #[.int .i64 bpr, .int .i64 bhe, .int .i64 bhp, .int .i64 bth, .int .i64 btp, .bool bsy, .bool bfi, .bool brs, .int .i64 bsq] 41)] from hO)
  clear hO
  have z0_0 : x2.cell? ⟨ba, 0, none⟩ = some (.int .i64 apr) := HO.out.cell 0 rfl 0 rfl
  have z0_1 : x2.cell? ⟨ba, 1, none⟩ = some (.int .i64 ahe) := HO.out.cell 0 rfl 1 rfl
  have z0_2 : x2.cell? ⟨ba, 2, none⟩ = some (.int .i64 ahp) := HO.out.cell 0 rfl 2 rfl
  have z0_3 : x2.cell? ⟨ba, 3, none⟩ = some (.int .i64 ath) := HO.out.cell 0 rfl 3 rfl
  have z0_4 : x2.cell? ⟨ba, 4, none⟩ = some (.int .i64 atp) := HO.out.cell 0 rfl 4 rfl
  have z0_5 : x2.cell? ⟨ba, 5, none⟩ = some (.bool asy) := HO.out.cell 0 rfl 5 rfl
  have z0_6 : x2.cell? ⟨ba, 6, none⟩ = some (.bool afi) := HO.out.cell 0 rfl 6 rfl
  have z0_7 : x2.cell? ⟨ba, 7, none⟩ = some (.bool ars) := HO.out.cell 0 rfl 7 rfl
  have z0_8 : x2.cell? ⟨ba, 8, none⟩ = some (.int .i64 asq) := HO.out.cell 0 rfl 8 rfl
  have z1_0 : x2.cell? ⟨bb, 0, none⟩ = some (.int .i64 bpr) := HO.out.cell 1 rfl 0 rfl
  have z1_1 : x2.cell? ⟨bb, 1, none⟩ = some (.int .i64 bhe) := HO.out.cell 1 rfl 1 rfl
  have z1_2 : x2.cell? ⟨bb, 2, none⟩ = some (.int .i64 bhp) := HO.out.cell 1 rfl 2 rfl
  have z1_3 : x2.cell? ⟨bb, 3, none⟩ = some (.int .i64 bth) := HO.out.cell 1 rfl 3 rfl
  have z1_4 : x2.cell? ⟨bb, 4, none⟩ = some (.int .i64 btp) := HO.out.cell 1 rfl 4 rfl
  have z1_5 : x2.cell? ⟨bb, 5, none⟩ = some (.bool bsy) := HO.out.cell 1 rfl 5 rfl
  have z1_6 : x2.cell? ⟨bb, 6, none⟩ = some (.bool bfi) := HO.out.cell 1 rfl 6 rfl
  have z1_7 : x2.cell? ⟨bb, 7, none⟩ = some (.bool brs) := HO.out.cell 1 rfl 7 rfl
  have z1_8 : x2.cell? ⟨bb, 8, none⟩ = some (.int .i64 bsq) := HO.out.cell 1 rfl 8 rfl
  cases h0 : (apr == bpr) with
  | false =>
    have HR := Lib.hid (show r = false by rw [HD.out]; simp [*])
    clear HD
    go_enter Try.func12, Try.ntmps12
    go_wp2
    go_ret
    exact ⟨by rw [HR.out]; rfl, HO.out.below⟩
  | true =>
    cases h1 : (ahe == bhe) with
    | false =>
      have HR := Lib.hid (show r = false by rw [HD.out]; simp [*])
      clear HD
      go_enter Try.func12, Try.ntmps12
      go_wp2
      go_ret
      exact ⟨by rw [HR.out]; rfl, HO.out.below⟩
    | true =>
      cases h2 : (ahp == bhp) with
      | false =>
        have HR := Lib.hid (show r = false by rw [HD.out]; simp [*])
        clear HD
        go_enter Try.func12, Try.ntmps12
        go_wp2
        go_ret
        exact ⟨by rw [HR.out]; rfl, HO.out.below⟩
      | true =>
        cases h3 : (ath == bth) with
        | false =>
          have HR := Lib.hid (show r = false by rw [HD.out]; simp [*])
          clear HD
          go_enter Try.func12, Try.ntmps12
          go_wp2
          go_ret
          exact ⟨by rw [HR.out]; rfl, HO.out.below⟩
        | true =>
          cases h4 : (atp == btp) with
          | false =>
            have HR := Lib.hid (show r = false by rw [HD.out]; simp [*])
            clear HD
            go_enter Try.func12, Try.ntmps12
            go_wp2
            go_ret
            exact ⟨by rw [HR.out]; rfl, HO.out.below⟩
          | true =>
            have HR := Lib.hid (show r = true by rw [HD.out]; simp [*])
            clear HD
            go_enter Try.func12, Try.ntmps12
            go_wp2
            go_ret
            exact ⟨by rw [HR.out]; rfl, HO.out.below⟩
set_option maxRecDepth 100000 in
set_option maxHeartbeats 8000000 in
theorem flowFrom_any (x : Fw) (hx : FwOk x) (w : World) : Calls Try.prog 11 #[fwV x] w fun e w' => e = .returned (flV (flowF x)) ∧ Below w.heap.size w w' := by
  have P1 := Lib.hid (fun w => pick_b x.pr 4 w hx.pr (by decide))
  have P2 := Lib.hid (fun w => pick_b x.po 3 w hx.po (by decide))
  have P3 := Lib.hid (fun w => pick_b x.th 7 w hx.th (by decide))
  have P4 := Lib.hid (fun w => pick_b (x.po.tdiv 3) 3 w (tdiv3_bd hx.po) (by decide))
  have P5 := Lib.hid (fun w => pick_b x.fl 6 w hx.fl (by decide))
  have HF := Lib.hid (show flowF x = ⟨tabI [6, 6, 17, 1] (pk x.pr 4), 167772170, tabI [5000, 80, 5001] (pk x.po 3), 167772161 + pk x.th 7, tabI [80, 5000, 79] (pk (x.po.tdiv 3) 3), pk x.fl 6 == 1, pk x.fl 6 == 2, pk x.fl 6 == 3, 0⟩ from rfl)
  have q1 := pk_bd x.pr 4 (by decide)
  have q2 := pk_bd x.po 3 (by decide)
  have q3 := pk_bd x.th 7 (by decide)
  have q4 := pk_bd (x.po.tdiv 3) 3 (by decide)
  have HPB := Lib.hid hx.po
  have p1 : -9223372036854775808 ≤ x.po := hx.po.1
  have p2 : x.po ≤ 9223372036854775807 := hx.po.2
  clear hx
  obtain ⟨ho, pr, po, th, fl, af⟩ := x
  simp only at P1 P2 P3 P4 P5 HF q1 q2 q3 q4 p1 p2
  generalize pk pr 4 = n1 at *
  generalize pk po 3 = n2 at *
  generalize pk th 7 = n3 at *
  generalize pk (po.tdiv 3) 3 = n4 at *
  generalize pk fl 6 = n5 at *
  have HO := Lib.hid (show Own w none0 w [] from Own.nil w none0)
  obtain ⟨x1, hx1⟩ : ∃ y, w.alloc (.cells #[.int .i64 ho, .int .i64 pr, .int .i64 po, .int .i64 th, .int .i64 fl, .int .i64 af] 39) = y := ⟨_, rfl⟩
  obtain ⟨bx, hbx⟩ : ∃ y, w.heap.size = y := ⟨_, rfl⟩
  have hO := HO.out.alloc (.cells #[.int .i64 ho, .int .i64 pr, .int .i64 po, .int .i64 th, .int .i64 fl, .int .i64 af] 39)
  rw [hx1, hbx] at hO
  replace HO := Lib.hid (show Own w none0 x1 [blkR bx (.cells #[.int .i64 ho, .int .i64 pr, .int .i64 po, .int .i64 th, .int .i64 fl, .int .i64 af] 39)] from hO)
  clear hO
  obtain ⟨x2, hx2⟩ : ∃ y, x1.alloc (.cells #[.int .i64 0, .int .i64 0, .int .i64 0, .int .i64 0, .int .i64 0, .bool false, .bool false, .bool false, .int .i64 0] 41) = y := ⟨_, rfl⟩
  obtain ⟨br, hbr⟩ : ∃ y, x1.heap.size = y := ⟨_, rfl⟩
  have hO := HO.out.alloc (.cells #[.int .i64 0, .int .i64 0, .int .i64 0, .int .i64 0, .int .i64 0, .bool false, .bool false, .bool false, .int .i64 0] 41)
  rw [hx2, hbr] at hO
  replace HO := Lib.hid (show Own w none0 x2 [blkR bx (.cells #[.int .i64 ho, .int .i64 pr, .int .i64 po, .int .i64 th, .int .i64 fl, .int .i64 af] 39), blkR br (.cells #[.int .i64 0, .int .i64 0, .int .i64 0, .int .i64 0, .int .i64 0, .bool false, .bool false, .bool false, .int .i64 0] 41)] from hO)
  clear hO
  go_enter Try.func11, Try.ntmps11
  go_wp2
  clear hx1 hbx hx2 hbr
  have g0_1 := cell_regrown (show x2.cell? ⟨bx, 1, none⟩ = some (.int .i64 pr) from HO.out.cell 0 rfl 1 rfl)
  have g0_2 := cell_regrown (show x2.cell? ⟨bx, 2, none⟩ = some (.int .i64 po) from HO.out.cell 0 rfl 2 rfl)
  have g0_3 := cell_regrown (show x2.cell? ⟨bx, 3, none⟩ = some (.int .i64 th) from HO.out.cell 0 rfl 3 rfl)
  refine wp_region_R 25 (by kernel_rfl) (by kernel_rfl) ?_
  simp only [List.take, List.drop]
  refine wpR_ex (rowOf 4 #[.int .i64 6, .int .i64 6, .int .i64 17, .int .i64 1] 3) (rowOf_lasts _ _ _) (by kernel_rfl) (fun a' w' hw' he => ?_) (fun d hd => ?_)
  · simp [go_sem]
    exact ⟨_, rfl, (Below.refl _ _).alloc (Nat.le_refl _) _, ⟨w'.heap.size, rfl, new_block _ _⟩⟩
  cases hd
  simp only [List.nil_append]
  iterate 2 (first | (refine wpR_want (by kernel_rfl) rfl rfl ?_; intro K hK; go_big_quiet_op; go_big_quiet_on) | (refine wpR_is (by kernel_rfl) rfl _ (fun w _ => rfl) ?_; simp only [Act.put, List.setIfInBounds_toArray, List.set_cons_succ, List.set_cons_zero]))
  refine wpR_call (by kernel_rfl) rfl 10 #[.int .i64 pr, .int .i64 4] (.int .i64 n1) (fun w => by simp [go_sem]) (fun w _ => P1.out w) ?_
  simp only [Act.put, List.setIfInBounds_toArray, List.set_cons_succ, List.set_cons_zero]
  refine wpR_ex (ptrTo (.int .i64 (tabI [6, 6, 17, 1] n1))) (ptrTo_lasts _) (by kernel_rfl) (fun a' w' hw' he => ?_) (fun d hd => ?_)
  · obtain ⟨⟨tb, hta, htb⟩, hib, _⟩ := he
    have hcell := tabI_cell [6, 6, 17, 1] htb n1 q1.1 q1.2
    have htl : (n1).toNat < 4 := by have := q1; omega
    have hta' : a'.tmps.getD 4 undef = .slice (some ⟨tb, 0, none⟩) 4 4 := hta
    have hib' : a'.tmps.getD 7 undef = .int .i64 (n1) := hib
    clear hta hib g0_1 g0_2 g0_3
    simp only [go_sem, hta', hib']
    obtain ⟨q51, q52⟩ := q1
    simp [go_sem, ↓IntWalk.iteOmega]
    exact ⟨_, rfl, Below.refl _ _, ⟨tb, _, rfl, hcell⟩⟩
  cases hd
  simp only [List.cons_append, List.nil_append]
  refine wpR_known (.int .i64 (tabI [6, 6, 17, 1] n1)) (by kernel_rfl) (fun a' w' hw' he => ?_) ?_
  · obtain ⟨⟨tb, to, hpa, hcell⟩, _⟩ := he
    have hpa' : a'.tmps.getD 8 undef = .pointer (some ⟨tb, to, none⟩) := hpa
    clear hpa g0_1 g0_2 g0_3
    simp only [go_sem, hpa']
    simp [go_sem, hcell]
    exact Below.refl _ _
  simp only [Act.put, List.setIfInBounds_toArray, List.set_cons_succ, List.set_cons_zero]
  refine wpR_ex (rowOf 3 #[.int .i64 5000, .int .i64 80, .int .i64 5001] 3) (rowOf_lasts _ _ _) (by kernel_rfl) (fun a' w' hw' he => ?_) (fun d hd => ?_)
  · simp [go_sem]
    exact ⟨_, rfl, (Below.refl _ _).alloc (Nat.le_refl _) _, ⟨w'.heap.size, rfl, new_block _ _⟩⟩
  cases hd
  simp only [List.cons_append, List.nil_append]
  iterate 2 (first | (refine wpR_want (by kernel_rfl) rfl rfl ?_; intro K hK; go_big_quiet_op; go_big_quiet_on) | (refine wpR_is (by kernel_rfl) rfl _ (fun w _ => rfl) ?_; simp only [Act.put, List.setIfInBounds_toArray, List.set_cons_succ, List.set_cons_zero]))
  refine wpR_call (by kernel_rfl) rfl 10 #[.int .i64 po, .int .i64 3] (.int .i64 n2) (fun w => by simp [go_sem]) (fun w _ => P2.out w) ?_
  simp only [Act.put, List.setIfInBounds_toArray, List.set_cons_succ, List.set_cons_zero]
  refine wpR_ex (ptrTo (.int .i64 (tabI [5000, 80, 5001] n2))) (ptrTo_lasts _) (by kernel_rfl) (fun a' w' hw' he => ?_) (fun d hd => ?_)
  · obtain ⟨⟨tb, hta, htb⟩, hib, _⟩ := he
    have hcell := tabI_cell [5000, 80, 5001] htb n2 q2.1 q2.2
    have htl : (n2).toNat < 3 := by have := q2; omega
    have hta' : a'.tmps.getD 10 undef = .slice (some ⟨tb, 0, none⟩) 3 3 := hta
    have hib' : a'.tmps.getD 13 undef = .int .i64 (n2) := hib
    clear hta hib g0_1 g0_2 g0_3
    simp only [go_sem, hta', hib']
    obtain ⟨q51, q52⟩ := q2
    simp [go_sem, ↓IntWalk.iteOmega]
    exact ⟨_, rfl, Below.refl _ _, ⟨tb, _, rfl, hcell⟩⟩
  cases hd
  simp only [List.cons_append, List.nil_append]
  refine wpR_known (.int .i64 (tabI [5000, 80, 5001] n2)) (by kernel_rfl) (fun a' w' hw' he => ?_) ?_
  · obtain ⟨⟨tb, to, hpa, hcell⟩, _⟩ := he
    have hpa' : a'.tmps.getD 14 undef = .pointer (some ⟨tb, to, none⟩) := hpa
    clear hpa g0_1 g0_2 g0_3
    simp only [go_sem, hpa']
    simp [go_sem, hcell]
    exact Below.refl _ _
  simp only [Act.put, List.setIfInBounds_toArray, List.set_cons_succ, List.set_cons_zero]
  iterate 2 (first | (refine wpR_want (by kernel_rfl) rfl rfl ?_; intro K hK; go_big_quiet_op; go_big_quiet_on) | (refine wpR_is (by kernel_rfl) rfl _ (fun w _ => rfl) ?_; simp only [Act.put, List.setIfInBounds_toArray, List.set_cons_succ, List.set_cons_zero]))
  refine wpR_call (by kernel_rfl) rfl 10 #[.int .i64 th, .int .i64 7] (.int .i64 n3) (fun w => by simp [go_sem]) (fun w _ => P3.out w) ?_
  simp only [Act.put, List.setIfInBounds_toArray, List.set_cons_succ, List.set_cons_zero]
  iterate 1 (first | (refine wpR_want (by kernel_rfl) rfl rfl ?_; intro K hK; go_big_quiet_op; go_big_quiet_on) | (refine wpR_is (by kernel_rfl) rfl _ (fun w _ => rfl) ?_; simp only [Act.put, List.setIfInBounds_toArray, List.set_cons_succ, List.set_cons_zero]))
  refine wpR_ex (rowOf 3 #[.int .i64 80, .int .i64 5000, .int .i64 79] 3) (rowOf_lasts _ _ _) (by kernel_rfl) (fun a' w' hw' he => ?_) (fun d hd => ?_)
  · simp [go_sem]
    exact ⟨_, rfl, (Below.refl _ _).alloc (Nat.le_refl _) _, ⟨w'.heap.size, rfl, new_block _ _⟩⟩
  cases hd
  simp only [List.cons_append, List.nil_append]
  iterate 3 (first | (refine wpR_want (by kernel_rfl) rfl rfl ?_; intro K hK; go_big_quiet_op; go_big_quiet_on) | (refine wpR_is (by kernel_rfl) rfl _ (fun w _ => rfl) ?_; simp only [Act.put, List.setIfInBounds_toArray, List.set_cons_succ, List.set_cons_zero]))
  refine wpR_call (by kernel_rfl) rfl 10 #[.int .i64 (po.tdiv 3), .int .i64 3] (.int .i64 n4) (fun w => by simp [go_sem]) (fun w _ => P4.out w) ?_
  simp only [Act.put, List.setIfInBounds_toArray, List.set_cons_succ, List.set_cons_zero]
  refine wpR_ex (ptrTo (.int .i64 (tabI [80, 5000, 79] n4))) (ptrTo_lasts _) (by kernel_rfl) (fun a' w' hw' he => ?_) (fun d hd => ?_)
  · obtain ⟨⟨tb, hta, htb⟩, hib, _⟩ := he
    have hcell := tabI_cell [80, 5000, 79] htb n4 q4.1 q4.2
    have htl : (n4).toNat < 3 := by have := q4; omega
    have hta' : a'.tmps.getD 20 undef = .slice (some ⟨tb, 0, none⟩) 3 3 := hta
    have hib' : a'.tmps.getD 24 undef = .int .i64 (n4) := hib
    clear hta hib g0_1 g0_2 g0_3
    simp only [go_sem, hta', hib']
    obtain ⟨q51, q52⟩ := q4
    simp [go_sem, ↓IntWalk.iteOmega]
    exact ⟨_, rfl, Below.refl _ _, ⟨tb, _, rfl, hcell⟩⟩
  cases hd
  simp only [List.cons_append, List.nil_append]
  refine wpR_known (.int .i64 (tabI [80, 5000, 79] n4)) (by kernel_rfl) (fun a' w' hw' he => ?_) ?_
  · obtain ⟨⟨tb, to, hpa, hcell⟩, _⟩ := he
    have hpa' : a'.tmps.getD 25 undef = .pointer (some ⟨tb, to, none⟩) := hpa
    clear hpa g0_1 g0_2 g0_3
    simp only [go_sem, hpa']
    simp [go_sem, hcell]
    exact Below.refl _ _
  simp only [Act.put, List.setIfInBounds_toArray, List.set_cons_succ, List.set_cons_zero]
  iterate 1 (first | (refine wpR_want (by kernel_rfl) rfl rfl ?_; intro K hK; go_big_quiet_op; go_big_quiet_on) | (refine wpR_is (by kernel_rfl) rfl _ (fun w _ => rfl) ?_; simp only [Act.put, List.setIfInBounds_toArray, List.set_cons_succ, List.set_cons_zero]))
  refine wpR_ex (nblk x2.heap.size (.cells #[.int .i64 0, .int .i64 0, .int .i64 0, .int .i64 0, .int .i64 0, .bool false, .bool false, .bool false, .int .i64 0] 41)) (nblk_lasts _ _) (by kernel_rfl) (fun a' w' hw' he => ?_) (fun d hd => ?_)
  · have hs := hw'.size
    simp [go_sem]
    exact ⟨_, rfl, (Below.refl _ _).alloc (Nat.le_refl _) _, ⟨w'.heap.size, rfl, hs, new_block _ _⟩⟩
  cases hd
  simp only [List.cons_append, List.nil_append]
  refine wpR_nil (by kernel_rfl) (by simp) ?_
  rintro w5 hbw
  simp only [exAll]
  rintro u4 -
  rintro u8 -
  rintro u10 -
  rintro u14 -
  rintro u20 -
  rintro u25 -
  rintro u3 ⟨bf, rfl, hgebf, hbbbf⟩
  simp only [Act.put, List.setIfInBounds_toArray, List.set_cons_succ, List.set_cons_zero, List.drop]
  have hO := HO.out.push (R := blkR bf (.cells #[.int .i64 0, .int .i64 0, .int .i64 0, .int .i64 0, .int .i64 0, .bool false, .bool false, .bool false, .int .i64 0] 41)) (F := fun z => z = bf) ⟨fun _ => Iff.rfl, hbbbf⟩ (fun z hz => hz ▸ hgebf) hbw
  clear hgebf hbbbf
  replace HO := Lib.hid (show Own w none0 w5 [blkR bx (.cells #[.int .i64 ho, .int .i64 pr, .int .i64 po, .int .i64 th, .int .i64 fl, .int .i64 af] 39), blkR br (.cells #[.int .i64 0, .int .i64 0, .int .i64 0, .int .i64 0, .int .i64 0, .bool false, .bool false, .bool false, .int .i64 0] 41), blkR bf (.cells #[.int .i64 0, .int .i64 0, .int .i64 0, .int .i64 0, .int .i64 0, .bool false, .bool false, .bool false, .int .i64 0] 41)] from hO)
  clear hO hbw g0_1 g0_2 g0_3 
  have k2_0_3 : w5.cell? ⟨bf, 0, none⟩ = some (.int .i64 0) := HO.out.cell 2 rfl 0 rfl
  have lk2_0_3 : w5.frozen? ⟨bf, 0, none⟩ = false := HO.out.frz 2 rfl 0
  have k2_1_4 : w5.cell? ⟨bf, 1, none⟩ = some (.int .i64 0) := HO.out.cell 2 rfl 1 rfl
  have lk2_1_4 : w5.frozen? ⟨bf, 1, none⟩ = false := HO.out.frz 2 rfl 1
  have k2_2_5 : w5.cell? ⟨bf, 2, none⟩ = some (.int .i64 0) := HO.out.cell 2 rfl 2 rfl
  have lk2_2_5 : w5.frozen? ⟨bf, 2, none⟩ = false := HO.out.frz 2 rfl 2
  have k2_3_6 : w5.cell? ⟨bf, 3, none⟩ = some (.int .i64 0) := HO.out.cell 2 rfl 3 rfl
  have lk2_3_6 : w5.frozen? ⟨bf, 3, none⟩ = false := HO.out.frz 2 rfl 3
  have k2_4_7 : w5.cell? ⟨bf, 4, none⟩ = some (.int .i64 0) := HO.out.cell 2 rfl 4 rfl
  have lk2_4_7 : w5.frozen? ⟨bf, 4, none⟩ = false := HO.out.frz 2 rfl 4
  have k2_5_8 : w5.cell? ⟨bf, 5, none⟩ = some (.bool false) := HO.out.cell 2 rfl 5 rfl
  have lk2_5_8 : w5.frozen? ⟨bf, 5, none⟩ = false := HO.out.frz 2 rfl 5
  have k2_6_9 : w5.cell? ⟨bf, 6, none⟩ = some (.bool false) := HO.out.cell 2 rfl 6 rfl
  have lk2_6_9 : w5.frozen? ⟨bf, 6, none⟩ = false := HO.out.frz 2 rfl 6
  have k2_7_10 : w5.cell? ⟨bf, 7, none⟩ = some (.bool false) := HO.out.cell 2 rfl 7 rfl
  have lk2_7_10 : w5.frozen? ⟨bf, 7, none⟩ = false := HO.out.frz 2 rfl 7
  have k2_8_11 : w5.cell? ⟨bf, 8, none⟩ = some (.int .i64 0) := HO.out.cell 2 rfl 8 rfl
  have lk2_8_11 : w5.frozen? ⟨bf, 8, none⟩ = false := HO.out.frz 2 rfl 8
  obtain ⟨x12, hx12⟩ : ∃ y, w5.setCell ⟨bf, 0, none⟩ (.int .i64 (tabI [6, 6, 17, 1] n1)) = y := ⟨_, rfl⟩
  have hO := HO.out.setCell 2 rfl 0 (.int .i64 (tabI [6, 6, 17, 1] n1))
  rw [hx12] at hO
  replace HO := Lib.hid (show Own w none0 x12 [blkR bx (.cells #[.int .i64 ho, .int .i64 pr, .int .i64 po, .int .i64 th, .int .i64 fl, .int .i64 af] 39), blkR br (.cells #[.int .i64 0, .int .i64 0, .int .i64 0, .int .i64 0, .int .i64 0, .bool false, .bool false, .bool false, .int .i64 0] 41), blkR bf (.cells #[.int .i64 (tabI [6, 6, 17, 1] n1), .int .i64 0, .int .i64 0, .int .i64 0, .int .i64 0, .bool false, .bool false, .bool false, .int .i64 0] 41)] from hO)
  clear hO
  have k2_1_13 : x12.cell? ⟨bf, 1, none⟩ = some (.int .i64 0) := HO.out.cell 2 rfl 1 rfl
  have lk2_1_13 : x12.frozen? ⟨bf, 1, none⟩ = false := HO.out.frz 2 rfl 1
  have k2_2_14 : x12.cell? ⟨bf, 2, none⟩ = some (.int .i64 0) := HO.out.cell 2 rfl 2 rfl
  have lk2_2_14 : x12.frozen? ⟨bf, 2, none⟩ = false := HO.out.frz 2 rfl 2
  have k2_3_15 : x12.cell? ⟨bf, 3, none⟩ = some (.int .i64 0) := HO.out.cell 2 rfl 3 rfl
  have lk2_3_15 : x12.frozen? ⟨bf, 3, none⟩ = false := HO.out.frz 2 rfl 3
  have k2_4_16 : x12.cell? ⟨bf, 4, none⟩ = some (.int .i64 0) := HO.out.cell 2 rfl 4 rfl
  have lk2_4_16 : x12.frozen? ⟨bf, 4, none⟩ = false := HO.out.frz 2 rfl 4
  have k2_5_17 : x12.cell? ⟨bf, 5, none⟩ = some (.bool false) := HO.out.cell 2 rfl 5 rfl
  have lk2_5_17 : x12.frozen? ⟨bf, 5, none⟩ = false := HO.out.frz 2 rfl 5
  have k2_6_18 : x12.cell? ⟨bf, 6, none⟩ = some (.bool false) := HO.out.cell 2 rfl 6 rfl
  have lk2_6_18 : x12.frozen? ⟨bf, 6, none⟩ = false := HO.out.frz 2 rfl 6
  have k2_7_19 : x12.cell? ⟨bf, 7, none⟩ = some (.bool false) := HO.out.cell 2 rfl 7 rfl
  have lk2_7_19 : x12.frozen? ⟨bf, 7, none⟩ = false := HO.out.frz 2 rfl 7
  have k2_8_20 : x12.cell? ⟨bf, 8, none⟩ = some (.int .i64 0) := HO.out.cell 2 rfl 8 rfl
  have lk2_8_20 : x12.frozen? ⟨bf, 8, none⟩ = false := HO.out.frz 2 rfl 8
  obtain ⟨x21, hx21⟩ : ∃ y, x12.setCell ⟨bf, 1, none⟩ (.int .i64 167772170) = y := ⟨_, rfl⟩
  have hO := HO.out.setCell 2 rfl 1 (.int .i64 167772170)
  rw [hx21] at hO
  replace HO := Lib.hid (show Own w none0 x21 [blkR bx (.cells #[.int .i64 ho, .int .i64 pr, .int .i64 po, .int .i64 th, .int .i64 fl, .int .i64 af] 39), blkR br (.cells #[.int .i64 0, .int .i64 0, .int .i64 0, .int .i64 0, .int .i64 0, .bool false, .bool false, .bool false, .int .i64 0] 41), blkR bf (.cells #[.int .i64 (tabI [6, 6, 17, 1] n1), .int .i64 167772170, .int .i64 0, .int .i64 0, .int .i64 0, .bool false, .bool false, .bool false, .int .i64 0] 41)] from hO)
  clear hO
  have k2_2_22 : x21.cell? ⟨bf, 2, none⟩ = some (.int .i64 0) := HO.out.cell 2 rfl 2 rfl
  have lk2_2_22 : x21.frozen? ⟨bf, 2, none⟩ = false := HO.out.frz 2 rfl 2
  have k2_3_23 : x21.cell? ⟨bf, 3, none⟩ = some (.int .i64 0) := HO.out.cell 2 rfl 3 rfl
  have lk2_3_23 : x21.frozen? ⟨bf, 3, none⟩ = false := HO.out.frz 2 rfl 3
  have k2_4_24 : x21.cell? ⟨bf, 4, none⟩ = some (.int .i64 0) := HO.out.cell 2 rfl 4 rfl
  have lk2_4_24 : x21.frozen? ⟨bf, 4, none⟩ = false := HO.out.frz 2 rfl 4
  have k2_5_25 : x21.cell? ⟨bf, 5, none⟩ = some (.bool false) := HO.out.cell 2 rfl 5 rfl
  have lk2_5_25 : x21.frozen? ⟨bf, 5, none⟩ = false := HO.out.frz 2 rfl 5
  have k2_6_26 : x21.cell? ⟨bf, 6, none⟩ = some (.bool false) := HO.out.cell 2 rfl 6 rfl
  have lk2_6_26 : x21.frozen? ⟨bf, 6, none⟩ = false := HO.out.frz 2 rfl 6
  have k2_7_27 : x21.cell? ⟨bf, 7, none⟩ = some (.bool false) := HO.out.cell 2 rfl 7 rfl
  have lk2_7_27 : x21.frozen? ⟨bf, 7, none⟩ = false := HO.out.frz 2 rfl 7
  have k2_8_28 : x21.cell? ⟨bf, 8, none⟩ = some (.int .i64 0) := HO.out.cell 2 rfl 8 rfl
  have lk2_8_28 : x21.frozen? ⟨bf, 8, none⟩ = false := HO.out.frz 2 rfl 8
  obtain ⟨x29, hx29⟩ : ∃ y, x21.setCell ⟨bf, 2, none⟩ (.int .i64 (tabI [5000, 80, 5001] n2)) = y := ⟨_, rfl⟩
  have hO := HO.out.setCell 2 rfl 2 (.int .i64 (tabI [5000, 80, 5001] n2))
  rw [hx29] at hO
  replace HO := Lib.hid (show Own w none0 x29 [blkR bx (.cells #[.int .i64 ho, .int .i64 pr, .int .i64 po, .int .i64 th, .int .i64 fl, .int .i64 af] 39), blkR br (.cells #[.int .i64 0, .int .i64 0, .int .i64 0, .int .i64 0, .int .i64 0, .bool false, .bool false, .bool false, .int .i64 0] 41), blkR bf (.cells #[.int .i64 (tabI [6, 6, 17, 1] n1), .int .i64 167772170, .int .i64 (tabI [5000, 80, 5001] n2), .int .i64 0, .int .i64 0, .bool false, .bool false, .bool false, .int .i64 0] 41)] from hO)
  clear hO
  have k2_3_30 : x29.cell? ⟨bf, 3, none⟩ = some (.int .i64 0) := HO.out.cell 2 rfl 3 rfl
  have lk2_3_30 : x29.frozen? ⟨bf, 3, none⟩ = false := HO.out.frz 2 rfl 3
  have k2_4_31 : x29.cell? ⟨bf, 4, none⟩ = some (.int .i64 0) := HO.out.cell 2 rfl 4 rfl
  have lk2_4_31 : x29.frozen? ⟨bf, 4, none⟩ = false := HO.out.frz 2 rfl 4
  have k2_5_32 : x29.cell? ⟨bf, 5, none⟩ = some (.bool false) := HO.out.cell 2 rfl 5 rfl
  have lk2_5_32 : x29.frozen? ⟨bf, 5, none⟩ = false := HO.out.frz 2 rfl 5
  have k2_6_33 : x29.cell? ⟨bf, 6, none⟩ = some (.bool false) := HO.out.cell 2 rfl 6 rfl
  have lk2_6_33 : x29.frozen? ⟨bf, 6, none⟩ = false := HO.out.frz 2 rfl 6
  have k2_7_34 : x29.cell? ⟨bf, 7, none⟩ = some (.bool false) := HO.out.cell 2 rfl 7 rfl
  have lk2_7_34 : x29.frozen? ⟨bf, 7, none⟩ = false := HO.out.frz 2 rfl 7
  have k2_8_35 : x29.cell? ⟨bf, 8, none⟩ = some (.int .i64 0) := HO.out.cell 2 rfl 8 rfl
  have lk2_8_35 : x29.frozen? ⟨bf, 8, none⟩ = false := HO.out.frz 2 rfl 8
  obtain ⟨x36, hx36⟩ : ∃ y, x29.setCell ⟨bf, 3, none⟩ (.int .i64 (167772161 + n3)) = y := ⟨_, rfl⟩
  have hO := HO.out.setCell 2 rfl 3 (.int .i64 (167772161 + n3))
  rw [hx36] at hO
  replace HO := Lib.hid (show Own w none0 x36 [blkR bx (.cells #[.int .i64 ho, .int .i64 pr, .int .i64 po, .int .i64 th, .int .i64 fl, .int .i64 af] 39), blkR br (.cells #[.int .i64 0, .int .i64 0, .int .i64 0, .int .i64 0, .int .i64 0, .bool false, .bool false, .bool false, .int .i64 0] 41), blkR bf (.cells #[.int .i64 (tabI [6, 6, 17, 1] n1), .int .i64 167772170, .int .i64 (tabI [5000, 80, 5001] n2), .int .i64 (167772161 + n3), .int .i64 0, .bool false, .bool false, .bool false, .int .i64 0] 41)] from hO)
  clear hO
  have k2_4_37 : x36.cell? ⟨bf, 4, none⟩ = some (.int .i64 0) := HO.out.cell 2 rfl 4 rfl
  have lk2_4_37 : x36.frozen? ⟨bf, 4, none⟩ = false := HO.out.frz 2 rfl 4
  have k2_5_38 : x36.cell? ⟨bf, 5, none⟩ = some (.bool false) := HO.out.cell 2 rfl 5 rfl
  have lk2_5_38 : x36.frozen? ⟨bf, 5, none⟩ = false := HO.out.frz 2 rfl 5
  have k2_6_39 : x36.cell? ⟨bf, 6, none⟩ = some (.bool false) := HO.out.cell 2 rfl 6 rfl
  have lk2_6_39 : x36.frozen? ⟨bf, 6, none⟩ = false := HO.out.frz 2 rfl 6
  have k2_7_40 : x36.cell? ⟨bf, 7, none⟩ = some (.bool false) := HO.out.cell 2 rfl 7 rfl
  have lk2_7_40 : x36.frozen? ⟨bf, 7, none⟩ = false := HO.out.frz 2 rfl 7
  have k2_8_41 : x36.cell? ⟨bf, 8, none⟩ = some (.int .i64 0) := HO.out.cell 2 rfl 8 rfl
  have lk2_8_41 : x36.frozen? ⟨bf, 8, none⟩ = false := HO.out.frz 2 rfl 8
  obtain ⟨x42, hx42⟩ : ∃ y, x36.setCell ⟨bf, 4, none⟩ (.int .i64 (tabI [80, 5000, 79] n4)) = y := ⟨_, rfl⟩
  have hO := HO.out.setCell 2 rfl 4 (.int .i64 (tabI [80, 5000, 79] n4))
  rw [hx42] at hO
  replace HO := Lib.hid (show Own w none0 x42 [blkR bx (.cells #[.int .i64 ho, .int .i64 pr, .int .i64 po, .int .i64 th, .int .i64 fl, .int .i64 af] 39), blkR br (.cells #[.int .i64 0, .int .i64 0, .int .i64 0, .int .i64 0, .int .i64 0, .bool false, .bool false, .bool false, .int .i64 0] 41), blkR bf (.cells #[.int .i64 (tabI [6, 6, 17, 1] n1), .int .i64 167772170, .int .i64 (tabI [5000, 80, 5001] n2), .int .i64 (167772161 + n3), .int .i64 (tabI [80, 5000, 79] n4), .bool false, .bool false, .bool false, .int .i64 0] 41)] from hO)
  clear hO
  have k2_5_43 : x42.cell? ⟨bf, 5, none⟩ = some (.bool false) := HO.out.cell 2 rfl 5 rfl
  have lk2_5_43 : x42.frozen? ⟨bf, 5, none⟩ = false := HO.out.frz 2 rfl 5
  have k2_6_44 : x42.cell? ⟨bf, 6, none⟩ = some (.bool false) := HO.out.cell 2 rfl 6 rfl
  have lk2_6_44 : x42.frozen? ⟨bf, 6, none⟩ = false := HO.out.frz 2 rfl 6
  have k2_7_45 : x42.cell? ⟨bf, 7, none⟩ = some (.bool false) := HO.out.cell 2 rfl 7 rfl
  have lk2_7_45 : x42.frozen? ⟨bf, 7, none⟩ = false := HO.out.frz 2 rfl 7
  have k2_8_46 : x42.cell? ⟨bf, 8, none⟩ = some (.int .i64 0) := HO.out.cell 2 rfl 8 rfl
  have lk2_8_46 : x42.frozen? ⟨bf, 8, none⟩ = false := HO.out.frz 2 rfl 8
  obtain ⟨x47, hx47⟩ : ∃ y, x42.setCell ⟨bf, 5, none⟩ (.bool false) = y := ⟨_, rfl⟩
  have hO := HO.out.setCell 2 rfl 5 (.bool false)
  rw [hx47] at hO
  replace HO := Lib.hid (show Own w none0 x47 [blkR bx (.cells #[.int .i64 ho, .int .i64 pr, .int .i64 po, .int .i64 th, .int .i64 fl, .int .i64 af] 39), blkR br (.cells #[.int .i64 0, .int .i64 0, .int .i64 0, .int .i64 0, .int .i64 0, .bool false, .bool false, .bool false, .int .i64 0] 41), blkR bf (.cells #[.int .i64 (tabI [6, 6, 17, 1] n1), .int .i64 167772170, .int .i64 (tabI [5000, 80, 5001] n2), .int .i64 (167772161 + n3), .int .i64 (tabI [80, 5000, 79] n4), .bool false, .bool false, .bool false, .int .i64 0] 41)] from hO)
  clear hO
  have k2_6_48 : x47.cell? ⟨bf, 6, none⟩ = some (.bool false) := HO.out.cell 2 rfl 6 rfl
  have lk2_6_48 : x47.frozen? ⟨bf, 6, none⟩ = false := HO.out.frz 2 rfl 6
  have k2_7_49 : x47.cell? ⟨bf, 7, none⟩ = some (.bool false) := HO.out.cell 2 rfl 7 rfl
  have lk2_7_49 : x47.frozen? ⟨bf, 7, none⟩ = false := HO.out.frz 2 rfl 7
  have k2_8_50 : x47.cell? ⟨bf, 8, none⟩ = some (.int .i64 0) := HO.out.cell 2 rfl 8 rfl
  have lk2_8_50 : x47.frozen? ⟨bf, 8, none⟩ = false := HO.out.frz 2 rfl 8
  obtain ⟨x51, hx51⟩ : ∃ y, x47.setCell ⟨bf, 6, none⟩ (.bool false) = y := ⟨_, rfl⟩
  have hO := HO.out.setCell 2 rfl 6 (.bool false)
  rw [hx51] at hO
  replace HO := Lib.hid (show Own w none0 x51 [blkR bx (.cells #[.int .i64 ho, .int .i64 pr, .int .i64 po, .int .i64 th, .int .i64 fl, .int .i64 af] 39), blkR br (.cells #[.int .i64 0, .int .i64 0, .int .i64 0, .int .i64 0, .int .i64 0, .bool false, .bool false, .bool false, .int .i64 0] 41), blkR bf (.cells #[.int .i64 (tabI [6, 6, 17, 1] n1), .int .i64 167772170, .int .i64 (tabI [5000, 80, 5001] n2), .int .i64 (167772161 + n3), .int .i64 (tabI [80, 5000, 79] n4), .bool false, .bool false, .bool false, .int .i64 0] 41)] from hO)
  clear hO
  have k2_7_52 : x51.cell? ⟨bf, 7, none⟩ = some (.bool false) := HO.out.cell 2 rfl 7 rfl
  have lk2_7_52 : x51.frozen? ⟨bf, 7, none⟩ = false := HO.out.frz 2 rfl 7
  have k2_8_53 : x51.cell? ⟨bf, 8, none⟩ = some (.int .i64 0) := HO.out.cell 2 rfl 8 rfl
  have lk2_8_53 : x51.frozen? ⟨bf, 8, none⟩ = false := HO.out.frz 2 rfl 8
  obtain ⟨x54, hx54⟩ : ∃ y, x51.setCell ⟨bf, 7, none⟩ (.bool false) = y := ⟨_, rfl⟩
  have hO := HO.out.setCell 2 rfl 7 (.bool false)
  rw [hx54] at hO
  replace HO := Lib.hid (show Own w none0 x54 [blkR bx (.cells #[.int .i64 ho, .int .i64 pr, .int .i64 po, .int .i64 th, .int .i64 fl, .int .i64 af] 39), blkR br (.cells #[.int .i64 0, .int .i64 0, .int .i64 0, .int .i64 0, .int .i64 0, .bool false, .bool false, .bool false, .int .i64 0] 41), blkR bf (.cells #[.int .i64 (tabI [6, 6, 17, 1] n1), .int .i64 167772170, .int .i64 (tabI [5000, 80, 5001] n2), .int .i64 (167772161 + n3), .int .i64 (tabI [80, 5000, 79] n4), .bool false, .bool false, .bool false, .int .i64 0] 41)] from hO)
  clear hO
  have k2_8_55 : x54.cell? ⟨bf, 8, none⟩ = some (.int .i64 0) := HO.out.cell 2 rfl 8 rfl
  have lk2_8_55 : x54.frozen? ⟨bf, 8, none⟩ = false := HO.out.frz 2 rfl 8
  obtain ⟨x56, hx56⟩ : ∃ y, x54.setCell ⟨bf, 8, none⟩ (.int .i64 0) = y := ⟨_, rfl⟩
  have hO := HO.out.setCell 2 rfl 8 (.int .i64 0)
  rw [hx56] at hO
  replace HO := Lib.hid (show Own w none0 x56 [blkR bx (.cells #[.int .i64 ho, .int .i64 pr, .int .i64 po, .int .i64 th, .int .i64 fl, .int .i64 af] 39), blkR br (.cells #[.int .i64 0, .int .i64 0, .int .i64 0, .int .i64 0, .int .i64 0, .bool false, .bool false, .bool false, .int .i64 0] 41), blkR bf (.cells #[.int .i64 (tabI [6, 6, 17, 1] n1), .int .i64 167772170, .int .i64 (tabI [5000, 80, 5001] n2), .int .i64 (167772161 + n3), .int .i64 (tabI [80, 5000, 79] n4), .bool false, .bool false, .bool false, .int .i64 0] 41)] from hO)
  clear hO
  have z0_4 : x56.cell? ⟨bx, 4, none⟩ = some (.int .i64 fl) := HO.out.cell 0 rfl 4 rfl
  go_wp2_with fail
  refine (o_still HO.out (P5.out _)).mono ?_
  rintro e x57 ⟨rfl, hO, -⟩
  replace HO := Lib.hid (show Own w none0 x57 [blkR bx (.cells #[.int .i64 ho, .int .i64 pr, .int .i64 po, .int .i64 th, .int .i64 fl, .int .i64 af] 39), blkR br (.cells #[.int .i64 0, .int .i64 0, .int .i64 0, .int .i64 0, .int .i64 0, .bool false, .bool false, .bool false, .int .i64 0] 41), blkR bf (.cells #[.int .i64 (tabI [6, 6, 17, 1] n1), .int .i64 167772170, .int .i64 (tabI [5000, 80, 5001] n2), .int .i64 (167772161 + n3), .int .i64 (tabI [80, 5000, 79] n4), .bool false, .bool false, .bool false, .int .i64 0] 41)] from hO)
  clear hO
  clear k2_0_3 lk2_0_3 k2_1_4 lk2_1_4 k2_2_5 lk2_2_5 k2_3_6 lk2_3_6 k2_4_7 lk2_4_7 k2_5_8 lk2_5_8 k2_6_9 lk2_6_9 k2_7_10 lk2_7_10 k2_8_11 lk2_8_11 hx12 k2_1_13 lk2_1_13 k2_2_14 lk2_2_14 k2_3_15 lk2_3_15 k2_4_16 lk2_4_16 k2_5_17 lk2_5_17 k2_6_18 lk2_6_18 k2_7_19 lk2_7_19 k2_8_20 lk2_8_20 hx21 k2_2_22 lk2_2_22 k2_3_23 lk2_3_23 k2_4_24 lk2_4_24 k2_5_25 lk2_5_25 k2_6_26 lk2_6_26 k2_7_27 lk2_7_27 k2_8_28 lk2_8_28 hx29 k2_3_30 lk2_3_30 k2_4_31 lk2_4_31 k2_5_32 lk2_5_32 k2_6_33 lk2_6_33 k2_7_34 lk2_7_34 k2_8_35 lk2_8_35 hx36 k2_4_37 lk2_4_37 k2_5_38 lk2_5_38 k2_6_39 lk2_6_39 k2_7_40 lk2_7_40 k2_8_41 lk2_8_41 hx42 k2_5_43 lk2_5_43 k2_6_44 lk2_6_44 k2_7_45 lk2_7_45 k2_8_46 lk2_8_46 hx47 k2_6_48 lk2_6_48 k2_7_49 lk2_7_49 k2_8_50 lk2_8_50 hx51 k2_7_52 lk2_7_52 k2_8_53 lk2_8_53 hx54 k2_8_55 lk2_8_55 hx56 z0_4
  cases h0 : (n5 == 1) with
  | true =>
    obtain rfl : n5 = 1 := by simpa using h0
    have HQ := Lib.hid (show True ∧ True from ⟨trivial, trivial⟩)
    have y2_5 : x57.frozen? ⟨bf, 5, none⟩ = false := HO.out.frz 2 rfl 5
    have z2_5 : x57.cell? ⟨bf, 5, none⟩ = some (.bool false) := HO.out.cell 2 rfl 5 rfl
    obtain ⟨x58, hx58⟩ : ∃ y, x57.setCell ⟨bf, 5, none⟩ (.bool true) = y := ⟨_, rfl⟩
    have hO := HO.out.setCell 2 rfl 5 (.bool true)
    rw [hx58] at hO
    replace HO := Lib.hid (show Own w none0 x58 [blkR bx (.cells #[.int .i64 ho, .int .i64 pr, .int .i64 po, .int .i64 th, .int .i64 fl, .int .i64 af] 39), blkR br (.cells #[.int .i64 0, .int .i64 0, .int .i64 0, .int .i64 0, .int .i64 0, .bool false, .bool false, .bool false, .int .i64 0] 41), blkR bf (.cells #[.int .i64 (tabI [6, 6, 17, 1] n1), .int .i64 167772170, .int .i64 (tabI [5000, 80, 5001] n2), .int .i64 (167772161 + n3), .int .i64 (tabI [80, 5000, 79] n4), .bool true, .bool false, .bool false, .int .i64 0] 41)] from hO)
    clear hO
    have z2_0 : x58.cell? ⟨bf, 0, none⟩ = some (.int .i64 (tabI [6, 6, 17, 1] n1)) := HO.out.cell 2 rfl 0 rfl
    have z2_1 : x58.cell? ⟨bf, 1, none⟩ = some (.int .i64 167772170) := HO.out.cell 2 rfl 1 rfl
    have z2_2 : x58.cell? ⟨bf, 2, none⟩ = some (.int .i64 (tabI [5000, 80, 5001] n2)) := HO.out.cell 2 rfl 2 rfl
    have z2_3 : x58.cell? ⟨bf, 3, none⟩ = some (.int .i64 (167772161 + n3)) := HO.out.cell 2 rfl 3 rfl
    have z2_4 : x58.cell? ⟨bf, 4, none⟩ = some (.int .i64 (tabI [80, 5000, 79] n4)) := HO.out.cell 2 rfl 4 rfl
    have z2_5t : x58.cell? ⟨bf, 5, none⟩ = some (.bool true) := HO.out.cell 2 rfl 5 rfl
    have z2_6 : x58.cell? ⟨bf, 6, none⟩ = some (.bool false) := HO.out.cell 2 rfl 6 rfl
    have z2_7 : x58.cell? ⟨bf, 7, none⟩ = some (.bool false) := HO.out.cell 2 rfl 7 rfl
    have z2_8 : x58.cell? ⟨bf, 8, none⟩ = some (.int .i64 0) := HO.out.cell 2 rfl 8 rfl
    have k1_0_59 : x58.cell? ⟨br, 0, none⟩ = some (.int .i64 0) := HO.out.cell 1 rfl 0 rfl
    have lk1_0_59 : x58.frozen? ⟨br, 0, none⟩ = false := HO.out.frz 1 rfl 0
    have k1_1_60 : x58.cell? ⟨br, 1, none⟩ = some (.int .i64 0) := HO.out.cell 1 rfl 1 rfl
    have lk1_1_60 : x58.frozen? ⟨br, 1, none⟩ = false := HO.out.frz 1 rfl 1
    have k1_2_61 : x58.cell? ⟨br, 2, none⟩ = some (.int .i64 0) := HO.out.cell 1 rfl 2 rfl
    have lk1_2_61 : x58.frozen? ⟨br, 2, none⟩ = false := HO.out.frz 1 rfl 2
    have k1_3_62 : x58.cell? ⟨br, 3, none⟩ = some (.int .i64 0) := HO.out.cell 1 rfl 3 rfl
    have lk1_3_62 : x58.frozen? ⟨br, 3, none⟩ = false := HO.out.frz 1 rfl 3
    have k1_4_63 : x58.cell? ⟨br, 4, none⟩ = some (.int .i64 0) := HO.out.cell 1 rfl 4 rfl
    have lk1_4_63 : x58.frozen? ⟨br, 4, none⟩ = false := HO.out.frz 1 rfl 4
    have k1_5_64 : x58.cell? ⟨br, 5, none⟩ = some (.bool false) := HO.out.cell 1 rfl 5 rfl
    have lk1_5_64 : x58.frozen? ⟨br, 5, none⟩ = false := HO.out.frz 1 rfl 5
    have k1_6_65 : x58.cell? ⟨br, 6, none⟩ = some (.bool false) := HO.out.cell 1 rfl 6 rfl
    have lk1_6_65 : x58.frozen? ⟨br, 6, none⟩ = false := HO.out.frz 1 rfl 6
    have k1_7_66 : x58.cell? ⟨br, 7, none⟩ = some (.bool false) := HO.out.cell 1 rfl 7 rfl
    have lk1_7_66 : x58.frozen? ⟨br, 7, none⟩ = false := HO.out.frz 1 rfl 7
    have k1_8_67 : x58.cell? ⟨br, 8, none⟩ = some (.int .i64 0) := HO.out.cell 1 rfl 8 rfl
    have lk1_8_67 : x58.frozen? ⟨br, 8, none⟩ = false := HO.out.frz 1 rfl 8
    obtain ⟨x68, hx68⟩ : ∃ y, x58.setCell ⟨br, 0, none⟩ (.int .i64 (tabI [6, 6, 17, 1] n1)) = y := ⟨_, rfl⟩
    have hO := HO.out.setCell 1 rfl 0 (.int .i64 (tabI [6, 6, 17, 1] n1))
    rw [hx68] at hO
    replace HO := Lib.hid (show Own w none0 x68 [blkR bx (.cells #[.int .i64 ho, .int .i64 pr, .int .i64 po, .int .i64 th, .int .i64 fl, .int .i64 af] 39), blkR br (.cells #[.int .i64 (tabI [6, 6, 17, 1] n1), .int .i64 0, .int .i64 0, .int .i64 0, .int .i64 0, .bool false, .bool false, .bool false, .int .i64 0] 41), blkR bf (.cells #[.int .i64 (tabI [6, 6, 17, 1] n1), .int .i64 167772170, .int .i64 (tabI [5000, 80, 5001] n2), .int .i64 (167772161 + n3), .int .i64 (tabI [80, 5000, 79] n4), .bool true, .bool false, .bool false, .int .i64 0] 41)] from hO)
    clear hO
    have k1_1_69 : x68.cell? ⟨br, 1, none⟩ = some (.int .i64 0) := HO.out.cell 1 rfl 1 rfl
    have lk1_1_69 : x68.frozen? ⟨br, 1, none⟩ = false := HO.out.frz 1 rfl 1
    have k1_2_70 : x68.cell? ⟨br, 2, none⟩ = some (.int .i64 0) := HO.out.cell 1 rfl 2 rfl
    have lk1_2_70 : x68.frozen? ⟨br, 2, none⟩ = false := HO.out.frz 1 rfl 2
    have k1_3_71 : x68.cell? ⟨br, 3, none⟩ = some (.int .i64 0) := HO.out.cell 1 rfl 3 rfl
    have lk1_3_71 : x68.frozen? ⟨br, 3, none⟩ = false := HO.out.frz 1 rfl 3
    have k1_4_72 : x68.cell? ⟨br, 4, none⟩ = some (.int .i64 0) := HO.out.cell 1 rfl 4 rfl
    have lk1_4_72 : x68.frozen? ⟨br, 4, none⟩ = false := HO.out.frz 1 rfl 4
    have k1_5_73 : x68.cell? ⟨br, 5, none⟩ = some (.bool false) := HO.out.cell 1 rfl 5 rfl
    have lk1_5_73 : x68.frozen? ⟨br, 5, none⟩ = false := HO.out.frz 1 rfl 5
    have k1_6_74 : x68.cell? ⟨br, 6, none⟩ = some (.bool false) := HO.out.cell 1 rfl 6 rfl
    have lk1_6_74 : x68.frozen? ⟨br, 6, none⟩ = false := HO.out.frz 1 rfl 6
    have k1_7_75 : x68.cell? ⟨br, 7, none⟩ = some (.bool false) := HO.out.cell 1 rfl 7 rfl
    have lk1_7_75 : x68.frozen? ⟨br, 7, none⟩ = false := HO.out.frz 1 rfl 7
    have k1_8_76 : x68.cell? ⟨br, 8, none⟩ = some (.int .i64 0) := HO.out.cell 1 rfl 8 rfl
    have lk1_8_76 : x68.frozen? ⟨br, 8, none⟩ = false := HO.out.frz 1 rfl 8
    obtain ⟨x77, hx77⟩ : ∃ y, x68.setCell ⟨br, 1, none⟩ (.int .i64 167772170) = y := ⟨_, rfl⟩
    have hO := HO.out.setCell 1 rfl 1 (.int .i64 167772170)
    rw [hx77] at hO
    replace HO := Lib.hid (show Own w none0 x77 [blkR bx (.cells #[.int .i64 ho, .int .i64 pr, .int .i64 po, .int .i64 th, .int .i64 fl, .int .i64 af] 39), blkR br (.cells #[.int .i64 (tabI [6, 6, 17, 1] n1), .int .i64 167772170, .int .i64 0, .int .i64 0, .int .i64 0, .bool false, .bool false, .bool false, .int .i64 0] 41), blkR bf (.cells #[.int .i64 (tabI [6, 6, 17, 1] n1), .int .i64 167772170, .int .i64 (tabI [5000, 80, 5001] n2), .int .i64 (167772161 + n3), .int .i64 (tabI [80, 5000, 79] n4), .bool true, .bool false, .bool false, .int .i64 0] 41)] from hO)
    clear hO
    have k1_2_78 : x77.cell? ⟨br, 2, none⟩ = some (.int .i64 0) := HO.out.cell 1 rfl 2 rfl
    have lk1_2_78 : x77.frozen? ⟨br, 2, none⟩ = false := HO.out.frz 1 rfl 2
    have k1_3_79 : x77.cell? ⟨br, 3, none⟩ = some (.int .i64 0) := HO.out.cell 1 rfl 3 rfl
    have lk1_3_79 : x77.frozen? ⟨br, 3, none⟩ = false := HO.out.frz 1 rfl 3
    have k1_4_80 : x77.cell? ⟨br, 4, none⟩ = some (.int .i64 0) := HO.out.cell 1 rfl 4 rfl
    have lk1_4_80 : x77.frozen? ⟨br, 4, none⟩ = false := HO.out.frz 1 rfl 4
    have k1_5_81 : x77.cell? ⟨br, 5, none⟩ = some (.bool false) := HO.out.cell 1 rfl 5 rfl
    have lk1_5_81 : x77.frozen? ⟨br, 5, none⟩ = false := HO.out.frz 1 rfl 5
    have k1_6_82 : x77.cell? ⟨br, 6, none⟩ = some (.bool false) := HO.out.cell 1 rfl 6 rfl
    have lk1_6_82 : x77.frozen? ⟨br, 6, none⟩ = false := HO.out.frz 1 rfl 6
    have k1_7_83 : x77.cell? ⟨br, 7, none⟩ = some (.bool false) := HO.out.cell 1 rfl 7 rfl
    have lk1_7_83 : x77.frozen? ⟨br, 7, none⟩ = false := HO.out.frz 1 rfl 7
    have k1_8_84 : x77.cell? ⟨br, 8, none⟩ = some (.int .i64 0) := HO.out.cell 1 rfl 8 rfl
    have lk1_8_84 : x77.frozen? ⟨br, 8, none⟩ = false := HO.out.frz 1 rfl 8
    obtain ⟨x85, hx85⟩ : ∃ y, x77.setCell ⟨br, 2, none⟩ (.int .i64 (tabI [5000, 80, 5001] n2)) = y := ⟨_, rfl⟩
    have hO := HO.out.setCell 1 rfl 2 (.int .i64 (tabI [5000, 80, 5001] n2))
    rw [hx85] at hO
    replace HO := Lib.hid (show Own w none0 x85 [blkR bx (.cells #[.int .i64 ho, .int .i64 pr, .int .i64 po, .int .i64 th, .int .i64 fl, .int .i64 af] 39), blkR br (.cells #[.int .i64 (tabI [6, 6, 17, 1] n1), .int .i64 167772170, .int .i64 (tabI [5000, 80, 5001] n2), .int .i64 0, .int .i64 0, .bool false, .bool false, .bool false, .int .i64 0] 41), blkR bf (.cells #[.int .i64 (tabI [6, 6, 17, 1] n1), .int .i64 167772170, .int .i64 (tabI [5000, 80, 5001] n2), .int .i64 (167772161 + n3), .int .i64 (tabI [80, 5000, 79] n4), .bool true, .bool false, .bool false, .int .i64 0] 41)] from hO)
    clear hO
    have k1_3_86 : x85.cell? ⟨br, 3, none⟩ = some (.int .i64 0) := HO.out.cell 1 rfl 3 rfl
    have lk1_3_86 : x85.frozen? ⟨br, 3, none⟩ = false := HO.out.frz 1 rfl 3
    have k1_4_87 : x85.cell? ⟨br, 4, none⟩ = some (.int .i64 0) := HO.out.cell 1 rfl 4 rfl
    have lk1_4_87 : x85.frozen? ⟨br, 4, none⟩ = false := HO.out.frz 1 rfl 4
    have k1_5_88 : x85.cell? ⟨br, 5, none⟩ = some (.bool false) := HO.out.cell 1 rfl 5 rfl
    have lk1_5_88 : x85.frozen? ⟨br, 5, none⟩ = false := HO.out.frz 1 rfl 5
    have k1_6_89 : x85.cell? ⟨br, 6, none⟩ = some (.bool false) := HO.out.cell 1 rfl 6 rfl
    have lk1_6_89 : x85.frozen? ⟨br, 6, none⟩ = false := HO.out.frz 1 rfl 6
    have k1_7_90 : x85.cell? ⟨br, 7, none⟩ = some (.bool false) := HO.out.cell 1 rfl 7 rfl
    have lk1_7_90 : x85.frozen? ⟨br, 7, none⟩ = false := HO.out.frz 1 rfl 7
    have k1_8_91 : x85.cell? ⟨br, 8, none⟩ = some (.int .i64 0) := HO.out.cell 1 rfl 8 rfl
    have lk1_8_91 : x85.frozen? ⟨br, 8, none⟩ = false := HO.out.frz 1 rfl 8
    obtain ⟨x92, hx92⟩ : ∃ y, x85.setCell ⟨br, 3, none⟩ (.int .i64 (167772161 + n3)) = y := ⟨_, rfl⟩
    have hO := HO.out.setCell 1 rfl 3 (.int .i64 (167772161 + n3))
    rw [hx92] at hO
    replace HO := Lib.hid (show Own w none0 x92 [blkR bx (.cells #[.int .i64 ho, .int .i64 pr, .int .i64 po, .int .i64 th, .int .i64 fl, .int .i64 af] 39), blkR br (.cells #[.int .i64 (tabI [6, 6, 17, 1] n1), .int .i64 167772170, .int .i64 (tabI [5000, 80, 5001] n2), .int .i64 (167772161 + n3), .int .i64 0, .bool false, .bool false, .bool false, .int .i64 0] 41), blkR bf (.cells #[.int .i64 (tabI [6, 6, 17, 1] n1), .int .i64 167772170, .int .i64 (tabI [5000, 80, 5001] n2), .int .i64 (167772161 + n3), .int .i64 (tabI [80, 5000, 79] n4), .bool true, .bool false, .bool false, .int .i64 0] 41)] from hO)
    clear hO
    have k1_4_93 : x92.cell? ⟨br, 4, none⟩ = some (.int .i64 0) := HO.out.cell 1 rfl 4 rfl
    have lk1_4_93 : x92.frozen? ⟨br, 4, none⟩ = false := HO.out.frz 1 rfl 4
    have k1_5_94 : x92.cell? ⟨br, 5, none⟩ = some (.bool false) := HO.out.cell 1 rfl 5 rfl
    have lk1_5_94 : x92.frozen? ⟨br, 5, none⟩ = false := HO.out.frz 1 rfl 5
    have k1_6_95 : x92.cell? ⟨br, 6, none⟩ = some (.bool false) := HO.out.cell 1 rfl 6 rfl
    have lk1_6_95 : x92.frozen? ⟨br, 6, none⟩ = false := HO.out.frz 1 rfl 6
    have k1_7_96 : x92.cell? ⟨br, 7, none⟩ = some (.bool false) := HO.out.cell 1 rfl 7 rfl
    have lk1_7_96 : x92.frozen? ⟨br, 7, none⟩ = false := HO.out.frz 1 rfl 7
    have k1_8_97 : x92.cell? ⟨br, 8, none⟩ = some (.int .i64 0) := HO.out.cell 1 rfl 8 rfl
    have lk1_8_97 : x92.frozen? ⟨br, 8, none⟩ = false := HO.out.frz 1 rfl 8
    obtain ⟨x98, hx98⟩ : ∃ y, x92.setCell ⟨br, 4, none⟩ (.int .i64 (tabI [80, 5000, 79] n4)) = y := ⟨_, rfl⟩
    have hO := HO.out.setCell 1 rfl 4 (.int .i64 (tabI [80, 5000, 79] n4))
    rw [hx98] at hO
    replace HO := Lib.hid (show Own w none0 x98 [blkR bx (.cells #[.int .i64 ho, .int .i64 pr, .int .i64 po, .int .i64 th, .int .i64 fl, .int .i64 af] 39), blkR br (.cells #[.int .i64 (tabI [6, 6, 17, 1] n1), .int .i64 167772170, .int .i64 (tabI [5000, 80, 5001] n2), .int .i64 (167772161 + n3), .int .i64 (tabI [80, 5000, 79] n4), .bool false, .bool false, .bool false, .int .i64 0] 41), blkR bf (.cells #[.int .i64 (tabI [6, 6, 17, 1] n1), .int .i64 167772170, .int .i64 (tabI [5000, 80, 5001] n2), .int .i64 (167772161 + n3), .int .i64 (tabI [80, 5000, 79] n4), .bool true, .bool false, .bool false, .int .i64 0] 41)] from hO)
    clear hO
    have k1_5_99 : x98.cell? ⟨br, 5, none⟩ = some (.bool false) := HO.out.cell 1 rfl 5 rfl
    have lk1_5_99 : x98.frozen? ⟨br, 5, none⟩ = false := HO.out.frz 1 rfl 5
    have k1_6_100 : x98.cell? ⟨br, 6, none⟩ = some (.bool false) := HO.out.cell 1 rfl 6 rfl
    have lk1_6_100 : x98.frozen? ⟨br, 6, none⟩ = false := HO.out.frz 1 rfl 6
    have k1_7_101 : x98.cell? ⟨br, 7, none⟩ = some (.bool false) := HO.out.cell 1 rfl 7 rfl
    have lk1_7_101 : x98.frozen? ⟨br, 7, none⟩ = false := HO.out.frz 1 rfl 7
    have k1_8_102 : x98.cell? ⟨br, 8, none⟩ = some (.int .i64 0) := HO.out.cell 1 rfl 8 rfl
    have lk1_8_102 : x98.frozen? ⟨br, 8, none⟩ = false := HO.out.frz 1 rfl 8
    obtain ⟨x103, hx103⟩ : ∃ y, x98.setCell ⟨br, 5, none⟩ (.bool true) = y := ⟨_, rfl⟩
    have hO := HO.out.setCell 1 rfl 5 (.bool true)
    rw [hx103] at hO
    replace HO := Lib.hid (show Own w none0 x103 [blkR bx (.cells #[.int .i64 ho, .int .i64 pr, .int .i64 po, .int .i64 th, .int .i64 fl, .int .i64 af] 39), blkR br (.cells #[.int .i64 (tabI [6, 6, 17, 1] n1), .int .i64 167772170, .int .i64 (tabI [5000, 80, 5001] n2), .int .i64 (167772161 + n3), .int .i64 (tabI [80, 5000, 79] n4), .bool true, .bool false, .bool false, .int .i64 0] 41), blkR bf (.cells #[.int .i64 (tabI [6, 6, 17, 1] n1), .int .i64 167772170, .int .i64 (tabI [5000, 80, 5001] n2), .int .i64 (167772161 + n3), .int .i64 (tabI [80, 5000, 79] n4), .bool true, .bool false, .bool false, .int .i64 0] 41)] from hO)
    clear hO
    have k1_6_104 : x103.cell? ⟨br, 6, none⟩ = some (.bool false) := HO.out.cell 1 rfl 6 rfl
    have lk1_6_104 : x103.frozen? ⟨br, 6, none⟩ = false := HO.out.frz 1 rfl 6
    have k1_7_105 : x103.cell? ⟨br, 7, none⟩ = some (.bool false) := HO.out.cell 1 rfl 7 rfl
    have lk1_7_105 : x103.frozen? ⟨br, 7, none⟩ = false := HO.out.frz 1 rfl 7
    have k1_8_106 : x103.cell? ⟨br, 8, none⟩ = some (.int .i64 0) := HO.out.cell 1 rfl 8 rfl
    have lk1_8_106 : x103.frozen? ⟨br, 8, none⟩ = false := HO.out.frz 1 rfl 8
    obtain ⟨x107, hx107⟩ : ∃ y, x103.setCell ⟨br, 6, none⟩ (.bool false) = y := ⟨_, rfl⟩
    have hO := HO.out.setCell 1 rfl 6 (.bool false)
    rw [hx107] at hO
    replace HO := Lib.hid (show Own w none0 x107 [blkR bx (.cells #[.int .i64 ho, .int .i64 pr, .int .i64 po, .int .i64 th, .int .i64 fl, .int .i64 af] 39), blkR br (.cells #[.int .i64 (tabI [6, 6, 17, 1] n1), .int .i64 167772170, .int .i64 (tabI [5000, 80, 5001] n2), .int .i64 (167772161 + n3), .int .i64 (tabI [80, 5000, 79] n4), .bool true, .bool false, .bool false, .int .i64 0] 41), blkR bf (.cells #[.int .i64 (tabI [6, 6, 17, 1] n1), .int .i64 167772170, .int .i64 (tabI [5000, 80, 5001] n2), .int .i64 (167772161 + n3), .int .i64 (tabI [80, 5000, 79] n4), .bool true, .bool false, .bool false, .int .i64 0] 41)] from hO)
    clear hO
    have k1_7_108 : x107.cell? ⟨br, 7, none⟩ = some (.bool false) := HO.out.cell 1 rfl 7 rfl
    have lk1_7_108 : x107.frozen? ⟨br, 7, none⟩ = false := HO.out.frz 1 rfl 7
    have k1_8_109 : x107.cell? ⟨br, 8, none⟩ = some (.int .i64 0) := HO.out.cell 1 rfl 8 rfl
    have lk1_8_109 : x107.frozen? ⟨br, 8, none⟩ = false := HO.out.frz 1 rfl 8
    obtain ⟨x110, hx110⟩ : ∃ y, x107.setCell ⟨br, 7, none⟩ (.bool false) = y := ⟨_, rfl⟩
    have hO := HO.out.setCell 1 rfl 7 (.bool false)
    rw [hx110] at hO
    replace HO := Lib.hid (show Own w none0 x110 [blkR bx (.cells #[.int .i64 ho, .int .i64 pr, .int .i64 po, .int .i64 th, .int .i64 fl, .int .i64 af] 39), blkR br (.cells #[.int .i64 (tabI [6, 6, 17, 1] n1), .int .i64 167772170, .int .i64 (tabI [5000, 80, 5001] n2), .int .i64 (167772161 + n3), .int .i64 (tabI [80, 5000, 79] n4), .bool true, .bool false, .bool false, .int .i64 0] 41), blkR bf (.cells #[.int .i64 (tabI [6, 6, 17, 1] n1), .int .i64 167772170, .int .i64 (tabI [5000, 80, 5001] n2), .int .i64 (167772161 + n3), .int .i64 (tabI [80, 5000, 79] n4), .bool true, .bool false, .bool false, .int .i64 0] 41)] from hO)
    clear hO
    have k1_8_111 : x110.cell? ⟨br, 8, none⟩ = some (.int .i64 0) := HO.out.cell 1 rfl 8 rfl
    have lk1_8_111 : x110.frozen? ⟨br, 8, none⟩ = false := HO.out.frz 1 rfl 8
    obtain ⟨x112, hx112⟩ : ∃ y, x110.setCell ⟨br, 8, none⟩ (.int .i64 0) = y := ⟨_, rfl⟩
    have hO := HO.out.setCell 1 rfl 8 (.int .i64 0)
    rw [hx112] at hO
    replace HO := Lib.hid (show Own w none0 x112 [blkR bx (.cells #[.int .i64 ho, .int .i64 pr, .int .i64 po, .int .i64 th, .int .i64 fl, .int .i64 af] 39), blkR br (.cells #[.int .i64 (tabI [6, 6, 17, 1] n1), .int .i64 167772170, .int .i64 (tabI [5000, 80, 5001] n2), .int .i64 (167772161 + n3), .int .i64 (tabI [80, 5000, 79] n4), .bool true, .bool false, .bool false, .int .i64 0] 41), blkR bf (.cells #[.int .i64 (tabI [6, 6, 17, 1] n1), .int .i64 167772170, .int .i64 (tabI [5000, 80, 5001] n2), .int .i64 (167772161 + n3), .int .i64 (tabI [80, 5000, 79] n4), .bool true, .bool false, .bool false, .int .i64 0] 41)] from hO)
    clear hO
    go_wp2
    have r0 : x112.cell? ⟨br, 0, none⟩ = some (.int .i64 (tabI [6, 6, 17, 1] n1)) := HO.out.cell 1 rfl 0 rfl
    have r1 : x112.cell? ⟨br, 1, none⟩ = some (.int .i64 167772170) := HO.out.cell 1 rfl 1 rfl
    have r2 : x112.cell? ⟨br, 2, none⟩ = some (.int .i64 (tabI [5000, 80, 5001] n2)) := HO.out.cell 1 rfl 2 rfl
    have r3 : x112.cell? ⟨br, 3, none⟩ = some (.int .i64 (167772161 + n3)) := HO.out.cell 1 rfl 3 rfl
    have r4 : x112.cell? ⟨br, 4, none⟩ = some (.int .i64 (tabI [80, 5000, 79] n4)) := HO.out.cell 1 rfl 4 rfl
    have r5 : x112.cell? ⟨br, 5, none⟩ = some (.bool true) := HO.out.cell 1 rfl 5 rfl
    have r6 : x112.cell? ⟨br, 6, none⟩ = some (.bool false) := HO.out.cell 1 rfl 6 rfl
    have r7 : x112.cell? ⟨br, 7, none⟩ = some (.bool false) := HO.out.cell 1 rfl 7 rfl
    have r8 : x112.cell? ⟨br, 8, none⟩ = some (.int .i64 0) := HO.out.cell 1 rfl 8 rfl
    exact bodyPost_ret (v := .agg #[.int .i64 (tabI [6, 6, 17, 1] n1), .int .i64 167772170, .int .i64 (tabI [5000, 80, 5001] n2), .int .i64 (167772161 + n3), .int .i64 (tabI [80, 5000, 79] n4), .bool true, .bool false, .bool false, .int .i64 0]) (by simp [results, Try.results11, go_sem, r0, r1, r2, r3, r4, r5, r6, r7, r8]) rfl ⟨by rw [HF.out]; simp, HO.out.below⟩
  | false =>
    cases h1 : (n5 == 2) with
    | true =>
      obtain rfl : n5 = 2 := by simpa using h1
      have HQ := Lib.hid (show True ∧ True from ⟨trivial, trivial⟩)
      have y2_6 : x57.frozen? ⟨bf, 6, none⟩ = false := HO.out.frz 2 rfl 6
      have z2_6 : x57.cell? ⟨bf, 6, none⟩ = some (.bool false) := HO.out.cell 2 rfl 6 rfl
      obtain ⟨x58, hx58⟩ : ∃ y, x57.setCell ⟨bf, 6, none⟩ (.bool true) = y := ⟨_, rfl⟩
      have hO := HO.out.setCell 2 rfl 6 (.bool true)
      rw [hx58] at hO
      replace HO := Lib.hid (show Own w none0 x58 [blkR bx (.cells #[.int .i64 ho, .int .i64 pr, .int .i64 po, .int .i64 th, .int .i64 fl, .int .i64 af] 39), blkR br (.cells #[.int .i64 0, .int .i64 0, .int .i64 0, .int .i64 0, .int .i64 0, .bool false, .bool false, .bool false, .int .i64 0] 41), blkR bf (.cells #[.int .i64 (tabI [6, 6, 17, 1] n1), .int .i64 167772170, .int .i64 (tabI [5000, 80, 5001] n2), .int .i64 (167772161 + n3), .int .i64 (tabI [80, 5000, 79] n4), .bool false, .bool true, .bool false, .int .i64 0] 41)] from hO)
      clear hO
      have z2_0 : x58.cell? ⟨bf, 0, none⟩ = some (.int .i64 (tabI [6, 6, 17, 1] n1)) := HO.out.cell 2 rfl 0 rfl
      have z2_1 : x58.cell? ⟨bf, 1, none⟩ = some (.int .i64 167772170) := HO.out.cell 2 rfl 1 rfl
      have z2_2 : x58.cell? ⟨bf, 2, none⟩ = some (.int .i64 (tabI [5000, 80, 5001] n2)) := HO.out.cell 2 rfl 2 rfl
      have z2_3 : x58.cell? ⟨bf, 3, none⟩ = some (.int .i64 (167772161 + n3)) := HO.out.cell 2 rfl 3 rfl
      have z2_4 : x58.cell? ⟨bf, 4, none⟩ = some (.int .i64 (tabI [80, 5000, 79] n4)) := HO.out.cell 2 rfl 4 rfl
      have z2_5 : x58.cell? ⟨bf, 5, none⟩ = some (.bool false) := HO.out.cell 2 rfl 5 rfl
      have z2_6t : x58.cell? ⟨bf, 6, none⟩ = some (.bool true) := HO.out.cell 2 rfl 6 rfl
      have z2_7 : x58.cell? ⟨bf, 7, none⟩ = some (.bool false) := HO.out.cell 2 rfl 7 rfl
      have z2_8 : x58.cell? ⟨bf, 8, none⟩ = some (.int .i64 0) := HO.out.cell 2 rfl 8 rfl
      have k1_0_59 : x58.cell? ⟨br, 0, none⟩ = some (.int .i64 0) := HO.out.cell 1 rfl 0 rfl
      have lk1_0_59 : x58.frozen? ⟨br, 0, none⟩ = false := HO.out.frz 1 rfl 0
      have k1_1_60 : x58.cell? ⟨br, 1, none⟩ = some (.int .i64 0) := HO.out.cell 1 rfl 1 rfl
      have lk1_1_60 : x58.frozen? ⟨br, 1, none⟩ = false := HO.out.frz 1 rfl 1
      have k1_2_61 : x58.cell? ⟨br, 2, none⟩ = some (.int .i64 0) := HO.out.cell 1 rfl 2 rfl
      have lk1_2_61 : x58.frozen? ⟨br, 2, none⟩ = false := HO.out.frz 1 rfl 2
      have k1_3_62 : x58.cell? ⟨br, 3, none⟩ = some (.int .i64 0) := HO.out.cell 1 rfl 3 rfl
      have lk1_3_62 : x58.frozen? ⟨br, 3, none⟩ = false := HO.out.frz 1 rfl 3
      have k1_4_63 : x58.cell? ⟨br, 4, none⟩ = some (.int .i64 0) := HO.out.cell 1 rfl 4 rfl
      have lk1_4_63 : x58.frozen? ⟨br, 4, none⟩ = false := HO.out.frz 1 rfl 4
      have k1_5_64 : x58.cell? ⟨br, 5, none⟩ = some (.bool false) := HO.out.cell 1 rfl 5 rfl
      have lk1_5_64 : x58.frozen? ⟨br, 5, none⟩ = false := HO.out.frz 1 rfl 5
      have k1_6_65 : x58.cell? ⟨br, 6, none⟩ = some (.bool false) := HO.out.cell 1 rfl 6 rfl
      have lk1_6_65 : x58.frozen? ⟨br, 6, none⟩ = false := HO.out.frz 1 rfl 6
      have k1_7_66 : x58.cell? ⟨br, 7, none⟩ = some (.bool false) := HO.out.cell 1 rfl 7 rfl
      have lk1_7_66 : x58.frozen? ⟨br, 7, none⟩ = false := HO.out.frz 1 rfl 7
      have k1_8_67 : x58.cell? ⟨br, 8, none⟩ = some (.int .i64 0) := HO.out.cell 1 rfl 8 rfl
      have lk1_8_67 : x58.frozen? ⟨br, 8, none⟩ = false := HO.out.frz 1 rfl 8
      obtain ⟨x68, hx68⟩ : ∃ y, x58.setCell ⟨br, 0, none⟩ (.int .i64 (tabI [6, 6, 17, 1] n1)) = y := ⟨_, rfl⟩
      have hO := HO.out.setCell 1 rfl 0 (.int .i64 (tabI [6, 6, 17, 1] n1))
      rw [hx68] at hO
      replace HO := Lib.hid (show Own w none0 x68 [blkR bx (.cells #[.int .i64 ho, .int .i64 pr, .int .i64 po, .int .i64 th, .int .i64 fl, .int .i64 af] 39), blkR br (.cells #[.int .i64 (tabI [6, 6, 17, 1] n1), .int .i64 0, .int .i64 0, .int .i64 0, .int .i64 0, .bool false, .bool false, .bool false, .int .i64 0] 41), blkR bf (.cells #[.int .i64 (tabI [6, 6, 17, 1] n1), .int .i64 167772170, .int .i64 (tabI [5000, 80, 5001] n2), .int .i64 (167772161 + n3), .int .i64 (tabI [80, 5000, 79] n4), .bool false, .bool true, .bool false, .int .i64 0] 41)] from hO)
      clear hO
      have k1_1_69 : x68.cell? ⟨br, 1, none⟩ = some (.int .i64 0) := HO.out.cell 1 rfl 1 rfl
      have lk1_1_69 : x68.frozen? ⟨br, 1, none⟩ = false := HO.out.frz 1 rfl 1
      have k1_2_70 : x68.cell? ⟨br, 2, none⟩ = some (.int .i64 0) := HO.out.cell 1 rfl 2 rfl
      have lk1_2_70 : x68.frozen? ⟨br, 2, none⟩ = false := HO.out.frz 1 rfl 2
      have k1_3_71 : x68.cell? ⟨br, 3, none⟩ = some (.int .i64 0) := HO.out.cell 1 rfl 3 rfl
      have lk1_3_71 : x68.frozen? ⟨br, 3, none⟩ = false := HO.out.frz 1 rfl 3
      have k1_4_72 : x68.cell? ⟨br, 4, none⟩ = some (.int .i64 0) := HO.out.cell 1 rfl 4 rfl
      have lk1_4_72 : x68.frozen? ⟨br, 4, none⟩ = false := HO.out.frz 1 rfl 4
      have k1_5_73 : x68.cell? ⟨br, 5, none⟩ = some (.bool false) := HO.out.cell 1 rfl 5 rfl
      have lk1_5_73 : x68.frozen? ⟨br, 5, none⟩ = false := HO.out.frz 1 rfl 5
      have k1_6_74 : x68.cell? ⟨br, 6, none⟩ = some (.bool false) := HO.out.cell 1 rfl 6 rfl
      have lk1_6_74 : x68.frozen? ⟨br, 6, none⟩ = false := HO.out.frz 1 rfl 6
      have k1_7_75 : x68.cell? ⟨br, 7, none⟩ = some (.bool false) := HO.out.cell 1 rfl 7 rfl
      have lk1_7_75 : x68.frozen? ⟨br, 7, none⟩ = false := HO.out.frz 1 rfl 7
      have k1_8_76 : x68.cell? ⟨br, 8, none⟩ = some (.int .i64 0) := HO.out.cell 1 rfl 8 rfl
      have lk1_8_76 : x68.frozen? ⟨br, 8, none⟩ = false := HO.out.frz 1 rfl 8
      obtain ⟨x77, hx77⟩ : ∃ y, x68.setCell ⟨br, 1, none⟩ (.int .i64 167772170) = y := ⟨_, rfl⟩
      have hO := HO.out.setCell 1 rfl 1 (.int .i64 167772170)
      rw [hx77] at hO
      replace HO := Lib.hid (show Own w none0 x77 [blkR bx (.cells #[.int .i64 ho, .int .i64 pr, .int .i64 po, .int .i64 th, .int .i64 fl, .int .i64 af] 39), blkR br (.cells #[.int .i64 (tabI [6, 6, 17, 1] n1), .int .i64 167772170, .int .i64 0, .int .i64 0, .int .i64 0, .bool false, .bool false, .bool false, .int .i64 0] 41), blkR bf (.cells #[.int .i64 (tabI [6, 6, 17, 1] n1), .int .i64 167772170, .int .i64 (tabI [5000, 80, 5001] n2), .int .i64 (167772161 + n3), .int .i64 (tabI [80, 5000, 79] n4), .bool false, .bool true, .bool false, .int .i64 0] 41)] from hO)
      clear hO
      have k1_2_78 : x77.cell? ⟨br, 2, none⟩ = some (.int .i64 0) := HO.out.cell 1 rfl 2 rfl
      have lk1_2_78 : x77.frozen? ⟨br, 2, none⟩ = false := HO.out.frz 1 rfl 2
      have k1_3_79 : x77.cell? ⟨br, 3, none⟩ = some (.int .i64 0) := HO.out.cell 1 rfl 3 rfl
      have lk1_3_79 : x77.frozen? ⟨br, 3, none⟩ = false := HO.out.frz 1 rfl 3
      have k1_4_80 : x77.cell? ⟨br, 4, none⟩ = some (.int .i64 0) := HO.out.cell 1 rfl 4 rfl
      have lk1_4_80 : x77.frozen? ⟨br, 4, none⟩ = false := HO.out.frz 1 rfl 4
      have k1_5_81 : x77.cell? ⟨br, 5, none⟩ = some (.bool false) := HO.out.cell 1 rfl 5 rfl
      have lk1_5_81 : x77.frozen? ⟨br, 5, none⟩ = false := HO.out.frz 1 rfl 5
      have k1_6_82 : x77.cell? ⟨br, 6, none⟩ = some (.bool false) := HO.out.cell 1 rfl 6 rfl
      have lk1_6_82 : x77.frozen? ⟨br, 6, none⟩ = false := HO.out.frz 1 rfl 6
      have k1_7_83 : x77.cell? ⟨br, 7, none⟩ = some (.bool false) := HO.out.cell 1 rfl 7 rfl
      have lk1_7_83 : x77.frozen? ⟨br, 7, none⟩ = false := HO.out.frz 1 rfl 7
      have k1_8_84 : x77.cell? ⟨br, 8, none⟩ = some (.int .i64 0) := HO.out.cell 1 rfl 8 rfl
      have lk1_8_84 : x77.frozen? ⟨br, 8, none⟩ = false := HO.out.frz 1 rfl 8
      obtain ⟨x85, hx85⟩ : ∃ y, x77.setCell ⟨br, 2, none⟩ (.int .i64 (tabI [5000, 80, 5001] n2)) = y := ⟨_, rfl⟩
      have hO := HO.out.setCell 1 rfl 2 (.int .i64 (tabI [5000, 80, 5001] n2))
      rw [hx85] at hO
      replace HO := Lib.hid (show Own w none0 x85 [blkR bx (.cells #[.int .i64 ho, .int .i64 pr, .int .i64 po, .int .i64 th, .int .i64 fl, .int .i64 af] 39), blkR br (.cells #[.int .i64 (tabI [6, 6, 17, 1] n1), .int .i64 167772170, .int .i64 (tabI [5000, 80, 5001] n2), .int .i64 0, .int .i64 0, .bool false, .bool false, .bool false, .int .i64 0] 41), blkR bf (.cells #[.int .i64 (tabI [6, 6, 17, 1] n1), .int .i64 167772170, .int .i64 (tabI [5000, 80, 5001] n2), .int .i64 (167772161 + n3), .int .i64 (tabI [80, 5000, 79] n4), .bool false, .bool true, .bool false, .int .i64 0] 41)] from hO)
      clear hO
      have k1_3_86 : x85.cell? ⟨br, 3, none⟩ = some (.int .i64 0) := HO.out.cell 1 rfl 3 rfl
      have lk1_3_86 : x85.frozen? ⟨br, 3, none⟩ = false := HO.out.frz 1 rfl 3
      have k1_4_87 : x85.cell? ⟨br, 4, none⟩ = some (.int .i64 0) := HO.out.cell 1 rfl 4 rfl
      have lk1_4_87 : x85.frozen? ⟨br, 4, none⟩ = false := HO.out.frz 1 rfl 4
      have k1_5_88 : x85.cell? ⟨br, 5, none⟩ = some (.bool false) := HO.out.cell 1 rfl 5 rfl
      have lk1_5_88 : x85.frozen? ⟨br, 5, none⟩ = false := HO.out.frz 1 rfl 5
      have k1_6_89 : x85.cell? ⟨br, 6, none⟩ = some (.bool false) := HO.out.cell 1 rfl 6 rfl
      have lk1_6_89 : x85.frozen? ⟨br, 6, none⟩ = false := HO.out.frz 1 rfl 6
      have k1_7_90 : x85.cell? ⟨br, 7, none⟩ = some (.bool false) := HO.out.cell 1 rfl 7 rfl
      have lk1_7_90 : x85.frozen? ⟨br, 7, none⟩ = false := HO.out.frz 1 rfl 7
      have k1_8_91 : x85.cell? ⟨br, 8, none⟩ = some (.int .i64 0) := HO.out.cell 1 rfl 8 rfl
      have lk1_8_91 : x85.frozen? ⟨br, 8, none⟩ = false := HO.out.frz 1 rfl 8
      obtain ⟨x92, hx92⟩ : ∃ y, x85.setCell ⟨br, 3, none⟩ (.int .i64 (167772161 + n3)) = y := ⟨_, rfl⟩
      have hO := HO.out.setCell 1 rfl 3 (.int .i64 (167772161 + n3))
      rw [hx92] at hO
      replace HO := Lib.hid (show Own w none0 x92 [blkR bx (.cells #[.int .i64 ho, .int .i64 pr, .int .i64 po, .int .i64 th, .int .i64 fl, .int .i64 af] 39), blkR br (.cells #[.int .i64 (tabI [6, 6, 17, 1] n1), .int .i64 167772170, .int .i64 (tabI [5000, 80, 5001] n2), .int .i64 (167772161 + n3), .int .i64 0, .bool false, .bool false, .bool false, .int .i64 0] 41), blkR bf (.cells #[.int .i64 (tabI [6, 6, 17, 1] n1), .int .i64 167772170, .int .i64 (tabI [5000, 80, 5001] n2), .int .i64 (167772161 + n3), .int .i64 (tabI [80, 5000, 79] n4), .bool false, .bool true, .bool false, .int .i64 0] 41)] from hO)
      clear hO
      have k1_4_93 : x92.cell? ⟨br, 4, none⟩ = some (.int .i64 0) := HO.out.cell 1 rfl 4 rfl
      have lk1_4_93 : x92.frozen? ⟨br, 4, none⟩ = false := HO.out.frz 1 rfl 4
      have k1_5_94 : x92.cell? ⟨br, 5, none⟩ = some (.bool false) := HO.out.cell 1 rfl 5 rfl
      have lk1_5_94 : x92.frozen? ⟨br, 5, none⟩ = false := HO.out.frz 1 rfl 5
      have k1_6_95 : x92.cell? ⟨br, 6, none⟩ = some (.bool false) := HO.out.cell 1 rfl 6 rfl
      have lk1_6_95 : x92.frozen? ⟨br, 6, none⟩ = false := HO.out.frz 1 rfl 6
      have k1_7_96 : x92.cell? ⟨br, 7, none⟩ = some (.bool false) := HO.out.cell 1 rfl 7 rfl
      have lk1_7_96 : x92.frozen? ⟨br, 7, none⟩ = false := HO.out.frz 1 rfl 7
      have k1_8_97 : x92.cell? ⟨br, 8, none⟩ = some (.int .i64 0) := HO.out.cell 1 rfl 8 rfl
      have lk1_8_97 : x92.frozen? ⟨br, 8, none⟩ = false := HO.out.frz 1 rfl 8
      obtain ⟨x98, hx98⟩ : ∃ y, x92.setCell ⟨br, 4, none⟩ (.int .i64 (tabI [80, 5000, 79] n4)) = y := ⟨_, rfl⟩
      have hO := HO.out.setCell 1 rfl 4 (.int .i64 (tabI [80, 5000, 79] n4))
      rw [hx98] at hO
      replace HO := Lib.hid (show Own w none0 x98 [blkR bx (.cells #[.int .i64 ho, .int .i64 pr, .int .i64 po, .int .i64 th, .int .i64 fl, .int .i64 af] 39), blkR br (.cells #[.int .i64 (tabI [6, 6, 17, 1] n1), .int .i64 167772170, .int .i64 (tabI [5000, 80, 5001] n2), .int .i64 (167772161 + n3), .int .i64 (tabI [80, 5000, 79] n4), .bool false, .bool false, .bool false, .int .i64 0] 41), blkR bf (.cells #[.int .i64 (tabI [6, 6, 17, 1] n1), .int .i64 167772170, .int .i64 (tabI [5000, 80, 5001] n2), .int .i64 (167772161 + n3), .int .i64 (tabI [80, 5000, 79] n4), .bool false, .bool true, .bool false, .int .i64 0] 41)] from hO)
      clear hO
      have k1_5_99 : x98.cell? ⟨br, 5, none⟩ = some (.bool false) := HO.out.cell 1 rfl 5 rfl
      have lk1_5_99 : x98.frozen? ⟨br, 5, none⟩ = false := HO.out.frz 1 rfl 5
      have k1_6_100 : x98.cell? ⟨br, 6, none⟩ = some (.bool false) := HO.out.cell 1 rfl 6 rfl
      have lk1_6_100 : x98.frozen? ⟨br, 6, none⟩ = false := HO.out.frz 1 rfl 6
      have k1_7_101 : x98.cell? ⟨br, 7, none⟩ = some (.bool false) := HO.out.cell 1 rfl 7 rfl
      have lk1_7_101 : x98.frozen? ⟨br, 7, none⟩ = false := HO.out.frz 1 rfl 7
      have k1_8_102 : x98.cell? ⟨br, 8, none⟩ = some (.int .i64 0) := HO.out.cell 1 rfl 8 rfl
      have lk1_8_102 : x98.frozen? ⟨br, 8, none⟩ = false := HO.out.frz 1 rfl 8
      obtain ⟨x103, hx103⟩ : ∃ y, x98.setCell ⟨br, 5, none⟩ (.bool false) = y := ⟨_, rfl⟩
      have hO := HO.out.setCell 1 rfl 5 (.bool false)
      rw [hx103] at hO
      replace HO := Lib.hid (show Own w none0 x103 [blkR bx (.cells #[.int .i64 ho, .int .i64 pr, .int .i64 po, .int .i64 th, .int .i64 fl, .int .i64 af] 39), blkR br (.cells #[.int .i64 (tabI [6, 6, 17, 1] n1), .int .i64 167772170, .int .i64 (tabI [5000, 80, 5001] n2), .int .i64 (167772161 + n3), .int .i64 (tabI [80, 5000, 79] n4), .bool false, .bool false, .bool false, .int .i64 0] 41), blkR bf (.cells #[.int .i64 (tabI [6, 6, 17, 1] n1), .int .i64 167772170, .int .i64 (tabI [5000, 80, 5001] n2), .int .i64 (167772161 + n3), .int .i64 (tabI [80, 5000, 79] n4), .bool false, .bool true, .bool false, .int .i64 0] 41)] from hO)
      clear hO
      have k1_6_104 : x103.cell? ⟨br, 6, none⟩ = some (.bool false) := HO.out.cell 1 rfl 6 rfl
      have lk1_6_104 : x103.frozen? ⟨br, 6, none⟩ = false := HO.out.frz 1 rfl 6
      have k1_7_105 : x103.cell? ⟨br, 7, none⟩ = some (.bool false) := HO.out.cell 1 rfl 7 rfl
      have lk1_7_105 : x103.frozen? ⟨br, 7, none⟩ = false := HO.out.frz 1 rfl 7
      have k1_8_106 : x103.cell? ⟨br, 8, none⟩ = some (.int .i64 0) := HO.out.cell 1 rfl 8 rfl
      have lk1_8_106 : x103.frozen? ⟨br, 8, none⟩ = false := HO.out.frz 1 rfl 8
      obtain ⟨x107, hx107⟩ : ∃ y, x103.setCell ⟨br, 6, none⟩ (.bool true) = y := ⟨_, rfl⟩
      have hO := HO.out.setCell 1 rfl 6 (.bool true)
      rw [hx107] at hO
      replace HO := Lib.hid (show Own w none0 x107 [blkR bx (.cells #[.int .i64 ho, .int .i64 pr, .int .i64 po, .int .i64 th, .int .i64 fl, .int .i64 af] 39), blkR br (.cells #[.int .i64 (tabI [6, 6, 17, 1] n1), .int .i64 167772170, .int .i64 (tabI [5000, 80, 5001] n2), .int .i64 (167772161 + n3), .int .i64 (tabI [80, 5000, 79] n4), .bool false, .bool true, .bool false, .int .i64 0] 41), blkR bf (.cells #[.int .i64 (tabI [6, 6, 17, 1] n1), .int .i64 167772170, .int .i64 (tabI [5000, 80, 5001] n2), .int .i64 (167772161 + n3), .int .i64 (tabI [80, 5000, 79] n4), .bool false, .bool true, .bool false, .int .i64 0] 41)] from hO)
      clear hO
      have k1_7_108 : x107.cell? ⟨br, 7, none⟩ = some (.bool false) := HO.out.cell 1 rfl 7 rfl
      have lk1_7_108 : x107.frozen? ⟨br, 7, none⟩ = false := HO.out.frz 1 rfl 7
      have k1_8_109 : x107.cell? ⟨br, 8, none⟩ = some (.int .i64 0) := HO.out.cell 1 rfl 8 rfl
      have lk1_8_109 : x107.frozen? ⟨br, 8, none⟩ = false := HO.out.frz 1 rfl 8
      obtain ⟨x110, hx110⟩ : ∃ y, x107.setCell ⟨br, 7, none⟩ (.bool false) = y := ⟨_, rfl⟩
      have hO := HO.out.setCell 1 rfl 7 (.bool false)
      rw [hx110] at hO
      replace HO := Lib.hid (show Own w none0 x110 [blkR bx (.cells #[.int .i64 ho, .int .i64 pr, .int .i64 po, .int .i64 th, .int .i64 fl, .int .i64 af] 39), blkR br (.cells #[.int .i64 (tabI [6, 6, 17, 1] n1), .int .i64 167772170, .int .i64 (tabI [5000, 80, 5001] n2), .int .i64 (167772161 + n3), .int .i64 (tabI [80, 5000, 79] n4), .bool false, .bool true, .bool false, .int .i64 0] 41), blkR bf (.cells #[.int .i64 (tabI [6, 6, 17, 1] n1), .int .i64 167772170, .int .i64 (tabI [5000, 80, 5001] n2), .int .i64 (167772161 + n3), .int .i64 (tabI [80, 5000, 79] n4), .bool false, .bool true, .bool false, .int .i64 0] 41)] from hO)
      clear hO
      have k1_8_111 : x110.cell? ⟨br, 8, none⟩ = some (.int .i64 0) := HO.out.cell 1 rfl 8 rfl
      have lk1_8_111 : x110.frozen? ⟨br, 8, none⟩ = false := HO.out.frz 1 rfl 8
      obtain ⟨x112, hx112⟩ : ∃ y, x110.setCell ⟨br, 8, none⟩ (.int .i64 0) = y := ⟨_, rfl⟩
      have hO := HO.out.setCell 1 rfl 8 (.int .i64 0)
      rw [hx112] at hO
      replace HO := Lib.hid (show Own w none0 x112 [blkR bx (.cells #[.int .i64 ho, .int .i64 pr, .int .i64 po, .int .i64 th, .int .i64 fl, .int .i64 af] 39), blkR br (.cells #[.int .i64 (tabI [6, 6, 17, 1] n1), .int .i64 167772170, .int .i64 (tabI [5000, 80, 5001] n2), .int .i64 (167772161 + n3), .int .i64 (tabI [80, 5000, 79] n4), .bool false, .bool true, .bool false, .int .i64 0] 41), blkR bf (.cells #[.int .i64 (tabI [6, 6, 17, 1] n1), .int .i64 167772170, .int .i64 (tabI [5000, 80, 5001] n2), .int .i64 (167772161 + n3), .int .i64 (tabI [80, 5000, 79] n4), .bool false, .bool true, .bool false, .int .i64 0] 41)] from hO)
      clear hO
      go_wp2
      have r0 : x112.cell? ⟨br, 0, none⟩ = some (.int .i64 (tabI [6, 6, 17, 1] n1)) := HO.out.cell 1 rfl 0 rfl
      have r1 : x112.cell? ⟨br, 1, none⟩ = some (.int .i64 167772170) := HO.out.cell 1 rfl 1 rfl
      have r2 : x112.cell? ⟨br, 2, none⟩ = some (.int .i64 (tabI [5000, 80, 5001] n2)) := HO.out.cell 1 rfl 2 rfl
      have r3 : x112.cell? ⟨br, 3, none⟩ = some (.int .i64 (167772161 + n3)) := HO.out.cell 1 rfl 3 rfl
      have r4 : x112.cell? ⟨br, 4, none⟩ = some (.int .i64 (tabI [80, 5000, 79] n4)) := HO.out.cell 1 rfl 4 rfl
      have r5 : x112.cell? ⟨br, 5, none⟩ = some (.bool false) := HO.out.cell 1 rfl 5 rfl
      have r6 : x112.cell? ⟨br, 6, none⟩ = some (.bool true) := HO.out.cell 1 rfl 6 rfl
      have r7 : x112.cell? ⟨br, 7, none⟩ = some (.bool false) := HO.out.cell 1 rfl 7 rfl
      have r8 : x112.cell? ⟨br, 8, none⟩ = some (.int .i64 0) := HO.out.cell 1 rfl 8 rfl
      exact bodyPost_ret (v := .agg #[.int .i64 (tabI [6, 6, 17, 1] n1), .int .i64 167772170, .int .i64 (tabI [5000, 80, 5001] n2), .int .i64 (167772161 + n3), .int .i64 (tabI [80, 5000, 79] n4), .bool false, .bool true, .bool false, .int .i64 0]) (by simp [results, Try.results11, go_sem, r0, r1, r2, r3, r4, r5, r6, r7, r8]) rfl ⟨by rw [HF.out]; simp, HO.out.below⟩
    | false =>
      cases h2 : (n5 == 3) with
      | true =>
        obtain rfl : n5 = 3 := by simpa using h2
        have HQ := Lib.hid (show True ∧ True from ⟨trivial, trivial⟩)
        have y2_7 : x57.frozen? ⟨bf, 7, none⟩ = false := HO.out.frz 2 rfl 7
        have z2_7 : x57.cell? ⟨bf, 7, none⟩ = some (.bool false) := HO.out.cell 2 rfl 7 rfl
        obtain ⟨x58, hx58⟩ : ∃ y, x57.setCell ⟨bf, 7, none⟩ (.bool true) = y := ⟨_, rfl⟩
        have hO := HO.out.setCell 2 rfl 7 (.bool true)
        rw [hx58] at hO
        replace HO := Lib.hid (show Own w none0 x58 [blkR bx (.cells #[.int .i64 ho, .int .i64 pr, .int .i64 po, .int .i64 th, .int .i64 fl, .int .i64 af] 39), blkR br (.cells #[.int .i64 0, .int .i64 0, .int .i64 0, .int .i64 0, .int .i64 0, .bool false, .bool false, .bool false, .int .i64 0] 41), blkR bf (.cells #[.int .i64 (tabI [6, 6, 17, 1] n1), .int .i64 167772170, .int .i64 (tabI [5000, 80, 5001] n2), .int .i64 (167772161 + n3), .int .i64 (tabI [80, 5000, 79] n4), .bool false, .bool false, .bool true, .int .i64 0] 41)] from hO)
        clear hO
        have z2_0 : x58.cell? ⟨bf, 0, none⟩ = some (.int .i64 (tabI [6, 6, 17, 1] n1)) := HO.out.cell 2 rfl 0 rfl
        have z2_1 : x58.cell? ⟨bf, 1, none⟩ = some (.int .i64 167772170) := HO.out.cell 2 rfl 1 rfl
        have z2_2 : x58.cell? ⟨bf, 2, none⟩ = some (.int .i64 (tabI [5000, 80, 5001] n2)) := HO.out.cell 2 rfl 2 rfl
        have z2_3 : x58.cell? ⟨bf, 3, none⟩ = some (.int .i64 (167772161 + n3)) := HO.out.cell 2 rfl 3 rfl
        have z2_4 : x58.cell? ⟨bf, 4, none⟩ = some (.int .i64 (tabI [80, 5000, 79] n4)) := HO.out.cell 2 rfl 4 rfl
        have z2_5 : x58.cell? ⟨bf, 5, none⟩ = some (.bool false) := HO.out.cell 2 rfl 5 rfl
        have z2_6 : x58.cell? ⟨bf, 6, none⟩ = some (.bool false) := HO.out.cell 2 rfl 6 rfl
        have z2_7t : x58.cell? ⟨bf, 7, none⟩ = some (.bool true) := HO.out.cell 2 rfl 7 rfl
        have z2_8 : x58.cell? ⟨bf, 8, none⟩ = some (.int .i64 0) := HO.out.cell 2 rfl 8 rfl
        have k1_0_59 : x58.cell? ⟨br, 0, none⟩ = some (.int .i64 0) := HO.out.cell 1 rfl 0 rfl
        have lk1_0_59 : x58.frozen? ⟨br, 0, none⟩ = false := HO.out.frz 1 rfl 0
        have k1_1_60 : x58.cell? ⟨br, 1, none⟩ = some (.int .i64 0) := HO.out.cell 1 rfl 1 rfl
        have lk1_1_60 : x58.frozen? ⟨br, 1, none⟩ = false := HO.out.frz 1 rfl 1
        have k1_2_61 : x58.cell? ⟨br, 2, none⟩ = some (.int .i64 0) := HO.out.cell 1 rfl 2 rfl
        have lk1_2_61 : x58.frozen? ⟨br, 2, none⟩ = false := HO.out.frz 1 rfl 2
        have k1_3_62 : x58.cell? ⟨br, 3, none⟩ = some (.int .i64 0) := HO.out.cell 1 rfl 3 rfl
        have lk1_3_62 : x58.frozen? ⟨br, 3, none⟩ = false := HO.out.frz 1 rfl 3
        have k1_4_63 : x58.cell? ⟨br, 4, none⟩ = some (.int .i64 0) := HO.out.cell 1 rfl 4 rfl
        have lk1_4_63 : x58.frozen? ⟨br, 4, none⟩ = false := HO.out.frz 1 rfl 4
        have k1_5_64 : x58.cell? ⟨br, 5, none⟩ = some (.bool false) := HO.out.cell 1 rfl 5 rfl
        have lk1_5_64 : x58.frozen? ⟨br, 5, none⟩ = false := HO.out.frz 1 rfl 5
        have k1_6_65 : x58.cell? ⟨br, 6, none⟩ = some (.bool false) := HO.out.cell 1 rfl 6 rfl
        have lk1_6_65 : x58.frozen? ⟨br, 6, none⟩ = false := HO.out.frz 1 rfl 6
        have k1_7_66 : x58.cell? ⟨br, 7, none⟩ = some (.bool false) := HO.out.cell 1 rfl 7 rfl
        have lk1_7_66 : x58.frozen? ⟨br, 7, none⟩ = false := HO.out.frz 1 rfl 7
        have k1_8_67 : x58.cell? ⟨br, 8, none⟩ = some (.int .i64 0) := HO.out.cell 1 rfl 8 rfl
        have lk1_8_67 : x58.frozen? ⟨br, 8, none⟩ = false := HO.out.frz 1 rfl 8
        obtain ⟨x68, hx68⟩ : ∃ y, x58.setCell ⟨br, 0, none⟩ (.int .i64 (tabI [6, 6, 17, 1] n1)) = y := ⟨_, rfl⟩
        have hO := HO.out.setCell 1 rfl 0 (.int .i64 (tabI [6, 6, 17, 1] n1))
        rw [hx68] at hO
        replace HO := Lib.hid (show Own w none0 x68 [blkR bx (.cells #[.int .i64 ho, .int .i64 pr, .int .i64 po, .int .i64 th, .int .i64 fl, .int .i64 af] 39), blkR br (.cells #[.int .i64 (tabI [6, 6, 17, 1] n1), .int .i64 0, .int .i64 0, .int .i64 0, .int .i64 0, .bool false, .bool false, .bool false, .int .i64 0] 41), blkR bf (.cells #[.int .i64 (tabI [6, 6, 17, 1] n1), .int .i64 167772170, .int .i64 (tabI [5000, 80, 5001] n2), .int .i64 (167772161 + n3), .int .i64 (tabI [80, 5000, 79] n4), .bool false, .bool false, .bool true, .int .i64 0] 41)] from hO)
        clear hO
        have k1_1_69 : x68.cell? ⟨br, 1, none⟩ = some (.int .i64 0) := HO.out.cell 1 rfl 1 rfl
        have lk1_1_69 : x68.frozen? ⟨br, 1, none⟩ = false := HO.out.frz 1 rfl 1
        have k1_2_70 : x68.cell? ⟨br, 2, none⟩ = some (.int .i64 0) := HO.out.cell 1 rfl 2 rfl
        have lk1_2_70 : x68.frozen? ⟨br, 2, none⟩ = false := HO.out.frz 1 rfl 2
        have k1_3_71 : x68.cell? ⟨br, 3, none⟩ = some (.int .i64 0) := HO.out.cell 1 rfl 3 rfl
        have lk1_3_71 : x68.frozen? ⟨br, 3, none⟩ = false := HO.out.frz 1 rfl 3
        have k1_4_72 : x68.cell? ⟨br, 4, none⟩ = some (.int .i64 0) := HO.out.cell 1 rfl 4 rfl
        have lk1_4_72 : x68.frozen? ⟨br, 4, none⟩ = false := HO.out.frz 1 rfl 4
        have k1_5_73 : x68.cell? ⟨br, 5, none⟩ = some (.bool false) := HO.out.cell 1 rfl 5 rfl
        have lk1_5_73 : x68.frozen? ⟨br, 5, none⟩ = false := HO.out.frz 1 rfl 5
        have k1_6_74 : x68.cell? ⟨br, 6, none⟩ = some (.bool false) := HO.out.cell 1 rfl 6 rfl
        have lk1_6_74 : x68.frozen? ⟨br, 6, none⟩ = false := HO.out.frz 1 rfl 6
        have k1_7_75 : x68.cell? ⟨br, 7, none⟩ = some (.bool false) := HO.out.cell 1 rfl 7 rfl
        have lk1_7_75 : x68.frozen? ⟨br, 7, none⟩ = false := HO.out.frz 1 rfl 7
        have k1_8_76 : x68.cell? ⟨br, 8, none⟩ = some (.int .i64 0) := HO.out.cell 1 rfl 8 rfl
        have lk1_8_76 : x68.frozen? ⟨br, 8, none⟩ = false := HO.out.frz 1 rfl 8
        obtain ⟨x77, hx77⟩ : ∃ y, x68.setCell ⟨br, 1, none⟩ (.int .i64 167772170) = y := ⟨_, rfl⟩
        have hO := HO.out.setCell 1 rfl 1 (.int .i64 167772170)
        rw [hx77] at hO
        replace HO := Lib.hid (show Own w none0 x77 [blkR bx (.cells #[.int .i64 ho, .int .i64 pr, .int .i64 po, .int .i64 th, .int .i64 fl, .int .i64 af] 39), blkR br (.cells #[.int .i64 (tabI [6, 6, 17, 1] n1), .int .i64 167772170, .int .i64 0, .int .i64 0, .int .i64 0, .bool false, .bool false, .bool false, .int .i64 0] 41), blkR bf (.cells #[.int .i64 (tabI [6, 6, 17, 1] n1), .int .i64 167772170, .int .i64 (tabI [5000, 80, 5001] n2), .int .i64 (167772161 + n3), .int .i64 (tabI [80, 5000, 79] n4), .bool false, .bool false, .bool true, .int .i64 0] 41)] from hO)
        clear hO
        have k1_2_78 : x77.cell? ⟨br, 2, none⟩ = some (.int .i64 0) := HO.out.cell 1 rfl 2 rfl
        have lk1_2_78 : x77.frozen? ⟨br, 2, none⟩ = false := HO.out.frz 1 rfl 2
        have k1_3_79 : x77.cell? ⟨br, 3, none⟩ = some (.int .i64 0) := HO.out.cell 1 rfl 3 rfl
        have lk1_3_79 : x77.frozen? ⟨br, 3, none⟩ = false := HO.out.frz 1 rfl 3
        have k1_4_80 : x77.cell? ⟨br, 4, none⟩ = some (.int .i64 0) := HO.out.cell 1 rfl 4 rfl
        have lk1_4_80 : x77.frozen? ⟨br, 4, none⟩ = false := HO.out.frz 1 rfl 4
        have k1_5_81 : x77.cell? ⟨br, 5, none⟩ = some (.bool false) := HO.out.cell 1 rfl 5 rfl
        have lk1_5_81 : x77.frozen? ⟨br, 5, none⟩ = false := HO.out.frz 1 rfl 5
        have k1_6_82 : x77.cell? ⟨br, 6, none⟩ = some (.bool false) := HO.out.cell 1 rfl 6 rfl
        have lk1_6_82 : x77.frozen? ⟨br, 6, none⟩ = false := HO.out.frz 1 rfl 6
        have k1_7_83 : x77.cell? ⟨br, 7, none⟩ = some (.bool false) := HO.out.cell 1 rfl 7 rfl
        have lk1_7_83 : x77.frozen? ⟨br, 7, none⟩ = false := HO.out.frz 1 rfl 7
        have k1_8_84 : x77.cell? ⟨br, 8, none⟩ = some (.int .i64 0) := HO.out.cell 1 rfl 8 rfl
        have lk1_8_84 : x77.frozen? ⟨br, 8, none⟩ = false := HO.out.frz 1 rfl 8
        obtain ⟨x85, hx85⟩ : ∃ y, x77.setCell ⟨br, 2, none⟩ (.int .i64 (tabI [5000, 80, 5001] n2)) = y := ⟨_, rfl⟩
        have hO := HO.out.setCell 1 rfl 2 (.int .i64 (tabI [5000, 80, 5001] n2))
        rw [hx85] at hO
        replace HO := Lib.hid (show Own w none0 x85 [blkR bx (.cells #[.int .i64 ho, .int .i64 pr, .int .i64 po, .int .i64 th, .int .i64 fl, .int .i64 af] 39), blkR br (.cells #[.int .i64 (tabI [6, 6, 17, 1] n1), .int .i64 167772170, .int .i64 (tabI [5000, 80, 5001] n2), .int .i64 0, .int .i64 0, .bool false, .bool false, .bool false, .int .i64 0] 41), blkR bf (.cells #[.int .i64 (tabI [6, 6, 17, 1] n1), .int .i64 167772170, .int .i64 (tabI [5000, 80, 5001] n2), .int .i64 (167772161 + n3), .int .i64 (tabI [80, 5000, 79] n4), .bool false, .bool false, .bool true, .int .i64 0] 41)] from hO)
        clear hO
        have k1_3_86 : x85.cell? ⟨br, 3, none⟩ = some (.int .i64 0) := HO.out.cell 1 rfl 3 rfl
        have lk1_3_86 : x85.frozen? ⟨br, 3, none⟩ = false := HO.out.frz 1 rfl 3
        have k1_4_87 : x85.cell? ⟨br, 4, none⟩ = some (.int .i64 0) := HO.out.cell 1 rfl 4 rfl
        have lk1_4_87 : x85.frozen? ⟨br, 4, none⟩ = false := HO.out.frz 1 rfl 4
        have k1_5_88 : x85.cell? ⟨br, 5, none⟩ = some (.bool false) := HO.out.cell 1 rfl 5 rfl
        have lk1_5_88 : x85.frozen? ⟨br, 5, none⟩ = false := HO.out.frz 1 rfl 5
        have k1_6_89 : x85.cell? ⟨br, 6, none⟩ = some (.bool false) := HO.out.cell 1 rfl 6 rfl
        have lk1_6_89 : x85.frozen? ⟨br, 6, none⟩ = false := HO.out.frz 1 rfl 6
        have k1_7_90 : x85.cell? ⟨br, 7, none⟩ = some (.bool false) := HO.out.cell 1 rfl 7 rfl
        have lk1_7_90 : x85.frozen? ⟨br, 7, none⟩ = false := HO.out.frz 1 rfl 7
        have k1_8_91 : x85.cell? ⟨br, 8, none⟩ = some (.int .i64 0) := HO.out.cell 1 rfl 8 rfl
        have lk1_8_91 : x85.frozen? ⟨br, 8, none⟩ = false := HO.out.frz 1 rfl 8
        obtain ⟨x92, hx92⟩ : ∃ y, x85.setCell ⟨br, 3, none⟩ (.int .i64 (167772161 + n3)) = y := ⟨_, rfl⟩
        have hO := HO.out.setCell 1 rfl 3 (.int .i64 (167772161 + n3))
        rw [hx92] at hO
        replace HO := Lib.hid (show Own w none0 x92 [blkR bx (.cells #[.int .i64 ho, .int .i64 pr, .int .i64 po, .int .i64 th, .int .i64 fl, .int .i64 af] 39), blkR br (.cells #[.int .i64 (tabI [6, 6, 17, 1] n1), .int .i64 167772170, .int .i64 (tabI [5000, 80, 5001] n2), .int .i64 (167772161 + n3), .int .i64 0, .bool false, .bool false, .bool false, .int .i64 0] 41), blkR bf (.cells #[.int .i64 (tabI [6, 6, 17, 1] n1), .int .i64 167772170, .int .i64 (tabI [5000, 80, 5001] n2), .int .i64 (167772161 + n3), .int .i64 (tabI [80, 5000, 79] n4), .bool false, .bool false, .bool true, .int .i64 0] 41)] from hO)
        clear hO
        have k1_4_93 : x92.cell? ⟨br, 4, none⟩ = some (.int .i64 0) := HO.out.cell 1 rfl 4 rfl
        have lk1_4_93 : x92.frozen? ⟨br, 4, none⟩ = false := HO.out.frz 1 rfl 4
        have k1_5_94 : x92.cell? ⟨br, 5, none⟩ = some (.bool false) := HO.out.cell 1 rfl 5 rfl
        have lk1_5_94 : x92.frozen? ⟨br, 5, none⟩ = false := HO.out.frz 1 rfl 5
        have k1_6_95 : x92.cell? ⟨br, 6, none⟩ = some (.bool false) := HO.out.cell 1 rfl 6 rfl
        have lk1_6_95 : x92.frozen? ⟨br, 6, none⟩ = false := HO.out.frz 1 rfl 6
        have k1_7_96 : x92.cell? ⟨br, 7, none⟩ = some (.bool false) := HO.out.cell 1 rfl 7 rfl
        have lk1_7_96 : x92.frozen? ⟨br, 7, none⟩ = false := HO.out.frz 1 rfl 7
        have k1_8_97 : x92.cell? ⟨br, 8, none⟩ = some (.int .i64 0) := HO.out.cell 1 rfl 8 rfl
        have lk1_8_97 : x92.frozen? ⟨br, 8, none⟩ = false := HO.out.frz 1 rfl 8
        obtain ⟨x98, hx98⟩ : ∃ y, x92.setCell ⟨br, 4, none⟩ (.int .i64 (tabI [80, 5000, 79] n4)) = y := ⟨_, rfl⟩
        have hO := HO.out.setCell 1 rfl 4 (.int .i64 (tabI [80, 5000, 79] n4))
        rw [hx98] at hO
        replace HO := Lib.hid (show Own w none0 x98 [blkR bx (.cells #[.int .i64 ho, .int .i64 pr, .int .i64 po, .int .i64 th, .int .i64 fl, .int .i64 af] 39), blkR br (.cells #[.int .i64 (tabI [6, 6, 17, 1] n1), .int .i64 167772170, .int .i64 (tabI [5000, 80, 5001] n2), .int .i64 (167772161 + n3), .int .i64 (tabI [80, 5000, 79] n4), .bool false, .bool false, .bool false, .int .i64 0] 41), blkR bf (.cells #[.int .i64 (tabI [6, 6, 17, 1] n1), .int .i64 167772170, .int .i64 (tabI [5000, 80, 5001] n2), .int .i64 (167772161 + n3), .int .i64 (tabI [80, 5000, 79] n4), .bool false, .bool false, .bool true, .int .i64 0] 41)] from hO)
        clear hO
        have k1_5_99 : x98.cell? ⟨br, 5, none⟩ = some (.bool false) := HO.out.cell 1 rfl 5 rfl
        have lk1_5_99 : x98.frozen? ⟨br, 5, none⟩ = false := HO.out.frz 1 rfl 5
        have k1_6_100 : x98.cell? ⟨br, 6, none⟩ = some (.bool false) := HO.out.cell 1 rfl 6 rfl
        have lk1_6_100 : x98.frozen? ⟨br, 6, none⟩ = false := HO.out.frz 1 rfl 6
        have k1_7_101 : x98.cell? ⟨br, 7, none⟩ = some (.bool false) := HO.out.cell 1 rfl 7 rfl
        have lk1_7_101 : x98.frozen? ⟨br, 7, none⟩ = false := HO.out.frz 1 rfl 7
        have k1_8_102 : x98.cell? ⟨br, 8, none⟩ = some (.int .i64 0) := HO.out.cell 1 rfl 8 rfl
        have lk1_8_102 : x98.frozen? ⟨br, 8, none⟩ = false := HO.out.frz 1 rfl 8
        obtain ⟨x103, hx103⟩ : ∃ y, x98.setCell ⟨br, 5, none⟩ (.bool false) = y := ⟨_, rfl⟩
        have hO := HO.out.setCell 1 rfl 5 (.bool false)
        rw [hx103] at hO
        replace HO := Lib.hid (show Own w none0 x103 [blkR bx (.cells #[.int .i64 ho, .int .i64 pr, .int .i64 po, .int .i64 th, .int .i64 fl, .int .i64 af] 39), blkR br (.cells #[.int .i64 (tabI [6, 6, 17, 1] n1), .int .i64 167772170, .int .i64 (tabI [5000, 80, 5001] n2), .int .i64 (167772161 + n3), .int .i64 (tabI [80, 5000, 79] n4), .bool false, .bool false, .bool false, .int .i64 0] 41), blkR bf (.cells #[.int .i64 (tabI [6, 6, 17, 1] n1), .int .i64 167772170, .int .i64 (tabI [5000, 80, 5001] n2), .int .i64 (167772161 + n3), .int .i64 (tabI [80, 5000, 79] n4), .bool false, .bool false, .bool true, .int .i64 0] 41)] from hO)
        clear hO
        have k1_6_104 : x103.cell? ⟨br, 6, none⟩ = some (.bool false) := HO.out.cell 1 rfl 6 rfl
        have lk1_6_104 : x103.frozen? ⟨br, 6, none⟩ = false := HO.out.frz 1 rfl 6
        have k1_7_105 : x103.cell? ⟨br, 7, none⟩ = some (.bool false) := HO.out.cell 1 rfl 7 rfl
        have lk1_7_105 : x103.frozen? ⟨br, 7, none⟩ = false := HO.out.frz 1 rfl 7
        have k1_8_106 : x103.cell? ⟨br, 8, none⟩ = some (.int .i64 0) := HO.out.cell 1 rfl 8 rfl
        have lk1_8_106 : x103.frozen? ⟨br, 8, none⟩ = false := HO.out.frz 1 rfl 8
        obtain ⟨x107, hx107⟩ : ∃ y, x103.setCell ⟨br, 6, none⟩ (.bool false) = y := ⟨_, rfl⟩
        have hO := HO.out.setCell 1 rfl 6 (.bool false)
        rw [hx107] at hO
        replace HO := Lib.hid (show Own w none0 x107 [blkR bx (.cells #[.int .i64 ho, .int .i64 pr, .int .i64 po, .int .i64 th, .int .i64 fl, .int .i64 af] 39), blkR br (.cells #[.int .i64 (tabI [6, 6, 17, 1] n1), .int .i64 167772170, .int .i64 (tabI [5000, 80, 5001] n2), .int .i64 (167772161 + n3), .int .i64 (tabI [80, 5000, 79] n4), .bool false, .bool false, .bool false, .int .i64 0] 41), blkR bf (.cells #[.int .i64 (tabI [6, 6, 17, 1] n1), .int .i64 167772170, .int .i64 (tabI [5000, 80, 5001] n2), .int .i64 (167772161 + n3), .int .i64 (tabI [80, 5000, 79] n4), .bool false, .bool false, .bool true, .int .i64 0] 41)] from hO)
        clear hO
        have k1_7_108 : x107.cell? ⟨br, 7, none⟩ = some (.bool false) := HO.out.cell 1 rfl 7 rfl
        have lk1_7_108 : x107.frozen? ⟨br, 7, none⟩ = false := HO.out.frz 1 rfl 7
        have k1_8_109 : x107.cell? ⟨br, 8, none⟩ = some (.int .i64 0) := HO.out.cell 1 rfl 8 rfl
        have lk1_8_109 : x107.frozen? ⟨br, 8, none⟩ = false := HO.out.frz 1 rfl 8
        obtain ⟨x110, hx110⟩ : ∃ y, x107.setCell ⟨br, 7, none⟩ (.bool true) = y := ⟨_, rfl⟩
        have hO := HO.out.setCell 1 rfl 7 (.bool true)
        rw [hx110] at hO
        replace HO := Lib.hid (show Own w none0 x110 [blkR bx (.cells #[.int .i64 ho, .int .i64 pr, .int .i64 po, .int .i64 th, .int .i64 fl, .int .i64 af] 39), blkR br (.cells #[.int .i64 (tabI [6, 6, 17, 1] n1), .int .i64 167772170, .int .i64 (tabI [5000, 80, 5001] n2), .int .i64 (167772161 + n3), .int .i64 (tabI [80, 5000, 79] n4), .bool false, .bool false, .bool true, .int .i64 0] 41), blkR bf (.cells #[.int .i64 (tabI [6, 6, 17, 1] n1), .int .i64 167772170, .int .i64 (tabI [5000, 80, 5001] n2), .int .i64 (167772161 + n3), .int .i64 (tabI [80, 5000, 79] n4), .bool false, .bool false, .bool true, .int .i64 0] 41)] from hO)
        clear hO
        have k1_8_111 : x110.cell? ⟨br, 8, none⟩ = some (.int .i64 0) := HO.out.cell 1 rfl 8 rfl
        have lk1_8_111 : x110.frozen? ⟨br, 8, none⟩ = false := HO.out.frz 1 rfl 8
        obtain ⟨x112, hx112⟩ : ∃ y, x110.setCell ⟨br, 8, none⟩ (.int .i64 0) = y := ⟨_, rfl⟩
        have hO := HO.out.setCell 1 rfl 8 (.int .i64 0)
        rw [hx112] at hO
        replace HO := Lib.hid (show Own w none0 x112 [blkR bx (.cells #[.int .i64 ho, .int .i64 pr, .int .i64 po, .int .i64 th, .int .i64 fl, .int .i64 af] 39), blkR br (.cells #[.int .i64 (tabI [6, 6, 17, 1] n1), .int .i64 167772170, .int .i64 (tabI [5000, 80, 5001] n2), .int .i64 (167772161 + n3), .int .i64 (tabI [80, 5000, 79] n4), .bool false, .bool false, .bool true, .int .i64 0] 41), blkR bf (.cells #[.int .i64 (tabI [6, 6, 17, 1] n1), .int .i64 167772170, .int .i64 (tabI [5000, 80, 5001] n2), .int .i64 (167772161 + n3), .int .i64 (tabI [80, 5000, 79] n4), .bool false, .bool false, .bool true, .int .i64 0] 41)] from hO)
        clear hO
        go_wp2
        have r0 : x112.cell? ⟨br, 0, none⟩ = some (.int .i64 (tabI [6, 6, 17, 1] n1)) := HO.out.cell 1 rfl 0 rfl
        have r1 : x112.cell? ⟨br, 1, none⟩ = some (.int .i64 167772170) := HO.out.cell 1 rfl 1 rfl
        have r2 : x112.cell? ⟨br, 2, none⟩ = some (.int .i64 (tabI [5000, 80, 5001] n2)) := HO.out.cell 1 rfl 2 rfl
        have r3 : x112.cell? ⟨br, 3, none⟩ = some (.int .i64 (167772161 + n3)) := HO.out.cell 1 rfl 3 rfl
        have r4 : x112.cell? ⟨br, 4, none⟩ = some (.int .i64 (tabI [80, 5000, 79] n4)) := HO.out.cell 1 rfl 4 rfl
        have r5 : x112.cell? ⟨br, 5, none⟩ = some (.bool false) := HO.out.cell 1 rfl 5 rfl
        have r6 : x112.cell? ⟨br, 6, none⟩ = some (.bool false) := HO.out.cell 1 rfl 6 rfl
        have r7 : x112.cell? ⟨br, 7, none⟩ = some (.bool true) := HO.out.cell 1 rfl 7 rfl
        have r8 : x112.cell? ⟨br, 8, none⟩ = some (.int .i64 0) := HO.out.cell 1 rfl 8 rfl
        exact bodyPost_ret (v := .agg #[.int .i64 (tabI [6, 6, 17, 1] n1), .int .i64 167772170, .int .i64 (tabI [5000, 80, 5001] n2), .int .i64 (167772161 + n3), .int .i64 (tabI [80, 5000, 79] n4), .bool false, .bool false, .bool true, .int .i64 0]) (by simp [results, Try.results11, go_sem, r0, r1, r2, r3, r4, r5, r6, r7, r8]) rfl ⟨by rw [HF.out]; simp, HO.out.below⟩
      | false =>
        have HQ := Lib.hid (show (n5 == 1) = false ∧ (n5 == 2) = false ∧ (n5 == 3) = false from ⟨h0, h1, h2⟩)
        have z2_0 : x57.cell? ⟨bf, 0, none⟩ = some (.int .i64 (tabI [6, 6, 17, 1] n1)) := HO.out.cell 2 rfl 0 rfl
        have z2_1 : x57.cell? ⟨bf, 1, none⟩ = some (.int .i64 167772170) := HO.out.cell 2 rfl 1 rfl
        have z2_2 : x57.cell? ⟨bf, 2, none⟩ = some (.int .i64 (tabI [5000, 80, 5001] n2)) := HO.out.cell 2 rfl 2 rfl
        have z2_3 : x57.cell? ⟨bf, 3, none⟩ = some (.int .i64 (167772161 + n3)) := HO.out.cell 2 rfl 3 rfl
        have z2_4 : x57.cell? ⟨bf, 4, none⟩ = some (.int .i64 (tabI [80, 5000, 79] n4)) := HO.out.cell 2 rfl 4 rfl
        have z2_5 : x57.cell? ⟨bf, 5, none⟩ = some (.bool false) := HO.out.cell 2 rfl 5 rfl
        have z2_6 : x57.cell? ⟨bf, 6, none⟩ = some (.bool false) := HO.out.cell 2 rfl 6 rfl
        have z2_7 : x57.cell? ⟨bf, 7, none⟩ = some (.bool false) := HO.out.cell 2 rfl 7 rfl
        have z2_8 : x57.cell? ⟨bf, 8, none⟩ = some (.int .i64 0) := HO.out.cell 2 rfl 8 rfl
        have k1_0_58 : x57.cell? ⟨br, 0, none⟩ = some (.int .i64 0) := HO.out.cell 1 rfl 0 rfl
        have lk1_0_58 : x57.frozen? ⟨br, 0, none⟩ = false := HO.out.frz 1 rfl 0
        have k1_1_59 : x57.cell? ⟨br, 1, none⟩ = some (.int .i64 0) := HO.out.cell 1 rfl 1 rfl
        have lk1_1_59 : x57.frozen? ⟨br, 1, none⟩ = false := HO.out.frz 1 rfl 1
        have k1_2_60 : x57.cell? ⟨br, 2, none⟩ = some (.int .i64 0) := HO.out.cell 1 rfl 2 rfl
        have lk1_2_60 : x57.frozen? ⟨br, 2, none⟩ = false := HO.out.frz 1 rfl 2
        have k1_3_61 : x57.cell? ⟨br, 3, none⟩ = some (.int .i64 0) := HO.out.cell 1 rfl 3 rfl
        have lk1_3_61 : x57.frozen? ⟨br, 3, none⟩ = false := HO.out.frz 1 rfl 3
        have k1_4_62 : x57.cell? ⟨br, 4, none⟩ = some (.int .i64 0) := HO.out.cell 1 rfl 4 rfl
        have lk1_4_62 : x57.frozen? ⟨br, 4, none⟩ = false := HO.out.frz 1 rfl 4
        have k1_5_63 : x57.cell? ⟨br, 5, none⟩ = some (.bool false) := HO.out.cell 1 rfl 5 rfl
        have lk1_5_63 : x57.frozen? ⟨br, 5, none⟩ = false := HO.out.frz 1 rfl 5
        have k1_6_64 : x57.cell? ⟨br, 6, none⟩ = some (.bool false) := HO.out.cell 1 rfl 6 rfl
        have lk1_6_64 : x57.frozen? ⟨br, 6, none⟩ = false := HO.out.frz 1 rfl 6
        have k1_7_65 : x57.cell? ⟨br, 7, none⟩ = some (.bool false) := HO.out.cell 1 rfl 7 rfl
        have lk1_7_65 : x57.frozen? ⟨br, 7, none⟩ = false := HO.out.frz 1 rfl 7
        have k1_8_66 : x57.cell? ⟨br, 8, none⟩ = some (.int .i64 0) := HO.out.cell 1 rfl 8 rfl
        have lk1_8_66 : x57.frozen? ⟨br, 8, none⟩ = false := HO.out.frz 1 rfl 8
        obtain ⟨x67, hx67⟩ : ∃ y, x57.setCell ⟨br, 0, none⟩ (.int .i64 (tabI [6, 6, 17, 1] n1)) = y := ⟨_, rfl⟩
        have hO := HO.out.setCell 1 rfl 0 (.int .i64 (tabI [6, 6, 17, 1] n1))
        rw [hx67] at hO
        replace HO := Lib.hid (show Own w none0 x67 [blkR bx (.cells #[.int .i64 ho, .int .i64 pr, .int .i64 po, .int .i64 th, .int .i64 fl, .int .i64 af] 39), blkR br (.cells #[.int .i64 (tabI [6, 6, 17, 1] n1), .int .i64 0, .int .i64 0, .int .i64 0, .int .i64 0, .bool false, .bool false, .bool false, .int .i64 0] 41), blkR bf (.cells #[.int .i64 (tabI [6, 6, 17, 1] n1), .int .i64 167772170, .int .i64 (tabI [5000, 80, 5001] n2), .int .i64 (167772161 + n3), .int .i64 (tabI [80, 5000, 79] n4), .bool false, .bool false, .bool false, .int .i64 0] 41)] from hO)
        clear hO
        have k1_1_68 : x67.cell? ⟨br, 1, none⟩ = some (.int .i64 0) := HO.out.cell 1 rfl 1 rfl
        have lk1_1_68 : x67.frozen? ⟨br, 1, none⟩ = false := HO.out.frz 1 rfl 1
        have k1_2_69 : x67.cell? ⟨br, 2, none⟩ = some (.int .i64 0) := HO.out.cell 1 rfl 2 rfl
        have lk1_2_69 : x67.frozen? ⟨br, 2, none⟩ = false := HO.out.frz 1 rfl 2
        have k1_3_70 : x67.cell? ⟨br, 3, none⟩ = some (.int .i64 0) := HO.out.cell 1 rfl 3 rfl
        have lk1_3_70 : x67.frozen? ⟨br, 3, none⟩ = false := HO.out.frz 1 rfl 3
        have k1_4_71 : x67.cell? ⟨br, 4, none⟩ = some (.int .i64 0) := HO.out.cell 1 rfl 4 rfl
        have lk1_4_71 : x67.frozen? ⟨br, 4, none⟩ = false := HO.out.frz 1 rfl 4
        have k1_5_72 : x67.cell? ⟨br, 5, none⟩ = some (.bool false) := HO.out.cell 1 rfl 5 rfl
        have lk1_5_72 : x67.frozen? ⟨br, 5, none⟩ = false := HO.out.frz 1 rfl 5
        have k1_6_73 : x67.cell? ⟨br, 6, none⟩ = some (.bool false) := HO.out.cell 1 rfl 6 rfl
        have lk1_6_73 : x67.frozen? ⟨br, 6, none⟩ = false := HO.out.frz 1 rfl 6
        have k1_7_74 : x67.cell? ⟨br, 7, none⟩ = some (.bool false) := HO.out.cell 1 rfl 7 rfl
        have lk1_7_74 : x67.frozen? ⟨br, 7, none⟩ = false := HO.out.frz 1 rfl 7
        have k1_8_75 : x67.cell? ⟨br, 8, none⟩ = some (.int .i64 0) := HO.out.cell 1 rfl 8 rfl
        have lk1_8_75 : x67.frozen? ⟨br, 8, none⟩ = false := HO.out.frz 1 rfl 8
        obtain ⟨x76, hx76⟩ : ∃ y, x67.setCell ⟨br, 1, none⟩ (.int .i64 167772170) = y := ⟨_, rfl⟩
        have hO := HO.out.setCell 1 rfl 1 (.int .i64 167772170)
        rw [hx76] at hO
        replace HO := Lib.hid (show Own w none0 x76 [blkR bx (.cells #[.int .i64 ho, .int .i64 pr, .int .i64 po, .int .i64 th, .int .i64 fl, .int .i64 af] 39), blkR br (.cells #[.int .i64 (tabI [6, 6, 17, 1] n1), .int .i64 167772170, .int .i64 0, .int .i64 0, .int .i64 0, .bool false, .bool false, .bool false, .int .i64 0] 41), blkR bf (.cells #[.int .i64 (tabI [6, 6, 17, 1] n1), .int .i64 167772170, .int .i64 (tabI [5000, 80, 5001] n2), .int .i64 (167772161 + n3), .int .i64 (tabI [80, 5000, 79] n4), .bool false, .bool false, .bool false, .int .i64 0] 41)] from hO)
        clear hO
        have k1_2_77 : x76.cell? ⟨br, 2, none⟩ = some (.int .i64 0) := HO.out.cell 1 rfl 2 rfl
        have lk1_2_77 : x76.frozen? ⟨br, 2, none⟩ = false := HO.out.frz 1 rfl 2
        have k1_3_78 : x76.cell? ⟨br, 3, none⟩ = some (.int .i64 0) := HO.out.cell 1 rfl 3 rfl
        have lk1_3_78 : x76.frozen? ⟨br, 3, none⟩ = false := HO.out.frz 1 rfl 3
        have k1_4_79 : x76.cell? ⟨br, 4, none⟩ = some (.int .i64 0) := HO.out.cell 1 rfl 4 rfl
        have lk1_4_79 : x76.frozen? ⟨br, 4, none⟩ = false := HO.out.frz 1 rfl 4
        have k1_5_80 : x76.cell? ⟨br, 5, none⟩ = some (.bool false) := HO.out.cell 1 rfl 5 rfl
        have lk1_5_80 : x76.frozen? ⟨br, 5, none⟩ = false := HO.out.frz 1 rfl 5
        have k1_6_81 : x76.cell? ⟨br, 6, none⟩ = some (.bool false) := HO.out.cell 1 rfl 6 rfl
        have lk1_6_81 : x76.frozen? ⟨br, 6, none⟩ = false := HO.out.frz 1 rfl 6
        have k1_7_82 : x76.cell? ⟨br, 7, none⟩ = some (.bool false) := HO.out.cell 1 rfl 7 rfl
        have lk1_7_82 : x76.frozen? ⟨br, 7, none⟩ = false := HO.out.frz 1 rfl 7
        have k1_8_83 : x76.cell? ⟨br, 8, none⟩ = some (.int .i64 0) := HO.out.cell 1 rfl 8 rfl
        have lk1_8_83 : x76.frozen? ⟨br, 8, none⟩ = false := HO.out.frz 1 rfl 8
        obtain ⟨x84, hx84⟩ : ∃ y, x76.setCell ⟨br, 2, none⟩ (.int .i64 (tabI [5000, 80, 5001] n2)) = y := ⟨_, rfl⟩
        have hO := HO.out.setCell 1 rfl 2 (.int .i64 (tabI [5000, 80, 5001] n2))
        rw [hx84] at hO
        replace HO := Lib.hid (show Own w none0 x84 [blkR bx (.cells #[.int .i64 ho, .int .i64 pr, .int .i64 po, .int .i64 th, .int .i64 fl, .int .i64 af] 39), blkR br (.cells #[.int .i64 (tabI [6, 6, 17, 1] n1), .int .i64 167772170, .int .i64 (tabI [5000, 80, 5001] n2), .int .i64 0, .int .i64 0, .bool false, .bool false, .bool false, .int .i64 0] 41), blkR bf (.cells #[.int .i64 (tabI [6, 6, 17, 1] n1), .int .i64 167772170, .int .i64 (tabI [5000, 80, 5001] n2), .int .i64 (167772161 + n3), .int .i64 (tabI [80, 5000, 79] n4), .bool false, .bool false, .bool false, .int .i64 0] 41)] from hO)
        clear hO
        have k1_3_85 : x84.cell? ⟨br, 3, none⟩ = some (.int .i64 0) := HO.out.cell 1 rfl 3 rfl
        have lk1_3_85 : x84.frozen? ⟨br, 3, none⟩ = false := HO.out.frz 1 rfl 3
        have k1_4_86 : x84.cell? ⟨br, 4, none⟩ = some (.int .i64 0) := HO.out.cell 1 rfl 4 rfl
        have lk1_4_86 : x84.frozen? ⟨br, 4, none⟩ = false := HO.out.frz 1 rfl 4
        have k1_5_87 : x84.cell? ⟨br, 5, none⟩ = some (.bool false) := HO.out.cell 1 rfl 5 rfl
        have lk1_5_87 : x84.frozen? ⟨br, 5, none⟩ = false := HO.out.frz 1 rfl 5
        have k1_6_88 : x84.cell? ⟨br, 6, none⟩ = some (.bool false) := HO.out.cell 1 rfl 6 rfl
        have lk1_6_88 : x84.frozen? ⟨br, 6, none⟩ = false := HO.out.frz 1 rfl 6
        have k1_7_89 : x84.cell? ⟨br, 7, none⟩ = some (.bool false) := HO.out.cell 1 rfl 7 rfl
        have lk1_7_89 : x84.frozen? ⟨br, 7, none⟩ = false := HO.out.frz 1 rfl 7
        have k1_8_90 : x84.cell? ⟨br, 8, none⟩ = some (.int .i64 0) := HO.out.cell 1 rfl 8 rfl
        have lk1_8_90 : x84.frozen? ⟨br, 8, none⟩ = false := HO.out.frz 1 rfl 8
        obtain ⟨x91, hx91⟩ : ∃ y, x84.setCell ⟨br, 3, none⟩ (.int .i64 (167772161 + n3)) = y := ⟨_, rfl⟩
        have hO := HO.out.setCell 1 rfl 3 (.int .i64 (167772161 + n3))
        rw [hx91] at hO
        replace HO := Lib.hid (show Own w none0 x91 [blkR bx (.cells #[.int .i64 ho, .int .i64 pr, .int .i64 po, .int .i64 th, .int .i64 fl, .int .i64 af] 39), blkR br (.cells #[.int .i64 (tabI [6, 6, 17, 1] n1), .int .i64 167772170, .int .i64 (tabI [5000, 80, 5001] n2), .int .i64 (167772161 + n3), .int .i64 0, .bool false, .bool false, .bool false, .int .i64 0] 41), blkR bf (.cells #[.int .i64 (tabI [6, 6, 17, 1] n1), .int .i64 167772170, .int .i64 (tabI [5000, 80, 5001] n2), .int .i64 (167772161 + n3), .int .i64 (tabI [80, 5000, 79] n4), .bool false, .bool false, .bool false, .int .i64 0] 41)] from hO)
        clear hO
        have k1_4_92 : x91.cell? ⟨br, 4, none⟩ = some (.int .i64 0) := HO.out.cell 1 rfl 4 rfl
        have lk1_4_92 : x91.frozen? ⟨br, 4, none⟩ = false := HO.out.frz 1 rfl 4
        have k1_5_93 : x91.cell? ⟨br, 5, none⟩ = some (.bool false) := HO.out.cell 1 rfl 5 rfl
        have lk1_5_93 : x91.frozen? ⟨br, 5, none⟩ = false := HO.out.frz 1 rfl 5
        have k1_6_94 : x91.cell? ⟨br, 6, none⟩ = some (.bool false) := HO.out.cell 1 rfl 6 rfl
        have lk1_6_94 : x91.frozen? ⟨br, 6, none⟩ = false := HO.out.frz 1 rfl 6
        have k1_7_95 : x91.cell? ⟨br, 7, none⟩ = some (.bool false) := HO.out.cell 1 rfl 7 rfl
        have lk1_7_95 : x91.frozen? ⟨br, 7, none⟩ = false := HO.out.frz 1 rfl 7
        have k1_8_96 : x91.cell? ⟨br, 8, none⟩ = some (.int .i64 0) := HO.out.cell 1 rfl 8 rfl
        have lk1_8_96 : x91.frozen? ⟨br, 8, none⟩ = false := HO.out.frz 1 rfl 8
        obtain ⟨x97, hx97⟩ : ∃ y, x91.setCell ⟨br, 4, none⟩ (.int .i64 (tabI [80, 5000, 79] n4)) = y := ⟨_, rfl⟩
        have hO := HO.out.setCell 1 rfl 4 (.int .i64 (tabI [80, 5000, 79] n4))
        rw [hx97] at hO
        replace HO := Lib.hid (show Own w none0 x97 [blkR bx (.cells #[.int .i64 ho, .int .i64 pr, .int .i64 po, .int .i64 th, .int .i64 fl, .int .i64 af] 39), blkR br (.cells #[.int .i64 (tabI [6, 6, 17, 1] n1), .int .i64 167772170, .int .i64 (tabI [5000, 80, 5001] n2), .int .i64 (167772161 + n3), .int .i64 (tabI [80, 5000, 79] n4), .bool false, .bool false, .bool false, .int .i64 0] 41), blkR bf (.cells #[.int .i64 (tabI [6, 6, 17, 1] n1), .int .i64 167772170, .int .i64 (tabI [5000, 80, 5001] n2), .int .i64 (167772161 + n3), .int .i64 (tabI [80, 5000, 79] n4), .bool false, .bool false, .bool false, .int .i64 0] 41)] from hO)
        clear hO
        have k1_5_98 : x97.cell? ⟨br, 5, none⟩ = some (.bool false) := HO.out.cell 1 rfl 5 rfl
        have lk1_5_98 : x97.frozen? ⟨br, 5, none⟩ = false := HO.out.frz 1 rfl 5
        have k1_6_99 : x97.cell? ⟨br, 6, none⟩ = some (.bool false) := HO.out.cell 1 rfl 6 rfl
        have lk1_6_99 : x97.frozen? ⟨br, 6, none⟩ = false := HO.out.frz 1 rfl 6
        have k1_7_100 : x97.cell? ⟨br, 7, none⟩ = some (.bool false) := HO.out.cell 1 rfl 7 rfl
        have lk1_7_100 : x97.frozen? ⟨br, 7, none⟩ = false := HO.out.frz 1 rfl 7
        have k1_8_101 : x97.cell? ⟨br, 8, none⟩ = some (.int .i64 0) := HO.out.cell 1 rfl 8 rfl
        have lk1_8_101 : x97.frozen? ⟨br, 8, none⟩ = false := HO.out.frz 1 rfl 8
        obtain ⟨x102, hx102⟩ : ∃ y, x97.setCell ⟨br, 5, none⟩ (.bool false) = y := ⟨_, rfl⟩
        have hO := HO.out.setCell 1 rfl 5 (.bool false)
        rw [hx102] at hO
        replace HO := Lib.hid (show Own w none0 x102 [blkR bx (.cells #[.int .i64 ho, .int .i64 pr, .int .i64 po, .int .i64 th, .int .i64 fl, .int .i64 af] 39), blkR br (.cells #[.int .i64 (tabI [6, 6, 17, 1] n1), .int .i64 167772170, .int .i64 (tabI [5000, 80, 5001] n2), .int .i64 (167772161 + n3), .int .i64 (tabI [80, 5000, 79] n4), .bool false, .bool false, .bool false, .int .i64 0] 41), blkR bf (.cells #[.int .i64 (tabI [6, 6, 17, 1] n1), .int .i64 167772170, .int .i64 (tabI [5000, 80, 5001] n2), .int .i64 (167772161 + n3), .int .i64 (tabI [80, 5000, 79] n4), .bool false, .bool false, .bool false, .int .i64 0] 41)] from hO)
        clear hO
        have k1_6_103 : x102.cell? ⟨br, 6, none⟩ = some (.bool false) := HO.out.cell 1 rfl 6 rfl
        have lk1_6_103 : x102.frozen? ⟨br, 6, none⟩ = false := HO.out.frz 1 rfl 6
        have k1_7_104 : x102.cell? ⟨br, 7, none⟩ = some (.bool false) := HO.out.cell 1 rfl 7 rfl
        have lk1_7_104 : x102.frozen? ⟨br, 7, none⟩ = false := HO.out.frz 1 rfl 7
        have k1_8_105 : x102.cell? ⟨br, 8, none⟩ = some (.int .i64 0) := HO.out.cell 1 rfl 8 rfl
        have lk1_8_105 : x102.frozen? ⟨br, 8, none⟩ = false := HO.out.frz 1 rfl 8
        obtain ⟨x106, hx106⟩ : ∃ y, x102.setCell ⟨br, 6, none⟩ (.bool false) = y := ⟨_, rfl⟩
        have hO := HO.out.setCell 1 rfl 6 (.bool false)
        rw [hx106] at hO
        replace HO := Lib.hid (show Own w none0 x106 [blkR bx (.cells #[.int .i64 ho, .int .i64 pr, .int .i64 po, .int .i64 th, .int .i64 fl, .int .i64 af] 39), blkR br (.cells #[.int .i64 (tabI [6, 6, 17, 1] n1), .int .i64 167772170, .int .i64 (tabI [5000, 80, 5001] n2), .int .i64 (167772161 + n3), .int .i64 (tabI [80, 5000, 79] n4), .bool false, .bool false, .bool false, .int .i64 0] 41), blkR bf (.cells #[.int .i64 (tabI [6, 6, 17, 1] n1), .int .i64 167772170, .int .i64 (tabI [5000, 80, 5001] n2), .int .i64 (167772161 + n3), .int .i64 (tabI [80, 5000, 79] n4), .bool false, .bool false, .bool false, .int .i64 0] 41)] from hO)
        clear hO
        have k1_7_107 : x106.cell? ⟨br, 7, none⟩ = some (.bool false) := HO.out.cell 1 rfl 7 rfl
        have lk1_7_107 : x106.frozen? ⟨br, 7, none⟩ = false := HO.out.frz 1 rfl 7
        have k1_8_108 : x106.cell? ⟨br, 8, none⟩ = some (.int .i64 0) := HO.out.cell 1 rfl 8 rfl
        have lk1_8_108 : x106.frozen? ⟨br, 8, none⟩ = false := HO.out.frz 1 rfl 8
        obtain ⟨x109, hx109⟩ : ∃ y, x106.setCell ⟨br, 7, none⟩ (.bool false) = y := ⟨_, rfl⟩
        have hO := HO.out.setCell 1 rfl 7 (.bool false)
        rw [hx109] at hO
        replace HO := Lib.hid (show Own w none0 x109 [blkR bx (.cells #[.int .i64 ho, .int .i64 pr, .int .i64 po, .int .i64 th, .int .i64 fl, .int .i64 af] 39), blkR br (.cells #[.int .i64 (tabI [6, 6, 17, 1] n1), .int .i64 167772170, .int .i64 (tabI [5000, 80, 5001] n2), .int .i64 (167772161 + n3), .int .i64 (tabI [80, 5000, 79] n4), .bool false, .bool false, .bool false, .int .i64 0] 41), blkR bf (.cells #[.int .i64 (tabI [6, 6, 17, 1] n1), .int .i64 167772170, .int .i64 (tabI [5000, 80, 5001] n2), .int .i64 (167772161 + n3), .int .i64 (tabI [80, 5000, 79] n4), .bool false, .bool false, .bool false, .int .i64 0] 41)] from hO)
        clear hO
        have k1_8_110 : x109.cell? ⟨br, 8, none⟩ = some (.int .i64 0) := HO.out.cell 1 rfl 8 rfl
        have lk1_8_110 : x109.frozen? ⟨br, 8, none⟩ = false := HO.out.frz 1 rfl 8
        obtain ⟨x111, hx111⟩ : ∃ y, x109.setCell ⟨br, 8, none⟩ (.int .i64 0) = y := ⟨_, rfl⟩
        have hO := HO.out.setCell 1 rfl 8 (.int .i64 0)
        rw [hx111] at hO
        replace HO := Lib.hid (show Own w none0 x111 [blkR bx (.cells #[.int .i64 ho, .int .i64 pr, .int .i64 po, .int .i64 th, .int .i64 fl, .int .i64 af] 39), blkR br (.cells #[.int .i64 (tabI [6, 6, 17, 1] n1), .int .i64 167772170, .int .i64 (tabI [5000, 80, 5001] n2), .int .i64 (167772161 + n3), .int .i64 (tabI [80, 5000, 79] n4), .bool false, .bool false, .bool false, .int .i64 0] 41), blkR bf (.cells #[.int .i64 (tabI [6, 6, 17, 1] n1), .int .i64 167772170, .int .i64 (tabI [5000, 80, 5001] n2), .int .i64 (167772161 + n3), .int .i64 (tabI [80, 5000, 79] n4), .bool false, .bool false, .bool false, .int .i64 0] 41)] from hO)
        clear hO
        go_wp2
        have r0 : x111.cell? ⟨br, 0, none⟩ = some (.int .i64 (tabI [6, 6, 17, 1] n1)) := HO.out.cell 1 rfl 0 rfl
        have r1 : x111.cell? ⟨br, 1, none⟩ = some (.int .i64 167772170) := HO.out.cell 1 rfl 1 rfl
        have r2 : x111.cell? ⟨br, 2, none⟩ = some (.int .i64 (tabI [5000, 80, 5001] n2)) := HO.out.cell 1 rfl 2 rfl
        have r3 : x111.cell? ⟨br, 3, none⟩ = some (.int .i64 (167772161 + n3)) := HO.out.cell 1 rfl 3 rfl
        have r4 : x111.cell? ⟨br, 4, none⟩ = some (.int .i64 (tabI [80, 5000, 79] n4)) := HO.out.cell 1 rfl 4 rfl
        have r5 : x111.cell? ⟨br, 5, none⟩ = some (.bool false) := HO.out.cell 1 rfl 5 rfl
        have r6 : x111.cell? ⟨br, 6, none⟩ = some (.bool false) := HO.out.cell 1 rfl 6 rfl
        have r7 : x111.cell? ⟨br, 7, none⟩ = some (.bool false) := HO.out.cell 1 rfl 7 rfl
        have r8 : x111.cell? ⟨br, 8, none⟩ = some (.int .i64 0) := HO.out.cell 1 rfl 8 rfl
        exact bodyPost_ret (v := .agg #[.int .i64 (tabI [6, 6, 17, 1] n1), .int .i64 167772170, .int .i64 (tabI [5000, 80, 5001] n2), .int .i64 (167772161 + n3), .int .i64 (tabI [80, 5000, 79] n4), .bool false, .bool false, .bool false, .int .i64 0]) (by simp [results, Try.results11, go_sem, r0, r1, r2, r3, r4, r5, r6, r7, r8]) rfl ⟨by rw [HF.out]; simp [HQ.out], HO.out.below⟩

end Go.Proofs.Ythhoknhjbkkflaa
