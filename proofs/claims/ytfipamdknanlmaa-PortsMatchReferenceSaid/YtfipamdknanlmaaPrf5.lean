/- The reference of chapter 23: BindAny. Printed by wip/tools/gen23w.py. -/
import Derived.Test.YtfipamdknanlmaaPrf4
namespace Go.Proofs.Ytfipamdknanlmaa
open Go.RowKit Go.Sort
set_option linter.unusedVariables false

variable {w0 w : World} {D : Nat → Prop} {L : List Res} {q : Nat} {st : PSt}
def rfree (st : PSt) (pr s po : Int) : Bool := !boundF st pr po s && (decide (pr = 17) || !joinedF st po)
def rfirst (st : PSt) (pr s : Int) : Option Int := ((List.range 64).find? fun i => rfree st pr s (anyP st (i : Nat))).map fun i => anyP st (i : Nat)
def ranyR (st : PSt) (pr s : Int) : Int × Int × PSt :=
  if vpr pr then (if st.B.any (fun x => x.2 == s) then (0, 231, st) else match rfirst st pr s with
    | some po => (po, 0, { addB st ⟨pr, po⟩ s with given := st.given + 1 })
    | none => (0, 231, st)) else (0, 230, st)
theorem round_r {n m : Int} (w : World) (hn : i64B n) (h : n % 64 = m) : Calls Try.prog 44 #[.int .i64 n] w fun e w' => e = .returned (.int .i64 m) ∧ w = w' := h ▸ round_any n w hn
theorem ret_ty {r : Int × Int × PSt} {a b : Int} {st' : PSt} (h : r = (a, b, st')) : Ending.returned (.tuple #[.int .i64 a, .int .i64 b]) = .returned (.tuple #[.int .i64 r.1, .int .i64 r.2.1]) := by rw [h]
theorem rfirst_some {pr s po : Int} {j : Nat} (hlt : j < 64) (hP : anyP st j = po) (hno : ∀ i : Nat, i < j → rfree st pr s (anyP st i) = false) (hf : rfree st pr s po = true) : rfirst st pr s = some po := by
  unfold rfirst
  rw [find_range_some hlt (by simpa [hP] using hf) hno]
  simp [hP]
theorem rfirst_none {pr s : Int} (hno : ∀ i : Nat, i < 64 → rfree st pr s (anyP st i) = false) : rfirst st pr s = none := by
  unfold rfirst; rw [find_range_none hno]; rfl

set_option maxRecDepth 100000 in
set_option maxHeartbeats 8000000 in
theorem rany_o {pr s : Int} (h : Own w0 D w L) (i : Nat) (hi : L[i]? = some (resQ q st)) (hl1 : st.B.length ≤ 1000000) (hl2 : st.J.length ≤ 1000000) (hsd : i64B st.seed) (hg : 0 ≤ st.given ∧ st.given ≤ 1000000) :
    Calls Try.prog 26 #[.pointer (some ⟨q, 0, none⟩), .int .i64 pr, .int .i64 s] w (OPost w0 D (L.set i (resQ q (ranyR st pr s).2.2)) (.tuple #[.int .i64 (ranyR st pr s).1, .int .i64 (ranyR st pr s).2.1]) w) := by
  refine o_one h hi fun D HO0 => ?_
  clear h hi
  obtain ⟨vB, vJ, HO0⟩ := openQ HO0
  have HL1 := Lib.hid hl1
  have HL2 := Lib.hid hl2
  have HSD := Lib.hid hsd
  have HG := Lib.hid hg
  obtain ⟨aB, cB, rfl⟩ := row_slice (HO0.row 1 rfl)
  clear hsd hg hl2
  have HO := Lib.hid (show Own w D w [blkQ q (.slice aB st.B.length cB) vJ st.seed st.given, rowB (.slice aB st.B.length cB) st.B, rowJ vJ st.J] from HO0)
  clear HO0
  cases h1 : vpr pr with
  | false =>
    have HR := Lib.hid (show ranyR st pr s = (0, 230, st) by simp [ranyR, h1])
    go_enter Try.func26, Try.ntmps26
    go_wp2_with fail
    refine (rpr_r h1 _).mono ?_
    rintro e xp ⟨rfl, rfl⟩
    go_wp2
    go_ret2
    exact ⟨ret_ty HR.out, by rw [HR.out]; exact shutQ HO.out, HO.out.size⟩
  | true =>
    have HV := Lib.hid (show (st.B.any (fun x => x.2 == s) = true → ranyR st pr s = (0, 231, st)) ∧ (st.B.any (fun x => x.2 == s) = false → (∀ po, rfirst st pr s = some po → ranyR st pr s = (po, 0, { addB st ⟨pr, po⟩ s with given := st.given + 1 })) ∧ (rfirst st pr s = none → ranyR st pr s = (0, 231, st))) by
      exact ⟨fun h => (by simp [ranyR, h1, h]), fun h => ⟨fun po h2 => (by simp [ranyR, h1, h, h2]), fun h2 => (by simp [ranyR, h1, h, h2])⟩⟩)
    obtain ⟨B, hBe⟩ : ∃ B, st.B = B := ⟨_, rfl⟩
    have HBe := Lib.hid hBe
    have HC := Lib.hid (fun h0 => row_sl (c := cBd) (fun x => rfl) (HO.out.row 1 rfl) rfl h0)
    rw [hBe] at HC HV hl1
    have c0 : w.cell? ⟨q, 0, none⟩ = some (.slice aB B.length cB) := by rw [← hBe]; exact HO.out.cell 0 rfl 0 rfl
    clear hBe
    go_enter Try.func26, Try.ntmps26
    go_wp2_with fail
    refine (rpr_r h1 _).mono ?_
    rintro e xp ⟨rfl, rfl⟩
    clear h1
    go_wp2
    go_loop [8] (fun i => ∃ k : Nat, k ≤ B.length ∧ i = .int .i64 k ∧ (B.take k).any (fun x => x.2 == s) = false) (fun i => B.length - (intOf i).toNat)
    case atStart => exact ⟨0, Nat.zero_le _, rfl, rfl⟩
    case round =>
      obtain ⟨k, hk, rfl, hnone⟩ := hrel
      have HN := Lib.hid hnone
      clear hnone
      by_cases hlt : k < B.length
      · obtain ⟨g, hg, hcc⟩ := HC.out (by omega)
        have d1 : w.cell? ⟨g, k * 3 + 2, none⟩ = some (.int .i64 B[k].2) := hcc k hlt 2 (by decide)
        have HT := Lib.hid (any_take (p := fun x : Bk × Int => x.2 == s) hlt HN.out)
        have HY := Lib.hid (any_hit (p := fun x : Bk × Int => x.2 == s) (k := k) hlt)
        obtain ⟨y, hy⟩ : ∃ y, B[k].2 = y := ⟨_, rfl⟩
        simp only [hy] at HT HY d1
        clear hcc hy
        subst hg
        cases he : (y == s) with
        | true =>
          have HR := Lib.hid (HV.out.1 (HY.out he))
          clear HT HY HN
          go_wp2
          go_ret2
          exact ⟨ret_ty HR.out, by rw [HR.out]; exact shutQ HO.out, HO.out.size⟩
        | false =>
          rw [he] at HT
          go_wp2
          go_round
          case rel => exact ⟨k + 1, by omega, by go_num, HT.out⟩
          case measure => simp [intOf]; omega
      · obtain rfl : k = B.length := by omega
        have HV2 := Lib.hid (HV.out.2 (by rw [← HN.out, List.take_length]))
        clear HN HV
        go_wp2
        clear c0
        have hsd := HSD.out
        have hg := HG.out
        have c2 := cell_regrown (show w.cell? ⟨q, 2, none⟩ = some (.int .i64 st.seed) from HO.out.cell 0 rfl 2 rfl)
        have c3 := cell_regrown (show w.cell? ⟨q, 3, none⟩ = some (.int .i64 st.given) from HO.out.cell 0 rfl 3 rfl)
        have hs0 : 0 ≤ st.seed % 64 := by omega
        have hs1 : st.seed % 64 < 64 := by omega
        have hk0 : 0 ≤ st.given % 64 := by omega
        have hk1 : st.given % 64 < 64 := by omega
        have HPO := Lib.hid (show ∀ i : Nat, anyP st i = 49152 + ((st.seed % 64 + st.given % 64) % 64 + i) % 64 from fun i => by unfold anyP; omega)
        obtain ⟨sm, hsm⟩ : ∃ sm, st.seed % 64 = sm := ⟨_, rfl⟩
        obtain ⟨gm, hgm⟩ : ∃ gm, st.given % 64 = gm := ⟨_, rfl⟩
        rw [hsm] at HPO hs0 hs1
        rw [hgm] at HPO hk0 hk1
        have R1 := Lib.hid (fun w => round_r w hsd hsm)
        have R2 := Lib.hid (fun w => round_r w (n := st.given) ⟨by omega, by omega⟩ hgm)
        obtain ⟨S, hS⟩ : ∃ S, (sm + gm) % 64 = S := ⟨_, rfl⟩
        have R3 := Lib.hid (fun w => round_r w (n := sm + gm) ⟨by omega, by omega⟩ hS)
        have hS0 : 0 ≤ S := by omega
        have hS1 : S < 64 := by omega
        rw [hS] at HPO
        obtain ⟨g0, g1⟩ := hg
        clear hsd hsm hgm hS
        refine wp_region_R 12 (by kernel_rfl) (by kernel_rfl) ?_
        simp only [List.take, List.drop]
        iterate 4 (first | (refine wpR_want (by kernel_rfl) rfl rfl ?_; intro K hK; go_big_quiet_op; go_big_quiet_on) | (refine wpR_is (by kernel_rfl) rfl _ (fun w _ => rfl) ?_; simp only [Act.put, List.setIfInBounds_toArray, List.set_cons_succ, List.set_cons_zero]))
        refine wpR_call (by kernel_rfl) rfl 44 #[.int .i64 st.seed] (.int .i64 sm) (fun w => by simp [go_sem]) (fun w _ => ghO_quiet (R1.out w)) ?_
        simp only [Act.put, List.setIfInBounds_toArray, List.set_cons_succ, List.set_cons_zero]
        iterate 4 (first | (refine wpR_want (by kernel_rfl) rfl rfl ?_; intro K hK; go_big_quiet_op; go_big_quiet_on) | (refine wpR_is (by kernel_rfl) rfl _ (fun w _ => rfl) ?_; simp only [Act.put, List.setIfInBounds_toArray, List.set_cons_succ, List.set_cons_zero]))
        refine wpR_call (by kernel_rfl) rfl 44 #[.int .i64 st.given] (.int .i64 gm) (fun w => by simp [go_sem]) (fun w _ => ghO_quiet (R2.out w)) ?_
        simp only [Act.put, List.setIfInBounds_toArray, List.set_cons_succ, List.set_cons_zero]
        (first | (refine wpR_want (by kernel_rfl) rfl rfl ?_; intro K hK; go_big_quiet_op; go_big_quiet_on) | (refine wpR_is (by kernel_rfl) rfl _ (fun w _ => rfl) ?_; simp only [Act.put, List.setIfInBounds_toArray, List.set_cons_succ, List.set_cons_zero]))
        try simp only [show IntKind.i64.wrap (sm + gm) = sm + gm from IntWalk.i64_in _ (by omega)]
        refine wpR_call (by kernel_rfl) rfl 44 #[.int .i64 (sm + gm)] (.int .i64 S) (fun w => by simp [go_sem]) (fun w _ => ghO_quiet (R3.out w)) ?_
        simp only [Act.put, List.setIfInBounds_toArray, List.set_cons_succ, List.set_cons_zero]
        refine wpR_nil (by kernel_rfl) (by simp) ?_
        rintro w1 hb
        simp only [exAll, List.drop]
        clear c2 c3 R1 R2 R3 hs0 hs1 hk0 hk1 HC
        replace HO := Lib.hid (HO.out.stay hb)
        clear hb
        go_wp2
        go_loop [10, 11] (fun i _ => ∃ k : Nat, k ≤ 64 ∧ i = .int .i64 k ∧ ∀ i : Nat, i < k → rfree st pr s (anyP st i) = false) (fun i _ => 64 - (intOf i).toNat)
        case atStart => exact ⟨0, by omega, rfl, fun i hi => by omega⟩
        case round =>
          obtain ⟨k, hk, rfl, hno⟩ := hrel
          have HNO := Lib.hid hno
          clear hno
          by_cases hlt : k < 64
          · have hd : decide ((k : Int) < 64) = true := by simp; omega
            have RR := Lib.hid (fun w => round_any (S + (k : Int)) w ⟨by omega, by omega⟩)
            obtain ⟨r, hr⟩ : ∃ r, (S + (k : Int)) % 64 = r := ⟨_, rfl⟩
            have hr0 : 0 ≤ r := by omega
            have hr1 : r < 64 := by omega
            have HPJ := Lib.hid (show anyP st k = 49152 + r by rw [HPO.out k, hr])
            rw [hr] at RR
            clear hr
            have NXT := Lib.hid (show rfree st pr s (49152 + r) = false → ∀ i : Nat, i < k + 1 → rfree st pr s (anyP st i) = false from fun hf i hi => by
              by_cases e : i = k
              · subst e; rw [HPJ.out]; exact hf
              · exact HNO.out i (by omega))
            have FST := Lib.hid (show rfree st pr s (49152 + r) = true → ranyR st pr s = (49152 + r, 0, { addB st ⟨pr, 49152 + r⟩ s with given := st.given + 1 }) from fun hf => HV2.out.1 _ (rfirst_some hlt HPJ.out HNO.out hf))
            go_wp2_with fail
            refine (RR.out _).mono ?_
            rintro e xp ⟨rfl, rfl⟩
            cases hb1 : boundF st pr (49152 + r) s with
            | true =>
              have HF := Lib.hid (NXT.out (by simp [rfree, hb1]))
              have BD := Lib.hid (rbound_r hb1 (own_rd HO.out) HL1.out)
              clear hb1 NXT FST RR
              go_wp2_with fail
              refine BD.out.mono ?_
              rintro e xp ⟨rfl, rfl⟩
              go_wp2
              go_round
              case rel => exact ⟨k + 1, by omega, by go_num, HF.out⟩
              case measure => simp [intOf]; omega
            | false =>
              have BD := Lib.hid (rbound_r hb1 (own_rd HO.out) HL1.out)
              by_cases h17 : pr = 17
              · have e17 : (pr == 17) = true := by simp [h17]
                have HF := Lib.hid (FST.out (by unfold rfree; rw [hb1, decide_eq_true h17]; rfl))
                clear hb1 h17 NXT FST RR
                go_wp2_with fail
                refine BD.out.mono ?_
                rintro e xp ⟨rfl, rfl⟩
                have c0 : w1.cell? ⟨q, 0, none⟩ = some (.slice aB st.B.length cB) := HO.out.cell 0 rfl 0 rfl
                have rb := run_bsBd
                obtain ⟨x101, hx101⟩ : ∃ y, w1.alloc (.cells #[.int .i64 pr, .int .i64 (49152 + r), .int .i64 s] 80) = y := ⟨_, rfl⟩
                obtain ⟨bn, hbn⟩ : ∃ y, w1.heap.size = y := ⟨_, rfl⟩
                have hO := HO.out.alloc (.cells #[.int .i64 pr, .int .i64 (49152 + r), .int .i64 s] 80)
                rw [hx101, hbn] at hO
                replace HO := Lib.hid (show Own w D x101 [blkQ q (.slice aB st.B.length cB) vJ st.seed st.given, rowB (.slice aB st.B.length cB) st.B, rowJ vJ st.J, blkR bn (.cells #[.int .i64 pr, .int .i64 (49152 + r), .int .i64 s] 80)] from hO)
                clear hO
                go_wp2_with ((at_builtin; refine (show _ = True → _ from fun h => of_eq_true h) ?_))
                refine eq_true ?_
                refine wpList_appO rfl (.tmp 75) (.tmp 80) 68 rfl Try.underlying68 infoBd rfl (by decide) HO.out 1 rfl rfl 3 1 1 [.int .i64 pr, .int .i64 (49152 + r), .int .i64 s] rfl rfl rfl (one3 _ _ _) (by have := HL1.out; unfold maxLen; omega) (by have := HL1.out; omega) ?_
                intro v9 x9 hO
                clear hx101 hbn
                clear c0 rb
                have e1 : rowR v9 80 3 (st.B.length + 1) (st.B.flatMap cBd ++ [.int .i64 pr, .int .i64 (49152 + r), .int .i64 s]) = rowB v9 (st.B ++ [((⟨pr, 49152 + r⟩ : Bk), s)]) := by
                  show _ = rowR _ _ _ _ _
                  rw [List.length_append, List.flatMap_append]; rfl
                simp only [List.set_cons_succ, List.set_cons_zero, e1] at hO
                replace HO := Lib.hid (show Own w D x9 [blkQ q (.slice aB st.B.length cB) vJ st.seed st.given, rowB v9 (st.B ++ [((⟨pr, 49152 + r⟩ : Bk), s)]), rowJ vJ st.J] from hO.take 3)
                clear hO e1
                obtain ⟨a9, c9, hv9⟩ := row_slice (HO.out.row 1 rfl)
                obtain ⟨n9, hn9⟩ : ∃ n, (st.B ++ [((⟨pr, 49152 + r⟩ : Bk), s)]).length = n := ⟨_, rfl⟩
                rw [hn9] at hv9
                subst hv9
                clear hn9
                have c0 : x9.cell? ⟨q, 0, none⟩ = some (.slice aB st.B.length cB) := HO.out.cell 0 rfl 0 rfl
                have f0 : x9.frozen? ⟨q, 0, none⟩ = false := HO.out.frz 0 rfl 0
                obtain ⟨xa, hxa⟩ : ∃ y, x9.setCell ⟨q, 0, none⟩ (.slice a9 n9 c9) = y := ⟨_, rfl⟩
                have hO := HO.out.setCell 0 rfl 0 (.slice a9 n9 c9)
                rw [hxa] at hO
                replace HO := Lib.hid (show Own w D xa [blkQ q (.slice a9 n9 c9) vJ st.seed st.given, rowB (.slice a9 n9 c9) (addB st ⟨pr, 49152 + r⟩ s).B, rowJ vJ (addB st ⟨pr, 49152 + r⟩ s).J] from hO)
                clear hO
                have z3 : xa.cell? ⟨q, 3, none⟩ = some (.int .i64 st.given) := HO.out.cell 0 rfl 3 rfl
                have y3 : xa.frozen? ⟨q, 3, none⟩ = false := HO.out.frz 0 rfl 3
                obtain ⟨xb, hxb⟩ : ∃ y, xa.setCell ⟨q, 3, none⟩ (.int .i64 (st.given + 1)) = y := ⟨_, rfl⟩
                have hO := HO.out.setCell 0 rfl 3 (.int .i64 (st.given + 1))
                rw [hxb] at hO
                have HO2 := Lib.hid (show Own w D xb [blkQ q (.slice a9 n9 c9) vJ st.seed (st.given + 1), rowB (.slice a9 n9 c9) (st.B ++ [((⟨pr, 49152 + r⟩ : Bk), s)]), rowJ vJ st.J] from hO)
                clear hO HO
                go_wp2
                go_ret2
                exact ⟨ret_ty HF.out, by rw [HF.out]; exact shutQ (st := { addB st ⟨pr, 49152 + r⟩ s with given := st.given + 1 }) HO2.out, HO2.out.size⟩
              · have e17 : (pr == 17) = false := by simpa using h17
                cases hj : joinedF st (49152 + r) with
                | true =>
                  have HF := Lib.hid (NXT.out (by unfold rfree; rw [hb1, hj, decide_eq_false h17]; rfl))
                  have JD := Lib.hid (joined_r hj (own_rd HO.out) HL2.out)
                  clear hb1 h17 hj NXT FST RR
                  go_wp2_with fail
                  refine BD.out.mono ?_
                  rintro e xp ⟨rfl, rfl⟩
                  go_wp2_with fail
                  refine JD.out.mono ?_
                  rintro e xp ⟨rfl, rfl⟩
                  go_wp2
                  go_round
                  case rel => exact ⟨k + 1, by omega, by go_num, HF.out⟩
                  case measure => simp [intOf]; omega
                | false =>
                  have HF := Lib.hid (FST.out (by unfold rfree; rw [hb1, hj, decide_eq_false h17]; rfl))
                  have JD := Lib.hid (joined_r hj (own_rd HO.out) HL2.out)
                  clear hb1 h17 hj NXT FST RR
                  go_wp2_with fail
                  refine BD.out.mono ?_
                  rintro e xp ⟨rfl, rfl⟩
                  go_wp2_with fail
                  refine JD.out.mono ?_
                  rintro e xp ⟨rfl, rfl⟩
                  have c0 : w1.cell? ⟨q, 0, none⟩ = some (.slice aB st.B.length cB) := HO.out.cell 0 rfl 0 rfl
                  have rb := run_bsBd
                  obtain ⟨x101, hx101⟩ : ∃ y, w1.alloc (.cells #[.int .i64 pr, .int .i64 (49152 + r), .int .i64 s] 80) = y := ⟨_, rfl⟩
                  obtain ⟨bn, hbn⟩ : ∃ y, w1.heap.size = y := ⟨_, rfl⟩
                  have hO := HO.out.alloc (.cells #[.int .i64 pr, .int .i64 (49152 + r), .int .i64 s] 80)
                  rw [hx101, hbn] at hO
                  replace HO := Lib.hid (show Own w D x101 [blkQ q (.slice aB st.B.length cB) vJ st.seed st.given, rowB (.slice aB st.B.length cB) st.B, rowJ vJ st.J, blkR bn (.cells #[.int .i64 pr, .int .i64 (49152 + r), .int .i64 s] 80)] from hO)
                  clear hO
                  go_wp2_with ((at_builtin; refine (show _ = True → _ from fun h => of_eq_true h) ?_))
                  refine eq_true ?_
                  refine wpList_appO rfl (.tmp 75) (.tmp 80) 68 rfl Try.underlying68 infoBd rfl (by decide) HO.out 1 rfl rfl 3 1 1 [.int .i64 pr, .int .i64 (49152 + r), .int .i64 s] rfl rfl rfl (one3 _ _ _) (by have := HL1.out; unfold maxLen; omega) (by have := HL1.out; omega) ?_
                  intro v9 x9 hO
                  clear hx101 hbn
                  clear c0 rb
                  have e1 : rowR v9 80 3 (st.B.length + 1) (st.B.flatMap cBd ++ [.int .i64 pr, .int .i64 (49152 + r), .int .i64 s]) = rowB v9 (st.B ++ [((⟨pr, 49152 + r⟩ : Bk), s)]) := by
                    show _ = rowR _ _ _ _ _
                    rw [List.length_append, List.flatMap_append]; rfl
                  simp only [List.set_cons_succ, List.set_cons_zero, e1] at hO
                  replace HO := Lib.hid (show Own w D x9 [blkQ q (.slice aB st.B.length cB) vJ st.seed st.given, rowB v9 (st.B ++ [((⟨pr, 49152 + r⟩ : Bk), s)]), rowJ vJ st.J] from hO.take 3)
                  clear hO e1
                  obtain ⟨a9, c9, hv9⟩ := row_slice (HO.out.row 1 rfl)
                  obtain ⟨n9, hn9⟩ : ∃ n, (st.B ++ [((⟨pr, 49152 + r⟩ : Bk), s)]).length = n := ⟨_, rfl⟩
                  rw [hn9] at hv9
                  subst hv9
                  clear hn9
                  have c0 : x9.cell? ⟨q, 0, none⟩ = some (.slice aB st.B.length cB) := HO.out.cell 0 rfl 0 rfl
                  have f0 : x9.frozen? ⟨q, 0, none⟩ = false := HO.out.frz 0 rfl 0
                  obtain ⟨xa, hxa⟩ : ∃ y, x9.setCell ⟨q, 0, none⟩ (.slice a9 n9 c9) = y := ⟨_, rfl⟩
                  have hO := HO.out.setCell 0 rfl 0 (.slice a9 n9 c9)
                  rw [hxa] at hO
                  replace HO := Lib.hid (show Own w D xa [blkQ q (.slice a9 n9 c9) vJ st.seed st.given, rowB (.slice a9 n9 c9) (addB st ⟨pr, 49152 + r⟩ s).B, rowJ vJ (addB st ⟨pr, 49152 + r⟩ s).J] from hO)
                  clear hO
                  have z3 : xa.cell? ⟨q, 3, none⟩ = some (.int .i64 st.given) := HO.out.cell 0 rfl 3 rfl
                  have y3 : xa.frozen? ⟨q, 3, none⟩ = false := HO.out.frz 0 rfl 3
                  obtain ⟨xb, hxb⟩ : ∃ y, xa.setCell ⟨q, 3, none⟩ (.int .i64 (st.given + 1)) = y := ⟨_, rfl⟩
                  have hO := HO.out.setCell 0 rfl 3 (.int .i64 (st.given + 1))
                  rw [hxb] at hO
                  have HO2 := Lib.hid (show Own w D xb [blkQ q (.slice a9 n9 c9) vJ st.seed (st.given + 1), rowB (.slice a9 n9 c9) (st.B ++ [((⟨pr, 49152 + r⟩ : Bk), s)]), rowJ vJ st.J] from hO)
                  clear hO HO
                  go_wp2
                  go_ret2
                  exact ⟨ret_ty HF.out, by rw [HF.out]; exact shutQ (st := { addB st ⟨pr, 49152 + r⟩ s with given := st.given + 1 }) HO2.out, HO2.out.size⟩
          · obtain rfl : k = 64 := by omega
            have HR := Lib.hid (HV2.out.2 (rfirst_none HNO.out))
            clear HNO
            go_wp2
            go_ret2
            exact ⟨ret_ty HR.out, by rw [HR.out]; exact shutQ HO.out, HO.out.size⟩


end Go.Proofs.Ytfipamdknanlmaa
