/- The law RouteMatchesReference returns true for every input: the walk. -/
import Derived.Test.YtkhhmoijjidbbaaMatch
import Derived.Test.YtkhhmoijjidbbaaOnLink
namespace Go.Proofs.Ytkhhmoijjidbbaa
open Go.RowKit Go.Sort
set_option linter.unusedVariables false

set_option maxRecDepth 100000 in
set_option maxHeartbeats 8000000 in
theorem match_walk (n m : Nat) (x : Nat → Fr) (y : Nat → Rr) (v u : Value) (odd : If) (oth : Rt) (which tgt : Int) (w : World) (hF : RdF w v n x) (hG : RdW w u m y) (h1 : i64 which) (h2 : i64 tgt) :
    Calls Try.prog 3 #[v, u, ifV odd, rtV oth, .int .i64 which, .int .i64 tgt] w fun e w' => e = .returned (.bool true) ∧ Below w.heap.size w w' := by
  obtain ⟨a0, cap0, rfl, hrest0⟩ := id hF
  obtain ⟨a1, cap1, rfl, hrest1⟩ := id hG
  clear hrest0 hrest1
  obtain ⟨omac, oaddr, ona, onb, omtu⟩ := odd
  obtain ⟨qna, qnb, qvia, qfc⟩ := oth
  go_enter Try.func3, Try.ntmps3
  go_wp2_with fail
  have hb : Below w.heap.size w ((w.alloc (.cells #[.int .i64 omac, .int .i64 oaddr, .int .i64 ona, .int .i64 onb, .int .i64 omtu] 27)).alloc (.cells #[.int .i64 qna, .int .i64 qnb, .int .i64 qvia, .int .i64 qfc] 29)) := ((Below.refl _ _).alloc (Nat.le_refl _) _).alloc (by simp) _
  have HO : Hid (IfCells ((w.alloc (.cells #[.int .i64 omac, .int .i64 oaddr, .int .i64 ona, .int .i64 onb, .int .i64 omtu] 27)).alloc (.cells #[.int .i64 qna, .int .i64 qnb, .int .i64 qvia, .int .i64 qfc] 29)) w.heap.size 0 ⟨omac, oaddr, ona, onb, omtu⟩) := Lib.hid ⟨by simp, by simp, by simp, by simp, by simp⟩
  have HQ : Hid (RtCells ((w.alloc (.cells #[.int .i64 omac, .int .i64 oaddr, .int .i64 ona, .int .i64 onb, .int .i64 omtu] 27)).alloc (.cells #[.int .i64 qna, .int .i64 qnb, .int .i64 qvia, .int .i64 qfc] 29)) (w.heap.size + 1) 0 ⟨qna, qnb, qvia, qfc⟩) := Lib.hid ⟨by simp, by simp, by simp, by simp⟩
  have HB0 : Hid (w.heap.size + 1 < ((w.alloc (.cells #[.int .i64 omac, .int .i64 oaddr, .int .i64 ona, .int .i64 onb, .int .i64 omtu] 27)).alloc (.cells #[.int .i64 qna, .int .i64 qnb, .int .i64 qvia, .int .i64 qfc] 29)).heap.size) := Lib.hid (by simp)
  generalize ((w.alloc (.cells #[.int .i64 omac, .int .i64 oaddr, .int .i64 ona, .int .i64 onb, .int .i64 omtu] 27)).alloc (.cells #[.int .i64 qna, .int .i64 qnb, .int .i64 qvia, .int .i64 qfc] 29)) = w0 at *
  refine (sanity_any _).mono ?_
  rintro e w1 ⟨rfl, hb1⟩
  replace hb := below_mid hb hb1
  replace HO := Lib.hid (HO.out.stay hb1)
  replace HQ := Lib.hid (HQ.out.stay hb1)
  replace HB0 := Lib.hid (Nat.lt_of_lt_of_le HB0.out hb1.size)
  clear hb1
  go_wp2_with fail
  refine (faces_any n x _ _ (hF.stay hb)).mono ?_
  rintro e w2 ⟨fv, rfl, hI, hb2⟩
  replace hb := below_mid hb hb2
  replace HO := Lib.hid (HO.out.stay hb2)
  replace HQ := Lib.hid (HQ.out.stay hb2)
  replace HB0 := Lib.hid (Nat.lt_of_lt_of_le HB0.out hb2.size)
  clear hb2 hF
  have hl := facesF_len n x
  have HG0 := Lib.hid (faces_good n x 0 (by omega)).1
  have HBD := Lib.hid (faces_bd n x)
  generalize facesF n x = fs at *
  obtain ⟨aI, capI, rfl, hcapI, _, hpI⟩ := id hI
  obtain ⟨bI, oI, rfl, hcI⟩ := hpI (by omega)
  clear hpI hcI
  go_wp2_with fail
  refine (routes_any fs m y _ _ _ hI (hG.stay hb) hl.1 hl.2 HBD.out).mono ?_
  rintro e w3 ⟨rv, rfl, hR, hb3⟩
  replace hb := below_mid hb hb3
  replace hI := hI.stay hb3
  replace HO := Lib.hid (HO.out.stay hb3)
  replace HQ := Lib.hid (HQ.out.stay hb3)
  replace HB0 := Lib.hid (Nat.lt_of_lt_of_le HB0.out hb3.size)
  clear hb3 hG HBD
  have hr8 := routes_len fs m y
  generalize routesF fs m y = rs at *
  obtain ⟨aR, capR, rfl, hcapR, hlR, hpR⟩ := id hR
  clear hpR
  have HI3 := Lib.hid hI
  have HR3 := Lib.hid hR
  clear hI hR
  obtain ⟨i0, hi, hz0, hz1, hz2⟩ := info_parts infoI
  have HI0 := Lib.hid hi
  have HZ0 := Lib.hid hz0
  have HZ1 := Lib.hid hz1
  have HZ2 := Lib.hid hz2
  clear hi hz0 hz1 hz2
  have rb0 := run_bsI0
  go_wp2_with ((at_builtin; refine (show _ = True → _ from fun h => of_eq_true h) ?_))
  refine eq_true ?_
  -- turned := append([]api.Interface{}, faces...)
  have hI4 := HI3.out.stay ((Below.refl _ w3).alloc (Nat.le_refl _) (.cells #[] 27))
  obtain ⟨_, _, ad, e, hnews⟩ := hI4.news hl.1
  cases e
  refine wpList_plain rfl fun K hK => ?_
  refine wp_next (app_first (.tmp 39) (.tmp 40) 31 rfl Try.underlying31 HI0.out HZ0.out HZ1.out HZ2.out rfl (by decide) (g := w3.heap.size) rfl (ifcs fs) rfl (ifcs_len fs) hnews (by omega) (by unfold maxLen; omega) (by omega)) ?_
  rintro a' w4 ⟨v4, rfl, hown, hb4⟩
  refine hK _ _ ?_
  clear hK K hnews hI4 rb0
  obtain ⟨b4, c4, rfl⟩ : ∃ b c, v4 = .slice (some ⟨b, 0, none⟩) fs.length c := by
    rcases hown.2 with ⟨_, h⟩ | ⟨g, c, cu, e, _⟩
    · omega
    · exact ⟨g, c, e⟩
  have hb34 : Below w3.heap.size w3 w4 := (((Below.refl _ w3).alloc (Nat.le_refl _) (.cells #[] 27))).trans (hb4.mono (by simp))
  have hpk := pk_bd which fs.length (by omega)
  have P1 := Lib.hid (fun w => pick_any which fs.length w h1 (by omega))
  have P2 := Lib.hid (fun w => pick_any which (fs.length + 1) w h1 (by omega))
  have hpk2 := pk_bd which (fs.length + 1) (by omega)
  obtain ⟨k1, hk1⟩ := Int.eq_ofNat_of_zero_le hpk.1
  rw [hk1] at P1 hpk
  obtain ⟨k2, hk2⟩ := Int.eq_ofNat_of_zero_le hpk2.1
  rw [hk2] at P2 hpk2
  have hk1l : k1 < fs.length := by omega
  have hk2l : k2 ≤ fs.length := by omega
  have hk1c : k1 < c4 := by
    rcases hown.2 with ⟨_, h⟩ | ⟨g, c, cu, e, _, _, h, _⟩
    · omega
    · cases e; omega
  clear hk1 hk2 hpk hpk2
  replace HO := Lib.hid (HO.out.stay hb34)
  replace HQ := Lib.hid (HQ.out.stay hb34)
  obtain ⟨d0, d1, d2, d3, d4⟩ := HO.out
  simp only at d0 d1 d2 d3 d4
  have g0 := cell_regrown d0
  have g1 := cell_regrown d1
  have g2 := cell_regrown d2
  have g3 := cell_regrown d3
  have g4 := cell_regrown d4
  go_wp2
  refine wp_region_R 6 (by kernel_rfl) (by kernel_rfl) ?_
  simp only [List.take, List.drop]
  iterate 4 (refine wpR_want (by kernel_rfl) rfl rfl ?_; intro K hK; go_big_quiet_op; go_big_quiet_on)
  refine wpR_call (by kernel_rfl) rfl 11 #[.int .i64 which, .int .i64 fs.length] (.int .i64 k1) (fun w => by simp [go_sem]) (fun w _ => P1.out w) ?_
  simp only [Act.put, List.setIfInBounds_toArray, List.set_cons_succ, List.set_cons_zero]
  iterate 1 (refine wpR_want (by kernel_rfl) rfl rfl ?_; intro K hK; go_big_quiet_op; go_big_quiet_on)
  refine wpR_nil (by kernel_rfl) (by simp) ?_
  rintro w5 hb5
  simp only [exAll]
  clear g0 g1 g2 g3 g4 d0 d1 d2 d3 d4 P1
  have hown5 := ownsRow_stay hb5 hown
  obtain ⟨hb4w, cur, hcur, hcsz⟩ : w3.heap.size ≤ b4 ∧ ∃ cur, w5.heap[b4]? = some (.cells cur 27 (0, 0)) ∧ cur.size = c4 * 5 := by
    rcases hown5.2 with ⟨_, h⟩ | ⟨g, c, cu, e, hg, hcu, _, _, h, _⟩
    · omega
    · cases e; exact ⟨by simp at hg; omega, cu, hcu, h⟩
  have HT := Lib.hid (RdI_put (RdI_of_owns hown5 (by omega)) k1 hk1l ⟨omac, oaddr, ona, onb, omtu⟩)
  have hfz : ∀ j, w5.frozen? ⟨b4, j, none⟩ = false := fun j => by simp [World.frozen?, hcur]
  have hce : ∀ j, j < 5 → ∃ z, w5.cell? ⟨b4, k1 * 5 + j, none⟩ = some z := fun j hj => ⟨cur[k1 * 5 + j]'(by rw [hcsz]; omega), by simp [World.cell?, hcur]⟩
  obtain ⟨z0, e0⟩ := hce 0 (by omega)
  rw [Nat.add_zero] at e0
  obtain ⟨z1, e1⟩ := hce 1 (by omega)
  obtain ⟨z2, e2⟩ := hce 2 (by omega)
  obtain ⟨z3, e3⟩ := hce 3 (by omega)
  obtain ⟨z4, e4⟩ := hce 4 (by omega)
  clear hce hcur hown hown5
  go_wp2
  clear e0 e1 e2 e3 e4 hfz
  have hb36 : Below w3.heap.size w3 (put5 w5 b4 (k1 * 5) ⟨omac, oaddr, ona, onb, omtu⟩) := (below_mid hb34 hb5).trans (below_put5 hb4w _ _)
  replace HO := Lib.hid (HO.out.stay hb5)
  replace HQ := Lib.hid (HQ.out.stay hb5)
  have hb0 : w.heap.size + 1 < w3.heap.size := HB0.out
  have HO6 : Hid (IfCells (put5 w5 b4 (k1 * 5) ⟨omac, oaddr, ona, onb, omtu⟩) w.heap.size 0 ⟨omac, oaddr, ona, onb, omtu⟩) := Lib.hid (IfCells_below (below_put5 hb4w _ _) (by omega) HO.out)
  have HQ6 : Hid (RtCells (put5 w5 b4 (k1 * 5) ⟨omac, oaddr, ona, onb, omtu⟩) (w.heap.size + 1) 0 ⟨qna, qnb, qvia, qfc⟩) := Lib.hid (RtCells_below (below_put5 hb4w _ _) hb0 HQ.out)
  clear HO HQ
  change Code.wp _ _ _ _ (put5 w5 b4 (k1 * 5) ⟨omac, oaddr, ona, onb, omtu⟩)
  generalize put5 w5 b4 (k1 * 5) ⟨omac, oaddr, ona, onb, omtu⟩ = w6 at *
  have HI6 := Lib.hid (HI3.out.stay hb36)
  have HR6 := Lib.hid (HR3.out.stay hb36)
  replace hb := below_mid hb hb36
  clear hb36 HI3 HR3 hb4 hb34 hb5 hb4w hcsz hk1c
  obtain ⟨r0, hi, hz0, hz1, hz2⟩ := info_parts infoR
  have RI0 := Lib.hid hi
  have RZ0 := Lib.hid hz0
  have RZ1 := Lib.hid hz1
  have RZ2 := Lib.hid hz2
  clear hi hz0 hz1 hz2
  obtain ⟨d0, d1, d2, d3⟩ := HQ6.out
  simp only at d0 d1 d2 d3
  have g0 : ∀ p : (gh6 w6 rs ⟨qna, qnb, qvia, qfc⟩).Wd, p.w.cell? ⟨w.heap.size + 1, 0, none⟩ = some (.int .i64 qna) := fun p => keep (gh6_below p.h) d0
  have g1 : ∀ p : (gh6 w6 rs ⟨qna, qnb, qvia, qfc⟩).Wd, p.w.cell? ⟨w.heap.size + 1, 1, none⟩ = some (.int .i64 qnb) := fun p => keep (gh6_below p.h) d1
  have g2 : ∀ p : (gh6 w6 rs ⟨qna, qnb, qvia, qfc⟩).Wd, p.w.cell? ⟨w.heap.size + 1, 2, none⟩ = some (.int .i64 qvia) := fun p => keep (gh6_below p.h) d2
  have g3 : ∀ p : (gh6 w6 rs ⟨qna, qnb, qvia, qfc⟩).Wd, p.w.cell? ⟨w.heap.size + 1, 3, none⟩ = some (.int .i64 qfc) := fun p => keep (gh6_below p.h) d3
  clear d0 d1 d2 d3
  have ne6 : Nonempty (gh6 w6 rs ⟨qna, qnb, qvia, qfc⟩).Wd := ⟨⟨[], w6, Below.refl _ _⟩⟩
  refine wp_region_H (gh6 w6 rs ⟨qna, qnb, qvia, qfc⟩) 7 [2, 5] (by kernel_rfl) (by kernel_rfl) (by kernel_rfl) (by kernel_rfl) (Below.refl _ _) ?_
  simp only [List.take, List.drop]
  refine wpH_ex (gblk (gh6 w6 rs ⟨qna, qnb, qvia, qfc⟩) w6.heap.size (fun b => .slice (some ⟨b, 0, none⟩) 0 0) (.cells #[] 29)) (gblk_lasts _ _ _ _) (by kernel_rfl) (by kernel_rfl) (fun a' g hg he => ?_) (fun d hd => ?_)
  · refine wp_of_value (v := .slice (some ⟨g.w.heap.size, 0, none⟩) 0 0) (w' := g.w.alloc (.cells #[] 29)) (run_v_ok ?_) ⟨_, rfl, (Below.refl _ _).alloc (Nat.le_refl _) _, gblk_new (V := fun b => .slice (some ⟨b, 0, none⟩) 0 0) _ hg (gh6_below hg).size⟩
    simp only [List.map_toArray, List.map_nil]
    exact run_bsR0 _
  cases hd
  simp only [List.nil_append]
  refine wpH_want (by kernel_rfl) (by kernel_rfl) rfl rfl ?_
  intro K hK
  go_big_quiet_op
  go_big_quiet_on
  refine wpH_chainX 0 (gnth 0) (gnth_lasts _ _) (by kernel_rfl) (by kernel_rfl) (fun a' g hg hgl he => ?_) (fun d hd => ?_)
  · obtain ⟨⟨b, h49, hB, hcell, hno⟩, h50, _⟩ := he
    have h49' : a'.eval (.tmp 49) = .slice (some ⟨b, 0, none⟩) 0 0 := h49
    have h50' : a'.eval (.tmp 50) = .slice aR rs.length capR := h50
    have hvs : g.vs = [] := List.eq_nil_of_length_eq_zero hgl
    rw [hvs] at hg ⊢
    have hg' : Below w6.heap.size w6 g.w := hg
    by_cases h0 : rs.length = 0
    · have hnil : rs = [] := List.eq_nil_of_length_eq_zero h0
      rw [h0] at h50'
      refine wp_append_run rfl h49' h50' (run_apR0 _ _ _ _ _) ⟨_, rfl, ⟨⟨hg', ?_⟩, Nat.le_refl _, fun _ _ _ => rfl, fun b' hb' => ?_⟩, rfl⟩
      · rw [hnil]
        exact ⟨rfl, .inr ⟨b, 0, #[], rfl, hB, hcell, Nat.le_refl _, by unfold maxLen; omega, rfl, rfl⟩⟩
      · obtain ⟨n', c', e, hc'⟩ := hb'
        cases e
        omega
    · obtain ⟨_, _, ad, e, hnews⟩ := (HR6.out.stay hg').news (by omega)
      rw [e] at h50'
      refine wp_next (app_first (.tmp 49) (.tmp 50) 33 rfl Try.underlying33 RI0.out RZ0.out RZ1.out RZ2.out rfl (by decide) h49' (rtcs rs) h50' (rtcs_len rs) hnews (by omega) (by unfold maxLen; omega) (by omega)) ?_
      rintro a'' w' ⟨v', rfl, hown, hbl⟩
      refine ⟨v', rfl, ⟨⟨below_mid hg' hbl, ownsRow_base hown hg'.size⟩, hbl.size, fun k hk _ => hbl.block k hk, fun b' hb' => .inr ?_⟩, rfl⟩
      obtain ⟨n', c', e, hc'⟩ := hb'
      rcases hown.2 with ⟨e', _⟩ | ⟨g', _, _, e', hg2, _⟩
      · rw [e'] at e; cases e
      · rw [e'] at e; cases e; exact hg2
  cases hd
  simp only [List.cons_append, List.nil_append]
  refine wpH_want (by kernel_rfl) (by kernel_rfl) rfl rfl ?_
  intro K hK
  go_big_quiet_op
  go_big_quiet_on
  refine wpH_ex (gblk (gh6 w6 rs ⟨qna, qnb, qvia, qfc⟩) w6.heap.size (fun b => .slice (some ⟨b, 0, none⟩) 1 1) (.cells (rtc ⟨qna, qnb, qvia, qfc⟩).toArray 29)) (gblk_lasts _ _ _ _) (by kernel_rfl) (by kernel_rfl) (fun a' g hg he => ?_) (fun d hd => ?_)
  · obtain ⟨h52, _⟩ := he
    have h52' : a'.eval (.tmp 52) = .agg #[.int .i64 qna, .int .i64 qnb, .int .i64 qvia, .int .i64 qfc] := h52
    refine wp_of_value (v := .slice (some ⟨g.w.heap.size, 0, none⟩) 1 1) (w' := g.w.alloc (.cells (rtc ⟨qna, qnb, qvia, qfc⟩).toArray 29)) (run_v_ok ?_) ⟨_, rfl, (Below.refl _ _).alloc (Nat.le_refl _) _, gblk_new (V := fun b => .slice (some ⟨b, 0, none⟩) 1 1) _ hg (gh6_below hg).size⟩
    simp only [List.map_toArray, List.map_cons, List.map_nil, h52']
    exact run_bsR1 _ _ _ _ _
  cases hd
  simp only [List.cons_append, List.nil_append]
  refine wpH_chainX 1 (gnth 1) (gnth_lasts _ _) (by kernel_rfl) (by kernel_rfl) (fun a' g hg hgl he => ?_) (fun d hd => ?_)
  · obtain ⟨h51, ⟨b, h53, hB, hcell, hno⟩, _⟩ := he
    have h53' : a'.eval (.tmp 53) = .slice (some ⟨b, 0, none⟩) 1 1 := h53
    obtain ⟨v1, hvs⟩ := len1 hgl
    have h51' : g.vs[0]? = some (a'.eval (.tmp 51)) := h51
    rw [hvs] at hg h51' ⊢
    have h51'' : a'.eval (.tmp 51) = v1 := (Option.some.inj h51').symm
    obtain ⟨hg1, hown⟩ := (show Below w6.heap.size w6 g.w ∧ g.w.ownsRow w6.heap.size 29 4 v1 rs.length (rtcs rs) from hg)
    refine wp_next (app_more (.tmp 51) (.tmp 53) 33 rfl Try.underlying33 RI0.out RZ0.out RZ1.out RZ2.out rfl (by decide) h51'' hown (rtc ⟨qna, qnb, qvia, qfc⟩) h53' rfl (blk_news hcell) (rtc_one _) (by unfold maxLen; omega) (by omega) hg1.size) ?_
    rintro a'' w' ⟨v', rfl, hown', hbl, hfr⟩
    rw [← rtcs_snoc] at hown'
    have hbb : Below w6.heap.size w6 w' := hg1.trans hbl
    exact ⟨v', rfl, ⟨⟨hbb, RdR_of_owns (by rw [List.length_append]; exact hown') (by simp; omega)⟩, hbl.size, fun k hk hn => hfr k hk hn, fun b' hb' => hb'.elim⟩, rfl⟩
  cases hd
  simp only [List.cons_append, List.nil_append]
  refine wpH_ex (gnth 1) (gnth_lasts _ _) (by kernel_rfl) (by kernel_rfl) (fun a' g hg he => ?_) (fun d hd => ?_)
  · obtain ⟨h54, _⟩ := he
    exact wp_of_value (v := a'.eval (.tmp 54)) (w' := g.w) rfl ⟨_, rfl, Below.refl _ _, h54⟩
  cases hd
  simp only [List.cons_append, List.nil_append]
  refine wpH_nil (by kernel_rfl) (by simp) ?_
  rintro ⟨vs, w7⟩ hg hgl
  obtain ⟨v51, v17, rfl⟩ := len2 hgl
  obtain ⟨hb7, hM⟩ := (show Below w6.heap.size w6 w7 ∧ RdR w7 v17 (rs ++ [⟨qna, qnb, qvia, qfc⟩]) from hg)
  simp only [gexAll]
  rintro u49 - u51 - u53 - u54 h54 u17 h17
  have e17 : u17 = v17 := (Option.some.inj (show some v17 = some u17 from h17)).symm
  subst e17
  obtain ⟨a17, c17, e17, hc17, _, hp17⟩ := id hM
  rw [List.length_append, List.length_singleton] at e17 hc17
  subst e17
  clear hp17
  simp only [Act.put, List.setIfInBounds_toArray, List.set_cons_succ, List.set_cons_zero]
  clear g0 g1 g2 g3 hg hgl h17 ne6
  simp only [List.drop]
  have HI7 := Lib.hid (HI6.out.stay hb7)
  have HR7 := Lib.hid (HR6.out.stay hb7)
  have HT7 := Lib.hid (HT.out.stay hb7)
  have HO7 := Lib.hid (HO6.out.stay hb7)
  have HM7 := Lib.hid hM
  replace hb := below_mid hb hb7
  clear HI6 HR6 HT HO6 HQ6 hM hb7 RI0 RZ0 RZ1 RZ2
  go_wp2_with fail
  refine (P2.out _).mono ?_
  rintro e w8 ⟨rfl, hb8⟩
  have HI8 := Lib.hid (HI7.out.stay hb8)
  have HR8 := Lib.hid (HR7.out.stay hb8)
  have HT8 := Lib.hid (HT7.out.stay hb8)
  have HO8 := Lib.hid (HO7.out.stay hb8)
  have HM8 := Lib.hid (HM7.out.stay hb8)
  replace hb := below_mid hb hb8
  clear HI7 HR7 HT7 HO7 HM7 hb8 P2
  have hk2c : k2 ≤ capI := by omega
  go_wp2
  obtain ⟨i0', c0', e, _, _, hpI⟩ := id HI8.out
  cases e
  obtain ⟨b', o', e, hcI⟩ := hpI (by omega)
  cases e
  have HC0 := Lib.hid (hcI 0 (by omega))
  clear hpI hcI
  obtain ⟨f0, hf0⟩ : ∃ f0, f0 = ifAt fs 0 := ⟨_, rfl⟩
  rw [← hf0] at HC0 HG0
  have HF0 := Lib.hid hf0
  clear hf0
  obtain ⟨fmac, faddr, fna, fnb, fmtu⟩ := f0
  obtain ⟨d0, d1, d2, d3, d4⟩ := HO8.out
  obtain ⟨q0, q1, q2, q3, q4⟩ := HC0.out
  simp only [Nat.zero_mul, Nat.add_zero] at d0 d1 d2 d3 d4 q0 q1 q2 q3 q4
  generalize hΓ : gh8 w8 fs ⟨omac, oaddr, ona, onb, omtu⟩ ⟨fmac, faddr, fna, fnb, fmtu⟩ = Γ
  have HΓ : ∀ vs w, Γ.inv vs w → Below w8.heap.size w8 w := fun vs w h => by rw [← hΓ] at h; exact gh8_below h
  have g0 : ∀ p : Γ.Wd, p.w.cell? ⟨w.heap.size, 0, none⟩ = some (.int .i64 omac) := fun p => keep (HΓ _ _ p.h) d0
  have g1 : ∀ p : Γ.Wd, p.w.cell? ⟨w.heap.size, 1, none⟩ = some (.int .i64 oaddr) := fun p => keep (HΓ _ _ p.h) d1
  have g2 : ∀ p : Γ.Wd, p.w.cell? ⟨w.heap.size, 2, none⟩ = some (.int .i64 ona) := fun p => keep (HΓ _ _ p.h) d2
  have g3 : ∀ p : Γ.Wd, p.w.cell? ⟨w.heap.size, 3, none⟩ = some (.int .i64 onb) := fun p => keep (HΓ _ _ p.h) d3
  have g4 : ∀ p : Γ.Wd, p.w.cell? ⟨w.heap.size, 4, none⟩ = some (.int .i64 omtu) := fun p => keep (HΓ _ _ p.h) d4
  have kk0 : ∀ p : Γ.Wd, p.w.cell? ⟨bI, oI, none⟩ = some (.int .i64 fmac) := fun p => keep (HΓ _ _ p.h) q0
  have kk1 : ∀ p : Γ.Wd, p.w.cell? ⟨bI, oI + 1, none⟩ = some (.int .i64 faddr) := fun p => keep (HΓ _ _ p.h) q1
  have kk2 : ∀ p : Γ.Wd, p.w.cell? ⟨bI, oI + 2, none⟩ = some (.int .i64 fna) := fun p => keep (HΓ _ _ p.h) q2
  have kk3 : ∀ p : Γ.Wd, p.w.cell? ⟨bI, oI + 3, none⟩ = some (.int .i64 fnb) := fun p => keep (HΓ _ _ p.h) q3
  have kk4 : ∀ p : Γ.Wd, p.w.cell? ⟨bI, oI + 4, none⟩ = some (.int .i64 fmtu) := fun p => keep (HΓ _ _ p.h) q4
  have HGE := Lib.hid hΓ
  have HGB := Lib.hid HΓ
  clear hΓ HΓ d0 d1 d2 d3 d4 q0 q1 q2 q3 q4
  have hst : Γ.inv [] w8 := by rw [← HGE.out]; exact Below.refl _ _
  have ne8 : Nonempty Γ.Wd := ⟨⟨[], w8, hst⟩⟩
  refine wp_region_H Γ 32 [14, 17, 22, 27] (by kernel_rfl) (by kernel_rfl) (by kernel_rfl) (by kernel_rfl) hst ?_
  have HST := Lib.hid hst
  clear hst
  simp only [List.take, List.drop]
  iterate 12 (refine wpH_want (by kernel_rfl) (by kernel_rfl) rfl rfl ?_; intro K hK; go_big_quiet_op; go_big_quiet_on)
  refine wpH_ex (gblk Γ w8.heap.size (fun b => .slice (some ⟨b, 0, none⟩) 0 0) (.cells #[] 27)) (gblk_lasts _ _ _ _) (by kernel_rfl) (by kernel_rfl) (fun a' g hg he => ?_) (fun d hd => ?_)
  · refine wp_of_value (v := .slice (some ⟨g.w.heap.size, 0, none⟩) 0 0) (w' := g.w.alloc (.cells #[] 27)) (run_v_ok ?_) ⟨_, rfl, (Below.refl _ _).alloc (Nat.le_refl _) _, gblk_new (V := fun b => .slice (some ⟨b, 0, none⟩) 0 0) _ hg (HGB.out _ _ hg).size⟩
    simp only [List.map_toArray, List.map_nil]
    exact run_bsI0 _
  cases hd
  simp only [List.nil_append]
  refine wpH_want (by kernel_rfl) (by kernel_rfl) rfl rfl ?_
  intro K hK
  go_big_quiet_op
  go_big_quiet_on
  refine wpH_chainX 0 (gnth 0) (gnth_lasts _ _) (by kernel_rfl) (by kernel_rfl) (fun a' g hg hgl he => ?_) (fun d hd => ?_)
  · obtain ⟨⟨b, h1, hB, hcell, hno⟩, h2, _⟩ := he
    have h1' : a'.eval (.tmp 74) = .slice (some ⟨b, 0, none⟩) 0 0 := h1
    have h2' : a'.eval (.tmp 75) = .slice (some ⟨bI, oI, none⟩) fs.length capI := h2
    have hvs : g.vs = [] := List.eq_nil_of_length_eq_zero hgl
    rw [hvs, ← HGE.out] at hg
    rw [hvs, ← HGE.out]
    have hg' : Below w8.heap.size w8 g.w := hg
    obtain ⟨_, _, ad, e, hnews⟩ := (HI8.out.stay hg').news hl.1
    rw [e] at h2'
    refine wp_next (app_first (.tmp 74) (.tmp 75) 31 rfl Try.underlying31 HI0.out HZ0.out HZ1.out HZ2.out rfl (by decide) h1' (ifcs fs) h2' (ifcs_len fs) hnews (by omega) (by unfold maxLen; omega) (by omega)) ?_
    rintro a'' w' ⟨v', rfl, hown, hbl⟩
    refine ⟨v', rfl, ⟨⟨below_mid hg' hbl, ownsRow_base hown hg'.size⟩, hbl.size, fun k hk _ => hbl.block k hk, fun b' hb' => .inr ?_⟩, rfl⟩
    obtain ⟨n', c', e, hc'⟩ := hb'
    rcases hown.2 with ⟨e', _⟩ | ⟨g', _, _, e', hg2, _⟩
    · rw [e'] at e; cases e
    · rw [e'] at e; cases e; exact hg2
  cases hd
  simp only [List.cons_append, List.nil_append]
  refine wpH_want (by kernel_rfl) (by kernel_rfl) rfl rfl ?_
  intro K hK
  go_big_quiet_op
  go_big_quiet_on
  refine wpH_ex (gblk Γ w8.heap.size (fun b => .slice (some ⟨b, 0, none⟩) 1 1) (.cells (ifc ⟨omac, oaddr, ona, onb, omtu⟩).toArray 27)) (gblk_lasts _ _ _ _) (by kernel_rfl) (by kernel_rfl) (fun a' g hg he => ?_) (fun d hd => ?_)
  · obtain ⟨h1, _⟩ := he
    have h1' : a'.eval (.tmp 77) = .agg #[.int .i64 omac, .int .i64 oaddr, .int .i64 ona, .int .i64 onb, .int .i64 omtu] := h1
    refine wp_of_value (v := .slice (some ⟨g.w.heap.size, 0, none⟩) 1 1) (w' := g.w.alloc (.cells (ifc ⟨omac, oaddr, ona, onb, omtu⟩).toArray 27)) (run_v_ok ?_) ⟨_, rfl, (Below.refl _ _).alloc (Nat.le_refl _) _, gblk_new (V := fun b => .slice (some ⟨b, 0, none⟩) 1 1) _ hg (HGB.out _ _ hg).size⟩
    simp only [List.map_toArray, List.map_cons, List.map_nil, h1']
    exact run_bs1 _ _ _ _ _ _
  cases hd
  simp only [List.cons_append, List.nil_append]
  refine wpH_chainX 1 (gnth 1) (gnth_lasts _ _) (by kernel_rfl) (by kernel_rfl) (fun a' g hg hgl he => ?_) (fun d hd => ?_)
  · obtain ⟨h1, ⟨b, h2, hB, hcell, hno⟩, _⟩ := he
    have h2' : a'.eval (.tmp 78) = .slice (some ⟨b, 0, none⟩) 1 1 := h2
    obtain ⟨v1, hvs⟩ := len1 hgl
    have h1' : g.vs[0]? = some (a'.eval (.tmp 76)) := h1
    rw [hvs] at h1'
    rw [hvs, ← HGE.out] at hg
    rw [hvs, ← HGE.out]
    have h1'' : a'.eval (.tmp 76) = v1 := (Option.some.inj h1').symm
    obtain ⟨hg1, hown⟩ := (show Below w8.heap.size w8 g.w ∧ g.w.ownsRow w8.heap.size 27 5 v1 fs.length (ifcs fs) from hg)
    refine wp_next (app_more (.tmp 76) (.tmp 78) 31 rfl Try.underlying31 HI0.out HZ0.out HZ1.out HZ2.out rfl (by decide) h1'' hown (ifc ⟨omac, oaddr, ona, onb, omtu⟩) h2' rfl (blk_news hcell) (ifc_one _) (by unfold maxLen; omega) (by omega) hg1.size) ?_
    rintro a'' w' ⟨v', rfl, hown', hbl, hfr⟩
    rw [← ifcs_snoc] at hown'
    exact ⟨v', rfl, ⟨⟨hg1.trans hbl, RdI_of_owns (by rw [List.length_append]; exact hown') (by simp; omega)⟩, hbl.size, fun k hk hn => hfr k hk hn, fun b' hb' => hb'.elim⟩, rfl⟩
  cases hd
  simp only [List.cons_append, List.nil_append]
  refine wpH_want (by kernel_rfl) (by kernel_rfl) rfl rfl ?_
  intro K hK
  go_big_quiet_op
  go_big_quiet_on
  refine wpH_ex (gfun 1 (fun u => .agg #[u, .slice aR rs.length capR])) (gfun_lasts _ _ _) (by kernel_rfl) (by kernel_rfl) (fun a' g hg he => ?_) (fun d hd => ?_)
  · obtain ⟨h1, h2, _⟩ := he
    have h2' : a'.eval (.tmp 80) = .slice aR rs.length capR := h2
    have h1' : g.vs[1]? = some (a'.eval (.tmp 79)) := h1
    obtain ⟨s1, s2, s3, hs⟩ := gh8_nth1 (by rw [HGE.out]; exact hg) h1'
    refine wp_of_value (v := .agg #[a'.eval (.tmp 79), .slice aR rs.length capR]) (w' := g.w) (run_v_ok ?_) ⟨_, rfl, Below.refl _ _, ⟨_, h1', rfl⟩⟩
    simp only [List.map_toArray, List.map_cons, List.map_nil, h2', hs]
    exact run_bd2 _ _ _ _ _ _ _
  cases hd
  simp only [List.cons_append, List.nil_append]
  refine wpH_ex (gblk Γ w8.heap.size (fun b => .slice (some ⟨b, 0, none⟩) 0 0) (.cells #[] 27)) (gblk_lasts _ _ _ _) (by kernel_rfl) (by kernel_rfl) (fun a' g hg he => ?_) (fun d hd => ?_)
  · refine wp_of_value (v := .slice (some ⟨g.w.heap.size, 0, none⟩) 0 0) (w' := g.w.alloc (.cells #[] 27)) (run_v_ok ?_) ⟨_, rfl, (Below.refl _ _).alloc (Nat.le_refl _) _, gblk_new (V := fun b => .slice (some ⟨b, 0, none⟩) 0 0) _ hg (HGB.out _ _ hg).size⟩
    simp only [List.map_toArray, List.map_nil]
    exact run_bsI0 _
  cases hd
  simp only [List.cons_append, List.nil_append]
  refine wpH_want (by kernel_rfl) (by kernel_rfl) rfl rfl ?_
  intro K hK
  go_big_quiet_op
  go_big_quiet_on
  refine wpH_chainX 2 (gnth 2) (gnth_lasts _ _) (by kernel_rfl) (by kernel_rfl) (fun a' g hg hgl he => ?_) (fun d hd => ?_)
  · obtain ⟨⟨b, h1, hB, hcell, hno⟩, h2, _⟩ := he
    have h1' : a'.eval (.tmp 82) = .slice (some ⟨b, 0, none⟩) 0 0 := h1
    have h2' : a'.eval (.tmp 83) = .slice (some ⟨bI, oI, none⟩) fs.length capI := h2
    obtain ⟨v1, v2, hvs⟩ := len2 hgl
    rw [hvs, ← HGE.out] at hg
    rw [hvs, ← HGE.out]
    obtain ⟨hg', hv2⟩ := (show Below w8.heap.size w8 g.w ∧ RdI g.w v2 (fs ++ [⟨omac, oaddr, ona, onb, omtu⟩]) from hg)
    obtain ⟨_, _, ad, e, hnews⟩ := (HI8.out.stay hg').news hl.1
    rw [e] at h2'
    refine wp_next (app_first (.tmp 82) (.tmp 83) 31 rfl Try.underlying31 HI0.out HZ0.out HZ1.out HZ2.out rfl (by decide) h1' (ifcs fs) h2' (ifcs_len fs) hnews (by omega) (by unfold maxLen; omega) (by omega)) ?_
    rintro a'' w' ⟨v', rfl, hown, hbl⟩
    refine ⟨v', rfl, ⟨⟨below_mid hg' hbl, g.w, hv2, hbl, hg'.size, hown⟩, hbl.size, fun k hk _ => hbl.block k hk, fun b' hb' => .inr ?_⟩, rfl⟩
    obtain ⟨n', c', e, hc'⟩ := hb'
    rcases hown.2 with ⟨e', _⟩ | ⟨g', _, _, e', hg2, _⟩
    · rw [e'] at e; cases e
    · rw [e'] at e; cases e; exact hg2
  cases hd
  simp only [List.cons_append, List.nil_append]
  refine wpH_want (by kernel_rfl) (by kernel_rfl) rfl rfl ?_
  intro K hK
  go_big_quiet_op
  go_big_quiet_on
  refine wpH_want (by kernel_rfl) (by kernel_rfl) rfl rfl ?_
  intro K hK
  go_big_quiet_op
  go_big_quiet_on
  refine wpH_want (by kernel_rfl) (by kernel_rfl) rfl rfl ?_
  intro K hK
  go_big_quiet_op
  go_big_quiet_on
  refine wpH_ex (gblk Γ w8.heap.size (fun b => .slice (some ⟨b, 0, none⟩) 1 1) (.cells (ifc ⟨fmac, faddr, fna, fnb, fmtu⟩).toArray 27)) (gblk_lasts _ _ _ _) (by kernel_rfl) (by kernel_rfl) (fun a' g hg he => ?_) (fun d hd => ?_)
  · obtain ⟨h1, _⟩ := he
    have h1' : a'.eval (.tmp 87) = .agg #[.int .i64 fmac, .int .i64 faddr, .int .i64 fna, .int .i64 fnb, .int .i64 fmtu] := h1
    refine wp_of_value (v := .slice (some ⟨g.w.heap.size, 0, none⟩) 1 1) (w' := g.w.alloc (.cells (ifc ⟨fmac, faddr, fna, fnb, fmtu⟩).toArray 27)) (run_v_ok ?_) ⟨_, rfl, (Below.refl _ _).alloc (Nat.le_refl _) _, gblk_new (V := fun b => .slice (some ⟨b, 0, none⟩) 1 1) _ hg (HGB.out _ _ hg).size⟩
    simp only [List.map_toArray, List.map_cons, List.map_nil, h1']
    exact run_bs1 _ _ _ _ _ _
  cases hd
  simp only [List.cons_append, List.nil_append]
  refine wpH_chainX 3 (gnth 3) (gnth_lasts _ _) (by kernel_rfl) (by kernel_rfl) (fun a' g hg hgl he => ?_) (fun d hd => ?_)
  · obtain ⟨h1, ⟨b, h2, hB, hcell, hno⟩, _⟩ := he
    have h2' : a'.eval (.tmp 88) = .slice (some ⟨b, 0, none⟩) 1 1 := h2
    obtain ⟨v1, v2, v3, hvs⟩ := len3 hgl
    have h1' : g.vs[2]? = some (a'.eval (.tmp 84)) := h1
    rw [hvs] at h1'
    rw [hvs, ← HGE.out] at hg
    rw [hvs, ← HGE.out]
    have h1'' : a'.eval (.tmp 84) = v3 := (Option.some.inj h1').symm
    obtain ⟨hg1, W, hv2, hW, hW8, hown⟩ := (show Below w8.heap.size w8 g.w ∧ ∃ W, RdI W v2 (fs ++ [⟨omac, oaddr, ona, onb, omtu⟩]) ∧ Below W.heap.size W g.w ∧ w8.heap.size ≤ W.heap.size ∧ g.w.ownsRow W.heap.size 27 5 v3 fs.length (ifcs fs) from hg)
    refine wp_next (app_more (.tmp 84) (.tmp 88) 31 rfl Try.underlying31 HI0.out HZ0.out HZ1.out HZ2.out rfl (by decide) h1'' hown (ifc ⟨fmac, faddr, fna, fnb, fmtu⟩) h2' rfl (blk_news hcell) (ifc_one _) (by unfold maxLen; omega) (by omega) hW.size) ?_
    rintro a'' w' ⟨v', rfl, hown', hbl, hfr⟩
    rw [← ifcs_snoc] at hown'
    exact ⟨v', rfl, ⟨⟨hg1.trans (hbl.mono hW8), hv2.stay (hW.trans hbl), RdI_of_owns (by rw [List.length_append]; exact hown') (by simp; omega)⟩, hbl.size, fun k hk hn => hfr k hk hn, fun b' hb' => hb'.elim⟩, rfl⟩
  cases hd
  simp only [List.cons_append, List.nil_append]
  refine wpH_ex (gfun 3 (fun u => .agg #[u, .slice none 0 0])) (gfun_lasts _ _ _) (by kernel_rfl) (by kernel_rfl) (fun a' g hg he => ?_) (fun d hd => ?_)
  · obtain ⟨h1, _⟩ := he
    have h1' : g.vs[3]? = some (a'.eval (.tmp 89)) := h1
    obtain ⟨s1, s2, s3, hs⟩ := gh8_nth3 (by rw [HGE.out]; exact hg) h1'
    refine wp_of_value (v := .agg #[a'.eval (.tmp 89), .slice none 0 0]) (w' := g.w) (run_v_ok ?_) ⟨_, rfl, Below.refl _ _, ⟨_, h1', rfl⟩⟩
    simp only [List.map_toArray, List.map_cons, List.map_nil, hs, BigFrame.eval_const]
    exact run_bd2 _ _ _ _ _ _ _
  cases hd
  simp only [List.cons_append, List.nil_append]
  refine wpH_ex (gblk2 Γ w8.heap.size (fun b => .slice (some ⟨b, 0, none⟩) 6 6) (fun b d => .cells #[.slice (some ⟨bI, oI, none⟩) fs.length capI, .slice aR rs.length capR, .slice (some ⟨b4, 0, none⟩) fs.length c4, .slice aR rs.length capR, .slice (some ⟨bI, oI, none⟩) fs.length capI, .slice a17 (rs.length + 1) c17, .slice (some ⟨bI, oI, none⟩) k2 capI, .slice aR rs.length capR, b, .slice aR rs.length capR, d, .slice none 0 0] 36)) (gblk2_lasts _ _ _ _) (by kernel_rfl) (by kernel_rfl) (fun a' g hg he => ?_) (fun d hd => ?_)
  · obtain ⟨h64, h67, h70, h73, ⟨b, h81, e81⟩, ⟨d, h90, e90⟩, _⟩ := he
    have h64' : a'.eval (.tmp 64) = .agg #[.slice (some ⟨bI, oI, none⟩) fs.length capI, .slice aR rs.length capR] := h64
    have h67' : a'.eval (.tmp 67) = .agg #[.slice (some ⟨b4, 0, none⟩) fs.length c4, .slice aR rs.length capR] := h67
    have h70' : a'.eval (.tmp 70) = .agg #[.slice (some ⟨bI, oI, none⟩) fs.length capI, .slice a17 (rs.length + 1) c17] := h70
    have h73' : a'.eval (.tmp 73) = .agg #[.slice (some ⟨bI, oI, none⟩) k2 capI, .slice aR rs.length capR] := h73
    have h81' : a'.eval (.tmp 81) = .agg #[b, .slice aR rs.length capR] := e81
    have h90' : a'.eval (.tmp 90) = .agg #[d, .slice none 0 0] := e90
    obtain ⟨s1, s2, s3, rfl⟩ := gh8_nth1 (by rw [HGE.out]; exact hg) h81
    obtain ⟨t1, t2, t3, rfl⟩ := gh8_nth3 (by rw [HGE.out]; exact hg) h90
    refine wp_of_value (v := .slice (some ⟨g.w.heap.size, 0, none⟩) 6 6) (w' := g.w.alloc (.cells #[.slice (some ⟨bI, oI, none⟩) fs.length capI, .slice aR rs.length capR, .slice (some ⟨b4, 0, none⟩) fs.length c4, .slice aR rs.length capR, .slice (some ⟨bI, oI, none⟩) fs.length capI, .slice a17 (rs.length + 1) c17, .slice (some ⟨bI, oI, none⟩) k2 capI, .slice aR rs.length capR, (.slice s1 s2 s3), .slice aR rs.length capR, (.slice t1 t2 t3), .slice none 0 0] 36)) (run_v_ok ?_) ⟨_, rfl, (Below.refl _ _).alloc (Nat.le_refl _) _, ⟨_, _, h81, h90, gblk_new (V := fun b => .slice (some ⟨b, 0, none⟩) 6 6) _ hg (HGB.out _ _ hg).size⟩⟩
    simp only [List.map_toArray, List.map_cons, List.map_nil, h64', h67', h70', h73', h81', h90']
    exact run_bs6 .. 
  cases hd
  simp only [List.cons_append, List.nil_append]
  refine wpH_known (.int .i64 6) (by kernel_rfl) (by kernel_rfl) (fun a' g hg he => ?_) ?_
  · obtain ⟨⟨b, d, _, _, blk, e91, _⟩, _⟩ := he
    have h91' : a'.eval (.tmp 91) = .slice (some ⟨blk, 0, none⟩) 6 6 := e91
    refine wp_of_value (v := .int .i64 6) (w' := g.w) (run_v_ok ?_) ⟨rfl, Below.refl _ _⟩
    simp only [List.map_toArray, List.map_cons, List.map_nil, h91']
    rfl
  simp only [Act.put, List.setIfInBounds_toArray, List.set_cons_succ, List.set_cons_zero]
  refine wpH_want (by kernel_rfl) (by kernel_rfl) rfl rfl ?_
  intro K hK
  go_big_quiet_op
  go_big_quiet_on
  refine wpH_nil (by kernel_rfl) (by simp) ?_
  rintro ⟨vs, w9⟩ hg hgl
  obtain ⟨va, vb, vc, vd, rfl⟩ := len4 hgl
  rw [← HGE.out] at hg
  obtain ⟨hb9, hvb, hvd⟩ := (show Below w8.heap.size w8 w9 ∧ RdI w9 vb (fs ++ [⟨omac, oaddr, ona, onb, omtu⟩]) ∧ RdI w9 vd (fs ++ [⟨fmac, faddr, fna, fnb, fmtu⟩]) from hg)
  simp only [gexAll]
  rintro u74 - u76 - u78 - u79 - u81 - u82 - u84 - u88 - u89 - u90 - u91 ⟨b, d, e1, e2, blk, rfl, hblk, hcells, -⟩
  cases e1
  cases e2
  have hcells' : w9.heap[blk]? = some (.cells #[.slice (some ⟨bI, oI, none⟩) fs.length capI, .slice aR rs.length capR, .slice (some ⟨b4, 0, none⟩) fs.length c4, .slice aR rs.length capR, .slice (some ⟨bI, oI, none⟩) fs.length capI, .slice a17 (rs.length + 1) c17, .slice (some ⟨bI, oI, none⟩) k2 capI, .slice aR rs.length capR, vb, .slice aR rs.length capR, vd, .slice none 0 0] 36) := hcells
  simp only [Act.put, List.setIfInBounds_toArray, List.set_cons_succ, List.set_cons_zero]
  clear g0 g1 g2 g3 g4 kk0 kk1 kk2 kk3 kk4 hg hgl hcells ne8 HST HGE HGB
  simp only [List.drop]
  have hI := HI8.out.stay hb9
  have hR := HR8.out.stay hb9
  have hT := HT8.out.stay hb9
  have hM := HM8.out.stay hb9
  have HX : Hid (∀ k, k < 6 → ∃ av rv fk rk, w9.cell? ⟨blk, k * 2, none⟩ = some av ∧ w9.cell? ⟨blk, k * 2 + 1, none⟩ = some rv ∧ RdI w9 av fk ∧ RdR w9 rv rk) := Lib.hid (fun k hk => by
    obtain rfl | rfl | rfl | rfl | rfl | rfl : k = 0 ∨ k = 1 ∨ k = 2 ∨ k = 3 ∨ k = 4 ∨ k = 5 := by omega
    · exact ⟨_, _, _, _, by simp [World.cell?, hcells'], by simp [World.cell?, hcells'], hI, hR⟩
    · exact ⟨_, _, _, _, by simp [World.cell?, hcells'], by simp [World.cell?, hcells'], hT, hR⟩
    · exact ⟨_, _, _, _, by simp [World.cell?, hcells'], by simp [World.cell?, hcells'], hI, hM⟩
    · exact ⟨_, _, _, _, by simp [World.cell?, hcells'], by simp [World.cell?, hcells'], hI.cut hk2l, hR⟩
    · exact ⟨_, _, _, _, by simp [World.cell?, hcells'], by simp [World.cell?, hcells'], hvb, hR⟩
    · exact ⟨_, _, _, _, by simp [World.cell?, hcells'], by simp [World.cell?, hcells'], hvd, RdR_nil _⟩)
  have HO9 := Lib.hid (HO8.out.stay hb9)
  have HC9 := Lib.hid (HC0.out.stay hb9)
  replace hb := below_mid hb hb9
  clear hI hR hT hM hvb hvd hcells' hblk HI8 HR8 HT8 HM8 HO8 HC0 hb9 HI0 HZ0 HZ1 HZ2
  go_wp2
  go_loopw [93] (fun i wr => ∃ k : Nat, k ≤ 6 ∧ i = .int .i64 k ∧ Below w9.heap.size w9 wr) (fun i _ => 6 - (intOf i).toNat)
  case atStart => exact ⟨0, by omega, rfl, Below.refl _ _⟩
  case round =>
    obtain ⟨k, hk, rfl, hb10⟩ := hrel
    by_cases hlt : k < 6
    · obtain ⟨av, rv, fk, rk, x0, x1, hA, hB⟩ := HX.out k hlt
      replace x0 := keep hb10 x0
      replace x1 := keep hb10 x1
      replace hA := hA.stay hb10
      replace hB := hB.stay hb10
      obtain ⟨aA, cA, rfl, _, _, hpA⟩ := id hA
      obtain ⟨aB, cB, rfl, _, _, hpB⟩ := id hB
      clear hpA hpB
      have hkd : decide ((k : Int) < 6) = true := decide_eq_true (by omega)
      go_wp2
      have hal := (Below.refl wr.heap.size wr).alloc (Nat.le_refl _) (.cells #[.slice aA fk.length cA, .slice aB rk.length cB] 36)
      have y0 : (wr.alloc (.cells #[.slice aA fk.length cA, .slice aB rk.length cB] 36)).cell? ⟨wr.heap.size, 0, none⟩ = some (.slice aA fk.length cA) := by simp
      have y1 : (wr.alloc (.cells #[.slice aA fk.length cA, .slice aB rk.length cB] 36)).cell? ⟨wr.heap.size, 1, none⟩ = some (.slice aB rk.length cB) := by simp
      replace hA := hA.stay hal
      replace hB := hB.stay hal
      have hb11 := below_mid hb10 hal
      clear hal x0 x1
      generalize hwb : wr.heap.size = wb at *
      clear hwb
      generalize (wr.alloc (.cells #[.slice aA fk.length cA, .slice aB rk.length cB] 36)) = wc at *
      clear hb10
      have z0 := cell_regrown y0
      have z1 := cell_regrown y1
      generalize hce : chkE fk rk = ce at *
      have HCE := Lib.hid hce
      clear hce
      have hne : (ce != ce) = false := by simp
      refine wp_region_B (by kernel_rfl) (by kernel_rfl) ?_
      repeat (go_big_quiet_step (first | (go_at_call 12; exact Calls.regrown_of (chk_r HCE.out _ (hA.stay (below_regrown _ _ _)) (hB.stay (below_regrown _ _ _)))) | (go_at_call 13; exact Calls.regrown_of (rchk_r HCE.out _ (hA.stay (below_regrown _ _ _)) (hB.stay (below_regrown _ _ _))))))
      refine wpQuiet_nil ?_
      intro wd hbd
      replace y0 := keep hbd y0
      replace y1 := keep hbd y1
      replace hA := hA.stay hbd
      replace hB := hB.stay hbd
      replace hb11 := below_mid hb11 hbd
      clear z0 z1 hbd HCE hne
      obtain ⟨q0, q1, q2, q3, q4⟩ := HC9.out.stay hb11
      simp only [Nat.zero_mul, Nat.add_zero] at q0 q1 q2 q3 q4
      have r1 := cell_regrown q1
      go_wp2
      have PT := Lib.hid (fun w => to_any tgt w h2)
      generalize toF tgt = tt at *
      refine wp_region_R 10 (by kernel_rfl) (by kernel_rfl) ?_
      simp only [List.take, List.drop]
      iterate 2 (refine wpR_want (by kernel_rfl) rfl rfl ?_; intro K hK; go_big_quiet_op; go_big_quiet_on)
      refine wpR_call (by kernel_rfl) rfl 14 #[.int .i64 tgt] (.int .i64 tt) (fun w => by simp [go_sem]) (fun w _ => PT.out w) ?_
      simp only [Act.put, List.setIfInBounds_toArray, List.set_cons_succ, List.set_cons_zero]
      iterate 4 (refine wpR_want (by kernel_rfl) rfl rfl ?_; intro K hK; go_big_quiet_op; go_big_quiet_on)
      refine wpR_ex (rowOf 3 #[.int .i64 tgt, .int .i64 tt, .int .i64 faddr] 3) (rowOf_lasts _ _ _) (by kernel_rfl) (fun a' w' hw' he => ?_) (fun d hd => ?_)
      · obtain ⟨e1, e2, e3, _⟩ := he
        have e1' : a'.eval (.tmp 108) = .int .i64 tgt := e1
        have e2' : a'.eval (.tmp 110) = .int .i64 tt := e2
        have e3' : a'.eval (.tmp 114) = .int .i64 faddr := e3
        refine wp_of_value (v := .slice (some ⟨w'.heap.size, 0, none⟩) 3 3) (w' := w'.alloc (.cells #[.int .i64 tgt, .int .i64 tt, .int .i64 faddr] 3)) (run_v_ok ?_) ⟨_, rfl, (Below.refl _ _).alloc (Nat.le_refl _) _, ⟨w'.heap.size, rfl, new_block _ _⟩⟩
        simp only [List.map_toArray, List.map_cons, List.map_nil, e1', e2', e3']
        exact run_bsi3 _ _ _ _
      cases hd
      simp only [List.nil_append]
      refine wpR_known (.int .i64 3) (by kernel_rfl) (fun a' w' hw' he => ?_) ?_
      · obtain ⟨⟨tb, e1, _⟩, _⟩ := he
        have e1' : a'.eval (.tmp 115) = .slice (some ⟨tb, 0, none⟩) 3 3 := e1
        refine wp_of_value (v := .int .i64 3) (w' := w') (run_v_ok ?_) ⟨rfl, Below.refl _ _⟩
        simp only [List.map_toArray, List.map_cons, List.map_nil, e1']
        rfl
      simp only [Act.put, List.setIfInBounds_toArray, List.set_cons_succ, List.set_cons_zero]
      refine wpR_want (by kernel_rfl) rfl rfl ?_
      intro K hK
      go_big_quiet_op
      go_big_quiet_on
      refine wpR_nil (by kernel_rfl) (by simp) ?_
      rintro we hbe
      simp only [exAll]
      rintro u115 ⟨tb, rfl, htb⟩
      simp only [Act.put, List.setIfInBounds_toArray, List.set_cons_succ, List.set_cons_zero]
      have HTB : Hid (∀ j, j < 3 → ∃ z : Int, we.cell? ⟨tb, j, none⟩ = some (.int .i64 z)) := Lib.hid (fun j hj => by
        obtain rfl | rfl | rfl : j = 0 ∨ j = 1 ∨ j = 2 := by omega
        · exact ⟨_, by simp [World.cell?, htb]; rfl⟩
        · exact ⟨_, by simp [World.cell?, htb]; rfl⟩
        · exact ⟨_, by simp [World.cell?, htb]; rfl⟩)
      replace y0 := keep hbe y0
      replace y1 := keep hbe y1
      replace hA := hA.stay hbe
      replace hB := hB.stay hbe
      replace hb11 := below_mid hb11 hbe
      clear r1 q0 q1 q2 q3 q4 hbe htb PT
      simp only [List.drop]
      go_wp2
      go_loopw [117] (fun i wr => ∃ j : Nat, j ≤ 3 ∧ i = .int .i64 j ∧ Below we.heap.size we wr) (fun i _ => 3 - (intOf i).toNat)
      case atStart => exact ⟨0, by omega, rfl, Below.refl _ _⟩
      case round =>
        obtain ⟨j, hj, rfl, hb12⟩ := hrel
        by_cases hjl : j < 3
        · obtain ⟨z, hz⟩ := HTB.out j hjl
          replace hz := keep hb12 hz
          have x0 := keep hb12 y0
          have x1 := keep hb12 y1
          have hA' := hA.stay hb12
          have hB' := hB.stay hb12
          generalize hlk : look fk rk z = r
          obtain ⟨l1, l2, l3⟩ := r
          have HLK := Lib.hid hlk
          clear hlk
          go_wp2_with fail
          refine (lookup_r HLK.out _ _ _ hA' hB').mono ?_
          rintro e wf ⟨rfl, hbf⟩
          replace x0 := keep hbf x0
          replace x1 := keep hbf x1
          replace hA' := hA'.stay hbf
          replace hB' := hB'.stay hbf
          replace hb12 := below_mid hb12 hbf
          clear hbf hz
          go_wp2_with fail
          refine (rlookup_r HLK.out _ _ _ hA' hB').mono ?_
          rintro e wg ⟨rfl, hbf⟩
          replace x0 := keep hbf x0
          replace x1 := keep hbf x1
          replace hA' := hA'.stay hbf
          replace hb12 := below_mid hb12 hbf
          clear hbf hB' HLK
          generalize hl1 : locI fk z = li
          have HL1 := Lib.hid hl1
          clear hl1
          generalize hl2 : locB fk z = lb
          have HL2 := Lib.hid hl2
          clear hl2
          go_wp2_with fail
          refine (local_r HL1.out HL2.out _ _ hA').mono ?_
          rintro e wh ⟨rfl, hbf⟩
          replace x0 := keep hbf x0
          replace hA' := hA'.stay hbf
          replace hb12 := below_mid hb12 hbf
          clear hbf x1
          go_wp2_with fail
          refine (rlocal_r HL1.out HL2.out _ _ hA').mono ?_
          rintro e wi ⟨rfl, hbf⟩
          replace hb12 := below_mid hb12 hbf
          clear hbf x0 hA'
          go_wp2
          go_roundw
          case rel => exact ⟨j + 1, by omega, by go_num, hb12⟩
          case measure => simp [intOf]; omega
        · have hb13 := below_mid hb11 hb12
          go_wp2
          go_roundw
          case rel => exact ⟨k + 1, by omega, by go_num, hb13⟩
          case measure => simp [intOf]; omega
    · go_wp2
      obtain ⟨d0, d1, d2, d3, d4⟩ := HO9.out.stay hb10
      obtain ⟨q0, q1, q2, q3, q4⟩ := HC9.out.stay hb10
      simp only [Nat.zero_mul, Nat.add_zero, Nat.zero_add] at d0 d1 d2 d3 d4 q0 q1 q2 q3 q4
      have g0 := cell_regrown d0
      have g1 := cell_regrown d1
      have g2 := cell_regrown d2
      have g3 := cell_regrown d3
      have g4 := cell_regrown d4
      have k0 := cell_regrown q0
      have k1 := cell_regrown q1
      have k2 := cell_regrown q2
      have k3 := cell_regrown q3
      have k4 := cell_regrown q4
      generalize hbo : viB ⟨omac, oaddr, ona, onb, omtu⟩ = bo
      have HBO := Lib.hid hbo
      clear hbo
      have hbb : (bo == bo) = true := by simp
      refine wp_region_B (by kernel_rfl) (by kernel_rfl) ?_
      repeat (go_big_quiet_step (first | (go_at_call 19; with_reducible first | exact Calls.regrown_of (vif_r HBO.out _) | exact Calls.regrown_of (vif_r HG0.out _)) | (go_at_call 20; with_reducible exact Calls.regrown_of (rvif_r HBO.out _))))
      refine wpQuiet_nil ?_
      intro wz hbz
      go_wp2
      go_ret
      exact ⟨rfl, below_mid (below_mid hb hb10) hbz⟩

end Go.Proofs.Ytkhhmoijjidbbaa
