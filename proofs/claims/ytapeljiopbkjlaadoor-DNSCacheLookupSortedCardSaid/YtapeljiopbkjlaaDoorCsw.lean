/- DNSCacheLookupSorted, plain and walked. Printed by wip/tools/gen20y.py. -/
import Derived.Test.YtapeljiopbkjlaaDoorRw
namespace Go.Proofs.YtapeljiopbkjlaaDoor
open Go.RowKit Go.Sort
set_option linter.unusedVariables false
set_option maxRecDepth 100000

theorem lookD_rec {t now : Int} {s : ByteArray} {l : List En} (h : CInv t l) (h0 : 0 ≤ now) (h1 : now ≤ 2000000000) (h2 : t ≤ 2000000000) : ∀ y ∈ lookD now s l, y.nm = s ∧ vname y.nm = true ∧ recA y = true ∧ 1 ≤ y.tt ∧ y.tt ≤ t + 1000 - now := by
  intro y hy
  obtain ⟨e, he, g1, g2, rfl⟩ := lookD_mem.1 hy
  have ho := h.ok e he
  obtain ⟨n1, n2⟩ := hit_nm g1
  have hx := ho.ex
  have hx0 := ho.ex0
  have hw : wrap64 (e.ex - now) = e.ex - now := wrap_sub (by omega) (by omega)
  refine ⟨bytes_ext n1, ho.nm, ?_, ?_, ?_⟩
  · rcases ho.val with ⟨k, _⟩ | k
    · exact absurd k g2
    · exact k
  · show 1 ≤ wrap64 (e.ex - now); omega
  · show wrap64 (e.ex - now) ≤ _; omega
theorem lookD_kn {now : Int} {s : ByteArray} {l : List En} (h : lookD now s l ≠ []) : knwD now s l = true := by
  obtain ⟨y, hy⟩ := List.exists_mem_of_ne_nil _ h
  obtain ⟨e, he, g1, _⟩ := lookD_mem.1 hy
  exact List.any_eq_true.2 ⟨e, he, g1⟩
set_option maxRecDepth 100000 in
set_option maxHeartbeats 8000000 in
theorem sorted_walk (len : Nat) (g : Nat → Ca) (v : Value) (now : Int) (name : Int) (later : Int) (a : Addr) (w : World) (hr : RdCa w v len g) (hnnow : i64B now) (hnname : i64B name) (hnlater : i64B later) (hg : w.cell? ⟨errG, 0, none⟩ = some (errV a)) :
    Calls Tryd.prog 6 #[v, .int .i64 now, .int .i64 name, .int .i64 later] w fun e w' => e = .returned (.bool true) ∧ Below w.heap.size w w' := by
  have HG := Lib.hid hg
  have HR := Lib.hid hr
  have HN1 := Lib.hid hnnow
  have HNM := Lib.hid (fun w => name_any name w hnname)
  have HNX := Lib.hid (nmF_max name)
  have HNL := Lib.hid (show (nmF name).size ≤ 7 from nmAt_size _)
  generalize nmF name = s at *
  have HPK := Lib.hid (fun w => pick_b later 41 w hnlater (by decide))
  have q3 := pk_bd later 41 (by decide)
  generalize pk later 41 = q at *
  obtain ⟨q1, q2⟩ := q3
  obtain ⟨vp, vcap, rfl, _⟩ := hr
  clear hg hnnow hnlater hnname
  have HO := Lib.hid (Own.nil w none0)
  go_enter Tryd.func6, Tryd.ntmps6
  have hsane := sane_o (w0 := w) (w := w) (a := a) (Own.nil _ _) (keep HO.out.below HG.out)
  go_wp2_with fail
  refine hsane.mono ?_
  rintro e x1 ⟨rfl, hO1, -⟩
  have hO := HO.out.stay hO1.below
  replace HO := Lib.hid (show Own w none0 x1 [] from hO)
  clear hO hO1 hsane
  have hmade := made_o (w0 := x1) (w := x1) (a := a) len g (.slice vp len vcap) now (HR.out.stay HO.out.below) HN1.out (Own.nil _ _) (keep HO.out.below HG.out)
  go_wp2_with fail
  refine hmade.mono ?_
  obtain ⟨tm, htm⟩ : ∃ y, (madeS now g (min len 40)).1 = y := ⟨_, rfl⟩
  obtain ⟨l, hl⟩ : ∃ y, (madeS now g (min len 40)).2 = y := ⟨_, rfl⟩
  rintro e x2 ⟨c, rfl, hO1, -⟩
  have HCI := Lib.hid (show CInv tm l by rw [← htm, ← hl]; exact madeS_inv _ _ _)
  have HLK := Lib.hid (show l.length ≤ (min len 40) by rw [← hl]; exact madeS_lenk _ _ _)
  have hts := madeS_time now g (min len 40)
  rw [htm] at hts
  have hmin : ((min len 40 : Nat) : Int) ≤ 40 := by omega
  obtain ⟨ht1, ht2⟩ : 0 ≤ tm ∧ tm ≤ 1000320 := by omega
  rw [hl] at hO1
  have hO := HO.out.stay hO1.below
  rw [htm]
  have hc := (hO1 : Own _ none0 x2 [resC c l])
  have hO2 := HO.out.joinC hc
  replace HO := Lib.hid (show Own w none0 x2 [resC c l] from hO2)
  clear hO hO1 hO2 hc hmade hts hmin htm hl
  go_wp2_with fail
  refine (o_still HO.out (HPK.out _)).mono ?_
  rintro e x3 ⟨rfl, hO, -⟩
  replace HO := Lib.hid (show Own w none0 x3 [resC c l] from hO)
  clear hO
  go_wp2_with fail
  refine (o_still HO.out (HNM.out _)).mono ?_
  rintro e x4 ⟨rfl, hO, -⟩
  replace HO := Lib.hid (show Own w none0 x4 [resC c l] from hO)
  clear hO
  obtain ⟨m, hm⟩ : ∃ y, lookD (tm + q) s l = y := ⟨_, rfl⟩
  obtain ⟨kn, hkn⟩ : ∃ y, knwD (tm + q) s l = y := ⟨_, rfl⟩
  have HM := Lib.hid hm
  have HK := Lib.hid hkn
  have HML := Lib.hid (show m.length ≤ 32 by rw [← hm, lookD_len]; exact Nat.le_trans (recs_len_le _ _ _) HCI.out.len)
  have HMR := Lib.hid (show ∀ y ∈ m, y.nm = s ∧ vname y.nm = true ∧ recA y = true ∧ 1 ≤ y.tt ∧ y.tt ≤ tm + 1000 - (tm + q) by rw [← hm]; exact lookD_rec HCI.out (by omega) (by omega) (by omega))
  have HMT := Lib.hid (show m.Pairwise ltR by rw [← hm]; exact lookD_lt HCI.out.ap)
  have HMK := Lib.hid (show m ≠ [] → kn = true by rw [← hm, ← hkn]; exact lookD_kn)
  clear hm hkn
  go_wp2_with fail
  refine (look_d (m := m) (k := kn) (tm + q) s HO.out 0 rfl (HCI.out.len) (HCI.out.ap) HM.out HK.out).mono ?_
  rintro e x5 ⟨p1, p1c, rfl, hO, -⟩
  replace HO := Lib.hid (show Own w none0 x5 [resC c l, rowR (.slice p1 m.length p1c) 34 5 m.length (m.flatMap cRc)] from hO)
  clear hO
  clear HM HK HCI HLK
  obtain ⟨ml, hml⟩ : ∃ y, m.length = y := ⟨_, rfl⟩
  have HMN := Lib.hid hml
  rw [hml] at HO HML ⊢
  clear hml
  go_wp2
  go_loopw [14] (fun iv wr => ∃ k : Nat, k ≤ ml ∧ iv = .int .i64 k ∧ Own w none0 wr [resC c l, rowR (.slice p1 ml p1c) 34 5 ml (m.flatMap cRc)]) (fun iv _ => ml - (intOf iv).toNat)
  case atStart => exact ⟨0, Nat.zero_le _, rfl, HO.out⟩
  case round =>
    obtain ⟨k, hk, rfl, hO⟩ := hrel
    replace HO := Lib.hid hO
    clear hO
    by_cases hlt : k < ml
    · have hkm : k < m.length := by have := HMN.out; omega
      have hrw := HO.out.row 1 rfl
      obtain ⟨g, rfl⟩ := row_some hrw (by omega)
      have hyc : ∀ j (hj : j < m.length) q s, q < 5 → (cRc m[j])[q]? = some s → wr.cell? ⟨g, j * 5 + q, none⟩ = some s := fun j hj q s hq hs => (row_cells hrw).1 _ _ (by rw [flat_getR cRc 5 (fun _ => rfl) m j hj q hq]; exact hs)
      have HYC := Lib.hid hyc
      have yc := hyc k hkm
      have HRC := Lib.hid (HMR.out m[k] (List.getElem_mem hkm))
      have HPV := Lib.hid (fun (j : Nat) (h : j + 1 = k) => (by subst h; exact List.pairwise_iff_getElem.1 HMT.out j (j + 1) (by omega) hkm (by omega) : ltR (m[j]'(by omega)) m[k]))
      clear hrw hyc
      generalize m[k] = y at *
      obtain ⟨d0, d1, d2, d3, d4⟩ := y
      obtain ⟨r1, r2, r3, r4, r5⟩ := HRC.out
      simp only at r1 r2 r4 r5
      obtain rfl : d0 = s := r1
      have y0 : wr.cell? ⟨g, k * 5, none⟩ = some (.string d0) := yc 0 _ (by decide) rfl
      have y1 : wr.cell? ⟨g, k * 5 + 1, none⟩ = some (.int .i64 d1) := yc 1 _ (by decide) rfl
      have y2 : wr.cell? ⟨g, k * 5 + 2, none⟩ = some (.int .i64 d2) := yc 2 _ (by decide) rfl
      have y3 : wr.cell? ⟨g, k * 5 + 3, none⟩ = some (.int .i64 d3) := yc 3 _ (by decide) rfl
      have y4 : wr.cell? ⟨g, k * 5 + 4, none⟩ = some (.string d4) := yc 4 _ (by decide) rfl
      clear yc
      have HV := Lib.hid (fun w => valid20_r (r := ⟨d0, d1, d2, d3, d4⟩) (b := true) (vld_ok r2 (by show 0 ≤ d2; omega) (by show d2 ≤ 1000; omega) r3) w)
      have hmq := HML.out
      clear HRC r3 r2
      obtain ⟨x6, hx6⟩ : ∃ y, wr.alloc (.cells #[.string ⟨#[]⟩, .int .i64 0, .int .i64 0, .int .i64 0, .string ⟨#[]⟩] 34) = y := ⟨_, rfl⟩
      obtain ⟨bz, hbz⟩ : ∃ y, wr.heap.size = y := ⟨_, rfl⟩
      have hO := HO.out.alloc (.cells #[.string ⟨#[]⟩, .int .i64 0, .int .i64 0, .int .i64 0, .string ⟨#[]⟩] 34)
      rw [hx6, hbz] at hO
      replace HO := Lib.hid (show Own w none0 x6 [resC c l, rowR (.slice (some ⟨g, 0, none⟩) ml p1c) 34 5 ml (m.flatMap cRc), blkR bz (.cells #[.string ⟨#[]⟩, .int .i64 0, .int .i64 0, .int .i64 0, .string ⟨#[]⟩] 34)] from hO)
      clear hO
      have k2_0_7 : x6.cell? ⟨bz, 0, none⟩ = some (.string ⟨#[]⟩) := HO.out.cell 2 rfl 0 rfl
      have lk2_0_7 : x6.frozen? ⟨bz, 0, none⟩ = false := HO.out.frz 2 rfl 0
      have k2_1_8 : x6.cell? ⟨bz, 1, none⟩ = some (.int .i64 0) := HO.out.cell 2 rfl 1 rfl
      have lk2_1_8 : x6.frozen? ⟨bz, 1, none⟩ = false := HO.out.frz 2 rfl 1
      have k2_2_9 : x6.cell? ⟨bz, 2, none⟩ = some (.int .i64 0) := HO.out.cell 2 rfl 2 rfl
      have lk2_2_9 : x6.frozen? ⟨bz, 2, none⟩ = false := HO.out.frz 2 rfl 2
      have k2_3_10 : x6.cell? ⟨bz, 3, none⟩ = some (.int .i64 0) := HO.out.cell 2 rfl 3 rfl
      have lk2_3_10 : x6.frozen? ⟨bz, 3, none⟩ = false := HO.out.frz 2 rfl 3
      have k2_4_11 : x6.cell? ⟨bz, 4, none⟩ = some (.string ⟨#[]⟩) := HO.out.cell 2 rfl 4 rfl
      have lk2_4_11 : x6.frozen? ⟨bz, 4, none⟩ = false := HO.out.frz 2 rfl 4
      obtain ⟨x12, hx12⟩ : ∃ y, x6.setCell ⟨bz, 0, none⟩ (.string d0) = y := ⟨_, rfl⟩
      have hO := HO.out.setCell 2 rfl 0 (.string d0)
      rw [hx12] at hO
      replace HO := Lib.hid (show Own w none0 x12 [resC c l, rowR (.slice (some ⟨g, 0, none⟩) ml p1c) 34 5 ml (m.flatMap cRc), blkR bz (.cells #[.string d0, .int .i64 0, .int .i64 0, .int .i64 0, .string ⟨#[]⟩] 34)] from hO)
      clear hO
      have k2_1_13 : x12.cell? ⟨bz, 1, none⟩ = some (.int .i64 0) := HO.out.cell 2 rfl 1 rfl
      have lk2_1_13 : x12.frozen? ⟨bz, 1, none⟩ = false := HO.out.frz 2 rfl 1
      have k2_2_14 : x12.cell? ⟨bz, 2, none⟩ = some (.int .i64 0) := HO.out.cell 2 rfl 2 rfl
      have lk2_2_14 : x12.frozen? ⟨bz, 2, none⟩ = false := HO.out.frz 2 rfl 2
      have k2_3_15 : x12.cell? ⟨bz, 3, none⟩ = some (.int .i64 0) := HO.out.cell 2 rfl 3 rfl
      have lk2_3_15 : x12.frozen? ⟨bz, 3, none⟩ = false := HO.out.frz 2 rfl 3
      have k2_4_16 : x12.cell? ⟨bz, 4, none⟩ = some (.string ⟨#[]⟩) := HO.out.cell 2 rfl 4 rfl
      have lk2_4_16 : x12.frozen? ⟨bz, 4, none⟩ = false := HO.out.frz 2 rfl 4
      obtain ⟨x17, hx17⟩ : ∃ y, x12.setCell ⟨bz, 1, none⟩ (.int .i64 d1) = y := ⟨_, rfl⟩
      have hO := HO.out.setCell 2 rfl 1 (.int .i64 d1)
      rw [hx17] at hO
      replace HO := Lib.hid (show Own w none0 x17 [resC c l, rowR (.slice (some ⟨g, 0, none⟩) ml p1c) 34 5 ml (m.flatMap cRc), blkR bz (.cells #[.string d0, .int .i64 d1, .int .i64 0, .int .i64 0, .string ⟨#[]⟩] 34)] from hO)
      clear hO
      have k2_2_18 : x17.cell? ⟨bz, 2, none⟩ = some (.int .i64 0) := HO.out.cell 2 rfl 2 rfl
      have lk2_2_18 : x17.frozen? ⟨bz, 2, none⟩ = false := HO.out.frz 2 rfl 2
      have k2_3_19 : x17.cell? ⟨bz, 3, none⟩ = some (.int .i64 0) := HO.out.cell 2 rfl 3 rfl
      have lk2_3_19 : x17.frozen? ⟨bz, 3, none⟩ = false := HO.out.frz 2 rfl 3
      have k2_4_20 : x17.cell? ⟨bz, 4, none⟩ = some (.string ⟨#[]⟩) := HO.out.cell 2 rfl 4 rfl
      have lk2_4_20 : x17.frozen? ⟨bz, 4, none⟩ = false := HO.out.frz 2 rfl 4
      obtain ⟨x21, hx21⟩ : ∃ y, x17.setCell ⟨bz, 2, none⟩ (.int .i64 d2) = y := ⟨_, rfl⟩
      have hO := HO.out.setCell 2 rfl 2 (.int .i64 d2)
      rw [hx21] at hO
      replace HO := Lib.hid (show Own w none0 x21 [resC c l, rowR (.slice (some ⟨g, 0, none⟩) ml p1c) 34 5 ml (m.flatMap cRc), blkR bz (.cells #[.string d0, .int .i64 d1, .int .i64 d2, .int .i64 0, .string ⟨#[]⟩] 34)] from hO)
      clear hO
      have k2_3_22 : x21.cell? ⟨bz, 3, none⟩ = some (.int .i64 0) := HO.out.cell 2 rfl 3 rfl
      have lk2_3_22 : x21.frozen? ⟨bz, 3, none⟩ = false := HO.out.frz 2 rfl 3
      have k2_4_23 : x21.cell? ⟨bz, 4, none⟩ = some (.string ⟨#[]⟩) := HO.out.cell 2 rfl 4 rfl
      have lk2_4_23 : x21.frozen? ⟨bz, 4, none⟩ = false := HO.out.frz 2 rfl 4
      obtain ⟨x24, hx24⟩ : ∃ y, x21.setCell ⟨bz, 3, none⟩ (.int .i64 d3) = y := ⟨_, rfl⟩
      have hO := HO.out.setCell 2 rfl 3 (.int .i64 d3)
      rw [hx24] at hO
      replace HO := Lib.hid (show Own w none0 x24 [resC c l, rowR (.slice (some ⟨g, 0, none⟩) ml p1c) 34 5 ml (m.flatMap cRc), blkR bz (.cells #[.string d0, .int .i64 d1, .int .i64 d2, .int .i64 d3, .string ⟨#[]⟩] 34)] from hO)
      clear hO
      have k2_4_25 : x24.cell? ⟨bz, 4, none⟩ = some (.string ⟨#[]⟩) := HO.out.cell 2 rfl 4 rfl
      have lk2_4_25 : x24.frozen? ⟨bz, 4, none⟩ = false := HO.out.frz 2 rfl 4
      obtain ⟨x26, hx26⟩ : ∃ y, x24.setCell ⟨bz, 4, none⟩ (.string d4) = y := ⟨_, rfl⟩
      have hO := HO.out.setCell 2 rfl 4 (.string d4)
      rw [hx26] at hO
      replace HO := Lib.hid (show Own w none0 x26 [resC c l, rowR (.slice (some ⟨g, 0, none⟩) ml p1c) 34 5 ml (m.flatMap cRc), blkR bz (.cells #[.string d0, .int .i64 d1, .int .i64 d2, .int .i64 d3, .string d4] 34)] from hO)
      clear hO
      go_wp2
      clear y0 y1 y2 y3 y4 hx6 hbz k2_0_7 lk2_0_7 k2_1_8 lk2_1_8 k2_2_9 lk2_2_9 k2_3_10 lk2_3_10 k2_4_11 lk2_4_11 hx12 k2_1_13 lk2_1_13 k2_2_14 lk2_2_14 k2_3_15 lk2_3_15 k2_4_16 lk2_4_16 hx17 k2_2_18 lk2_2_18 k2_3_19 lk2_3_19 k2_4_20 lk2_4_20 hx21 k2_3_22 lk2_3_22 k2_4_23 lk2_4_23 hx24 k2_4_25 lk2_4_25 hx26
      have g2_0 := cell_regrown (show x26.cell? ⟨bz, 0, none⟩ = some (.string d0) from HO.out.cell 2 rfl 0 rfl)
      have g2_1 := cell_regrown (show x26.cell? ⟨bz, 1, none⟩ = some (.int .i64 d1) from HO.out.cell 2 rfl 1 rfl)
      have g2_2 := cell_regrown (show x26.cell? ⟨bz, 2, none⟩ = some (.int .i64 d2) from HO.out.cell 2 rfl 2 rfl)
      have g2_3 := cell_regrown (show x26.cell? ⟨bz, 3, none⟩ = some (.int .i64 d3) from HO.out.cell 2 rfl 3 rfl)
      have g2_4 := cell_regrown (show x26.cell? ⟨bz, 4, none⟩ = some (.string d4) from HO.out.cell 2 rfl 4 rfl)
      refine wp_region_B (by kernel_rfl) (by kernel_rfl) ?_
      repeat (go_big_quiet_step (first | (go_at_call 19; exact Calls.regrown_of (HNM.out _)) | (go_at_call 25; exact Calls.regrown_of (HV.out _))))
      refine wpQuiet_nil ?_
      intro x91 hbw
      have hO := HO.out.stay hbw
      clear g2_0 g2_1 g2_2 g2_3 g2_4
      replace HO := Lib.hid (show Own w none0 x91 [resC c l, rowR (.slice (some ⟨g, 0, none⟩) ml p1c) 34 5 ml (m.flatMap cRc), blkR bz (.cells #[.string d0, .int .i64 d1, .int .i64 d2, .int .i64 d3, .string d4] 34)] from hO)
      clear hO hbw HV
      go_wp2
      have g2_0 := cell_regrown (show x91.cell? ⟨bz, 0, none⟩ = some (.string d0) from HO.out.cell 2 rfl 0 rfl)
      have g2_1 := cell_regrown (show x91.cell? ⟨bz, 1, none⟩ = some (.int .i64 d1) from HO.out.cell 2 rfl 1 rfl)
      have g2_2 := cell_regrown (show x91.cell? ⟨bz, 2, none⟩ = some (.int .i64 d2) from HO.out.cell 2 rfl 2 rfl)
      have g2_3 := cell_regrown (show x91.cell? ⟨bz, 3, none⟩ = some (.int .i64 d3) from HO.out.cell 2 rfl 3 rfl)
      have g2_4 := cell_regrown (show x91.cell? ⟨bz, 4, none⟩ = some (.string d4) from HO.out.cell 2 rfl 4 rfl)
      by_cases hk0 : k = 0
      · subst hk0
        refine wp_region_B (by kernel_rfl) (by kernel_rfl) ?_
        repeat (go_big_quiet_step (fail))
        refine wpQuiet_nil ?_
        intro x92 hbw
        have hO := HO.out.stay hbw
        replace HO := Lib.hid (show Own w none0 x92 [resC c l, rowR (.slice (some ⟨g, 0, none⟩) ml p1c) 34 5 ml (m.flatMap cRc), blkR bz (.cells #[.string d0, .int .i64 d1, .int .i64 d2, .int .i64 d3, .string d4] 34)] from hO)
        clear hO hbw
        go_wp2
        go_roundw
        case rel => exact ⟨0 + 1, by omega, by go_num, HO.out.take 2⟩
        case measure => simp [intOf]; omega
      · obtain ⟨j, rfl⟩ : ∃ j, k = j + 1 := ⟨k - 1, by omega⟩
        have hjm : j < m.length := by omega
        have hp := HPV.out j rfl
        have hrw := HO.out.row 1 rfl
        have zc : ∀ q s, q < 5 → (cRc m[j])[q]? = some s → x91.cell? ⟨g, j * 5 + q, none⟩ = some s := fun q s hq hs => (row_cells hrw).1 _ _ (by rw [flat_getR cRc 5 (fun _ => rfl) m j hjm q hq]; exact hs)
        clear hrw HYC HPV
        generalize m[j] = z at *
        obtain ⟨b0, b1, b2, b3, b4⟩ := z
        have f1 := cell_regrown (show x91.cell? ⟨g, j * 5 + 1, none⟩ = some (.int .i64 b1) from zc 1 _ (by decide) rfl)
        have f3 := cell_regrown (show x91.cell? ⟨g, j * 5 + 3, none⟩ = some (.int .i64 b3) from zc 3 _ (by decide) rfl)
        have f4 := cell_regrown (show x91.cell? ⟨g, j * 5 + 4, none⟩ = some (.string b4) from zc 4 _ (by decide) rfl)
        have hw : IntKind.i64.wrap (((j + 1 : Nat) : Int) - 1) = (j : Int) := by rw [show (((j + 1 : Nat) : Int) - 1) = (j : Int) by omega]; exact IntWalk.i64_in _ (by omega)
        clear zc hjm
        rcases hp with hp | ⟨hp, hp2⟩
        · have hp : b1 < d1 := hp
          have e1 : ¬ (d1 < b1) := by omega
          have e2 : (b1 == d1) = false := by simp; omega
          refine wp_region_B (by kernel_rfl) (by kernel_rfl) ?_
          repeat (go_big_quiet_step (fail))
          refine wpQuiet_nil ?_
          intro x93 hbw
          have hO := HO.out.stay hbw
          replace HO := Lib.hid (show Own w none0 x93 [resC c l, rowR (.slice (some ⟨g, 0, none⟩) ml p1c) 34 5 ml (m.flatMap cRc), blkR bz (.cells #[.string d0, .int .i64 d1, .int .i64 d2, .int .i64 d3, .string d4] 34)] from hO)
          clear hO hbw
          go_wp2
          go_roundw
          case rel => exact ⟨j + 1 + 1, by omega, by go_num, HO.out.take 2⟩
          case measure => simp [intOf]; omega
        · obtain rfl : b1 = d1 := hp
          rcases hp2 with hp | ⟨hp, hp2⟩
          · have hp : b3 < d3 := hp
            have e1 : ¬ (d3 < b3) := by omega
            have e2 : (b3 == d3) = false := by simp; omega
            refine wp_region_B (by kernel_rfl) (by kernel_rfl) ?_
            repeat (go_big_quiet_step (fail))
            refine wpQuiet_nil ?_
            intro x94 hbw
            have hO := HO.out.stay hbw
            replace HO := Lib.hid (show Own w none0 x94 [resC c l, rowR (.slice (some ⟨g, 0, none⟩) ml p1c) 34 5 ml (m.flatMap cRc), blkR bz (.cells #[.string d0, .int .i64 b1, .int .i64 d2, .int .i64 d3, .string d4] 34)] from hO)
            clear hO hbw
            go_wp2
            go_roundw
            case rel => exact ⟨j + 1 + 1, by omega, by go_num, HO.out.take 2⟩
            case measure => simp [intOf]; omega
          · obtain rfl : b3 = d3 := hp
            have hp2 : Op.bytesLess b4.toList d4.toList = true := hp2
            refine wp_region_B (by kernel_rfl) (by kernel_rfl) ?_
            repeat (go_big_quiet_step (fail))
            refine wpQuiet_nil ?_
            intro x95 hbw
            have hO := HO.out.stay hbw
            replace HO := Lib.hid (show Own w none0 x95 [resC c l, rowR (.slice (some ⟨g, 0, none⟩) ml p1c) 34 5 ml (m.flatMap cRc), blkR bz (.cells #[.string d0, .int .i64 b1, .int .i64 d2, .int .i64 b3, .string d4] 34)] from hO)
            clear hO hbw
            go_wp2
            go_roundw
            case rel => exact ⟨j + 1 + 1, by omega, by go_num, HO.out.take 2⟩
            case measure => simp [intOf]; omega
    · obtain rfl : k = ml := by omega
      by_cases h0 : k = 0
      · subst h0
        cases kn
        all_goals
          go_wp2
          go_ret
          exact ⟨rfl, HO.out.below⟩
      · obtain rfl := HMK.out (fun e => h0 (by have := HMN.out; rw [e] at this; exact this.symm))
        go_wp2
        go_ret
        exact ⟨rfl, HO.out.below⟩

end Go.Proofs.YtapeljiopbkjlaaDoor
