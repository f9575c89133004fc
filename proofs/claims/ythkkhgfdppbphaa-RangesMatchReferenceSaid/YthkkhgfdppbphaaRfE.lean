/- Contracts of the reference functions of layer 12, fifth part: Add. -/
import Derived.Deep.DeepCutAuto
import Derived.Test.YthkkhgfdppbphaaRfD
namespace Go.Proofs.Ythkkhgfdppbphaa
open Go.RowKit Go.Sort Go.Shelf
set_option linter.unusedVariables false
attribute [local go_sem] Oper.semAt_some
attribute [local go_sem ↓] run_mn run_mx

theorem run_append_empty {P : Program} {w : World} (base : Nat) (t ty e : TypeId) (i : TypeInfo) (size : Nat) (ht : P.underlying t = some (.slice e)) (hi : P.info? e = some i)
    (v : Value) (n : Nat) (xs : List Value) (hown : w.ownsRow base e size v n xs) (a : Option Addr) (c : Nat) :
    (Builtin.append_ #[t, t] ty #[v, .slice a 0 c]).run P w = .ok v w := by
  rcases hown.2 with ⟨rfl, rfl⟩ | ⟨g, cap, cur, rfl, _, _, hnc, _⟩
  · cases a <;> simp [Builtin.append_, run_underlying ht, sizeOf, typeInfo, hi, Builtin.lenOf, Builtin.firstCells, loadCells, loadCellsFrom]
  · cases a <;> simp [Builtin.append_, run_underlying ht, sizeOf, typeInfo, hi, Builtin.lenOf, Builtin.firstCells, hnc, storeCells, loadCells, loadCellsFrom]

/-- An append of whatever reads as a list of spans. -/
theorem run_appS (w : World) (base : Nat) (ty : TypeId) (v u : Value) (l ps : List Sp) (hown : Owns w base v l) (hr : RdS w u ps) (hlen : l.length + ps.length ≤ 1000000) (hbase : base ≤ w.heap.size) :
    ∃ v' w', (Builtin.append_ #[22, 22] ty #[v, u]).run Try.prog w = .ok v' w' ∧ Owns w' base v' (l ++ ps) ∧ w.grownBy w' v.ownBlock ∧ near w v v' := by
  obtain ⟨i0, hi, hz0, hz1, hz2⟩ := info_parts infoS
  obtain ⟨a, c, rfl, h1, h2, h3⟩ := hr
  by_cases h0 : ps.length = 0
  · have e : ps = [] := List.eq_nil_of_length_eq_zero h0
    subst e
    exact ⟨v, w, run_append_empty base _ ty _ i0 2 Try.underlying22 hi v l.length (spcs l) hown a c, by simpa using hown, grownBy_refl _ _, near.refl _ _⟩
  · have hR : RdS w (.slice a ps.length c) ps := ⟨a, c, rfl, h1, h2, h3⟩
    obtain ⟨b, o, rfl, hnews⟩ := hR.news h0
    obtain ⟨v', w', hrun, r1, r2, r3⟩ := run_append_near (P := Try.prog) w base 22 ty 24 i0 _ 2 16 Try.underlying22 hi hz0 hz1 hz2 rfl (by decide) v l.length (spcs l) hown ⟨b, o, none⟩ ps.length c (spcs ps) (spcs_len ps) hnews (spcs_oc ps) (by unfold maxLen; omega) (by omega) hbase
    refine ⟨v', w', hrun, ?_, r2, r3⟩
    show w'.ownsRow base 24 2 v' (l ++ ps).length (spcs (l ++ ps))
    rw [spcs_app, List.length_append]
    exact r1

theorem add_skip {l : List Sp} {s : Sp} {k : Nat} (h : k < l.length) (h1 : (spAt l k).to < s.fr) : l.take (k + 1) ++ addL (l.drop (k + 1)) s = l.take k ++ addL (l.drop k) s := by
  rw [drop_at l k h, List.take_succ_eq_append_getElem h, ← spAt_eq l k h]
  simp [addL, h1]
theorem add_merge {l : List Sp} {s : Sp} {k : Nat} (h : k < l.length) (h1 : s.fr ≤ (spAt l k).to) (h2 : (spAt l k).fr ≤ s.to) : addL (l.drop k) s = addL (l.drop (k + 1)) (mrg s (spAt l k)) := by
  rw [drop_at l k h, addL, if_neg (by omega), if_neg (by omega)]
theorem add_end {l : List Sp} {s : Sp} {k : Nat} (hk : k ≤ l.length) (h : k < l.length → s.fr ≤ (spAt l k).to ∧ s.to < (spAt l k).fr) : addL (l.drop k) s = s :: l.drop k := by
  by_cases hlt : k < l.length
  · obtain ⟨h1, h2⟩ := h hlt
    rw [drop_at l k hlt, addL, if_neg (by omega), if_pos h2]
  · rw [List.drop_of_length_le (by omega)]; rfl
theorem can_mono {l : List Sp} {e : Int} (hc : canF e l = true) : ∀ {i j : Nat}, i ≤ j → j < l.length → (spAt l i).to ≤ (spAt l j).to := by
  induction l generalizing e with
  | nil => intro i j _ h; simp at h
  | cons x l ih =>
    intro i j hij hj
    rw [canF_cons, okS_iff] at hc
    cases j with
    | zero => obtain rfl : i = 0 := by omega
              exact Int.le_refl _
    | succ j =>
      have hjl : j < l.length := by simpa using hj
      cases i with
      | zero =>
        have hm := can_all hc.2 (spAt l j) (by rw [spAt_eq l j hjl]; exact List.getElem_mem _)
        have e1 : spAt (x :: l) 0 = x := rfl
        have e2 : spAt (x :: l) (j + 1) = spAt l j := rfl
        rw [e1, e2]; omega
      | succ i => exact ih hc.2 (by omega) hjl

theorem radd_no (l : List Sp) (s : Sp) (v : Value) (w : World) (h : RdS w v l) (hc : takB l s = false) :
    Calls Try.prog 18 #[v, spV s] w (ListPost w (addF l s)) := by
  have hR := h
  obtain ⟨a, cap, rfl, hcap, hlen, hp⟩ := h
  clear hp
  obtain ⟨fr, tt⟩ := s
  obtain ⟨d0, d1⟩ := box1 w fr tt 24
  have hb0 : Below w.heap.size w (w.alloc (.cells #[.int .i64 fr, .int .i64 tt] 24)) := (Below.refl _ _).alloc (Nat.le_refl _) _
  have D0 := Lib.hid d0
  have D1 := Lib.hid d1
  clear d0 d1
  have HR := Lib.hid (show addF l ⟨fr, tt⟩ = [] by simp [addF, hc])
  rcases tak_no hc with hv | ⟨hv, ho⟩
  · go_enter Try.func18, Try.ntmps18
    go_wp2_with fail
    refine (rvalid_r hv _ _ (hR.stay hb0)).mono ?_
    rintro e w1 ⟨rfl, hb⟩
    replace hb0 := below_mid hb0 hb
    go_wp2
    go_ret
    exact ⟨_, rfl, by rw [HR.out]; exact RdS_nil _, hb0⟩
  · go_enter Try.func18, Try.ntmps18
    go_wp2_with fail
    refine (rvalid_r hv _ _ (hR.stay hb0)).mono ?_
    rintro e w1 ⟨rfl, hb⟩
    have c0 := keep hb D0.out
    have c1 := keep hb D1.out
    replace hb0 := below_mid hb0 hb
    clear hb D0 D1
    go_wp2_with fail
    refine (rone_r ho _).mono ?_
    rintro e w2 ⟨rfl, hb⟩
    replace hb0 := below_mid hb0 hb
    go_wp2
    go_ret
    exact ⟨_, rfl, by rw [HR.out]; exact RdS_nil _, hb0⟩

set_option maxHeartbeats 8000000 in
theorem radd_yes (l : List Sp) (s : Sp) (v : Value) (w : World) (h : RdS w v l) (hll : l.length ≤ 1000) (hc : takB l s = true) :
    Calls Try.prog 18 #[v, spV s] w (ListPost w (addF l s)) := by
  have hR := h
  obtain ⟨a, cap, rfl, hcap, hlen, hp⟩ := h
  have HP := Lib.hid hp
  clear hp
  obtain ⟨fr, tt⟩ := s
  obtain ⟨d0, d1⟩ := box1 w fr tt 24
  have d2 : (w.alloc (.cells #[.int .i64 fr, .int .i64 tt] 24)).frozen? ⟨w.heap.size, 0, none⟩ = false ∧ (w.alloc (.cells #[.int .i64 fr, .int .i64 tt] 24)).frozen? ⟨w.heap.size, 1, none⟩ = false := by simp [go_sem]
  have hb0 : Below w.heap.size w (w.alloc (.cells #[.int .i64 fr, .int .i64 tt] 24)) := (Below.refl _ _).alloc (Nat.le_refl _) _
  have D0 := Lib.hid d0
  have D1 := Lib.hid d1
  have D2 := Lib.hid d2
  clear d0 d1 d2
  have HR := Lib.hid (show addF l ⟨fr, tt⟩ = addL l ⟨fr, tt⟩ by simp [addF, hc])
  obtain ⟨hv, ho⟩ := tak_yes hc
  clear hc
  go_enter Try.func18, Try.ntmps18
  go_wp2_with fail
  refine (rvalid_r hv _ _ (hR.stay hb0)).mono ?_
  rintro e w1 ⟨rfl, hb⟩
  have c0 := keep hb D0.out
  have c1 := keep hb D1.out
  have f0 := frz hb D0.out D2.out.1
  have f1 := frz hb D1.out D2.out.2
  replace hb0 := below_mid hb0 hb
  clear hb D0 D1 D2
  go_wp2_with fail
  refine (rone_r ho _).mono ?_
  rintro e w2 ⟨rfl, hb⟩
  replace hb0 := below_mid hb0 hb
  have F0 := Lib.hid (frz hb c0 f0)
  have F1 := Lib.hid (frz hb c1 f1)
  replace c0 := keep hb c0
  replace c1 := keep hb c1
  have C0 := Lib.hid c0
  have C1 := Lib.hid c1
  have HV := Lib.hid hv
  clear hb c0 c1 hv ho f0 f1
  have hsw : w.heap.size < w2.heap.size := block_lt_of_cell C0.out
  go_wp2
  go_loopw [5, 6] (fun out i wr => ∃ k : Nat, k ≤ l.length ∧ i = .int .i64 k ∧ l.take k ++ addL (l.drop k) ⟨fr, tt⟩ = addL l ⟨fr, tt⟩ ∧ Owns wr w2.heap.size out (l.take k) ∧ Below w2.heap.size w2 wr) (fun _ i _ => l.length - (intOf i).toNat)
  case atStart => exact ⟨0, Nat.zero_le _, rfl, by simp, World.ownsRow_nil _ _ _ _, Below.refl _ _⟩
  case round =>
    obtain ⟨k, hk, rfl, heq, hown, hb⟩ := hrel
    have HEQ := Lib.hid heq
    have HW := Lib.hid hown
    obtain ⟨ao, co, hao⟩ := hown.slice
    have htl : (l.take k).length ≤ 1000 := by simp; omega
    have HB := Lib.hid hb
    have HTK := Lib.hid (show (l.take k).length = k by simp; omega)
    clear heq hown hb
    generalize hlk : l.take k = lk at *
    have HLK := Lib.hid hlk
    clear hlk
    subst hao
    go_upto_region 5 with fail
    go_cut [28] (fun s28 wx => s28 = .bool (decide (k < l.length ∧ (spAt l k).to < fr)) ∧ Below wr.heap.size wr wx)
    case first =>
      have c0 := keep HB.out C0.out
      by_cases hlt : k < l.length
      · obtain ⟨b, o, rfl, hcc⟩ := HP.out (by omega)
        obtain ⟨x0, x1⟩ := ((hcc k hlt).stay hb0).stay HB.out
        have hkc : k ≤ cap := by omega
        clear hcc
        generalize spAt l k = x at *
        obtain ⟨xf, xt⟩ := x
        simp only at x0 x1
        have k0 := cell_regrown c0
        have k3 := cell_regrown x1
        refine wp_region_B (by kernel_rfl) (by kernel_rfl) ?_
        repeat (go_big_quiet_step (fail))
        refine wpQuiet_nil ?_
        intro w3 hb3
        clear k0 k3
        go_wp2
        go_meet
        exact ⟨by simp [hlt], hb3⟩
      · have hd1 : decide ((k : Int) < l.length) = false := decide_eq_false (by omega)
        refine wp_region_B (by kernel_rfl) (by kernel_rfl) ?_
        repeat (go_big_quiet_step (fail))
        refine wpQuiet_nil ?_
        intro w3 hb3
        go_wp2
        go_meet
        exact ⟨by simp [hlt], hb3⟩
    case rest =>
      obtain ⟨rfl, hbc⟩ := hcut
      replace HW : Hid (Owns wc w2.heap.size (.slice ao lk.length co) lk) := Lib.hid (ownsRow_stay hbc HW.out)
      replace HB := Lib.hid (below_mid HB.out hbc)
      clear hbc
      by_cases hgo : k < l.length ∧ (spAt l k).to < fr
      · obtain ⟨hlt, hlo⟩ := hgo
        have hd : decide (k < l.length ∧ (spAt l k).to < fr) = true := decide_eq_true ⟨hlt, hlo⟩
        rw [hd]
        clear hd
        obtain ⟨b, o, rfl, hcc⟩ := HP.out (by omega)
        obtain ⟨x0, x1⟩ := ((hcc k hlt).stay hb0).stay HB.out
        have hkc : k ≤ cap := by omega
        have HS := Lib.hid (add_skip (s := ⟨fr, tt⟩) hlt hlo)
        have HT := Lib.hid (show l.take (k + 1) = l.take k ++ [spAt l k] by rw [List.take_succ_eq_append_getElem hlt, spAt_eq l k hlt])
        clear hcc hlo
        generalize spAt l k = x at *
        obtain ⟨xf, xt⟩ := x
        simp only at x0 x1
        have rb := run_bsS1
        have hal := (Below.refl wc.heap.size wc).alloc (Nat.le_refl _) (.cells #[.int .i64 xf, .int .i64 xt] 24)
        have HW2 := Lib.hid (ownsRow_stay hal HW.out)
        have HB2 := Lib.hid (below_mid HB.out hal)
        clear hal
        go_wp2_with ((at_builtin; refine (show _ = True → _ from fun h => of_eq_true h) ?_))
        refine eq_true ?_
        refine wpList_appS rfl (.tmp 29) (.tmp 34) rfl rfl HW2.out [⟨xf, xt⟩] rfl rfl (fun j u hj => by have := news2 wc ⟨xf, xt⟩ 24 j u (by rw [← spcs_one]; exact hj); simpa using this) (by omega) (by have := HB2.out.size; exact this) ?_
        intro v' w' hown' hg' hn'
        have HB3 := Lib.hid (HB2.out.trans (below_of hg' HB2.out.size (fun g e => (HW.out.lt e).2)))
        have HW3 := Lib.hid hown'
        clear hown' hg' hn' x0 x1 rb HW2 HB2
        go_wp2
        go_roundw
        case rel => exact ⟨k + 1, by omega, by go_num, by rw [HS.out, HLK.out]; exact HEQ.out, by rw [HT.out, HLK.out]; exact HW3.out, HB3.out⟩
        case measure => simp [intOf]; omega
      · have hd : decide (k < l.length ∧ (spAt l k).to < fr) = false := decide_eq_false hgo
        rw [hd]
        clear hd
        have HMO := Lib.hid (show ∀ j, k ≤ j → j < l.length → fr ≤ (spAt l j).to from fun j h1 h2 => by
          have := can_mono HV.out h1 h2
          have h3 : ¬ (spAt l k).to < fr := fun h => hgo ⟨by omega, h⟩
          omega)
        clear hgo
        go_wp2
        go_loopw [6] (fun i wr => ∃ (k : Nat) (s : Sp), k ≤ l.length ∧ i = .int .i64 k ∧ lk ++ addL (l.drop k) s = addL l ⟨fr, tt⟩ ∧ (∀ j, k ≤ j → j < l.length → s.fr ≤ (spAt l j).to) ∧ (wr.cell? ⟨w.heap.size, 0, none⟩ = some (.int .i64 s.fr) ∧ wr.cell? ⟨w.heap.size, 1, none⟩ = some (.int .i64 s.to) ∧ wr.frozen? ⟨w.heap.size, 0, none⟩ = false ∧ wr.frozen? ⟨w.heap.size, 1, none⟩ = false) ∧ Owns wr w2.heap.size (.slice ao lk.length co) lk ∧ Below w.heap.size w wr ∧ w2.heap.size ≤ wr.heap.size) (fun i _ => l.length - (intOf i).toNat)
        case atStart => exact ⟨k, ⟨fr, tt⟩, hk, rfl, HEQ.out, HMO.out, ⟨keep HB.out C0.out, keep HB.out C1.out, frz HB.out C0.out F0.out, frz HB.out C1.out F1.out⟩, HW.out, below_mid hb0 HB.out, HB.out.size⟩
        case round =>
          clear HEQ HMO HB HW C0 C1 F0 F1
          obtain ⟨m, ⟨sf, st⟩, hm, rfl, heq, hmo, ⟨c0, c1, f0, f1⟩, hown, hb, hws⟩ := hrel
          have HEQ := Lib.hid heq
          have HMO := Lib.hid hmo
          have HW := Lib.hid hown
          have HB := Lib.hid hb
          clear heq hmo hown hb
          simp only at c0 c1
          go_upto_region 8 with fail
          go_cut [51] (fun s51 wx => s51 = .bool (decide (m < l.length ∧ (spAt l m).fr ≤ st)) ∧ Below wr.heap.size wr wx)
          case first =>
            by_cases hlt : m < l.length
            · obtain ⟨b, o, rfl, hcc⟩ := HP.out (by omega)
              obtain ⟨x0, x1⟩ := (hcc m hlt).stay HB.out
              have hkc : m ≤ cap := by omega
              clear hcc
              generalize spAt l m = x at *
              obtain ⟨xf, xt⟩ := x
              simp only at x0 x1
              have k0 := cell_regrown c1
              have k3 := cell_regrown x0
              refine wp_region_B (by kernel_rfl) (by kernel_rfl) ?_
              repeat (go_big_quiet_step (fail))
              refine wpQuiet_nil ?_
              intro w3 hb3
              clear k0 k3
              go_wp2
              go_meet
              exact ⟨by simp [hlt], hb3⟩
            · have hd1 : decide ((m : Int) < l.length) = false := decide_eq_false (by omega)
              refine wp_region_B (by kernel_rfl) (by kernel_rfl) ?_
              repeat (go_big_quiet_step (fail))
              refine wpQuiet_nil ?_
              intro w3 hb3
              go_wp2
              go_meet
              exact ⟨by simp [hlt], hb3⟩
          case rest =>
            obtain ⟨rfl, hbc⟩ := hcut
            replace HW : Hid (Owns wc w2.heap.size (.slice ao lk.length co) lk) := Lib.hid (ownsRow_stay hbc HW.out)
            replace HB := Lib.hid (below_mid HB.out hbc)
            replace f0 := frz hbc c0 f0
            replace f1 := frz hbc c1 f1
            replace c0 := keep hbc c0
            replace c1 := keep hbc c1
            replace hws := Nat.le_trans hws hbc.size
            clear hbc
            have hwo : (Value.slice ao lk.length co).ownBlock ≠ some w.heap.size := fun e => by have := (HW.out.lt e).2; omega
            have HWO := Lib.hid hwo
            clear hwo
            by_cases hgo : m < l.length ∧ (spAt l m).fr ≤ st
            · obtain ⟨hlt, hlo⟩ := hgo
              have hd : decide (m < l.length ∧ (spAt l m).fr ≤ st) = true := decide_eq_true ⟨hlt, hlo⟩
              rw [hd]
              clear hd
              obtain ⟨b, o, rfl, hcc⟩ := HP.out (by omega)
              obtain ⟨x0, x1⟩ := (hcc m hlt).stay HB.out
              have hbw : b ≠ w.heap.size := by have := (hcc m hlt).lt; omega
              have hkc : m ≤ cap := by omega
              have HS := Lib.hid (add_merge (s := ⟨sf, st⟩) hlt (HMO.out m (Nat.le_refl _) hlt) hlo)
              have HM := Lib.hid (show mrg ⟨sf, st⟩ (spAt l m) = ⟨min sf (spAt l m).fr, max st (spAt l m).to⟩ from rfl)
              clear hcc hlo
              generalize spAt l m = x at *
              obtain ⟨xf, xt⟩ := x
              simp only at x0 x1 HM
              go_wp2
              have k0 := cell_regrown c0
              have k1 := cell_regrown x0
              refine wp_region_R 9 (by kernel_rfl) (by kernel_rfl) ?_
              simp only [List.take, List.drop]
              iterate 9 (refine wpR_want (by kernel_rfl) rfl rfl ?_; intro K hK; go_big_quiet_op; go_big_quiet_on)
              refine wpR_nil (by kernel_rfl) (by simp) ?_
              rintro w5 hb5
              simp only [exAll]
              clear k0 k1
              have e0 := keep hb5 c0
              have e1 := keep hb5 c1
              have g0 := frz hb5 c0 f0
              have g1 := frz hb5 c1 f1
              have y1 := keep hb5 x1
              replace HW : Hid (Owns w5 w2.heap.size (.slice ao lk.length co) lk) := Lib.hid (ownsRow_stay hb5 HW.out)
              replace HB := Lib.hid (below_mid HB.out hb5)
              replace hws := Nat.le_trans hws hb5.size
              clear hb5 c0 c1 f0 f1 x0 x1
              simp only [List.drop]
              go_wp2
              have c0 := set_get1 (v := .int .i64 (min sf xf)) e0
              have c1 := (set_cell2 w5 w.heap.size 0 1 (.int .i64 (min sf xf)) (by decide)).trans e1
              have x1 : (w5.setCell ⟨w.heap.size, 0, none⟩ (.int .i64 (min sf xf))).cell? ⟨b, o + m * 2 + 1, none⟩ = some (.int .i64 xt) := (World.cell?_of_block (a := ⟨b, o + m * 2 + 1, none⟩) (Below.heap_setCell _ _ _ _ (by simpa using hbw))).trans y1
              have f0 : (w5.setCell ⟨w.heap.size, 0, none⟩ (.int .i64 (min sf xf))).frozen? ⟨w.heap.size, 0, none⟩ = false := by rw [World.frozen?_setCell]; exact g0
              have f1 : (w5.setCell ⟨w.heap.size, 0, none⟩ (.int .i64 (min sf xf))).frozen? ⟨w.heap.size, 1, none⟩ = false := by rw [World.frozen?_setCell]; exact g1
              replace HW : Hid (Owns (w5.setCell ⟨w.heap.size, 0, none⟩ (.int .i64 (min sf xf))) w2.heap.size (.slice ao lk.length co) lk) := Lib.hid (ownsRow_set_ne HW.out HWO.out _)
              replace HB := Lib.hid (HB.out.setCell (p := ⟨w.heap.size, 0, none⟩) (Nat.le_refl _) (.int .i64 (min sf xf)))
              replace hws : w2.heap.size ≤ (w5.setCell ⟨w.heap.size, 0, none⟩ (.int .i64 (min sf xf))).heap.size := by simpa [World.setCell] using hws
              clear e0 e1 g0 g1 y1
              generalize w5.setCell ⟨w.heap.size, 0, none⟩ (.int .i64 (min sf xf)) = w6 at *
              have k0 := cell_regrown c1
              have k1 := cell_regrown x1
              refine wp_region_R 9 (by kernel_rfl) (by kernel_rfl) ?_
              simp only [List.take, List.drop]
              iterate 9 (refine wpR_want (by kernel_rfl) rfl rfl ?_; intro K hK; go_big_quiet_op; go_big_quiet_on)
              refine wpR_nil (by kernel_rfl) (by simp) ?_
              rintro w7 hb7
              simp only [exAll]
              clear k0 k1
              have e0 := keep hb7 c0
              have e1 := keep hb7 c1
              have g0 := frz hb7 c0 f0
              have g1 := frz hb7 c1 f1
              replace HW : Hid (Owns w7 w2.heap.size (.slice ao lk.length co) lk) := Lib.hid (ownsRow_stay hb7 HW.out)
              replace HB := Lib.hid (below_mid HB.out hb7)
              replace hws := Nat.le_trans hws hb7.size
              clear hb7 c0 c1 f0 f1 x1
              simp only [List.drop]
              go_wp2
              have c1 := set_get1 (v := .int .i64 (max st xt)) e1
              have c0 := (set_cell2 w7 w.heap.size 1 0 (.int .i64 (max st xt)) (by decide)).trans e0
              have f0 : (w7.setCell ⟨w.heap.size, 1, none⟩ (.int .i64 (max st xt))).frozen? ⟨w.heap.size, 0, none⟩ = false := by rw [World.frozen?_setCell]; exact g0
              have f1 : (w7.setCell ⟨w.heap.size, 1, none⟩ (.int .i64 (max st xt))).frozen? ⟨w.heap.size, 1, none⟩ = false := by rw [World.frozen?_setCell]; exact g1
              replace HW : Hid (Owns (w7.setCell ⟨w.heap.size, 1, none⟩ (.int .i64 (max st xt))) w2.heap.size (.slice ao lk.length co) lk) := Lib.hid (ownsRow_set_ne HW.out HWO.out _)
              replace HB := Lib.hid (HB.out.setCell (p := ⟨w.heap.size, 1, none⟩) (Nat.le_refl _) (.int .i64 (max st xt)))
              replace hws : w2.heap.size ≤ (w7.setCell ⟨w.heap.size, 1, none⟩ (.int .i64 (max st xt))).heap.size := by simpa [World.setCell] using hws
              clear e0 e1 g0 g1
              generalize w7.setCell ⟨w.heap.size, 1, none⟩ (.int .i64 (max st xt)) = w8 at *
              have HC := Lib.hid c0
              have HC1 := Lib.hid c1
              clear c0 c1
              go_roundw
              case rel => exact ⟨m + 1, ⟨min sf xf, max st xt⟩, by omega, by go_num, by rw [← HM.out, ← HS.out]; exact HEQ.out, fun j h1 h2 => by have := HMO.out j (by omega) h2; simp only at this ⊢; omega, ⟨HC.out, HC1.out, f0, f1⟩, HW.out, HB.out, hws⟩
              case measure => simp [intOf]; omega
            · have hd : decide (m < l.length ∧ (spAt l m).fr ≤ st) = false := decide_eq_false hgo
              rw [hd]
              clear hd
              have HFI := Lib.hid (show (lk ++ [(⟨sf, st⟩ : Sp)]) ++ l.drop m = addL l ⟨fr, tt⟩ by
                rw [← HEQ.out, add_end hm (fun hlt => ⟨HMO.out m (Nat.le_refl _) hlt, by
                  have : ¬ (spAt l m).fr ≤ st := fun h => hgo ⟨hlt, h⟩
                  simp only; omega⟩), List.append_assoc]; rfl)
              clear hgo
              obtain ⟨Γ, hΓ⟩ : ∃ Γ, Γ = ghA wc w2.heap.size (.slice ao lk.length co) lk (lk ++ [⟨sf, st⟩]) ((lk ++ [⟨sf, st⟩]) ++ l.drop m) HW.out := ⟨_, rfl⟩
              have HFR : ∀ vs w, Γ.inv vs w → wc.grownBy w (Value.slice ao lk.length co).ownBlock := fun vs w h => by rw [hΓ] at h; exact ghA_fr h
              have hst : Γ.inv [] wc := by rw [hΓ]; exact Below.refl _ _
              have n1 : ∀ p : Γ.Wd, p.w.cell? ⟨w.heap.size, 0, none⟩ = some (.int .i64 sf) := fun p => fr_cell (HFR _ _ p.h) c0 HWO.out
              have n2 : ∀ p : Γ.Wd, p.w.cell? ⟨w.heap.size, 1, none⟩ = some (.int .i64 st) := fun p => fr_cell (HFR _ _ p.h) c1 HWO.out
              have ne14 : Nonempty Γ.Wd := ⟨⟨[], wc, hst⟩⟩
              have HGE := Lib.hid hΓ
              have HST := Lib.hid hst
              have HGF := Lib.hid HFR
              clear hΓ hst HFR
              have hmc : m ≤ cap := by omega
              go_wp2
              refine wp_region_H Γ 9 [3, 7] (by kernel_rfl) (by kernel_rfl) (by kernel_rfl) (by kernel_rfl) HST.out ?_
              simp only [List.take, List.drop]
              iterate 2 (refine wpH_want (by kernel_rfl) (by kernel_rfl) rfl rfl ?_; intro K hK; go_big_quiet_op; go_big_quiet_on)
              refine wpH_ex (gblk Γ wc.heap.size (fun b => .slice (some ⟨b, 0, none⟩) 1 1) (.cells (spc ⟨sf, st⟩).toArray 24)) (gblk_lasts _ _ _ _) (by kernel_rfl) (by kernel_rfl) (fun a' g hg he => ?_) (fun d hd => ?_)
              · obtain ⟨h56, _⟩ := he
                have h56' : a'.eval (.tmp 73) = .agg #[.int .i64 sf, .int .i64 st] := h56
                refine wp_of_value (v := .slice (some ⟨g.w.heap.size, 0, none⟩) 1 1) (w' := g.w.alloc (.cells (spc ⟨sf, st⟩).toArray 24)) (run_v_ok ?_) ⟨_, rfl, (Below.refl _ _).alloc (Nat.le_refl _) _, gblk_new (V := fun b => .slice (some ⟨b, 0, none⟩) 1 1) _ hg (HGF.out _ _ hg).size⟩
                simp only [List.map_toArray, List.map_cons, List.map_nil, h56']
                exact run_bsS1 _ _ _
              cases hd
              simp only [List.nil_append]
              refine wpH_chainX 0 (gnth 0) (gnth_lasts _ _) (by kernel_rfl) (by kernel_rfl) (fun a' g hg hgl he => ?_) (fun d hd => ?_)
              · obtain ⟨h55, ⟨b57, h57, hB57, hc57, hn57⟩, _⟩ := he
                have h55' : a'.eval (.tmp 72) = .slice ao lk.length co := h55
                have h57' : a'.eval (.tmp 74) = .slice (some ⟨b57, 0, none⟩) 1 1 := h57
                have hvs : g.vs = [] := List.eq_nil_of_length_eq_zero hgl
                rw [hvs, HGE.out] at hg
                rw [hvs, HGE.out]
                have hg' : Below wc.heap.size wc g.w := hg
                obtain ⟨v1, w', hrun, hO1, hg1, hn1⟩ := run_appS g.w w2.heap.size 22 (.slice ao lk.length co) (.slice (some ⟨b57, 0, none⟩) 1 1) lk [⟨sf, st⟩] (ownsRow_stay hg' HW.out) (RdS_block (l := [⟨sf, st⟩]) (by rw [spcs_one]; exact hc57) (by simp)) (by simp; omega) (Nat.le_trans hws hg'.size)
                refine wp_append_run rfl h55' h57' hrun ?_
                refine ⟨v1, rfl, ⟨⟨⟨hO1, near.trans hg'.size (near.refl _ _) hn1⟩, grownBy_trans (grownBy_of_below hg' _) hg1 (.inr (.inl rfl))⟩, hg1.size, fun k hk hko => hg1.block k hk (fun e => hko e.symm), fun k hk => ?_⟩, rfl⟩
                rcases hn1 with h | h | ⟨g2, h, hg2⟩
                · exact absurd (h.symm.trans hk) (by simp)
                · exact .inl (h.symm.trans hk)
                · exact .inr (by have := h.symm.trans hk; cases this; exact hg2)
              cases hd
              simp only [List.cons_append, List.nil_append]
              iterate 3 (refine wpH_want (by kernel_rfl) (by kernel_rfl) rfl rfl ?_; intro K hK; go_big_quiet_op; go_big_quiet_on)
              refine wpH_chainX 1 (gnth 1) (gnth_lasts _ _) (by kernel_rfl) (by kernel_rfl) (fun a' g hg hgl he => ?_) (fun d hd => ?_)
              · obtain ⟨h58, h61, _⟩ := he
                have h61' : a'.eval (.tmp 78) = .slice (if cap = m then a else a.map (fun x => x.add (m * 2))) (l.length - m) (cap - m) := h61
                obtain ⟨v1, hvs⟩ := len1 hgl
                have h58' : g.vs[0]? = some (a'.eval (.tmp 75)) := h58
                rw [hvs] at h58'
                have h58'' : a'.eval (.tmp 75) = v1 := (Option.some.inj h58').symm
                have hfr := HGF.out _ _ hg
                rw [hvs, HGE.out] at hg
                rw [hvs, HGE.out]
                obtain ⟨⟨hO1, hn1⟩, _⟩ := (show (Owns g.w w2.heap.size v1 (lk ++ [⟨sf, st⟩]) ∧ near wc (.slice ao lk.length co) v1) ∧ wc.grownBy g.w (Value.slice ao lk.length co).ownBlock from hg)
                have hRl : RdS g.w (.slice a l.length cap) l := (hR.stay HB.out).grown hfr (fun a2 n2 c2 e hn e2 => by
                  cases e
                  have h1 := (HW.out.lt e2).2
                  obtain ⟨_, _, e3, _, _, h4⟩ := hR
                  cases e3
                  obtain ⟨b9, o9, e9, h9⟩ := h4 hn
                  cases e9
                  have h5 := (h9 0 (by omega)).lt
                  simp only at h1
                  omega)
                have hdr := hRl.drop m hm
                obtain ⟨v2, w', hrun, hO2, hg2, hn2⟩ := run_appS g.w w2.heap.size 22 v1 _ (lk ++ [⟨sf, st⟩]) (l.drop m) hO1 hdr (by simp; omega) (Nat.le_trans hws hfr.size)
                refine wp_append_run rfl h58'' h61' hrun ?_
                exact ⟨v2, rfl, ⟨⟨hO2, grownBy_trans hfr hg2 (by
                  rcases hn1 with h | h | h
                  · exact .inl h
                  · exact .inr (.inl h)
                  · exact .inr (.inr h))⟩, hg2.size, fun k hk hko => hg2.block k hk (fun e => hko e.symm), fun k hk => hk.elim⟩, rfl⟩
              cases hd
              simp only [List.cons_append, List.nil_append]
              refine wpH_ex (gnth 1) (gnth_lasts _ _) (by kernel_rfl) (by kernel_rfl) (fun a' g hg he => ?_) (fun d hd => ?_)
              · obtain ⟨h62, _⟩ := he
                exact wp_of_value (v := a'.eval (.tmp 79)) (w' := g.w) rfl ⟨_, rfl, Below.refl _ _, h62⟩
              cases hd
              simp only [List.cons_append, List.nil_append]
              refine wpH_nil (by kernel_rfl) (by simp) ?_
              rintro ⟨vs, w7⟩ hg hgl
              obtain ⟨v1, v2, rfl⟩ := len2 hgl
              have hfr := HGF.out _ _ hg
              rw [HGE.out] at hg
              obtain ⟨hO7, _⟩ := (show Owns w7 w2.heap.size v2 ((lk ++ [⟨sf, st⟩]) ++ l.drop m) ∧ wc.grownBy w7 (Value.slice ao lk.length co).ownBlock from hg)
              simp only [gexAll]
              rintro u57 - u58 - u62 - u4 h4
              have e4 : u4 = v2 := (Option.some.inj (show some v2 = some u4 from h4)).symm
              subst e4
              simp only [Act.put, List.setIfInBounds_toArray, List.set_cons_succ, List.set_cons_zero]
              rw [HFI.out] at hO7
              have hb7 : Below w.heap.size w w7 := HB.out.grown hfr HB.out.size (fun g' e => by have := (HW.out.lt e).2; omega)
              have HO7 := Lib.hid hO7
              have hal := addL_len l ⟨fr, tt⟩
              clear n1 n2 ne14 hg hgl h4 hfr hO7
              generalize (if cap = m then a else Option.map (fun x => x.add (m * 2)) a) = a61
              simp only [List.drop]
              go_wp2
              go_ret
              exact ⟨_, rfl, by rw [HR.out]; exact Owns.rd HO7.out (by omega), hb7⟩
theorem radd_any (l : List Sp) (s : Sp) (v : Value) (w : World) (h : RdS w v l) (hll : l.length ≤ 1000) : Calls Try.prog 18 #[v, spV s] w (ListPost w (addF l s)) := by
  cases hc : takB l s
  · exact radd_no l s v w h hc
  · exact radd_yes l s v w h hll hc

end Go.Proofs.Ythkkhgfdppbphaa
