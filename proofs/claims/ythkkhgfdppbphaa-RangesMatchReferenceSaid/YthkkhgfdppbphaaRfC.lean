/- Contracts of the reference functions of layer 12, third part: Remove. -/
import Derived.Test.YthkkhgfdppbphaaRfB
namespace Go.Proofs.Ythkkhgfdppbphaa
open Go.RowKit Go.Sort Go.Shelf
set_option linter.unusedVariables false
attribute [local go_sem] Oper.semAt_some
attribute [local go_sem ↓] run_mn run_mx

theorem rremove_no (l : List Sp) (s : Sp) (v : Value) (w : World) (h : RdS w v l) (hc : takB l s = false) :
    Calls Try.prog 20 #[v, spV s] w (ListPost w (remF l s)) := by
  have hR := h
  obtain ⟨a, cap, rfl, hcap, hlen, hp⟩ := h
  clear hp
  obtain ⟨fr, tt⟩ := s
  obtain ⟨d0, d1⟩ := box1 w fr tt 24
  have hb0 : Below w.heap.size w (w.alloc (.cells #[.int .i64 fr, .int .i64 tt] 24)) := (Below.refl _ _).alloc (Nat.le_refl _) _
  have D0 := Lib.hid d0
  have D1 := Lib.hid d1
  clear d0 d1
  have HR := Lib.hid (show remF l ⟨fr, tt⟩ = [] by simp [remF, hc])
  rcases tak_no hc with hv | ⟨hv, ho⟩
  · go_enter Try.func20, Try.ntmps20
    go_wp2_with fail
    refine (rvalid_r hv _ _ (hR.stay hb0)).mono ?_
    rintro e w1 ⟨rfl, hb⟩
    replace hb0 := below_mid hb0 hb
    go_wp2
    go_ret
    exact ⟨_, rfl, by rw [HR.out]; exact RdS_nil _, hb0⟩
  · go_enter Try.func20, Try.ntmps20
    go_wp2_with fail
    refine (rvalid_r hv _ _ (hR.stay hb0)).mono ?_
    rintro e w1 ⟨rfl, hb⟩
    have c0 := keep hb D0.out
    have c1 := keep hb D1.out
    replace hb0 := below_mid hb0 hb
    clear hb D0 D1
    go_wp2_with fail
    refine (rone_r ho _).mono ?_
    rintro e w2 ⟨rfl, hb⟩
    replace hb0 := below_mid hb0 hb
    go_wp2
    go_ret
    exact ⟨_, rfl, by rw [HR.out]; exact RdS_nil _, hb0⟩

theorem cell_own {W W' : World} {v : Value} {a : Addr} {u : Value} (hg : W.grownBy W' v.ownBlock) (h : W.cell? a = some u) (hne : v.ownBlock ≠ some a.block) : W'.cell? a = some u :=
  (World.cell?_of_block (hg.block a.block (block_lt_of_cell h) (Ne.symm hne))).trans h
theorem pcs_ff {x s : Sp} (h1 : ¬ x.fr < min x.to s.fr) (h2 : ¬ max x.fr s.to < x.to) : (pcs x s).filter neB = [] := by
  simp only [pcs, List.filter_cons, neB, List.filter_nil, h1, h2, decide_false, Bool.false_eq_true, if_false]
theorem pcs_tf {x s : Sp} (h1 : x.fr < min x.to s.fr) (h2 : ¬ max x.fr s.to < x.to) : (pcs x s).filter neB = [⟨x.fr, min x.to s.fr⟩] := by
  simp only [pcs, List.filter_cons, neB, List.filter_nil, h1, h2, decide_false, decide_true, Bool.false_eq_true, if_false, if_true]
theorem pcs_ft {x s : Sp} (h1 : ¬ x.fr < min x.to s.fr) (h2 : max x.fr s.to < x.to) : (pcs x s).filter neB = [⟨max x.fr s.to, x.to⟩] := by
  simp only [pcs, List.filter_cons, neB, List.filter_nil, h1, h2, decide_false, decide_true, Bool.false_eq_true, if_false, if_true]
theorem pcs_tt {x s : Sp} (h1 : x.fr < min x.to s.fr) (h2 : max x.fr s.to < x.to) : (pcs x s).filter neB = [⟨x.fr, min x.to s.fr⟩, ⟨max x.fr s.to, x.to⟩] := by
  simp only [pcs, List.filter_cons, neB, List.filter_nil, h1, h2, decide_true, if_true]

set_option maxHeartbeats 4000000 in
theorem rremove_yes (l : List Sp) (s : Sp) (v : Value) (w : World) (h : RdS w v l) (hll : l.length ≤ 1000) (hc : takB l s = true) :
    Calls Try.prog 20 #[v, spV s] w (ListPost w (remF l s)) := by
  have hR := h
  obtain ⟨a, cap, rfl, hcap, hlen, hp⟩ := h
  have HP := Lib.hid hp
  clear hp
  obtain ⟨fr, tt⟩ := s
  obtain ⟨d0, d1⟩ := box1 w fr tt 24
  have hb0 : Below w.heap.size w (w.alloc (.cells #[.int .i64 fr, .int .i64 tt] 24)) := (Below.refl _ _).alloc (Nat.le_refl _) _
  have D0 := Lib.hid d0
  have D1 := Lib.hid d1
  clear d0 d1
  have HR := Lib.hid (show remF l ⟨fr, tt⟩ = remL l ⟨fr, tt⟩ by simp [remF, hc])
  obtain ⟨hv, ho⟩ := tak_yes hc
  clear hc
  go_enter Try.func20, Try.ntmps20
  go_wp2_with fail
  refine (rvalid_r hv _ _ (hR.stay hb0)).mono ?_
  rintro e w1 ⟨rfl, hb⟩
  have c0 := keep hb D0.out
  have c1 := keep hb D1.out
  replace hb0 := below_mid hb0 hb
  clear hb D0 D1
  go_wp2_with fail
  refine (rone_r ho _).mono ?_
  rintro e w2 ⟨rfl, hb⟩
  replace hb0 := below_mid hb0 hb
  replace c0 := keep hb c0
  replace c1 := keep hb c1
  have C0 := Lib.hid c0
  have C1 := Lib.hid c1
  clear hb c0 c1
  go_wp2
  go_loopw [5, 6] (fun out i wr => ∃ k : Nat, k ≤ l.length ∧ i = .int .i64 k ∧ Owns wr w2.heap.size out (remL (l.take k) ⟨fr, tt⟩) ∧ Below w2.heap.size w2 wr) (fun _ i _ => l.length - (intOf i).toNat)
  case atStart => exact ⟨0, Nat.zero_le _, rfl, World.ownsRow_nil _ _ _ _, Below.refl _ _⟩
  case round =>
    obtain ⟨k, hk, rfl, hown, hb⟩ := hrel
    have hrl := remL_len (l.take k) ⟨fr, tt⟩
    have htl : (l.take k).length = k := by simp; omega
    rw [htl] at hrl
    clear htl
    by_cases hlt : k < l.length
    · obtain ⟨b, o, rfl, hcc⟩ := HP.out (by omega)
      obtain ⟨x0, x1⟩ := ((hcc k hlt).stay hb0).stay hb
      have c0 := keep hb C0.out
      have c1 := keep hb C1.out
      have HS := Lib.hid (rem_take l ⟨fr, tt⟩ k hlt)
      have hkc : k ≤ cap := by omega
      clear hcc
      generalize spAt l k = x at *
      obtain ⟨xf, xt⟩ := x
      simp only at x0 x1
      generalize remL (l.take k) ⟨fr, tt⟩ = rk at *
      have HW := Lib.hid hown
      obtain ⟨ao, co, rfl⟩ := hown.slice
      clear hown
      have rb := run_bsS1
      have HB := Lib.hid hb
      clear hb
      have hws : w2.heap.size ≤ wr.heap.size := HB.out.size
      have hal := (Below.refl wr.heap.size wr).alloc (Nat.le_refl _) (.cells #[.int .i64 xf, .int .i64 xt] 24)
      have m0 := keep hal c0
      have m1 := keep hal c1
      have HX0 := Lib.hid (show (wr.alloc (.cells #[.int .i64 xf, .int .i64 xt] 24)).cell? ⟨wr.heap.size, 0, none⟩ = some (.int .i64 xf) by simp)
      have HX1 := Lib.hid (show (wr.alloc (.cells #[.int .i64 xf, .int .i64 xt] 24)).cell? ⟨wr.heap.size, 1, none⟩ = some (.int .i64 xt) by simp)
      have HW1 := Lib.hid (ownsRow_stay hal HW.out)
      have HB1 := Lib.hid (below_mid HB.out hal)
      have hsw : w.heap.size < w2.heap.size := block_lt_of_cell C0.out
      by_cases h1 : xf < min xt fr
      · have hal2 := hal.alloc hal.size (.cells #[.int .i64 xf, .int .i64 (min xt fr)] 24)
        have HW2 := Lib.hid (ownsRow_stay hal2 HW.out)
        have HB2 := Lib.hid (below_mid HB.out hal2)
        have HAL := Lib.hid ((Below.refl _ (wr.alloc (.cells #[.int .i64 xf, .int .i64 xt] 24))).alloc (Nat.le_refl _) (.cells #[.int .i64 xf, .int .i64 (min xt fr)] 24))
        clear hal hal2
        by_cases h2 : max xf tt < xt
        · have HQ := Lib.hid (@pcs_tt ⟨xf, xt⟩ ⟨fr, tt⟩ h1 h2)
          go_wp2_with ((at_builtin; refine (show _ = True → _ from fun h => of_eq_true h) ?_))
          refine eq_true ?_
          refine wpList_appS rfl (.tmp 34) (.tmp 43) rfl rfl HW2.out [⟨xf, min xt fr⟩] rfl rfl (fun j u hj => by have := news2 (wr.alloc (.cells #[.int .i64 xf, .int .i64 xt] 24)) ⟨xf, min xt fr⟩ 24 j u (by rw [← spcs_one]; exact hj); simpa using this) (by omega) (by have := HB2.out.size; exact this) ?_
          intro v' w' hown' hg' hn'
          have n0 := cell_own hg' (keep HAL.out m0) (fun e => by have := (HW.out.lt e).2; simp only at this; omega)
          have n1 := cell_own hg' (keep HAL.out m1) (fun e => by have := (HW.out.lt e).2; simp only at this; omega)
          have n2 := cell_own hg' (keep HAL.out HX0.out) (fun e => by have := (HW.out.lt e).1; simp only at this; omega)
          have n3 := cell_own hg' (keep HAL.out HX1.out) (fun e => by have := (HW.out.lt e).1; simp only at this; omega)
          have HB3 := Lib.hid (HB2.out.trans (below_of hg' HB2.out.size (fun g e => (HW.out.lt e).2)))
          obtain ⟨rn, hrn⟩ : ∃ rn, rn = rk ++ [⟨xf, min xt fr⟩] := ⟨_, rfl⟩
          rw [← hrn] at hown'
          have hrnl : rn.length ≤ 3000 := by rw [hrn]; simp; omega
          have HRN := Lib.hid hrn
          obtain ⟨a', c', rfl⟩ := hown'.slice
          have HW3 := Lib.hid hown'
          clear hrn hown' hg' hn' c0 c1 m0 m1 HX0 HX1 HW1 HB1 HW2 HB2 HAL x0 x1
          have hal3 := (Below.refl _ w').alloc (Nat.le_refl _) (.cells #[.int .i64 (max xf tt), .int .i64 xt] 24)
          have HW4 := Lib.hid (ownsRow_stay hal3 HW3.out)
          have HB4 := Lib.hid (below_mid HB3.out hal3)
          clear hal3
          go_wp2_with ((at_builtin; refine (show _ = True → _ from fun h => of_eq_true h) ?_))
          refine eq_true ?_
          refine wpList_appS rfl (.tmp 53) (.tmp 62) rfl rfl HW4.out [⟨max xf tt, xt⟩] rfl rfl (fun j u hj => by have := news2 w' ⟨max xf tt, xt⟩ 24 j u (by rw [← spcs_one]; exact hj); simpa using this) (by omega) (by have := HB4.out.size; exact this) ?_
          intro v5 w5 hown5 hg5 hn5
          have HB5 := Lib.hid (HB4.out.trans (below_of hg5 HB4.out.size (fun g e => (HW3.out.lt e).2)))
          have HW5 := Lib.hid hown5
          clear hown5 hg5 hn5 rb
          go_wp2
          go_roundw
          case rel => exact ⟨k + 1, by omega, by go_num, by rw [HS.out, HQ.out, show rk ++ [(⟨xf, min xt fr⟩ : Sp), ⟨max xf tt, xt⟩] = rn ++ [⟨max xf tt, xt⟩] by rw [HRN.out]; simp]; exact HW5.out, HB5.out⟩
          case measure => simp [intOf]; omega
        · have HQ := Lib.hid (@pcs_tf ⟨xf, xt⟩ ⟨fr, tt⟩ h1 h2)
          go_wp2_with ((at_builtin; refine (show _ = True → _ from fun h => of_eq_true h) ?_))
          refine eq_true ?_
          refine wpList_appS rfl (.tmp 34) (.tmp 43) rfl rfl HW2.out [⟨xf, min xt fr⟩] rfl rfl (fun j u hj => by have := news2 (wr.alloc (.cells #[.int .i64 xf, .int .i64 xt] 24)) ⟨xf, min xt fr⟩ 24 j u (by rw [← spcs_one]; exact hj); simpa using this) (by omega) (by have := HB2.out.size; exact this) ?_
          intro v' w' hown' hg' hn'
          have n0 := cell_own hg' (keep HAL.out m0) (fun e => by have := (HW.out.lt e).2; simp only at this; omega)
          have n1 := cell_own hg' (keep HAL.out m1) (fun e => by have := (HW.out.lt e).2; simp only at this; omega)
          have n2 := cell_own hg' (keep HAL.out HX0.out) (fun e => by have := (HW.out.lt e).1; simp only at this; omega)
          have n3 := cell_own hg' (keep HAL.out HX1.out) (fun e => by have := (HW.out.lt e).1; simp only at this; omega)
          have HB3 := Lib.hid (HB2.out.trans (below_of hg' HB2.out.size (fun g e => (HW.out.lt e).2)))
          have HW3 := Lib.hid hown'
          clear hown' hg' hn' c0 c1 m0 m1 HX0 HX1 HW1 HB1 HW2 HB2 HAL x0 x1 rb
          go_wp2
          go_roundw
          case rel => exact ⟨k + 1, by omega, by go_num, by rw [HS.out, HQ.out]; exact HW3.out, HB3.out⟩
          case measure => simp [intOf]; omega
      · by_cases h2 : max xf tt < xt
        · have HQ := Lib.hid (@pcs_ft ⟨xf, xt⟩ ⟨fr, tt⟩ h1 h2)
          have hal2 := hal.alloc hal.size (.cells #[.int .i64 (max xf tt), .int .i64 xt] 24)
          have HW2 := Lib.hid (ownsRow_stay hal2 HW.out)
          have HB2 := Lib.hid (below_mid HB.out hal2)
          clear hal hal2
          go_wp2_with ((at_builtin; refine (show _ = True → _ from fun h => of_eq_true h) ?_))
          refine eq_true ?_
          refine wpList_appS rfl (.tmp 53) (.tmp 62) rfl rfl HW2.out [⟨max xf tt, xt⟩] rfl rfl (fun j u hj => by have := news2 (wr.alloc (.cells #[.int .i64 xf, .int .i64 xt] 24)) ⟨max xf tt, xt⟩ 24 j u (by rw [← spcs_one]; exact hj); simpa using this) (by omega) (by have := HB2.out.size; exact this) ?_
          intro v5 w5 hown5 hg5 hn5
          have HB5 := Lib.hid (HB2.out.trans (below_of hg5 HB2.out.size (fun g e => (HW.out.lt e).2)))
          have HW5 := Lib.hid hown5
          clear hown5 hg5 hn5 rb
          go_wp2
          go_roundw
          case rel => exact ⟨k + 1, by omega, by go_num, by rw [HS.out, HQ.out]; exact HW5.out, HB5.out⟩
          case measure => simp [intOf]; omega
        · have HQ := Lib.hid (@pcs_ff ⟨xf, xt⟩ ⟨fr, tt⟩ h1 h2)
          clear hal
          go_wp2
          go_roundw
          case rel => exact ⟨k + 1, by omega, by go_num, by rw [HS.out, HQ.out, List.append_nil]; exact HW1.out, HB1.out⟩
          case measure => simp [intOf]; omega
    · have HT := Lib.hid (show l.take k = l from List.take_of_length_le (by omega))
      have HW := Lib.hid hown
      clear hown
      go_wp2
      go_ret
      exact ⟨_, rfl, by rw [HR.out, ← HT.out]; exact Owns.rd HW.out (by omega), below_mid hb0 hb⟩
theorem rremove_any (l : List Sp) (s : Sp) (v : Value) (w : World) (h : RdS w v l) (hll : l.length ≤ 1000) : Calls Try.prog 20 #[v, spV s] w (ListPost w (remF l s)) := by
  cases hc : takB l s
  · exact rremove_no l s v w h hc
  · exact rremove_yes l s v w h hll hc

end Go.Proofs.Ythkkhgfdppbphaa
