/- DNSCacheTTL, plain and walked. Printed by wip/tools/gen20v.py. -/
import Derived.Test.YtapeljiopbkjlaaDoorCng
namespace Go.Proofs.YtapeljiopbkjlaaDoor
open Go.RowKit Go.Sort
set_option linter.unusedVariables false
set_option maxRecDepth 100000

/-- y is the record r, but for the TTL. -/
def mtB (r y : Rc) : Bool := (y.kd == r.kd) && ((y.ad == r.ad) && (y.to.toList == r.to.toList))
theorem mtB_key {now : Int} {r : Rc} {e : En} (h : mtB r (rcOf now e) = true) (hn : e.nm.toList = r.nm.toList) : keyE e = ownK r := by
  simp only [mtB, rcOf, Bool.and_eq_true, beq_iff_eq] at h
  obtain ⟨h1, h2, h3⟩ := h
  simp only [keyE, ownK, bytes_ext hn, h1, h2, bytes_ext h3]
theorem put_other {t : Int} {r : Rc} {l : List En} {x : En} (h : x ∈ room (l.filter fun x => !putP r x)) : keyE x ≠ ownK r := by
  have := (List.mem_filter.1 ((room_sub _).subset h)).2
  simp only [putP, Bool.not_eq_true', Bool.or_eq_false_iff] at this
  intro e
  rw [(kyEq_iff _ _).2 e] at this
  cases this.1
theorem ttl_law {t later : Int} {r : Rc} (l : List En) (hr : recB t r = true) (ht : r.tt ≠ 0) (hl : 0 ≤ later) (hl2 : later ≤ 100) :
    ((lookD (t + later) r.nm (putF t r l)).countP (mtB r) = if later < r.tt then 1 else 0) ∧ (∀ y ∈ lookD (t + later) r.nm (putF t r l), mtB r y = true → y.tt = r.tt - later) ∧ (later < r.tt → knwD (t + later) r.nm (putF t r l) = true) := by
  have hb := recB_bds hr
  have hk : r.kd ≠ 0 := by rw [recB_eq, Bool.and_eq_true] at hr; have := recA_kd hr.1; omega
  rw [putF_eq l hr ht]
  have hw : wrap64 (t + r.tt - (t + later)) = r.tt - later := by rw [wrap_sub (by omega) (by omega)]; omega
  have hh : hitB (t + later) r.nm ⟨r.nm, r.kd, r.ad, r.to, t + r.tt⟩ = decide (later < r.tt) := by
    rw [hit_self, decide_eq_decide]; omega
  refine ⟨?_, ?_, ?_⟩
  · unfold lookD
    rw [(srtR_perm _).countP_eq]
    unfold recs
    rw [List.filter_append, List.map_append, List.countP_append]
    have h0 : (((room (l.filter fun x => !putP r x)).filter fun e => hitB (t + later) r.nm e && decide (e.kd ≠ 0)).map (rcOf (t + later))).countP (mtB r) = 0 := by
      rw [List.countP_eq_zero]
      intro y hy hm
      obtain ⟨e, he, rfl⟩ := List.mem_map.1 hy
      obtain ⟨he1, he2⟩ := List.mem_filter.1 he
      rw [Bool.and_eq_true] at he2
      exact put_other (t := t) he1 (mtB_key hm (hit_nm he2.1).1)
    rw [h0, Nat.zero_add]
    by_cases hd : later < r.tt
    · rw [decide_eq_true hd] at hh
      rw [if_pos hd, List.filter_cons_of_pos (by rw [hh]; simp [hk])]
      simp [mtB, rcOf]
    · rw [decide_eq_false hd] at hh
      rw [if_neg hd, List.filter_cons_of_neg (by rw [hh]; simp)]
      rfl
  · intro y hy hm
    obtain ⟨e, he, h1, h2, rfl⟩ := lookD_mem.1 hy
    rcases List.mem_append.1 he with he | he
    · exact absurd (mtB_key hm (hit_nm h1).1) (put_other (t := t) he)
    · obtain rfl := by simpa using he
      exact hw
  · intro hd
    rw [decide_eq_true hd] at hh
    unfold knwD
    rw [List.any_append, Bool.or_eq_true]
    exact .inr (by simp [hh])
theorem pk_i64 (n k : Int) (h : 0 < k) (h2 : k ≤ 9223372036854775807) : i64B (pk n k) := by have := pk_bd n k h; unfold i64B; omega
theorem count_no {m : List Rc} {r : Rc} {k : Nat} (hk : k < m.length) (h : mtB r m[k] = false) : (m.take (k + 1)).countP (mtB r) = (m.take k).countP (mtB r) := by
  rw [List.take_succ_eq_append_getElem hk, List.countP_append]; simp [h]
theorem count_yes {m : List Rc} {r : Rc} {k : Nat} (hk : k < m.length) (h : mtB r m[k] = true) : (m.take (k + 1)).countP (mtB r) = (m.take k).countP (mtB r) + 1 := by
  rw [List.take_succ_eq_append_getElem hk, List.countP_append]; simp [h]
set_option maxRecDepth 100000 in
set_option maxHeartbeats 8000000 in
theorem ttl_walk (len : Nat) (g : Nat → Ca) (v : Value) (now : Int) (x : Rw) (later : Int) (a : Addr) (w : World) (hr : RdCa w v len g) (hnnow : i64B now) (hx : RwOk x) (hnlater : i64B later) (hg : w.cell? ⟨errG, 0, none⟩ = some (errV a)) :
    Calls Tryd.prog 5 #[v, .int .i64 now, .agg (rwA x), .int .i64 later] w fun e w' => e = .returned (.bool true) ∧ Below w.heap.size w w' := by
  have HG := Lib.hid hg
  have HR := Lib.hid hr
  have HN1 := Lib.hid hnnow
  have HPK := Lib.hid (fun w => pick_b later 41 w hnlater (by decide))
  have q3 := pk_bd later 41 (by decide)
  generalize pk later 41 = q at *
  obtain ⟨q1, q2⟩ := q3
  have HO0 := Own.nil w none0
  have HRX := Lib.hid (fun w => rec_any x hx w)
  have HRO := Lib.hid (@recF_ok x)
  have HRA := Lib.hid (recF_A x)
  have HRN := Lib.hid (show vname (recF x).nm = true by rw [(recF_A x).2.1]; exact nmF_ok _)
  have q4 := pk_bd x.tt 30 (by decide)
  rw [← (recF_A x).2.2] at q4
  obtain ⟨r, hrf⟩ : ∃ y, recF x = y := ⟨_, rfl⟩
  rw [hrf] at HRX HRO HRA HRN q4
  obtain ⟨q5, q6⟩ := q4
  obtain ⟨xn, xk, xt, xa⟩ := x
  obtain ⟨c0, c1, c2, c3, c4⟩ := r
  obtain ⟨vp, vcap, rfl, _⟩ := hr
  simp only at q5 q6 HRN
  clear hg hnnow hnlater hx
  have HRF := Lib.hid hrf
  clear hrf
  have HO := Lib.hid HO0
  clear HO0
  obtain ⟨x1, hx1⟩ : ∃ y, w.alloc (.cells #[.int .i64 xn, .int .i64 xk, .int .i64 xt, .int .i64 xa] 32) = y := ⟨_, rfl⟩
  obtain ⟨bx, hbx⟩ : ∃ y, w.heap.size = y := ⟨_, rfl⟩
  have hO := HO.out.alloc (.cells #[.int .i64 xn, .int .i64 xk, .int .i64 xt, .int .i64 xa] 32)
  rw [hx1, hbx] at hO
  replace HO := Lib.hid (show Own w none0 x1 [blkR bx (.cells #[.int .i64 xn, .int .i64 xk, .int .i64 xt, .int .i64 xa] 32)] from hO)
  clear hO
  go_enter Tryd.func5, Tryd.ntmps5
  have hsane := sane_o (w0 := x1) (w := x1) (a := a) (Own.nil _ _) (keep HO.out.below HG.out)
  go_wp2_with fail
  refine hsane.mono ?_
  rintro e x2 ⟨rfl, hO1, -⟩
  have hO := HO.out.stay hO1.below
  replace HO := Lib.hid (show Own w none0 x2 [blkR bx (.cells #[.int .i64 xn, .int .i64 xk, .int .i64 xt, .int .i64 xa] 32)] from hO)
  clear hO hO1 hsane
  clear hx1 hbx
  have hmade := made_o (w0 := x2) (w := x2) (a := a) len g (.slice vp len vcap) now (HR.out.stay HO.out.below) HN1.out (Own.nil _ _) (keep HO.out.below HG.out)
  go_wp2_with fail
  refine hmade.mono ?_
  obtain ⟨tm, htm⟩ : ∃ y, (madeS now g (min len 40)).1 = y := ⟨_, rfl⟩
  obtain ⟨l, hl⟩ : ∃ y, (madeS now g (min len 40)).2 = y := ⟨_, rfl⟩
  rintro e x3 ⟨c, rfl, hO1, -⟩
  have HCI := Lib.hid (show CInv tm l by rw [← htm, ← hl]; exact madeS_inv _ _ _)
  have HLK := Lib.hid (show l.length ≤ (min len 40) by rw [← hl]; exact madeS_lenk _ _ _)
  have hts := madeS_time now g (min len 40)
  rw [htm] at hts
  have hmin : ((min len 40 : Nat) : Int) ≤ 40 := by omega
  obtain ⟨ht1, ht2⟩ : 0 ≤ tm ∧ tm ≤ 1000320 := by omega
  rw [hl] at hO1
  have hO := HO.out.stay hO1.below
  rw [htm]
  have hc := (hO1 : Own _ none0 x3 [resC c l])
  have hO2 := HO.out.joinC hc
  replace HO := Lib.hid (show Own w none0 x3 [blkR bx (.cells #[.int .i64 xn, .int .i64 xk, .int .i64 xt, .int .i64 xa] 32), resC c l] from hO2)
  clear hO hO1 hO2 hc hmade hts hmin htm hl
  have z0_0 : x3.cell? ⟨bx, 0, none⟩ = some (.int .i64 xn) := HO.out.cell 0 rfl 0 rfl
  have z0_1 : x3.cell? ⟨bx, 1, none⟩ = some (.int .i64 xk) := HO.out.cell 0 rfl 1 rfl
  have z0_2 : x3.cell? ⟨bx, 2, none⟩ = some (.int .i64 xt) := HO.out.cell 0 rfl 2 rfl
  have z0_3 : x3.cell? ⟨bx, 3, none⟩ = some (.int .i64 xa) := HO.out.cell 0 rfl 3 rfl
  go_wp2_with fail
  refine (o_still HO.out (HRX.out _)).mono ?_
  rintro e x4 ⟨rfl, hO, -⟩
  replace HO := Lib.hid (show Own w none0 x4 [blkR bx (.cells #[.int .i64 xn, .int .i64 xk, .int .i64 xt, .int .i64 xa] 32), resC c l] from hO)
  clear hO
  clear z0_0 z0_1 z0_2 z0_3
  obtain ⟨x5, hx5⟩ : ∃ y, x4.alloc (.cells #[.string ⟨#[]⟩, .int .i64 0, .int .i64 0, .int .i64 0, .string ⟨#[]⟩] 34) = y := ⟨_, rfl⟩
  obtain ⟨br, hbr⟩ : ∃ y, x4.heap.size = y := ⟨_, rfl⟩
  have hO := HO.out.alloc (.cells #[.string ⟨#[]⟩, .int .i64 0, .int .i64 0, .int .i64 0, .string ⟨#[]⟩] 34)
  rw [hx5, hbr] at hO
  replace HO := Lib.hid (show Own w none0 x5 [blkR bx (.cells #[.int .i64 xn, .int .i64 xk, .int .i64 xt, .int .i64 xa] 32), resC c l, blkR br (.cells #[.string ⟨#[]⟩, .int .i64 0, .int .i64 0, .int .i64 0, .string ⟨#[]⟩] 34)] from hO)
  clear hO
  have k2_0_6 : x5.cell? ⟨br, 0, none⟩ = some (.string ⟨#[]⟩) := HO.out.cell 2 rfl 0 rfl
  have lk2_0_6 : x5.frozen? ⟨br, 0, none⟩ = false := HO.out.frz 2 rfl 0
  have k2_1_7 : x5.cell? ⟨br, 1, none⟩ = some (.int .i64 0) := HO.out.cell 2 rfl 1 rfl
  have lk2_1_7 : x5.frozen? ⟨br, 1, none⟩ = false := HO.out.frz 2 rfl 1
  have k2_2_8 : x5.cell? ⟨br, 2, none⟩ = some (.int .i64 0) := HO.out.cell 2 rfl 2 rfl
  have lk2_2_8 : x5.frozen? ⟨br, 2, none⟩ = false := HO.out.frz 2 rfl 2
  have k2_3_9 : x5.cell? ⟨br, 3, none⟩ = some (.int .i64 0) := HO.out.cell 2 rfl 3 rfl
  have lk2_3_9 : x5.frozen? ⟨br, 3, none⟩ = false := HO.out.frz 2 rfl 3
  have k2_4_10 : x5.cell? ⟨br, 4, none⟩ = some (.string ⟨#[]⟩) := HO.out.cell 2 rfl 4 rfl
  have lk2_4_10 : x5.frozen? ⟨br, 4, none⟩ = false := HO.out.frz 2 rfl 4
  obtain ⟨x11, hx11⟩ : ∃ y, x5.setCell ⟨br, 0, none⟩ (.string c0) = y := ⟨_, rfl⟩
  have hO := HO.out.setCell 2 rfl 0 (.string c0)
  rw [hx11] at hO
  replace HO := Lib.hid (show Own w none0 x11 [blkR bx (.cells #[.int .i64 xn, .int .i64 xk, .int .i64 xt, .int .i64 xa] 32), resC c l, blkR br (.cells #[.string c0, .int .i64 0, .int .i64 0, .int .i64 0, .string ⟨#[]⟩] 34)] from hO)
  clear hO
  have k2_1_12 : x11.cell? ⟨br, 1, none⟩ = some (.int .i64 0) := HO.out.cell 2 rfl 1 rfl
  have lk2_1_12 : x11.frozen? ⟨br, 1, none⟩ = false := HO.out.frz 2 rfl 1
  have k2_2_13 : x11.cell? ⟨br, 2, none⟩ = some (.int .i64 0) := HO.out.cell 2 rfl 2 rfl
  have lk2_2_13 : x11.frozen? ⟨br, 2, none⟩ = false := HO.out.frz 2 rfl 2
  have k2_3_14 : x11.cell? ⟨br, 3, none⟩ = some (.int .i64 0) := HO.out.cell 2 rfl 3 rfl
  have lk2_3_14 : x11.frozen? ⟨br, 3, none⟩ = false := HO.out.frz 2 rfl 3
  have k2_4_15 : x11.cell? ⟨br, 4, none⟩ = some (.string ⟨#[]⟩) := HO.out.cell 2 rfl 4 rfl
  have lk2_4_15 : x11.frozen? ⟨br, 4, none⟩ = false := HO.out.frz 2 rfl 4
  obtain ⟨x16, hx16⟩ : ∃ y, x11.setCell ⟨br, 1, none⟩ (.int .i64 c1) = y := ⟨_, rfl⟩
  have hO := HO.out.setCell 2 rfl 1 (.int .i64 c1)
  rw [hx16] at hO
  replace HO := Lib.hid (show Own w none0 x16 [blkR bx (.cells #[.int .i64 xn, .int .i64 xk, .int .i64 xt, .int .i64 xa] 32), resC c l, blkR br (.cells #[.string c0, .int .i64 c1, .int .i64 0, .int .i64 0, .string ⟨#[]⟩] 34)] from hO)
  clear hO
  have k2_2_17 : x16.cell? ⟨br, 2, none⟩ = some (.int .i64 0) := HO.out.cell 2 rfl 2 rfl
  have lk2_2_17 : x16.frozen? ⟨br, 2, none⟩ = false := HO.out.frz 2 rfl 2
  have k2_3_18 : x16.cell? ⟨br, 3, none⟩ = some (.int .i64 0) := HO.out.cell 2 rfl 3 rfl
  have lk2_3_18 : x16.frozen? ⟨br, 3, none⟩ = false := HO.out.frz 2 rfl 3
  have k2_4_19 : x16.cell? ⟨br, 4, none⟩ = some (.string ⟨#[]⟩) := HO.out.cell 2 rfl 4 rfl
  have lk2_4_19 : x16.frozen? ⟨br, 4, none⟩ = false := HO.out.frz 2 rfl 4
  obtain ⟨x20, hx20⟩ : ∃ y, x16.setCell ⟨br, 2, none⟩ (.int .i64 c2) = y := ⟨_, rfl⟩
  have hO := HO.out.setCell 2 rfl 2 (.int .i64 c2)
  rw [hx20] at hO
  replace HO := Lib.hid (show Own w none0 x20 [blkR bx (.cells #[.int .i64 xn, .int .i64 xk, .int .i64 xt, .int .i64 xa] 32), resC c l, blkR br (.cells #[.string c0, .int .i64 c1, .int .i64 c2, .int .i64 0, .string ⟨#[]⟩] 34)] from hO)
  clear hO
  have k2_3_21 : x20.cell? ⟨br, 3, none⟩ = some (.int .i64 0) := HO.out.cell 2 rfl 3 rfl
  have lk2_3_21 : x20.frozen? ⟨br, 3, none⟩ = false := HO.out.frz 2 rfl 3
  have k2_4_22 : x20.cell? ⟨br, 4, none⟩ = some (.string ⟨#[]⟩) := HO.out.cell 2 rfl 4 rfl
  have lk2_4_22 : x20.frozen? ⟨br, 4, none⟩ = false := HO.out.frz 2 rfl 4
  obtain ⟨x23, hx23⟩ : ∃ y, x20.setCell ⟨br, 3, none⟩ (.int .i64 c3) = y := ⟨_, rfl⟩
  have hO := HO.out.setCell 2 rfl 3 (.int .i64 c3)
  rw [hx23] at hO
  replace HO := Lib.hid (show Own w none0 x23 [blkR bx (.cells #[.int .i64 xn, .int .i64 xk, .int .i64 xt, .int .i64 xa] 32), resC c l, blkR br (.cells #[.string c0, .int .i64 c1, .int .i64 c2, .int .i64 c3, .string ⟨#[]⟩] 34)] from hO)
  clear hO
  have k2_4_24 : x23.cell? ⟨br, 4, none⟩ = some (.string ⟨#[]⟩) := HO.out.cell 2 rfl 4 rfl
  have lk2_4_24 : x23.frozen? ⟨br, 4, none⟩ = false := HO.out.frz 2 rfl 4
  obtain ⟨x25, hx25⟩ : ∃ y, x23.setCell ⟨br, 4, none⟩ (.string c4) = y := ⟨_, rfl⟩
  have hO := HO.out.setCell 2 rfl 4 (.string c4)
  rw [hx25] at hO
  replace HO := Lib.hid (show Own w none0 x25 [blkR bx (.cells #[.int .i64 xn, .int .i64 xk, .int .i64 xt, .int .i64 xa] 32), resC c l, blkR br (.cells #[.string c0, .int .i64 c1, .int .i64 c2, .int .i64 c3, .string c4] 34)] from hO)
  clear hO
  go_wp2_with fail
  clear hx5 hbr k2_0_6 lk2_0_6 k2_1_7 lk2_1_7 k2_2_8 lk2_2_8 k2_3_9 lk2_3_9 k2_4_10 lk2_4_10 hx11 k2_1_12 lk2_1_12 k2_2_13 lk2_2_13 k2_3_14 lk2_3_14 k2_4_15 lk2_4_15 hx16 k2_2_17 lk2_2_17 k2_3_18 lk2_3_18 k2_4_19 lk2_4_19 hx20 k2_3_21 lk2_3_21 k2_4_22 lk2_4_22 hx23 k2_4_24 lk2_4_24 hx25
  refine (o_still HO.out (HPK.out _)).mono ?_
  rintro e x26 ⟨rfl, hO, -⟩
  replace HO := Lib.hid (show Own w none0 x26 [blkR bx (.cells #[.int .i64 xn, .int .i64 xk, .int .i64 xt, .int .i64 xa] 32), resC c l, blkR br (.cells #[.string c0, .int .i64 c1, .int .i64 c2, .int .i64 c3, .string c4] 34)] from hO)
  clear hO
  have z2_0 : x26.cell? ⟨br, 0, none⟩ = some (.string c0) := HO.out.cell 2 rfl 0 rfl
  have z2_1 : x26.cell? ⟨br, 1, none⟩ = some (.int .i64 c1) := HO.out.cell 2 rfl 1 rfl
  have z2_2 : x26.cell? ⟨br, 2, none⟩ = some (.int .i64 c2) := HO.out.cell 2 rfl 2 rfl
  have z2_3 : x26.cell? ⟨br, 3, none⟩ = some (.int .i64 c3) := HO.out.cell 2 rfl 3 rfl
  have z2_4 : x26.cell? ⟨br, 4, none⟩ = some (.string c4) := HO.out.cell 2 rfl 4 rfl
  have HRB := Lib.hid (recB_ok (t := tm) (r := ⟨c0, c1, c2, c3, c4⟩) ht1 (by omega) HRN.out q5 (by show c2 ≤ 1000; omega) HRA.out.1)
  go_wp2_with fail
  refine (put_r tm ⟨c0, c1, c2, c3, c4⟩ HO.out 1 rfl (keep HO.out.below HG.out) HRO.out.1 HRO.out.2 HCI.out.len rfl (putE_ok HRB.out)).mono ?_
  rintro e x27 ⟨rfl, hO, -⟩
  replace HO := Lib.hid (show Own w none0 x27 [blkR bx (.cells #[.int .i64 xn, .int .i64 xk, .int .i64 xt, .int .i64 xa] 32), resC c (putF tm ⟨c0, c1, c2, c3, c4⟩ l), blkR br (.cells #[.string c0, .int .i64 c1, .int .i64 c2, .int .i64 c3, .string c4] 34)] from hO)
  clear hO
  clear z2_0 z2_1 z2_2 z2_3 z2_4
  have HC2 := Lib.hid (HCI.out.put ⟨c0, c1, c2, c3, c4⟩)
  have HTL := Lib.hid (fun h => ttl_law (t := tm) (later := q) l HRB.out h q1 (by omega))
  obtain ⟨m, hm⟩ : ∃ y, lookD (tm + q) c0 (putF tm ⟨c0, c1, c2, c3, c4⟩ l) = y := ⟨_, rfl⟩
  obtain ⟨kn, hkn⟩ : ∃ y, knwD (tm + q) c0 (putF tm ⟨c0, c1, c2, c3, c4⟩ l) = y := ⟨_, rfl⟩
  have HM := Lib.hid hm
  have HK := Lib.hid hkn
  have HTL2 := HTL
  replace HTL := Lib.hid (show c2 ≠ 0 → (m.countP (mtB ⟨c0, c1, c2, c3, c4⟩) = if q < c2 then 1 else 0) ∧ (∀ y ∈ m, mtB ⟨c0, c1, c2, c3, c4⟩ y = true → y.tt = c2 - q) ∧ (q < c2 → kn = true) by rw [← hm, ← hkn]; exact HTL2.out)
  have HML := Lib.hid (show m.length ≤ 32 by rw [← hm, lookD_len]; exact Nat.le_trans (recs_len_le _ _ _) (by have := HC2.out.len; exact this))
  clear hm hkn HTL2
  have z2_0 : x27.cell? ⟨br, 0, none⟩ = some (.string c0) := HO.out.cell 2 rfl 0 rfl
  have z2_1 : x27.cell? ⟨br, 1, none⟩ = some (.int .i64 c1) := HO.out.cell 2 rfl 1 rfl
  have z2_2 : x27.cell? ⟨br, 2, none⟩ = some (.int .i64 c2) := HO.out.cell 2 rfl 2 rfl
  have z2_3 : x27.cell? ⟨br, 3, none⟩ = some (.int .i64 c3) := HO.out.cell 2 rfl 3 rfl
  have z2_4 : x27.cell? ⟨br, 4, none⟩ = some (.string c4) := HO.out.cell 2 rfl 4 rfl
  go_wp2_with fail
  refine (look_d (m := m) (k := kn) (tm + q) c0 HO.out 1 rfl (HC2.out.len) (HC2.out.ap) HM.out HK.out).mono ?_
  rintro e x28 ⟨p1, p1c, rfl, hO, -⟩
  replace HO := Lib.hid (show Own w none0 x28 [blkR bx (.cells #[.int .i64 xn, .int .i64 xk, .int .i64 xt, .int .i64 xa] 32), resC c (putF tm ⟨c0, c1, c2, c3, c4⟩ l), blkR br (.cells #[.string c0, .int .i64 c1, .int .i64 c2, .int .i64 c3, .string c4] 34), rowR (.slice p1 m.length p1c) 34 5 m.length (m.flatMap cRc)] from hO)
  clear hO
  clear z2_0 z2_1 z2_2 z2_3 z2_4
  clear HM HK HC2 HCI
  obtain ⟨ml, hml⟩ : ∃ y, m.length = y := ⟨_, rfl⟩
  have HMN := Lib.hid hml
  rw [hml] at HO HML ⊢
  clear hml
  have z2_0 : x28.cell? ⟨br, 0, none⟩ = some (.string c0) := HO.out.cell 2 rfl 0 rfl
  have z2_1 : x28.cell? ⟨br, 1, none⟩ = some (.int .i64 c1) := HO.out.cell 2 rfl 1 rfl
  have z2_2 : x28.cell? ⟨br, 2, none⟩ = some (.int .i64 c2) := HO.out.cell 2 rfl 2 rfl
  have z2_3 : x28.cell? ⟨br, 3, none⟩ = some (.int .i64 c3) := HO.out.cell 2 rfl 3 rfl
  have z2_4 : x28.cell? ⟨br, 4, none⟩ = some (.string c4) := HO.out.cell 2 rfl 4 rfl
  go_wp2
  clear z2_0 z2_1 z2_2 z2_3 z2_4
  go_loopw [17, 18] (fun nv iv wr => ∃ k : Nat, k ≤ ml ∧ iv = .int .i64 k ∧ nv = .int .i64 (((m.take k).countP (mtB ⟨c0, c1, c2, c3, c4⟩) : Nat) : Int) ∧ Own w none0 wr [blkR bx (.cells #[.int .i64 xn, .int .i64 xk, .int .i64 xt, .int .i64 xa] 32), resC c (putF tm ⟨c0, c1, c2, c3, c4⟩ l), blkR br (.cells #[.string c0, .int .i64 c1, .int .i64 c2, .int .i64 c3, .string c4] 34), rowR (.slice p1 ml p1c) 34 5 ml (m.flatMap cRc)]) (fun _ iv _ => ml - (intOf iv).toNat)
  case atStart => exact ⟨0, Nat.zero_le _, rfl, rfl, HO.out⟩
  case round =>
    obtain ⟨k, hk, rfl, rfl, hO⟩ := hrel
    replace HO := Lib.hid hO
    clear hO
    by_cases hlt : k < ml
    · have hkm : k < m.length := by have := HMN.out; omega
      have hrw := HO.out.row 3 rfl
      obtain ⟨g, rfl⟩ := row_some hrw (by omega)
      have yc : ∀ q s, q < 5 → (cRc m[k])[q]? = some s → wr.cell? ⟨g, k * 5 + q, none⟩ = some s := fun q s hq hs => (row_cells hrw).1 _ _ (by rw [flat_getR cRc 5 (fun _ => rfl) m k hkm q hq]; exact hs)
      have HCY := Lib.hid (fun h : mtB ⟨c0, c1, c2, c3, c4⟩ m[k] = true => count_yes hkm h)
      have HCN := Lib.hid (fun h : mtB ⟨c0, c1, c2, c3, c4⟩ m[k] = false => count_no hkm h)
      have HTT := Lib.hid (fun (h0 : c2 ≠ 0) (h : mtB ⟨c0, c1, c2, c3, c4⟩ m[k] = true) => (HTL.out h0).2.1 m[k] (List.getElem_mem hkm) h)
      clear hrw
      generalize m[k] = y at *
      obtain ⟨d0, d1, d2, d3, d4⟩ := y
      have y0 : wr.cell? ⟨g, k * 5, none⟩ = some (.string d0) := yc 0 _ (by decide) rfl
      have y1 : wr.cell? ⟨g, k * 5 + 1, none⟩ = some (.int .i64 d1) := yc 1 _ (by decide) rfl
      have y2 : wr.cell? ⟨g, k * 5 + 2, none⟩ = some (.int .i64 d2) := yc 2 _ (by decide) rfl
      have y3 : wr.cell? ⟨g, k * 5 + 3, none⟩ = some (.int .i64 d3) := yc 3 _ (by decide) rfl
      have y4 : wr.cell? ⟨g, k * 5 + 4, none⟩ = some (.string d4) := yc 4 _ (by decide) rfl
      clear yc hkm
      generalize hcp : (m.take k).countP (mtB ⟨c0, c1, c2, c3, c4⟩) = cp at *
      have HCL := Lib.hid (show cp ≤ k by rw [← hcp]; exact Nat.le_trans (List.countP_le_length) (List.length_take_le _ _))
      clear hcp
      obtain ⟨x29, hx29⟩ : ∃ y, wr.alloc (.cells #[.string ⟨#[]⟩, .int .i64 0, .int .i64 0, .int .i64 0, .string ⟨#[]⟩] 34) = y := ⟨_, rfl⟩
      obtain ⟨bz, hbz⟩ : ∃ y, wr.heap.size = y := ⟨_, rfl⟩
      have hO := HO.out.alloc (.cells #[.string ⟨#[]⟩, .int .i64 0, .int .i64 0, .int .i64 0, .string ⟨#[]⟩] 34)
      rw [hx29, hbz] at hO
      replace HO := Lib.hid (show Own w none0 x29 [blkR bx (.cells #[.int .i64 xn, .int .i64 xk, .int .i64 xt, .int .i64 xa] 32), resC c (putF tm ⟨c0, c1, c2, c3, c4⟩ l), blkR br (.cells #[.string c0, .int .i64 c1, .int .i64 c2, .int .i64 c3, .string c4] 34), rowR (.slice (some ⟨g, 0, none⟩) ml p1c) 34 5 ml (m.flatMap cRc), blkR bz (.cells #[.string ⟨#[]⟩, .int .i64 0, .int .i64 0, .int .i64 0, .string ⟨#[]⟩] 34)] from hO)
      clear hO
      have k4_0_30 : x29.cell? ⟨bz, 0, none⟩ = some (.string ⟨#[]⟩) := HO.out.cell 4 rfl 0 rfl
      have lk4_0_30 : x29.frozen? ⟨bz, 0, none⟩ = false := HO.out.frz 4 rfl 0
      have k4_1_31 : x29.cell? ⟨bz, 1, none⟩ = some (.int .i64 0) := HO.out.cell 4 rfl 1 rfl
      have lk4_1_31 : x29.frozen? ⟨bz, 1, none⟩ = false := HO.out.frz 4 rfl 1
      have k4_2_32 : x29.cell? ⟨bz, 2, none⟩ = some (.int .i64 0) := HO.out.cell 4 rfl 2 rfl
      have lk4_2_32 : x29.frozen? ⟨bz, 2, none⟩ = false := HO.out.frz 4 rfl 2
      have k4_3_33 : x29.cell? ⟨bz, 3, none⟩ = some (.int .i64 0) := HO.out.cell 4 rfl 3 rfl
      have lk4_3_33 : x29.frozen? ⟨bz, 3, none⟩ = false := HO.out.frz 4 rfl 3
      have k4_4_34 : x29.cell? ⟨bz, 4, none⟩ = some (.string ⟨#[]⟩) := HO.out.cell 4 rfl 4 rfl
      have lk4_4_34 : x29.frozen? ⟨bz, 4, none⟩ = false := HO.out.frz 4 rfl 4
      obtain ⟨x35, hx35⟩ : ∃ y, x29.setCell ⟨bz, 0, none⟩ (.string d0) = y := ⟨_, rfl⟩
      have hO := HO.out.setCell 4 rfl 0 (.string d0)
      rw [hx35] at hO
      replace HO := Lib.hid (show Own w none0 x35 [blkR bx (.cells #[.int .i64 xn, .int .i64 xk, .int .i64 xt, .int .i64 xa] 32), resC c (putF tm ⟨c0, c1, c2, c3, c4⟩ l), blkR br (.cells #[.string c0, .int .i64 c1, .int .i64 c2, .int .i64 c3, .string c4] 34), rowR (.slice (some ⟨g, 0, none⟩) ml p1c) 34 5 ml (m.flatMap cRc), blkR bz (.cells #[.string d0, .int .i64 0, .int .i64 0, .int .i64 0, .string ⟨#[]⟩] 34)] from hO)
      clear hO
      have k4_1_36 : x35.cell? ⟨bz, 1, none⟩ = some (.int .i64 0) := HO.out.cell 4 rfl 1 rfl
      have lk4_1_36 : x35.frozen? ⟨bz, 1, none⟩ = false := HO.out.frz 4 rfl 1
      have k4_2_37 : x35.cell? ⟨bz, 2, none⟩ = some (.int .i64 0) := HO.out.cell 4 rfl 2 rfl
      have lk4_2_37 : x35.frozen? ⟨bz, 2, none⟩ = false := HO.out.frz 4 rfl 2
      have k4_3_38 : x35.cell? ⟨bz, 3, none⟩ = some (.int .i64 0) := HO.out.cell 4 rfl 3 rfl
      have lk4_3_38 : x35.frozen? ⟨bz, 3, none⟩ = false := HO.out.frz 4 rfl 3
      have k4_4_39 : x35.cell? ⟨bz, 4, none⟩ = some (.string ⟨#[]⟩) := HO.out.cell 4 rfl 4 rfl
      have lk4_4_39 : x35.frozen? ⟨bz, 4, none⟩ = false := HO.out.frz 4 rfl 4
      obtain ⟨x40, hx40⟩ : ∃ y, x35.setCell ⟨bz, 1, none⟩ (.int .i64 d1) = y := ⟨_, rfl⟩
      have hO := HO.out.setCell 4 rfl 1 (.int .i64 d1)
      rw [hx40] at hO
      replace HO := Lib.hid (show Own w none0 x40 [blkR bx (.cells #[.int .i64 xn, .int .i64 xk, .int .i64 xt, .int .i64 xa] 32), resC c (putF tm ⟨c0, c1, c2, c3, c4⟩ l), blkR br (.cells #[.string c0, .int .i64 c1, .int .i64 c2, .int .i64 c3, .string c4] 34), rowR (.slice (some ⟨g, 0, none⟩) ml p1c) 34 5 ml (m.flatMap cRc), blkR bz (.cells #[.string d0, .int .i64 d1, .int .i64 0, .int .i64 0, .string ⟨#[]⟩] 34)] from hO)
      clear hO
      have k4_2_41 : x40.cell? ⟨bz, 2, none⟩ = some (.int .i64 0) := HO.out.cell 4 rfl 2 rfl
      have lk4_2_41 : x40.frozen? ⟨bz, 2, none⟩ = false := HO.out.frz 4 rfl 2
      have k4_3_42 : x40.cell? ⟨bz, 3, none⟩ = some (.int .i64 0) := HO.out.cell 4 rfl 3 rfl
      have lk4_3_42 : x40.frozen? ⟨bz, 3, none⟩ = false := HO.out.frz 4 rfl 3
      have k4_4_43 : x40.cell? ⟨bz, 4, none⟩ = some (.string ⟨#[]⟩) := HO.out.cell 4 rfl 4 rfl
      have lk4_4_43 : x40.frozen? ⟨bz, 4, none⟩ = false := HO.out.frz 4 rfl 4
      obtain ⟨x44, hx44⟩ : ∃ y, x40.setCell ⟨bz, 2, none⟩ (.int .i64 d2) = y := ⟨_, rfl⟩
      have hO := HO.out.setCell 4 rfl 2 (.int .i64 d2)
      rw [hx44] at hO
      replace HO := Lib.hid (show Own w none0 x44 [blkR bx (.cells #[.int .i64 xn, .int .i64 xk, .int .i64 xt, .int .i64 xa] 32), resC c (putF tm ⟨c0, c1, c2, c3, c4⟩ l), blkR br (.cells #[.string c0, .int .i64 c1, .int .i64 c2, .int .i64 c3, .string c4] 34), rowR (.slice (some ⟨g, 0, none⟩) ml p1c) 34 5 ml (m.flatMap cRc), blkR bz (.cells #[.string d0, .int .i64 d1, .int .i64 d2, .int .i64 0, .string ⟨#[]⟩] 34)] from hO)
      clear hO
      have k4_3_45 : x44.cell? ⟨bz, 3, none⟩ = some (.int .i64 0) := HO.out.cell 4 rfl 3 rfl
      have lk4_3_45 : x44.frozen? ⟨bz, 3, none⟩ = false := HO.out.frz 4 rfl 3
      have k4_4_46 : x44.cell? ⟨bz, 4, none⟩ = some (.string ⟨#[]⟩) := HO.out.cell 4 rfl 4 rfl
      have lk4_4_46 : x44.frozen? ⟨bz, 4, none⟩ = false := HO.out.frz 4 rfl 4
      obtain ⟨x47, hx47⟩ : ∃ y, x44.setCell ⟨bz, 3, none⟩ (.int .i64 d3) = y := ⟨_, rfl⟩
      have hO := HO.out.setCell 4 rfl 3 (.int .i64 d3)
      rw [hx47] at hO
      replace HO := Lib.hid (show Own w none0 x47 [blkR bx (.cells #[.int .i64 xn, .int .i64 xk, .int .i64 xt, .int .i64 xa] 32), resC c (putF tm ⟨c0, c1, c2, c3, c4⟩ l), blkR br (.cells #[.string c0, .int .i64 c1, .int .i64 c2, .int .i64 c3, .string c4] 34), rowR (.slice (some ⟨g, 0, none⟩) ml p1c) 34 5 ml (m.flatMap cRc), blkR bz (.cells #[.string d0, .int .i64 d1, .int .i64 d2, .int .i64 d3, .string ⟨#[]⟩] 34)] from hO)
      clear hO
      have k4_4_48 : x47.cell? ⟨bz, 4, none⟩ = some (.string ⟨#[]⟩) := HO.out.cell 4 rfl 4 rfl
      have lk4_4_48 : x47.frozen? ⟨bz, 4, none⟩ = false := HO.out.frz 4 rfl 4
      obtain ⟨x49, hx49⟩ : ∃ y, x47.setCell ⟨bz, 4, none⟩ (.string d4) = y := ⟨_, rfl⟩
      have hO := HO.out.setCell 4 rfl 4 (.string d4)
      rw [hx49] at hO
      replace HO := Lib.hid (show Own w none0 x49 [blkR bx (.cells #[.int .i64 xn, .int .i64 xk, .int .i64 xt, .int .i64 xa] 32), resC c (putF tm ⟨c0, c1, c2, c3, c4⟩ l), blkR br (.cells #[.string c0, .int .i64 c1, .int .i64 c2, .int .i64 c3, .string c4] 34), rowR (.slice (some ⟨g, 0, none⟩) ml p1c) 34 5 ml (m.flatMap cRc), blkR bz (.cells #[.string d0, .int .i64 d1, .int .i64 d2, .int .i64 d3, .string d4] 34)] from hO)
      clear hO
      have z2_0 : x49.cell? ⟨br, 0, none⟩ = some (.string c0) := HO.out.cell 2 rfl 0 rfl
      have z2_1 : x49.cell? ⟨br, 1, none⟩ = some (.int .i64 c1) := HO.out.cell 2 rfl 1 rfl
      have z2_2 : x49.cell? ⟨br, 2, none⟩ = some (.int .i64 c2) := HO.out.cell 2 rfl 2 rfl
      have z2_3 : x49.cell? ⟨br, 3, none⟩ = some (.int .i64 c3) := HO.out.cell 2 rfl 3 rfl
      have z2_4 : x49.cell? ⟨br, 4, none⟩ = some (.string c4) := HO.out.cell 2 rfl 4 rfl
      have z4_0 : x49.cell? ⟨bz, 0, none⟩ = some (.string d0) := HO.out.cell 4 rfl 0 rfl
      have z4_1 : x49.cell? ⟨bz, 1, none⟩ = some (.int .i64 d1) := HO.out.cell 4 rfl 1 rfl
      have z4_2 : x49.cell? ⟨bz, 2, none⟩ = some (.int .i64 d2) := HO.out.cell 4 rfl 2 rfl
      have z4_3 : x49.cell? ⟨bz, 3, none⟩ = some (.int .i64 d3) := HO.out.cell 4 rfl 3 rfl
      have z4_4 : x49.cell? ⟨bz, 4, none⟩ = some (.string d4) := HO.out.cell 4 rfl 4 rfl
      have hcl := HCL.out
      have hmq := HML.out
      by_cases h1 : d1 = c1
      · subst h1
        by_cases h3 : d3 = c3
        · subst h3
          by_cases h4 : d4.toList = c4.toList
          · have h4b : (d4.toList == c4.toList) = true := by simp [h4]
            have hmt : mtB ⟨c0, d1, c2, d3, c4⟩ ⟨d0, d1, d2, d3, d4⟩ = true := by simp [mtB, h4]
            have HCT := Lib.hid (HCY.out hmt)
            have HT2 := Lib.hid (fun h0 => HTT.out h0 hmt)
            clear hmt HCY HCN HTT h4
            by_cases h0 : c2 = 0
            · have e0 : (c2 == 0) = true := by simp [h0]
              have e1 : ¬ (0 < c2) := by omega
              go_wp2
              go_roundw
              case rel => exact ⟨k + 1, by omega, by go_num, by rw [HCT.out]; go_num, HO.out.take 4⟩
              case measure => simp [intOf]; omega
            · have e0 : (c2 == 0) = false := by simpa using h0
              have e2 : d2 = c2 - q := HT2.out h0
              subst e2
              have e1 : 0 < c2 := by omega
              go_wp2
              go_roundw
              case rel => exact ⟨k + 1, by omega, by go_num, by rw [HCT.out]; go_num, HO.out.take 4⟩
              case measure => simp [intOf]; omega
          · have h4b : (d4.toList == c4.toList) = false := by simpa using h4
            have hmt : mtB ⟨c0, d1, c2, d3, c4⟩ ⟨d0, d1, d2, d3, d4⟩ = false := by simp [mtB, h4]
            have HCT := Lib.hid (HCN.out hmt)
            clear hmt HCY HCN HTT h4
            go_wp2
            go_roundw
            case rel => exact ⟨k + 1, by omega, by go_num, by rw [HCT.out], HO.out.take 4⟩
            case measure => simp [intOf]; omega
        · have h3b : (d3 == c3) = false := by simpa using h3
          have hmt : mtB ⟨c0, d1, c2, c3, c4⟩ ⟨d0, d1, d2, d3, d4⟩ = false := by simp [mtB, h3]
          have HCT := Lib.hid (HCN.out hmt)
          clear hmt HCY HCN HTT h3
          go_wp2
          go_roundw
          case rel => exact ⟨k + 1, by omega, by go_num, by rw [HCT.out], HO.out.take 4⟩
          case measure => simp [intOf]; omega
      · have h1b : (d1 == c1) = false := by simpa using h1
        have hmt : mtB ⟨c0, c1, c2, c3, c4⟩ ⟨d0, d1, d2, d3, d4⟩ = false := by simp [mtB, h1]
        have HCT := Lib.hid (HCN.out hmt)
        clear hmt HCY HCN HTT h1
        go_wp2
        go_roundw
        case rel => exact ⟨k + 1, by omega, by go_num, by rw [HCT.out], HO.out.take 4⟩
        case measure => simp [intOf]; omega
    · obtain rfl : k = ml := by omega
      rw [show m.take k = m from List.take_of_length_le (by have := HMN.out; omega)]
      have z2_0 : wr.cell? ⟨br, 0, none⟩ = some (.string c0) := HO.out.cell 2 rfl 0 rfl
      have z2_1 : wr.cell? ⟨br, 1, none⟩ = some (.int .i64 c1) := HO.out.cell 2 rfl 1 rfl
      have z2_2 : wr.cell? ⟨br, 2, none⟩ = some (.int .i64 c2) := HO.out.cell 2 rfl 2 rfl
      have z2_3 : wr.cell? ⟨br, 3, none⟩ = some (.int .i64 c3) := HO.out.cell 2 rfl 3 rfl
      have z2_4 : wr.cell? ⟨br, 4, none⟩ = some (.string c4) := HO.out.cell 2 rfl 4 rfl
      by_cases h0 : c2 = 0
      · have e0 : (c2 == 0) = true := by simp [h0]
        go_wp2
        go_ret
        exact ⟨rfl, HO.out.below⟩
      · have e0 : (c2 == 0) = false := by simpa using h0
        obtain ⟨a1, -, a3⟩ := HTL.out h0
        rw [a1]
        by_cases h5 : q < c2
        · obtain rfl := a3 h5
          have e5 : 0 < c2 - q := by omega
          have e6 : ¬ (c2 - q ≤ 0) := by omega
          rw [if_pos h5]
          go_wp2
          go_ret
          exact ⟨rfl, HO.out.below⟩
        · have e5 : ¬ (0 < c2 - q) := by omega
          have e6 : c2 - q ≤ 0 := by omega
          rw [if_neg h5]
          cases kn with
          | true =>
            go_wp2
            go_ret
            exact ⟨rfl, HO.out.below⟩
          | false =>
            go_wp2
            go_ret
            exact ⟨rfl, HO.out.below⟩

end Go.Proofs.YtapeljiopbkjlaaDoor
