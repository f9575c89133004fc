/- ValidName of the reference of chapter 19; Valid of that of chapter 20. Printed by wip/tools/gen20z.py. -/
import Derived.Test.YtapeljiopbkjlaaDoorRv
namespace Go.Proofs.YtapeljiopbkjlaaDoor
open Go.RowKit Go.Sort
set_option linter.unusedVariables false
set_option maxRecDepth 100000

theorem adr3_any (a : Int) (w : World) : Calls Tryd.prog 42 #[.int .i64 a] w fun e w' => e = .returned (.bool (adrOk a)) ∧ w = w' := by
  unfold adrOk
  go_enter Tryd.func42, Tryd.ntmps42
  go_wp2
  all_goals (go_ret; refine ⟨ret_bool ?_, rfl⟩; first | (rw [Bool.eq_iff_iff]; done) | (rw [Bool.eq_iff_iff]; simp; done) | (rw [Bool.eq_iff_iff]; simp; omega))
theorem adr3_r {a : Int} {b : Bool} (h : adrOk a = b) (w : World) : Calls Tryd.prog 42 #[.int .i64 a] w fun e w' => e = .returned (.bool b) ∧ w = w' := h ▸ adr3_any a w
theorem vname_all {s : ByteArray} (h : ¬ 60 < s.size) : vname s = (pcs s.data.toList).all lbOk := by
  unfold vname
  rw [decide_eq_true (by omega : s.size ≤ 60), Bool.true_and]
theorem vname_long {s : ByteArray} (h : 60 < s.size) : vname s = false := by
  unfold vname
  rw [decide_eq_false (by omega : ¬ s.size ≤ 60), Bool.false_and]
theorem label_l {x : List UInt8} {b : Bool} (h : lbOk x = b) (w : World) (hs : x.length ≤ 60) : Calls Tryd.prog 62 #[.string ⟨x.toArray⟩] w fun e w' => e = .returned (.bool b) ∧ w = w' := by
  subst h
  have h := label_any ⟨x.toArray⟩ w (by rw [mk_size]; omega)
  rwa [mk_toList] at h
set_option maxHeartbeats 4000000 in
theorem vn19_any (s : ByteArray) (w : World) : Calls Tryd.prog 41 #[.string s] w fun e w' => e = .returned (.bool (vname s)) ∧ Below w.heap.size w w' := by
  by_cases h60 : 60 < s.size
  · have HV := Lib.hid (vname_long h60)
    have f1 : 60 < (s.size : Int) := by omega
    clear h60
    go_enter Tryd.func41, Tryd.ntmps41
    go_wp2
    go_ret
    exact ⟨by rw [HV.out]; rfl, Below.refl _ _⟩
  have HV := Lib.hid (vname_all h60)
  have f1 : ¬ 60 < (s.size : Int) := by omega
  have HL := Lib.hid (labels19_any s w (by omega))
  have hl : (pcs s.data.toList).length ≤ 61 := by have := pcs_len s.data.toList; rw [← Lib.size_eq] at this; omega
  have HM := Lib.hid (show ∀ x ∈ pcs s.data.toList, x.length ≤ 60 from fun x hx => by have := pcs_mem x hx; rw [← Lib.size_eq] at this; omega)
  generalize pcs s.data.toList = l at *
  obtain ⟨ml, hml⟩ : ∃ y, l.length = y := ⟨_, rfl⟩
  have HML := Lib.hid hml
  rw [hml] at hl
  clear hml h60
  go_enter Tryd.func41, Tryd.ntmps41
  go_wp2_with fail
  refine HL.out.mono ?_
  rintro e x1 ⟨v, rfl, hO, -⟩
  have hO : Own w none0 x1 [rowR v 9 1 l.length (l.map cStr)] := hO
  rw [HML.out] at hO
  obtain ⟨a, cap, rfl⟩ := row_shape (Own.row hO 0 rfl)
  have HO := Lib.hid hO
  clear hO
  go_wp2
  go_loopw [4] (fun iv wr => ∃ k : Nat, k ≤ ml ∧ iv = .int .i64 k ∧ (l.take k).all lbOk = true ∧ Own w none0 wr [rowR (.slice a ml cap) 9 1 ml (l.map cStr)]) (fun iv _ => ml - (intOf iv).toNat)
  case atStart => exact ⟨0, Nat.zero_le _, rfl, rfl, HO.out⟩
  case round =>
    obtain ⟨k, hk, rfl, hall, hO⟩ := hrel
    replace HO := Lib.hid hO
    clear hO
    by_cases hlt : k < ml
    · have hkl : k < l.length := by have := HML.out; omega
      have hrw := HO.out.row 0 rfl
      obtain ⟨g, rfl⟩ := row_some hrw (by omega)
      have c0 : wr.cell? ⟨g, k, none⟩ = some (.string ⟨l[k].toArray⟩) := (row_cells hrw).1 _ _ (by rw [List.getElem?_map, List.getElem?_eq_getElem hkl]; rfl)
      clear hrw
      have hm := HM.out l[k] (List.getElem_mem hkl)
      have HS := Lib.hid (all_take_step hkl hall)
      have HP := Lib.hid (fun h => all_prefix_no (p := lbOk) (l := l.take (k + 1)) (m := l) (List.take_prefix _ _) h)
      clear hall
      generalize l[k] = y at *
      cases hb : lbOk y with
      | true =>
        have HB := Lib.hid hb
        have HN := Lib.hid (HS.out.trans hb)
        clear hb HS HP
        go_wp2_with fail
        refine (label_l HB.out _ hm).mono ?_
        rintro e xp ⟨rfl, rfl⟩
        go_wp2
        go_roundw
        case rel => exact ⟨k + 1, by omega, by go_num, HN.out, HO.out⟩
        case measure => simp [intOf]; omega
      | false =>
        have HB := Lib.hid hb
        have HN := Lib.hid (HP.out (HS.out.trans hb))
        clear hb HS HP
        go_wp2_with fail
        refine (label_l HB.out _ hm).mono ?_
        rintro e xp ⟨rfl, rfl⟩
        go_wp2
        go_ret
        exact ⟨by rw [HV.out, HN.out]; rfl, HO.out.below⟩
    · obtain rfl : k = ml := by omega
      have HN := Lib.hid (show l.all lbOk = true by rw [← hall, ← HML.out, List.take_length])
      clear hall
      go_wp2
      go_ret
      exact ⟨by rw [HV.out, HN.out]; rfl, HO.out.below⟩
theorem vn19_r {s : ByteArray} {b : Bool} (h : vname s = b) (w : World) : Calls Tryd.prog 41 #[.string s] w fun e w' => e = .returned (.bool b) ∧ Below w.heap.size w w' := h ▸ vn19_any s w
def vldB (r : Rc) : Bool := vname r.nm && decide (0 ≤ r.tt) && decide (r.tt ≤ 1000) && recA r
set_option maxHeartbeats 1000000 in
theorem v20_1 (nm : ByteArray) (kd tt ad : Int) (to : ByteArray) (w : World) (hn : vname nm = false) :
    Calls Tryd.prog 25 #[.agg #[.string nm, .int .i64 kd, .int .i64 tt, .int .i64 ad, .string to]] w (crPost (.bool false) w) := by
  have HO := Lib.hid (Own.nil w none0)
  have HN := Lib.hid hn
  clear hn
  obtain ⟨x1, hx1⟩ : ∃ y, w.alloc (.cells #[.string nm, .int .i64 kd, .int .i64 tt, .int .i64 ad, .string to] 34) = y := ⟨_, rfl⟩
  obtain ⟨bx, hbx⟩ : ∃ y, w.heap.size = y := ⟨_, rfl⟩
  have hO := HO.out.alloc (.cells #[.string nm, .int .i64 kd, .int .i64 tt, .int .i64 ad, .string to] 34)
  rw [hx1, hbx] at hO
  replace HO := Lib.hid (show Own w none0 x1 [blkR bx (.cells #[.string nm, .int .i64 kd, .int .i64 tt, .int .i64 ad, .string to] 34)] from hO)
  clear hO
  have z0_0 : x1.cell? ⟨bx, 0, none⟩ = some (.string nm) := HO.out.cell 0 rfl 0 rfl
  have z0_1 : x1.cell? ⟨bx, 1, none⟩ = some (.int .i64 kd) := HO.out.cell 0 rfl 1 rfl
  have z0_2 : x1.cell? ⟨bx, 2, none⟩ = some (.int .i64 tt) := HO.out.cell 0 rfl 2 rfl
  have z0_3 : x1.cell? ⟨bx, 3, none⟩ = some (.int .i64 ad) := HO.out.cell 0 rfl 3 rfl
  have z0_4 : x1.cell? ⟨bx, 4, none⟩ = some (.string to) := HO.out.cell 0 rfl 4 rfl
  go_enter Tryd.func25, Tryd.ntmps25
  go_wp2_with fail
  refine (o_still HO.out (vn19_r HN.out _)).mono ?_
  rintro e x2 ⟨rfl, hO, -⟩
  replace HO := Lib.hid (show Own w none0 x2 [blkR bx (.cells #[.string nm, .int .i64 kd, .int .i64 tt, .int .i64 ad, .string to] 34)] from hO)
  clear hO
  clear hx1 hbx z0_0 z0_1 z0_2 z0_3 z0_4
  have z0_0 : x2.cell? ⟨bx, 0, none⟩ = some (.string nm) := HO.out.cell 0 rfl 0 rfl
  have z0_1 : x2.cell? ⟨bx, 1, none⟩ = some (.int .i64 kd) := HO.out.cell 0 rfl 1 rfl
  have z0_2 : x2.cell? ⟨bx, 2, none⟩ = some (.int .i64 tt) := HO.out.cell 0 rfl 2 rfl
  have z0_3 : x2.cell? ⟨bx, 3, none⟩ = some (.int .i64 ad) := HO.out.cell 0 rfl 3 rfl
  have z0_4 : x2.cell? ⟨bx, 4, none⟩ = some (.string to) := HO.out.cell 0 rfl 4 rfl
  go_wp2
  all_goals (go_ret; exact ⟨rfl, HO.out.below⟩)
set_option maxHeartbeats 1000000 in
theorem v20_2 (nm : ByteArray) (kd tt ad : Int) (to : ByteArray) (w : World) (hn : vname nm = true) (h0 : tt < 0) :
    Calls Tryd.prog 25 #[.agg #[.string nm, .int .i64 kd, .int .i64 tt, .int .i64 ad, .string to]] w (crPost (.bool false) w) := by
  have HO := Lib.hid (Own.nil w none0)
  have HN := Lib.hid hn
  clear hn
  obtain ⟨x1, hx1⟩ : ∃ y, w.alloc (.cells #[.string nm, .int .i64 kd, .int .i64 tt, .int .i64 ad, .string to] 34) = y := ⟨_, rfl⟩
  obtain ⟨bx, hbx⟩ : ∃ y, w.heap.size = y := ⟨_, rfl⟩
  have hO := HO.out.alloc (.cells #[.string nm, .int .i64 kd, .int .i64 tt, .int .i64 ad, .string to] 34)
  rw [hx1, hbx] at hO
  replace HO := Lib.hid (show Own w none0 x1 [blkR bx (.cells #[.string nm, .int .i64 kd, .int .i64 tt, .int .i64 ad, .string to] 34)] from hO)
  clear hO
  have z0_0 : x1.cell? ⟨bx, 0, none⟩ = some (.string nm) := HO.out.cell 0 rfl 0 rfl
  have z0_1 : x1.cell? ⟨bx, 1, none⟩ = some (.int .i64 kd) := HO.out.cell 0 rfl 1 rfl
  have z0_2 : x1.cell? ⟨bx, 2, none⟩ = some (.int .i64 tt) := HO.out.cell 0 rfl 2 rfl
  have z0_3 : x1.cell? ⟨bx, 3, none⟩ = some (.int .i64 ad) := HO.out.cell 0 rfl 3 rfl
  have z0_4 : x1.cell? ⟨bx, 4, none⟩ = some (.string to) := HO.out.cell 0 rfl 4 rfl
  go_enter Tryd.func25, Tryd.ntmps25
  go_wp2_with fail
  refine (o_still HO.out (vn19_r HN.out _)).mono ?_
  rintro e x2 ⟨rfl, hO, -⟩
  replace HO := Lib.hid (show Own w none0 x2 [blkR bx (.cells #[.string nm, .int .i64 kd, .int .i64 tt, .int .i64 ad, .string to] 34)] from hO)
  clear hO
  clear hx1 hbx z0_0 z0_1 z0_2 z0_3 z0_4
  have z0_0 : x2.cell? ⟨bx, 0, none⟩ = some (.string nm) := HO.out.cell 0 rfl 0 rfl
  have z0_1 : x2.cell? ⟨bx, 1, none⟩ = some (.int .i64 kd) := HO.out.cell 0 rfl 1 rfl
  have z0_2 : x2.cell? ⟨bx, 2, none⟩ = some (.int .i64 tt) := HO.out.cell 0 rfl 2 rfl
  have z0_3 : x2.cell? ⟨bx, 3, none⟩ = some (.int .i64 ad) := HO.out.cell 0 rfl 3 rfl
  have z0_4 : x2.cell? ⟨bx, 4, none⟩ = some (.string to) := HO.out.cell 0 rfl 4 rfl
  go_wp2
  all_goals (go_ret; exact ⟨rfl, HO.out.below⟩)
set_option maxHeartbeats 1000000 in
theorem v20_3 (nm : ByteArray) (kd tt ad : Int) (to : ByteArray) (w : World) (hn : vname nm = true) (h0 : ¬ tt < 0) (h9 : 1000 < tt) :
    Calls Tryd.prog 25 #[.agg #[.string nm, .int .i64 kd, .int .i64 tt, .int .i64 ad, .string to]] w (crPost (.bool false) w) := by
  have HO := Lib.hid (Own.nil w none0)
  have HN := Lib.hid hn
  clear hn
  obtain ⟨x1, hx1⟩ : ∃ y, w.alloc (.cells #[.string nm, .int .i64 kd, .int .i64 tt, .int .i64 ad, .string to] 34) = y := ⟨_, rfl⟩
  obtain ⟨bx, hbx⟩ : ∃ y, w.heap.size = y := ⟨_, rfl⟩
  have hO := HO.out.alloc (.cells #[.string nm, .int .i64 kd, .int .i64 tt, .int .i64 ad, .string to] 34)
  rw [hx1, hbx] at hO
  replace HO := Lib.hid (show Own w none0 x1 [blkR bx (.cells #[.string nm, .int .i64 kd, .int .i64 tt, .int .i64 ad, .string to] 34)] from hO)
  clear hO
  have z0_0 : x1.cell? ⟨bx, 0, none⟩ = some (.string nm) := HO.out.cell 0 rfl 0 rfl
  have z0_1 : x1.cell? ⟨bx, 1, none⟩ = some (.int .i64 kd) := HO.out.cell 0 rfl 1 rfl
  have z0_2 : x1.cell? ⟨bx, 2, none⟩ = some (.int .i64 tt) := HO.out.cell 0 rfl 2 rfl
  have z0_3 : x1.cell? ⟨bx, 3, none⟩ = some (.int .i64 ad) := HO.out.cell 0 rfl 3 rfl
  have z0_4 : x1.cell? ⟨bx, 4, none⟩ = some (.string to) := HO.out.cell 0 rfl 4 rfl
  go_enter Tryd.func25, Tryd.ntmps25
  go_wp2_with fail
  refine (o_still HO.out (vn19_r HN.out _)).mono ?_
  rintro e x2 ⟨rfl, hO, -⟩
  replace HO := Lib.hid (show Own w none0 x2 [blkR bx (.cells #[.string nm, .int .i64 kd, .int .i64 tt, .int .i64 ad, .string to] 34)] from hO)
  clear hO
  clear hx1 hbx z0_0 z0_1 z0_2 z0_3 z0_4
  have z0_0 : x2.cell? ⟨bx, 0, none⟩ = some (.string nm) := HO.out.cell 0 rfl 0 rfl
  have z0_1 : x2.cell? ⟨bx, 1, none⟩ = some (.int .i64 kd) := HO.out.cell 0 rfl 1 rfl
  have z0_2 : x2.cell? ⟨bx, 2, none⟩ = some (.int .i64 tt) := HO.out.cell 0 rfl 2 rfl
  have z0_3 : x2.cell? ⟨bx, 3, none⟩ = some (.int .i64 ad) := HO.out.cell 0 rfl 3 rfl
  have z0_4 : x2.cell? ⟨bx, 4, none⟩ = some (.string to) := HO.out.cell 0 rfl 4 rfl
  go_wp2
  all_goals (go_ret; exact ⟨rfl, HO.out.below⟩)
set_option maxHeartbeats 1000000 in
theorem v20_4 (nm : ByteArray) (kd tt ad : Int) (to : ByteArray) (w : World) (hn : vname nm = true)(h0 : ¬ tt < 0) (h9 : ¬ 1000 < tt) (h1 : kd = 1) (h2 : adrOk ad = false) :
    Calls Tryd.prog 25 #[.agg #[.string nm, .int .i64 kd, .int .i64 tt, .int .i64 ad, .string to]] w (crPost (.bool false) w) := by
  have HO := Lib.hid (Own.nil w none0)
  subst h1
  have HN := Lib.hid hn
  clear hn
  have H2 := Lib.hid h2
  clear h2
  obtain ⟨x1, hx1⟩ : ∃ y, w.alloc (.cells #[.string nm, .int .i64 1, .int .i64 tt, .int .i64 ad, .string to] 34) = y := ⟨_, rfl⟩
  obtain ⟨bx, hbx⟩ : ∃ y, w.heap.size = y := ⟨_, rfl⟩
  have hO := HO.out.alloc (.cells #[.string nm, .int .i64 1, .int .i64 tt, .int .i64 ad, .string to] 34)
  rw [hx1, hbx] at hO
  replace HO := Lib.hid (show Own w none0 x1 [blkR bx (.cells #[.string nm, .int .i64 1, .int .i64 tt, .int .i64 ad, .string to] 34)] from hO)
  clear hO
  have z0_0 : x1.cell? ⟨bx, 0, none⟩ = some (.string nm) := HO.out.cell 0 rfl 0 rfl
  have z0_1 : x1.cell? ⟨bx, 1, none⟩ = some (.int .i64 1) := HO.out.cell 0 rfl 1 rfl
  have z0_2 : x1.cell? ⟨bx, 2, none⟩ = some (.int .i64 tt) := HO.out.cell 0 rfl 2 rfl
  have z0_3 : x1.cell? ⟨bx, 3, none⟩ = some (.int .i64 ad) := HO.out.cell 0 rfl 3 rfl
  have z0_4 : x1.cell? ⟨bx, 4, none⟩ = some (.string to) := HO.out.cell 0 rfl 4 rfl
  go_enter Tryd.func25, Tryd.ntmps25
  go_wp2_with fail
  refine (o_still HO.out (vn19_r HN.out _)).mono ?_
  rintro e x2 ⟨rfl, hO, -⟩
  replace HO := Lib.hid (show Own w none0 x2 [blkR bx (.cells #[.string nm, .int .i64 1, .int .i64 tt, .int .i64 ad, .string to] 34)] from hO)
  clear hO
  clear hx1 hbx z0_0 z0_1 z0_2 z0_3 z0_4
  have z0_0 : x2.cell? ⟨bx, 0, none⟩ = some (.string nm) := HO.out.cell 0 rfl 0 rfl
  have z0_1 : x2.cell? ⟨bx, 1, none⟩ = some (.int .i64 1) := HO.out.cell 0 rfl 1 rfl
  have z0_2 : x2.cell? ⟨bx, 2, none⟩ = some (.int .i64 tt) := HO.out.cell 0 rfl 2 rfl
  have z0_3 : x2.cell? ⟨bx, 3, none⟩ = some (.int .i64 ad) := HO.out.cell 0 rfl 3 rfl
  have z0_4 : x2.cell? ⟨bx, 4, none⟩ = some (.string to) := HO.out.cell 0 rfl 4 rfl
  go_wp2_with fail
  refine (adr3_r H2.out _).mono ?_
  rintro e xp ⟨rfl, rfl⟩
  go_wp2
  all_goals (go_ret; exact ⟨rfl, HO.out.below⟩)
set_option maxHeartbeats 1000000 in
theorem v20_5 (nm : ByteArray) (kd tt ad : Int) (to : ByteArray) (w : World) (hn : vname nm = true)(h0 : ¬ tt < 0) (h9 : ¬ 1000 < tt) (h1 : kd = 1) (h2 : adrOk ad = true) (h3 : to.toList = []) :
    Calls Tryd.prog 25 #[.agg #[.string nm, .int .i64 kd, .int .i64 tt, .int .i64 ad, .string to]] w (crPost (.bool true) w) := by
  have HO := Lib.hid (Own.nil w none0)
  subst h1
  have HN := Lib.hid hn
  clear hn
  have H2 := Lib.hid h2
  clear h2
  obtain ⟨x1, hx1⟩ : ∃ y, w.alloc (.cells #[.string nm, .int .i64 1, .int .i64 tt, .int .i64 ad, .string to] 34) = y := ⟨_, rfl⟩
  obtain ⟨bx, hbx⟩ : ∃ y, w.heap.size = y := ⟨_, rfl⟩
  have hO := HO.out.alloc (.cells #[.string nm, .int .i64 1, .int .i64 tt, .int .i64 ad, .string to] 34)
  rw [hx1, hbx] at hO
  replace HO := Lib.hid (show Own w none0 x1 [blkR bx (.cells #[.string nm, .int .i64 1, .int .i64 tt, .int .i64 ad, .string to] 34)] from hO)
  clear hO
  have z0_0 : x1.cell? ⟨bx, 0, none⟩ = some (.string nm) := HO.out.cell 0 rfl 0 rfl
  have z0_1 : x1.cell? ⟨bx, 1, none⟩ = some (.int .i64 1) := HO.out.cell 0 rfl 1 rfl
  have z0_2 : x1.cell? ⟨bx, 2, none⟩ = some (.int .i64 tt) := HO.out.cell 0 rfl 2 rfl
  have z0_3 : x1.cell? ⟨bx, 3, none⟩ = some (.int .i64 ad) := HO.out.cell 0 rfl 3 rfl
  have z0_4 : x1.cell? ⟨bx, 4, none⟩ = some (.string to) := HO.out.cell 0 rfl 4 rfl
  go_enter Tryd.func25, Tryd.ntmps25
  go_wp2_with fail
  refine (o_still HO.out (vn19_r HN.out _)).mono ?_
  rintro e x2 ⟨rfl, hO, -⟩
  replace HO := Lib.hid (show Own w none0 x2 [blkR bx (.cells #[.string nm, .int .i64 1, .int .i64 tt, .int .i64 ad, .string to] 34)] from hO)
  clear hO
  clear hx1 hbx z0_0 z0_1 z0_2 z0_3 z0_4
  have z0_0 : x2.cell? ⟨bx, 0, none⟩ = some (.string nm) := HO.out.cell 0 rfl 0 rfl
  have z0_1 : x2.cell? ⟨bx, 1, none⟩ = some (.int .i64 1) := HO.out.cell 0 rfl 1 rfl
  have z0_2 : x2.cell? ⟨bx, 2, none⟩ = some (.int .i64 tt) := HO.out.cell 0 rfl 2 rfl
  have z0_3 : x2.cell? ⟨bx, 3, none⟩ = some (.int .i64 ad) := HO.out.cell 0 rfl 3 rfl
  have z0_4 : x2.cell? ⟨bx, 4, none⟩ = some (.string to) := HO.out.cell 0 rfl 4 rfl
  go_wp2_with fail
  refine (adr3_r H2.out _).mono ?_
  rintro e xp ⟨rfl, rfl⟩
  go_wp2
  all_goals (go_ret; exact ⟨rfl, HO.out.below⟩)
set_option maxHeartbeats 1000000 in
theorem v20_6 (nm : ByteArray) (kd tt ad : Int) (to : ByteArray) (w : World) (hn : vname nm = true)(h0 : ¬ tt < 0) (h9 : ¬ 1000 < tt) (h1 : kd = 1) (h2 : adrOk ad = true) (h3 : to.toList ≠ []) :
    Calls Tryd.prog 25 #[.agg #[.string nm, .int .i64 kd, .int .i64 tt, .int .i64 ad, .string to]] w (crPost (.bool false) w) := by
  have HO := Lib.hid (Own.nil w none0)
  subst h1
  have h3b : to.toList.isEmpty = false := by simpa using h3
  have HN := Lib.hid hn
  clear hn
  have H2 := Lib.hid h2
  clear h2
  obtain ⟨x1, hx1⟩ : ∃ y, w.alloc (.cells #[.string nm, .int .i64 1, .int .i64 tt, .int .i64 ad, .string to] 34) = y := ⟨_, rfl⟩
  obtain ⟨bx, hbx⟩ : ∃ y, w.heap.size = y := ⟨_, rfl⟩
  have hO := HO.out.alloc (.cells #[.string nm, .int .i64 1, .int .i64 tt, .int .i64 ad, .string to] 34)
  rw [hx1, hbx] at hO
  replace HO := Lib.hid (show Own w none0 x1 [blkR bx (.cells #[.string nm, .int .i64 1, .int .i64 tt, .int .i64 ad, .string to] 34)] from hO)
  clear hO
  have z0_0 : x1.cell? ⟨bx, 0, none⟩ = some (.string nm) := HO.out.cell 0 rfl 0 rfl
  have z0_1 : x1.cell? ⟨bx, 1, none⟩ = some (.int .i64 1) := HO.out.cell 0 rfl 1 rfl
  have z0_2 : x1.cell? ⟨bx, 2, none⟩ = some (.int .i64 tt) := HO.out.cell 0 rfl 2 rfl
  have z0_3 : x1.cell? ⟨bx, 3, none⟩ = some (.int .i64 ad) := HO.out.cell 0 rfl 3 rfl
  have z0_4 : x1.cell? ⟨bx, 4, none⟩ = some (.string to) := HO.out.cell 0 rfl 4 rfl
  go_enter Tryd.func25, Tryd.ntmps25
  go_wp2_with fail
  refine (o_still HO.out (vn19_r HN.out _)).mono ?_
  rintro e x2 ⟨rfl, hO, -⟩
  replace HO := Lib.hid (show Own w none0 x2 [blkR bx (.cells #[.string nm, .int .i64 1, .int .i64 tt, .int .i64 ad, .string to] 34)] from hO)
  clear hO
  clear hx1 hbx z0_0 z0_1 z0_2 z0_3 z0_4
  have z0_0 : x2.cell? ⟨bx, 0, none⟩ = some (.string nm) := HO.out.cell 0 rfl 0 rfl
  have z0_1 : x2.cell? ⟨bx, 1, none⟩ = some (.int .i64 1) := HO.out.cell 0 rfl 1 rfl
  have z0_2 : x2.cell? ⟨bx, 2, none⟩ = some (.int .i64 tt) := HO.out.cell 0 rfl 2 rfl
  have z0_3 : x2.cell? ⟨bx, 3, none⟩ = some (.int .i64 ad) := HO.out.cell 0 rfl 3 rfl
  have z0_4 : x2.cell? ⟨bx, 4, none⟩ = some (.string to) := HO.out.cell 0 rfl 4 rfl
  go_wp2_with fail
  refine (adr3_r H2.out _).mono ?_
  rintro e xp ⟨rfl, rfl⟩
  go_wp2
  all_goals (go_ret; exact ⟨rfl, HO.out.below⟩)
set_option maxHeartbeats 1000000 in
theorem v20_7 (nm : ByteArray) (kd tt ad : Int) (to : ByteArray) (w : World) (hn : vname nm = true)(h0 : ¬ tt < 0) (h9 : ¬ 1000 < tt) (h1 : kd = 2) (h2 : vname to = false) :
    Calls Tryd.prog 25 #[.agg #[.string nm, .int .i64 kd, .int .i64 tt, .int .i64 ad, .string to]] w (crPost (.bool false) w) := by
  have HO := Lib.hid (Own.nil w none0)
  subst h1
  have HN := Lib.hid hn
  clear hn
  have H2 := Lib.hid h2
  clear h2
  obtain ⟨x1, hx1⟩ : ∃ y, w.alloc (.cells #[.string nm, .int .i64 2, .int .i64 tt, .int .i64 ad, .string to] 34) = y := ⟨_, rfl⟩
  obtain ⟨bx, hbx⟩ : ∃ y, w.heap.size = y := ⟨_, rfl⟩
  have hO := HO.out.alloc (.cells #[.string nm, .int .i64 2, .int .i64 tt, .int .i64 ad, .string to] 34)
  rw [hx1, hbx] at hO
  replace HO := Lib.hid (show Own w none0 x1 [blkR bx (.cells #[.string nm, .int .i64 2, .int .i64 tt, .int .i64 ad, .string to] 34)] from hO)
  clear hO
  have z0_0 : x1.cell? ⟨bx, 0, none⟩ = some (.string nm) := HO.out.cell 0 rfl 0 rfl
  have z0_1 : x1.cell? ⟨bx, 1, none⟩ = some (.int .i64 2) := HO.out.cell 0 rfl 1 rfl
  have z0_2 : x1.cell? ⟨bx, 2, none⟩ = some (.int .i64 tt) := HO.out.cell 0 rfl 2 rfl
  have z0_3 : x1.cell? ⟨bx, 3, none⟩ = some (.int .i64 ad) := HO.out.cell 0 rfl 3 rfl
  have z0_4 : x1.cell? ⟨bx, 4, none⟩ = some (.string to) := HO.out.cell 0 rfl 4 rfl
  go_enter Tryd.func25, Tryd.ntmps25
  go_wp2_with fail
  refine (o_still HO.out (vn19_r HN.out _)).mono ?_
  rintro e x2 ⟨rfl, hO, -⟩
  replace HO := Lib.hid (show Own w none0 x2 [blkR bx (.cells #[.string nm, .int .i64 2, .int .i64 tt, .int .i64 ad, .string to] 34)] from hO)
  clear hO
  clear hx1 hbx z0_0 z0_1 z0_2 z0_3 z0_4
  have z0_0 : x2.cell? ⟨bx, 0, none⟩ = some (.string nm) := HO.out.cell 0 rfl 0 rfl
  have z0_1 : x2.cell? ⟨bx, 1, none⟩ = some (.int .i64 2) := HO.out.cell 0 rfl 1 rfl
  have z0_2 : x2.cell? ⟨bx, 2, none⟩ = some (.int .i64 tt) := HO.out.cell 0 rfl 2 rfl
  have z0_3 : x2.cell? ⟨bx, 3, none⟩ = some (.int .i64 ad) := HO.out.cell 0 rfl 3 rfl
  have z0_4 : x2.cell? ⟨bx, 4, none⟩ = some (.string to) := HO.out.cell 0 rfl 4 rfl
  go_wp2_with fail
  refine (o_still HO.out (vn19_r H2.out _)).mono ?_
  rintro e x3 ⟨rfl, hO, -⟩
  replace HO := Lib.hid (show Own w none0 x3 [blkR bx (.cells #[.string nm, .int .i64 2, .int .i64 tt, .int .i64 ad, .string to] 34)] from hO)
  clear hO
  clear z0_0 z0_1 z0_2 z0_3 z0_4
  have z0_0 : x3.cell? ⟨bx, 0, none⟩ = some (.string nm) := HO.out.cell 0 rfl 0 rfl
  have z0_1 : x3.cell? ⟨bx, 1, none⟩ = some (.int .i64 2) := HO.out.cell 0 rfl 1 rfl
  have z0_2 : x3.cell? ⟨bx, 2, none⟩ = some (.int .i64 tt) := HO.out.cell 0 rfl 2 rfl
  have z0_3 : x3.cell? ⟨bx, 3, none⟩ = some (.int .i64 ad) := HO.out.cell 0 rfl 3 rfl
  have z0_4 : x3.cell? ⟨bx, 4, none⟩ = some (.string to) := HO.out.cell 0 rfl 4 rfl
  go_wp2
  all_goals (go_ret; exact ⟨rfl, HO.out.below⟩)
set_option maxHeartbeats 1000000 in
theorem v20_8 (nm : ByteArray) (kd tt ad : Int) (to : ByteArray) (w : World) (hn : vname nm = true)(h0 : ¬ tt < 0) (h9 : ¬ 1000 < tt) (h1 : kd = 2) (h2 : vname to = true) (h3 : ad = 0) :
    Calls Tryd.prog 25 #[.agg #[.string nm, .int .i64 kd, .int .i64 tt, .int .i64 ad, .string to]] w (crPost (.bool true) w) := by
  have HO := Lib.hid (Own.nil w none0)
  subst h1 h3
  have HN := Lib.hid hn
  clear hn
  have H2 := Lib.hid h2
  clear h2
  obtain ⟨x1, hx1⟩ : ∃ y, w.alloc (.cells #[.string nm, .int .i64 2, .int .i64 tt, .int .i64 0, .string to] 34) = y := ⟨_, rfl⟩
  obtain ⟨bx, hbx⟩ : ∃ y, w.heap.size = y := ⟨_, rfl⟩
  have hO := HO.out.alloc (.cells #[.string nm, .int .i64 2, .int .i64 tt, .int .i64 0, .string to] 34)
  rw [hx1, hbx] at hO
  replace HO := Lib.hid (show Own w none0 x1 [blkR bx (.cells #[.string nm, .int .i64 2, .int .i64 tt, .int .i64 0, .string to] 34)] from hO)
  clear hO
  have z0_0 : x1.cell? ⟨bx, 0, none⟩ = some (.string nm) := HO.out.cell 0 rfl 0 rfl
  have z0_1 : x1.cell? ⟨bx, 1, none⟩ = some (.int .i64 2) := HO.out.cell 0 rfl 1 rfl
  have z0_2 : x1.cell? ⟨bx, 2, none⟩ = some (.int .i64 tt) := HO.out.cell 0 rfl 2 rfl
  have z0_3 : x1.cell? ⟨bx, 3, none⟩ = some (.int .i64 0) := HO.out.cell 0 rfl 3 rfl
  have z0_4 : x1.cell? ⟨bx, 4, none⟩ = some (.string to) := HO.out.cell 0 rfl 4 rfl
  go_enter Tryd.func25, Tryd.ntmps25
  go_wp2_with fail
  refine (o_still HO.out (vn19_r HN.out _)).mono ?_
  rintro e x2 ⟨rfl, hO, -⟩
  replace HO := Lib.hid (show Own w none0 x2 [blkR bx (.cells #[.string nm, .int .i64 2, .int .i64 tt, .int .i64 0, .string to] 34)] from hO)
  clear hO
  clear hx1 hbx z0_0 z0_1 z0_2 z0_3 z0_4
  have z0_0 : x2.cell? ⟨bx, 0, none⟩ = some (.string nm) := HO.out.cell 0 rfl 0 rfl
  have z0_1 : x2.cell? ⟨bx, 1, none⟩ = some (.int .i64 2) := HO.out.cell 0 rfl 1 rfl
  have z0_2 : x2.cell? ⟨bx, 2, none⟩ = some (.int .i64 tt) := HO.out.cell 0 rfl 2 rfl
  have z0_3 : x2.cell? ⟨bx, 3, none⟩ = some (.int .i64 0) := HO.out.cell 0 rfl 3 rfl
  have z0_4 : x2.cell? ⟨bx, 4, none⟩ = some (.string to) := HO.out.cell 0 rfl 4 rfl
  go_wp2_with fail
  refine (o_still HO.out (vn19_r H2.out _)).mono ?_
  rintro e x3 ⟨rfl, hO, -⟩
  replace HO := Lib.hid (show Own w none0 x3 [blkR bx (.cells #[.string nm, .int .i64 2, .int .i64 tt, .int .i64 0, .string to] 34)] from hO)
  clear hO
  clear z0_0 z0_1 z0_2 z0_3 z0_4
  have z0_0 : x3.cell? ⟨bx, 0, none⟩ = some (.string nm) := HO.out.cell 0 rfl 0 rfl
  have z0_1 : x3.cell? ⟨bx, 1, none⟩ = some (.int .i64 2) := HO.out.cell 0 rfl 1 rfl
  have z0_2 : x3.cell? ⟨bx, 2, none⟩ = some (.int .i64 tt) := HO.out.cell 0 rfl 2 rfl
  have z0_3 : x3.cell? ⟨bx, 3, none⟩ = some (.int .i64 0) := HO.out.cell 0 rfl 3 rfl
  have z0_4 : x3.cell? ⟨bx, 4, none⟩ = some (.string to) := HO.out.cell 0 rfl 4 rfl
  go_wp2
  all_goals (go_ret; exact ⟨rfl, HO.out.below⟩)
set_option maxHeartbeats 1000000 in
theorem v20_9 (nm : ByteArray) (kd tt ad : Int) (to : ByteArray) (w : World) (hn : vname nm = true)(h0 : ¬ tt < 0) (h9 : ¬ 1000 < tt) (h1 : kd = 2) (h2 : vname to = true) (h3 : ad ≠ 0) :
    Calls Tryd.prog 25 #[.agg #[.string nm, .int .i64 kd, .int .i64 tt, .int .i64 ad, .string to]] w (crPost (.bool false) w) := by
  have HO := Lib.hid (Own.nil w none0)
  subst h1
  have h3b : (ad == 0) = false := by simpa using h3
  have HN := Lib.hid hn
  clear hn
  have H2 := Lib.hid h2
  clear h2
  obtain ⟨x1, hx1⟩ : ∃ y, w.alloc (.cells #[.string nm, .int .i64 2, .int .i64 tt, .int .i64 ad, .string to] 34) = y := ⟨_, rfl⟩
  obtain ⟨bx, hbx⟩ : ∃ y, w.heap.size = y := ⟨_, rfl⟩
  have hO := HO.out.alloc (.cells #[.string nm, .int .i64 2, .int .i64 tt, .int .i64 ad, .string to] 34)
  rw [hx1, hbx] at hO
  replace HO := Lib.hid (show Own w none0 x1 [blkR bx (.cells #[.string nm, .int .i64 2, .int .i64 tt, .int .i64 ad, .string to] 34)] from hO)
  clear hO
  have z0_0 : x1.cell? ⟨bx, 0, none⟩ = some (.string nm) := HO.out.cell 0 rfl 0 rfl
  have z0_1 : x1.cell? ⟨bx, 1, none⟩ = some (.int .i64 2) := HO.out.cell 0 rfl 1 rfl
  have z0_2 : x1.cell? ⟨bx, 2, none⟩ = some (.int .i64 tt) := HO.out.cell 0 rfl 2 rfl
  have z0_3 : x1.cell? ⟨bx, 3, none⟩ = some (.int .i64 ad) := HO.out.cell 0 rfl 3 rfl
  have z0_4 : x1.cell? ⟨bx, 4, none⟩ = some (.string to) := HO.out.cell 0 rfl 4 rfl
  go_enter Tryd.func25, Tryd.ntmps25
  go_wp2_with fail
  refine (o_still HO.out (vn19_r HN.out _)).mono ?_
  rintro e x2 ⟨rfl, hO, -⟩
  replace HO := Lib.hid (show Own w none0 x2 [blkR bx (.cells #[.string nm, .int .i64 2, .int .i64 tt, .int .i64 ad, .string to] 34)] from hO)
  clear hO
  clear hx1 hbx z0_0 z0_1 z0_2 z0_3 z0_4
  have z0_0 : x2.cell? ⟨bx, 0, none⟩ = some (.string nm) := HO.out.cell 0 rfl 0 rfl
  have z0_1 : x2.cell? ⟨bx, 1, none⟩ = some (.int .i64 2) := HO.out.cell 0 rfl 1 rfl
  have z0_2 : x2.cell? ⟨bx, 2, none⟩ = some (.int .i64 tt) := HO.out.cell 0 rfl 2 rfl
  have z0_3 : x2.cell? ⟨bx, 3, none⟩ = some (.int .i64 ad) := HO.out.cell 0 rfl 3 rfl
  have z0_4 : x2.cell? ⟨bx, 4, none⟩ = some (.string to) := HO.out.cell 0 rfl 4 rfl
  go_wp2_with fail
  refine (o_still HO.out (vn19_r H2.out _)).mono ?_
  rintro e x3 ⟨rfl, hO, -⟩
  replace HO := Lib.hid (show Own w none0 x3 [blkR bx (.cells #[.string nm, .int .i64 2, .int .i64 tt, .int .i64 ad, .string to] 34)] from hO)
  clear hO
  clear z0_0 z0_1 z0_2 z0_3 z0_4
  have z0_0 : x3.cell? ⟨bx, 0, none⟩ = some (.string nm) := HO.out.cell 0 rfl 0 rfl
  have z0_1 : x3.cell? ⟨bx, 1, none⟩ = some (.int .i64 2) := HO.out.cell 0 rfl 1 rfl
  have z0_2 : x3.cell? ⟨bx, 2, none⟩ = some (.int .i64 tt) := HO.out.cell 0 rfl 2 rfl
  have z0_3 : x3.cell? ⟨bx, 3, none⟩ = some (.int .i64 ad) := HO.out.cell 0 rfl 3 rfl
  have z0_4 : x3.cell? ⟨bx, 4, none⟩ = some (.string to) := HO.out.cell 0 rfl 4 rfl
  go_wp2
  all_goals (go_ret; exact ⟨rfl, HO.out.below⟩)
set_option maxHeartbeats 1000000 in
theorem v20_10 (nm : ByteArray) (kd tt ad : Int) (to : ByteArray) (w : World) (hn : vname nm = true)(h0 : ¬ tt < 0) (h9 : ¬ 1000 < tt) (h1 : kd ≠ 1) (h2 : kd ≠ 2) :
    Calls Tryd.prog 25 #[.agg #[.string nm, .int .i64 kd, .int .i64 tt, .int .i64 ad, .string to]] w (crPost (.bool false) w) := by
  have HO := Lib.hid (Own.nil w none0)
  have h1b : (kd == 1) = false := by simpa using h1
  have h2b : (kd == 2) = false := by simpa using h2
  have HN := Lib.hid hn
  clear hn
  obtain ⟨x1, hx1⟩ : ∃ y, w.alloc (.cells #[.string nm, .int .i64 kd, .int .i64 tt, .int .i64 ad, .string to] 34) = y := ⟨_, rfl⟩
  obtain ⟨bx, hbx⟩ : ∃ y, w.heap.size = y := ⟨_, rfl⟩
  have hO := HO.out.alloc (.cells #[.string nm, .int .i64 kd, .int .i64 tt, .int .i64 ad, .string to] 34)
  rw [hx1, hbx] at hO
  replace HO := Lib.hid (show Own w none0 x1 [blkR bx (.cells #[.string nm, .int .i64 kd, .int .i64 tt, .int .i64 ad, .string to] 34)] from hO)
  clear hO
  have z0_0 : x1.cell? ⟨bx, 0, none⟩ = some (.string nm) := HO.out.cell 0 rfl 0 rfl
  have z0_1 : x1.cell? ⟨bx, 1, none⟩ = some (.int .i64 kd) := HO.out.cell 0 rfl 1 rfl
  have z0_2 : x1.cell? ⟨bx, 2, none⟩ = some (.int .i64 tt) := HO.out.cell 0 rfl 2 rfl
  have z0_3 : x1.cell? ⟨bx, 3, none⟩ = some (.int .i64 ad) := HO.out.cell 0 rfl 3 rfl
  have z0_4 : x1.cell? ⟨bx, 4, none⟩ = some (.string to) := HO.out.cell 0 rfl 4 rfl
  go_enter Tryd.func25, Tryd.ntmps25
  go_wp2_with fail
  refine (o_still HO.out (vn19_r HN.out _)).mono ?_
  rintro e x2 ⟨rfl, hO, -⟩
  replace HO := Lib.hid (show Own w none0 x2 [blkR bx (.cells #[.string nm, .int .i64 kd, .int .i64 tt, .int .i64 ad, .string to] 34)] from hO)
  clear hO
  clear hx1 hbx z0_0 z0_1 z0_2 z0_3 z0_4
  have z0_0 : x2.cell? ⟨bx, 0, none⟩ = some (.string nm) := HO.out.cell 0 rfl 0 rfl
  have z0_1 : x2.cell? ⟨bx, 1, none⟩ = some (.int .i64 kd) := HO.out.cell 0 rfl 1 rfl
  have z0_2 : x2.cell? ⟨bx, 2, none⟩ = some (.int .i64 tt) := HO.out.cell 0 rfl 2 rfl
  have z0_3 : x2.cell? ⟨bx, 3, none⟩ = some (.int .i64 ad) := HO.out.cell 0 rfl 3 rfl
  have z0_4 : x2.cell? ⟨bx, 4, none⟩ = some (.string to) := HO.out.cell 0 rfl 4 rfl
  go_wp2
  all_goals (go_ret; exact ⟨rfl, HO.out.below⟩)
theorem valid20_any (r : Rc) (w : World) : Calls Tryd.prog 25 #[rcV r] w (crPost (.bool (vldB r)) w) := by
  obtain ⟨nm, kd, tt, ad, to⟩ := r
  have e : ∀ b, b = vldB ⟨nm, kd, tt, ad, to⟩ → Calls Tryd.prog 25 #[rcV ⟨nm, kd, tt, ad, to⟩] w (crPost (.bool b) w) → Calls Tryd.prog 25 #[rcV ⟨nm, kd, tt, ad, to⟩] w (crPost (.bool (vldB ⟨nm, kd, tt, ad, to⟩)) w) := fun b hb h => hb ▸ h
  cases hn : vname nm with
  | false => exact e false (by simp [vldB, hn]) (v20_1 nm kd tt ad to w hn)
  | true =>
    by_cases h0 : tt < 0
    · exact e false (by simp [vldB, hn]; omega) (v20_2 nm kd tt ad to w hn h0)
    by_cases h9 : 1000 < tt
    · exact e false (by simp [vldB, hn]; omega) (v20_3 nm kd tt ad to w hn h0 h9)
    have g0 : 0 ≤ tt := by omega
    have g9 : tt ≤ 1000 := by omega
    by_cases h1 : kd = 1
    · cases h2 : adrOk ad with
      | false => exact e false (by simp [vldB, recA, hn, g0, g9, h1, h2]) (v20_4 nm kd tt ad to w hn h0 h9 h1 h2)
      | true =>
        by_cases h3 : to.toList = []
        · exact e true (by simp [vldB, recA, hn, g0, g9, h1, h2, h3]) (v20_5 nm kd tt ad to w hn h0 h9 h1 h2 h3)
        · exact e false (by simp [vldB, recA, hn, g0, g9, h1, h2, h3]) (v20_6 nm kd tt ad to w hn h0 h9 h1 h2 h3)
    · by_cases h2 : kd = 2
      · cases h3 : vname to with
        | false => exact e false (by simp [vldB, recA, hn, g0, g9, h2, h3]) (v20_7 nm kd tt ad to w hn h0 h9 h2 h3)
        | true =>
          by_cases h4 : ad = 0
          · exact e true (by simp [vldB, recA, hn, g0, g9, h2, h3, h4]) (v20_8 nm kd tt ad to w hn h0 h9 h2 h3 h4)
          · exact e false (by simp [vldB, recA, hn, g0, g9, h2, h3, h4]) (v20_9 nm kd tt ad to w hn h0 h9 h2 h3 h4)
      · exact e false (by simp [vldB, recA, h1, h2]) (v20_10 nm kd tt ad to w hn h0 h9 h1 h2)
theorem valid20_r {r : Rc} {b : Bool} (h : vldB r = b) (w : World) : Calls Tryd.prog 25 #[rcV r] w fun e w' => e = .returned (.bool b) ∧ Below w.heap.size w w' := h ▸ valid20_any r w
theorem vld_ok {r : Rc} (hn : vname r.nm = true) (h0 : 0 ≤ r.tt) (h9 : r.tt ≤ 1000) (h : recA r = true) : vldB r = true := by simp [vldB, hn, h0, h9, h]

end Go.Proofs.YtapeljiopbkjlaaDoor
