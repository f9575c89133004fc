/- Contract of admits. Printed by wip/tools/gen22f.py. -/
import Derived.Test.YtjngfhgcifhioaaFw5
import Derived.Test.YtjngfhgcifhioaaOwnC
namespace Go.Proofs.Ytjngfhgcifhioaa
open Go.RowKit Go.Sort
set_option linter.unusedVariables false
set_option maxRecDepth 100000

theorem mtB_eq (x : Fl) (inn : Bool) (r : Rl) : mtB ⟨inn, x.pr, x.th, if inn then x.hp else x.tp⟩ r = matchR x inn r := by
  unfold mtB matchR; rfl
theorem admit_hit {rl : List Rl} {x : Fl} {inn : Bool} {i : Nat} (hi : i < rl.length) (h : rl.findIdx? (matchR x inn) = some i) : admitF rl x inn = rl[i].ps := by
  unfold admitF
  rw [List.findIdx?_eq_some_iff_getElem] at h
  obtain ⟨_, h2, h3⟩ := h
  have : rl.find? (matchR x inn) = some rl[i] := by
    rw [List.find?_eq_some_iff_getElem]
    exact ⟨h2, i, hi, rfl, fun j hj => by simpa using h3 j hj⟩
  rw [this]
theorem admit_none {rl : List Rl} {x : Fl} {inn : Bool} (h : rl.findIdx? (matchR x inn) = none) : admitF rl x inn = !inn := by
  unfold admitF
  have : rl.find? (matchR x inn) = none := by
    rw [List.findIdx?_eq_none_iff] at h
    rw [List.find?_eq_none]
    intro y hy
    simpa using h y hy
  rw [this]
theorem ownsRow_below2 {w w' : World} {base : Nat} {e : TypeId} {size : Nat} {v : Value} {n : Nat} {xs : List Value} (hb : Below w.heap.size w w') (h : w.ownsRow base e size v n xs) : w'.ownsRow base e size v n xs := (Upd.of_below (F := fun _ => False) hb).row h (fun _ _ h => h)
set_option maxRecDepth 100000 in
set_option maxHeartbeats 4000000 in
theorem admits_any {w : World} {f : Nat} {vr om : Value} {ins : Int} {rl : List Rl} (hb : w.heap[f]? = some (.cells #[vr, om, .int .i64 ins] 77)) (hr : w.ownsRow 0 74 7 vr rl.length (rl.flatMap cRl)) (hl : rl.length ≤ 1000) (x : Fl) (inn : Bool) :
    Calls Try.prog 43 #[.pointer (some ⟨f, 0, none⟩), flV x, .bool inn] w fun e w' => e = .returned (.bool (admitF rl x inn)) ∧ Below w.heap.size w w' := by
  have HFB := Lib.hid hb
  have HR := Lib.hid hr
  obtain ⟨a, cap, hv, hcell⟩ := row_at (c := cRl) (fun x => rfl) hr rfl
  have HC := Lib.hid hcell
  subst hv
  have HXM := Lib.hid (fun (i : Nat) (hi : i < rl.length) (h : rl.findIdx? (matchR x inn) = some i) => admit_hit hi h)
  have HXN := Lib.hid (admit_none (rl := rl) (x := x) (inn := inn))
  have HMT := Lib.hid (show mtB ⟨inn, x.pr, x.th, if inn then x.hp else x.tp⟩ = matchR x inn from funext (mtB_eq x inn))
  clear hb hr hcell
  obtain ⟨pr, he, hp, th, tp, sy, fi, rs, sq⟩ := x
  have HO := Lib.hid (show Own w none0 w [] from Own.nil w none0)
  obtain ⟨x1, hx1⟩ : ∃ y, w.alloc (.cells #[.int .i64 pr, .int .i64 he, .int .i64 hp, .int .i64 th, .int .i64 tp, .bool sy, .bool fi, .bool rs, .int .i64 sq] 37) = y := ⟨_, rfl⟩
  obtain ⟨bf, hbf⟩ : ∃ y, w.heap.size = y := ⟨_, rfl⟩
  have hO := HO.out.alloc (.cells #[.int .i64 pr, .int .i64 he, .int .i64 hp, .int .i64 th, .int .i64 tp, .bool sy, .bool fi, .bool rs, .int .i64 sq] 37)
  rw [hx1, hbf] at hO
  replace HO := Lib.hid (show Own w none0 x1 [blkR bf (.cells #[.int .i64 pr, .int .i64 he, .int .i64 hp, .int .i64 th, .int .i64 tp, .bool sy, .bool fi, .bool rs, .int .i64 sq] 37)] from hO)
  clear hO
  obtain ⟨x2, hx2⟩ : ∃ y, x1.alloc (.cells #[.bool inn] 4) = y := ⟨_, rfl⟩
  obtain ⟨bi, hbi⟩ : ∃ y, x1.heap.size = y := ⟨_, rfl⟩
  have hO := HO.out.alloc (.cells #[.bool inn] 4)
  rw [hx2, hbi] at hO
  replace HO := Lib.hid (show Own w none0 x2 [blkR bf (.cells #[.int .i64 pr, .int .i64 he, .int .i64 hp, .int .i64 th, .int .i64 tp, .bool sy, .bool fi, .bool rs, .int .i64 sq] 37), blkR bi (.cells #[.bool inn] 4)] from hO)
  clear hO
  have z0_0 : x2.cell? ⟨bf, 0, none⟩ = some (.int .i64 pr) := HO.out.cell 0 rfl 0 rfl
  have z0_1 : x2.cell? ⟨bf, 1, none⟩ = some (.int .i64 he) := HO.out.cell 0 rfl 1 rfl
  have z0_2 : x2.cell? ⟨bf, 2, none⟩ = some (.int .i64 hp) := HO.out.cell 0 rfl 2 rfl
  have z0_3 : x2.cell? ⟨bf, 3, none⟩ = some (.int .i64 th) := HO.out.cell 0 rfl 3 rfl
  have z0_4 : x2.cell? ⟨bf, 4, none⟩ = some (.int .i64 tp) := HO.out.cell 0 rfl 4 rfl
  have z0_5 : x2.cell? ⟨bf, 5, none⟩ = some (.bool sy) := HO.out.cell 0 rfl 5 rfl
  have z0_6 : x2.cell? ⟨bf, 6, none⟩ = some (.bool fi) := HO.out.cell 0 rfl 6 rfl
  have z0_7 : x2.cell? ⟨bf, 7, none⟩ = some (.bool rs) := HO.out.cell 0 rfl 7 rfl
  have z0_8 : x2.cell? ⟨bf, 8, none⟩ = some (.int .i64 sq) := HO.out.cell 0 rfl 8 rfl
  obtain ⟨x3, hx3⟩ : ∃ y, x2.alloc (.cells #[.int .i64 tp] 3) = y := ⟨_, rfl⟩
  obtain ⟨bp, hbp⟩ : ∃ y, x2.heap.size = y := ⟨_, rfl⟩
  have hO := HO.out.alloc (.cells #[.int .i64 tp] 3)
  rw [hx3, hbp] at hO
  replace HO := Lib.hid (show Own w none0 x3 [blkR bf (.cells #[.int .i64 pr, .int .i64 he, .int .i64 hp, .int .i64 th, .int .i64 tp, .bool sy, .bool fi, .bool rs, .int .i64 sq] 37), blkR bi (.cells #[.bool inn] 4), blkR bp (.cells #[.int .i64 tp] 3)] from hO)
  clear hO
  cases inn with
  | false =>
    have z0_0t : x3.cell? ⟨bf, 0, none⟩ = some (.int .i64 pr) := HO.out.cell 0 rfl 0 rfl
    have z0_1t : x3.cell? ⟨bf, 1, none⟩ = some (.int .i64 he) := HO.out.cell 0 rfl 1 rfl
    have z0_2t : x3.cell? ⟨bf, 2, none⟩ = some (.int .i64 hp) := HO.out.cell 0 rfl 2 rfl
    have z0_3t : x3.cell? ⟨bf, 3, none⟩ = some (.int .i64 th) := HO.out.cell 0 rfl 3 rfl
    have z0_4t : x3.cell? ⟨bf, 4, none⟩ = some (.int .i64 tp) := HO.out.cell 0 rfl 4 rfl
    have z0_5t : x3.cell? ⟨bf, 5, none⟩ = some (.bool sy) := HO.out.cell 0 rfl 5 rfl
    have z0_6t : x3.cell? ⟨bf, 6, none⟩ = some (.bool fi) := HO.out.cell 0 rfl 6 rfl
    have z0_7t : x3.cell? ⟨bf, 7, none⟩ = some (.bool rs) := HO.out.cell 0 rfl 7 rfl
    have z0_8t : x3.cell? ⟨bf, 8, none⟩ = some (.int .i64 sq) := HO.out.cell 0 rfl 8 rfl
    have z1_0 : x3.cell? ⟨bi, 0, none⟩ = some (.bool false) := HO.out.cell 1 rfl 0 rfl
    have z2_0 : x3.cell? ⟨bp, 0, none⟩ = some (.int .i64 tp) := HO.out.cell 2 rfl 0 rfl
    have y2_0 : x3.frozen? ⟨bp, 0, none⟩ = false := HO.out.frz 2 rfl 0
    have cf : x3.cell? ⟨f, 0, none⟩ = some (.slice a rl.length cap) := keep HO.out.below (by simp [World.cell?, HFB.out])
    go_enter Try.func43, Try.ntmps43
    go_wp2_with fail
    have HIX := Lib.hid (indexM rl ⟨false, pr, th, tp⟩ bi bf bp ⟨HO.out.cell 1 rfl 0 rfl, HO.out.cell 0 rfl 0 rfl, HO.out.cell 0 rfl 3 rfl, HO.out.cell 2 rfl 0 rfl⟩ (ownsRow_below2 HO.out.below HR.out) hl)
    replace HMT := Lib.hid (show mtB ⟨false, pr, th, tp⟩ = matchR ⟨pr, he, hp, th, tp, sy, fi, rs, sq⟩ false from HMT.out)
    rw [HMT.out] at HIX
    clear hx1 hbf hx2 hbi z0_0 z0_1 z0_2 z0_3 z0_4 z0_5 z0_6 z0_7 z0_8 hx3 hbp z0_0t z0_1t z0_2t z0_3t z0_4t z0_5t z0_6t z0_7t z0_8t z1_0 z2_0 y2_0 cf
    refine HIX.out.mono ?_
    rintro e w5 ⟨rfl, hb⟩
    replace HO := Lib.hid (HO.out.stay hb)
    clear hb HIX
    have cf : w5.cell? ⟨f, 0, none⟩ = some (.slice a rl.length cap) := keep HO.out.below (by simp [World.cell?, HFB.out])
    have ci : w5.cell? ⟨bi, 0, none⟩ = some (.bool false) := HO.out.cell 1 rfl 0 rfl
    cases hfi : rl.findIdx? (matchR ⟨pr, he, hp, th, tp, sy, fi, rs, sq⟩ false) with
    | none =>
      have HA := Lib.hid (HXN.out hfi)
      have hix : ixF (matchR ⟨pr, he, hp, th, tp, sy, fi, rs, sq⟩ false) rl = -1 := by unfold ixF; rw [hfi]
      rw [hix]
      clear hix hfi
      go_wp2
      go_ret
      exact ⟨by rw [HA.out]; rfl, HO.out.below⟩
    | some i =>
      obtain ⟨hil, _⟩ := List.findIdx?_eq_some_iff_getElem.1 hfi
      have HA := Lib.hid (HXM.out i hil hfi)
      have hix : ixF (matchR ⟨pr, he, hp, th, tp, sy, fi, rs, sq⟩ false) rl = i := by unfold ixF; rw [hfi]
      rw [hix]
      obtain ⟨g, hg, hcc⟩ := HC.out (by omega)
      have hp6 : w5.cell? ⟨g, i * 7 + 6, none⟩ = some (.bool rl[i].ps) := keep HO.out.below (hcc i hil 6 (by decide))
      obtain ⟨ps, hps⟩ : ∃ p, rl[i].ps = p := ⟨_, rfl⟩
      rw [hps] at hp6 HA
      have hneg : decide ((i : Int) < 0) = false := by simp
      subst hg
      clear hix hfi hcc hps
      go_wp2
      go_ret
      exact ⟨by rw [HA.out]; rfl, HO.out.below⟩
  | true =>
    have z0_0t : x3.cell? ⟨bf, 0, none⟩ = some (.int .i64 pr) := HO.out.cell 0 rfl 0 rfl
    have z0_1t : x3.cell? ⟨bf, 1, none⟩ = some (.int .i64 he) := HO.out.cell 0 rfl 1 rfl
    have z0_2t : x3.cell? ⟨bf, 2, none⟩ = some (.int .i64 hp) := HO.out.cell 0 rfl 2 rfl
    have z0_3t : x3.cell? ⟨bf, 3, none⟩ = some (.int .i64 th) := HO.out.cell 0 rfl 3 rfl
    have z0_4t : x3.cell? ⟨bf, 4, none⟩ = some (.int .i64 tp) := HO.out.cell 0 rfl 4 rfl
    have z0_5t : x3.cell? ⟨bf, 5, none⟩ = some (.bool sy) := HO.out.cell 0 rfl 5 rfl
    have z0_6t : x3.cell? ⟨bf, 6, none⟩ = some (.bool fi) := HO.out.cell 0 rfl 6 rfl
    have z0_7t : x3.cell? ⟨bf, 7, none⟩ = some (.bool rs) := HO.out.cell 0 rfl 7 rfl
    have z0_8t : x3.cell? ⟨bf, 8, none⟩ = some (.int .i64 sq) := HO.out.cell 0 rfl 8 rfl
    have z1_0 : x3.cell? ⟨bi, 0, none⟩ = some (.bool true) := HO.out.cell 1 rfl 0 rfl
    have z2_0 : x3.cell? ⟨bp, 0, none⟩ = some (.int .i64 tp) := HO.out.cell 2 rfl 0 rfl
    have y2_0 : x3.frozen? ⟨bp, 0, none⟩ = false := HO.out.frz 2 rfl 0
    have cf : x3.cell? ⟨f, 0, none⟩ = some (.slice a rl.length cap) := keep HO.out.below (by simp [World.cell?, HFB.out])
    obtain ⟨x4, hx4⟩ : ∃ y, x3.setCell ⟨bp, 0, none⟩ (.int .i64 hp) = y := ⟨_, rfl⟩
    have hO := HO.out.setCell 2 rfl 0 (.int .i64 hp)
    rw [hx4] at hO
    replace HO := Lib.hid (show Own w none0 x4 [blkR bf (.cells #[.int .i64 pr, .int .i64 he, .int .i64 hp, .int .i64 th, .int .i64 tp, .bool sy, .bool fi, .bool rs, .int .i64 sq] 37), blkR bi (.cells #[.bool true] 4), blkR bp (.cells #[.int .i64 hp] 3)] from hO)
    clear hO
    have z0_0tt : x4.cell? ⟨bf, 0, none⟩ = some (.int .i64 pr) := HO.out.cell 0 rfl 0 rfl
    have z0_1tt : x4.cell? ⟨bf, 1, none⟩ = some (.int .i64 he) := HO.out.cell 0 rfl 1 rfl
    have z0_2tt : x4.cell? ⟨bf, 2, none⟩ = some (.int .i64 hp) := HO.out.cell 0 rfl 2 rfl
    have z0_3tt : x4.cell? ⟨bf, 3, none⟩ = some (.int .i64 th) := HO.out.cell 0 rfl 3 rfl
    have z0_4tt : x4.cell? ⟨bf, 4, none⟩ = some (.int .i64 tp) := HO.out.cell 0 rfl 4 rfl
    have z0_5tt : x4.cell? ⟨bf, 5, none⟩ = some (.bool sy) := HO.out.cell 0 rfl 5 rfl
    have z0_6tt : x4.cell? ⟨bf, 6, none⟩ = some (.bool fi) := HO.out.cell 0 rfl 6 rfl
    have z0_7tt : x4.cell? ⟨bf, 7, none⟩ = some (.bool rs) := HO.out.cell 0 rfl 7 rfl
    have z0_8tt : x4.cell? ⟨bf, 8, none⟩ = some (.int .i64 sq) := HO.out.cell 0 rfl 8 rfl
    have z1_0t : x4.cell? ⟨bi, 0, none⟩ = some (.bool true) := HO.out.cell 1 rfl 0 rfl
    have cf2 : x4.cell? ⟨f, 0, none⟩ = some (.slice a rl.length cap) := keep HO.out.below (by simp [World.cell?, HFB.out])
    go_enter Try.func43, Try.ntmps43
    go_wp2_with fail
    have HIX := Lib.hid (indexM rl ⟨true, pr, th, hp⟩ bi bf bp ⟨HO.out.cell 1 rfl 0 rfl, HO.out.cell 0 rfl 0 rfl, HO.out.cell 0 rfl 3 rfl, HO.out.cell 2 rfl 0 rfl⟩ (ownsRow_below2 HO.out.below HR.out) hl)
    replace HMT := Lib.hid (show mtB ⟨true, pr, th, hp⟩ = matchR ⟨pr, he, hp, th, tp, sy, fi, rs, sq⟩ true from HMT.out)
    rw [HMT.out] at HIX
    clear hx1 hbf hx2 hbi z0_0 z0_1 z0_2 z0_3 z0_4 z0_5 z0_6 z0_7 z0_8 hx3 hbp z0_0t z0_1t z0_2t z0_3t z0_4t z0_5t z0_6t z0_7t z0_8t z1_0 z2_0 y2_0 cf hx4 z0_0tt z0_1tt z0_2tt z0_3tt z0_4tt z0_5tt z0_6tt z0_7tt z0_8tt z1_0t cf2
    refine HIX.out.mono ?_
    rintro e w5 ⟨rfl, hb⟩
    replace HO := Lib.hid (HO.out.stay hb)
    clear hb HIX
    have cf : w5.cell? ⟨f, 0, none⟩ = some (.slice a rl.length cap) := keep HO.out.below (by simp [World.cell?, HFB.out])
    have ci : w5.cell? ⟨bi, 0, none⟩ = some (.bool true) := HO.out.cell 1 rfl 0 rfl
    cases hfi : rl.findIdx? (matchR ⟨pr, he, hp, th, tp, sy, fi, rs, sq⟩ true) with
    | none =>
      have HA := Lib.hid (HXN.out hfi)
      have hix : ixF (matchR ⟨pr, he, hp, th, tp, sy, fi, rs, sq⟩ true) rl = -1 := by unfold ixF; rw [hfi]
      rw [hix]
      clear hix hfi
      go_wp2
      go_ret
      exact ⟨by rw [HA.out]; rfl, HO.out.below⟩
    | some i =>
      obtain ⟨hil, _⟩ := List.findIdx?_eq_some_iff_getElem.1 hfi
      have HA := Lib.hid (HXM.out i hil hfi)
      have hix : ixF (matchR ⟨pr, he, hp, th, tp, sy, fi, rs, sq⟩ true) rl = i := by unfold ixF; rw [hfi]
      rw [hix]
      obtain ⟨g, hg, hcc⟩ := HC.out (by omega)
      have hp6 : w5.cell? ⟨g, i * 7 + 6, none⟩ = some (.bool rl[i].ps) := keep HO.out.below (hcc i hil 6 (by decide))
      obtain ⟨ps, hps⟩ : ∃ p, rl[i].ps = p := ⟨_, rfl⟩
      rw [hps] at hp6 HA
      have hneg : decide ((i : Int) < 0) = false := by simp
      subst hg
      clear hix hfi hcc hps
      go_wp2
      go_ret
      exact ⟨by rw [HA.out]; rfl, HO.out.below⟩

end Go.Proofs.Ytjngfhgcifhioaa
