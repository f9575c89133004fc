/- Contracts of package firewall: valid, keyOf, invalid. Printed by wip/tools/gen22a.py. -/
import Derived.Test.YtjngfhgcifhioaaFdat
namespace Go.Proofs.Ytjngfhgcifhioaa
open Go.RowKit Go.Sort
set_option linter.unusedVariables false
set_option maxRecDepth 100000

theorem valid_r {n : Int} {b : Bool} (h : validB n = b) (w : World) : Calls Try.prog 13 #[.int .i64 n] w fun e w' => e = .returned (.bool b) ∧ Below w.heap.size w w' := h ▸ valid_any n w
theorem port_any (n : Int) (w : World) : Calls Try.prog 57 #[.int .i64 n] w fun e w' => e = .returned (.bool (portB n)) ∧ w = w' := by
  by_cases h0 : 0 ≤ n
  · by_cases h1 : n ≤ 65535
    · have HP := Lib.hid (show portB n = true by simp [portB, h0, h1])
      go_enter Try.func57, Try.ntmps57
      go_wp2
      go_ret
      exact ⟨by rw [HP.out]; rfl, rfl⟩
    · have HP := Lib.hid (show portB n = false by simp [portB, h1])
      have hd : decide (n ≤ 65535) = false := by simpa using h1
      clear h1
      go_enter Try.func57, Try.ntmps57
      go_wp2
      go_ret
      exact ⟨by rw [HP.out]; rfl, rfl⟩
  · have HP := Lib.hid (show portB n = false by simp [portB, h0])
    have hd : decide (0 ≤ n) = false := by simpa using h0
    clear h0
    go_enter Try.func57, Try.ntmps57
    go_wp2
    go_ret
    exact ⟨by rw [HP.out]; rfl, rfl⟩
theorem hostp_any (n : Int) (w : World) : Calls Try.prog 58 #[.int .i64 n] w fun e w' => e = .returned (.bool (hostB n)) ∧ Below w.heap.size w w' := by
  cases h0 : (n == 0) with
  | true =>
    have HP := Lib.hid (show hostB n = false by simp [hostB, h0])
    obtain rfl : n = 0 := by simpa using h0
    go_enter Try.func58, Try.ntmps58
    go_wp2
    go_ret
    exact ⟨by rw [HP.out]; rfl, Below.refl _ _⟩
  | false =>
    have h1 : (n != 0) = true := by simp [bne, h0]
    cases hv : validB n with
    | true =>
      have HP := Lib.hid (show hostB n = true by simp [hostB, h0, hv])
      go_enter Try.func58, Try.ntmps58
      go_wp2_with fail
      refine (valid_r hv _).mono ?_
      rintro e w1 ⟨rfl, hb⟩
      go_wp2
      go_ret
      exact ⟨by rw [HP.out]; rfl, hb⟩
    | false =>
      have HP := Lib.hid (show hostB n = false by simp [hostB, hv])
      go_enter Try.func58, Try.ntmps58
      go_wp2_with fail
      refine (valid_r hv _).mono ?_
      rintro e w1 ⟨rfl, hb⟩
      go_wp2
      go_ret
      exact ⟨by rw [HP.out]; rfl, hb⟩
theorem port_r {n : Int} {b : Bool} (h : portB n = b) (w : World) : Calls Try.prog 57 #[.int .i64 n] w fun e w' => e = .returned (.bool b) ∧ w = w' := h ▸ port_any n w
theorem hostp_r {n : Int} {b : Bool} (h : hostB n = b) (w : World) : Calls Try.prog 58 #[.int .i64 n] w fun e w' => e = .returned (.bool b) ∧ Below w.heap.size w w' := h ▸ hostp_any n w

set_option maxHeartbeats 1000000 in
theorem keyOf_any (x : Fl) (w : World) : Calls Try.prog 42 #[flV x] w fun e w' => e = .returned (encK (keyF x)) ∧ Below w.heap.size w w' := by
  obtain ⟨pr, he, hp, th, tp, sy, fi, rs, sq⟩ := x
  have HO := Lib.hid (show Own w none0 w [] from Own.nil w none0)
  obtain ⟨x1, hx1⟩ : ∃ y, w.alloc (.cells #[.int .i64 pr, .int .i64 he, .int .i64 hp, .int .i64 th, .int .i64 tp, .bool sy, .bool fi, .bool rs, .int .i64 sq] 37) = y := ⟨_, rfl⟩
  obtain ⟨bx, hbx⟩ : ∃ y, w.heap.size = y := ⟨_, rfl⟩
  have hO := HO.out.alloc (.cells #[.int .i64 pr, .int .i64 he, .int .i64 hp, .int .i64 th, .int .i64 tp, .bool sy, .bool fi, .bool rs, .int .i64 sq] 37)
  rw [hx1, hbx] at hO
  replace HO := Lib.hid (show Own w none0 x1 [blkR bx (.cells #[.int .i64 pr, .int .i64 he, .int .i64 hp, .int .i64 th, .int .i64 tp, .bool sy, .bool fi, .bool rs, .int .i64 sq] 37)] from hO)
  clear hO
  obtain ⟨x2, hx2⟩ : ∃ y, x1.alloc (.cells #[.int .i64 0, .int .i64 0, .int .i64 0, .int .i64 0, .int .i64 0] 105) = y := ⟨_, rfl⟩
  obtain ⟨bk, hbk⟩ : ∃ y, x1.heap.size = y := ⟨_, rfl⟩
  have hO := HO.out.alloc (.cells #[.int .i64 0, .int .i64 0, .int .i64 0, .int .i64 0, .int .i64 0] 105)
  rw [hx2, hbk] at hO
  replace HO := Lib.hid (show Own w none0 x2 [blkR bx (.cells #[.int .i64 pr, .int .i64 he, .int .i64 hp, .int .i64 th, .int .i64 tp, .bool sy, .bool fi, .bool rs, .int .i64 sq] 37), blkR bk (.cells #[.int .i64 0, .int .i64 0, .int .i64 0, .int .i64 0, .int .i64 0] 105)] from hO)
  clear hO
  have z0_0 : x2.cell? ⟨bx, 0, none⟩ = some (.int .i64 pr) := HO.out.cell 0 rfl 0 rfl
  have z0_1 : x2.cell? ⟨bx, 1, none⟩ = some (.int .i64 he) := HO.out.cell 0 rfl 1 rfl
  have z0_2 : x2.cell? ⟨bx, 2, none⟩ = some (.int .i64 hp) := HO.out.cell 0 rfl 2 rfl
  have z0_3 : x2.cell? ⟨bx, 3, none⟩ = some (.int .i64 th) := HO.out.cell 0 rfl 3 rfl
  have z0_4 : x2.cell? ⟨bx, 4, none⟩ = some (.int .i64 tp) := HO.out.cell 0 rfl 4 rfl
  have z0_5 : x2.cell? ⟨bx, 5, none⟩ = some (.bool sy) := HO.out.cell 0 rfl 5 rfl
  have z0_6 : x2.cell? ⟨bx, 6, none⟩ = some (.bool fi) := HO.out.cell 0 rfl 6 rfl
  have z0_7 : x2.cell? ⟨bx, 7, none⟩ = some (.bool rs) := HO.out.cell 0 rfl 7 rfl
  have z0_8 : x2.cell? ⟨bx, 8, none⟩ = some (.int .i64 sq) := HO.out.cell 0 rfl 8 rfl
  have z1_0 : x2.cell? ⟨bk, 0, none⟩ = some (.int .i64 0) := HO.out.cell 1 rfl 0 rfl
  have z1_1 : x2.cell? ⟨bk, 1, none⟩ = some (.int .i64 0) := HO.out.cell 1 rfl 1 rfl
  have z1_2 : x2.cell? ⟨bk, 2, none⟩ = some (.int .i64 0) := HO.out.cell 1 rfl 2 rfl
  have z1_3 : x2.cell? ⟨bk, 3, none⟩ = some (.int .i64 0) := HO.out.cell 1 rfl 3 rfl
  have z1_4 : x2.cell? ⟨bk, 4, none⟩ = some (.int .i64 0) := HO.out.cell 1 rfl 4 rfl
  have y1_0 : x2.frozen? ⟨bk, 0, none⟩ = false := HO.out.frz 1 rfl 0
  have y1_1 : x2.frozen? ⟨bk, 1, none⟩ = false := HO.out.frz 1 rfl 1
  have y1_2 : x2.frozen? ⟨bk, 2, none⟩ = false := HO.out.frz 1 rfl 2
  have y1_3 : x2.frozen? ⟨bk, 3, none⟩ = false := HO.out.frz 1 rfl 3
  have y1_4 : x2.frozen? ⟨bk, 4, none⟩ = false := HO.out.frz 1 rfl 4
  go_enter Try.func42, Try.ntmps42
  obtain ⟨x3, hx3⟩ : ∃ y, x2.setCell ⟨bk, 0, none⟩ (.int .i64 pr) = y := ⟨_, rfl⟩
  have hO := HO.out.setCell 1 rfl 0 (.int .i64 pr)
  rw [hx3] at hO
  replace HO := Lib.hid (show Own w none0 x3 [blkR bx (.cells #[.int .i64 pr, .int .i64 he, .int .i64 hp, .int .i64 th, .int .i64 tp, .bool sy, .bool fi, .bool rs, .int .i64 sq] 37), blkR bk (.cells #[.int .i64 pr, .int .i64 0, .int .i64 0, .int .i64 0, .int .i64 0] 105)] from hO)
  clear hO
  have k0_1 : x3.cell? ⟨bk, 1, none⟩ = some (.int .i64 0) := HO.out.cell 1 rfl 1 rfl
  have l0_1 : x3.frozen? ⟨bk, 1, none⟩ = false := HO.out.frz 1 rfl 1
  have k0_2 : x3.cell? ⟨bk, 2, none⟩ = some (.int .i64 0) := HO.out.cell 1 rfl 2 rfl
  have l0_2 : x3.frozen? ⟨bk, 2, none⟩ = false := HO.out.frz 1 rfl 2
  have k0_3 : x3.cell? ⟨bk, 3, none⟩ = some (.int .i64 0) := HO.out.cell 1 rfl 3 rfl
  have l0_3 : x3.frozen? ⟨bk, 3, none⟩ = false := HO.out.frz 1 rfl 3
  have k0_4 : x3.cell? ⟨bk, 4, none⟩ = some (.int .i64 0) := HO.out.cell 1 rfl 4 rfl
  have l0_4 : x3.frozen? ⟨bk, 4, none⟩ = false := HO.out.frz 1 rfl 4
  obtain ⟨x4, hx4⟩ : ∃ y, x3.setCell ⟨bk, 1, none⟩ (.int .i64 he) = y := ⟨_, rfl⟩
  have hO := HO.out.setCell 1 rfl 1 (.int .i64 he)
  rw [hx4] at hO
  replace HO := Lib.hid (show Own w none0 x4 [blkR bx (.cells #[.int .i64 pr, .int .i64 he, .int .i64 hp, .int .i64 th, .int .i64 tp, .bool sy, .bool fi, .bool rs, .int .i64 sq] 37), blkR bk (.cells #[.int .i64 pr, .int .i64 he, .int .i64 0, .int .i64 0, .int .i64 0] 105)] from hO)
  clear hO
  have k1_2 : x4.cell? ⟨bk, 2, none⟩ = some (.int .i64 0) := HO.out.cell 1 rfl 2 rfl
  have l1_2 : x4.frozen? ⟨bk, 2, none⟩ = false := HO.out.frz 1 rfl 2
  have k1_3 : x4.cell? ⟨bk, 3, none⟩ = some (.int .i64 0) := HO.out.cell 1 rfl 3 rfl
  have l1_3 : x4.frozen? ⟨bk, 3, none⟩ = false := HO.out.frz 1 rfl 3
  have k1_4 : x4.cell? ⟨bk, 4, none⟩ = some (.int .i64 0) := HO.out.cell 1 rfl 4 rfl
  have l1_4 : x4.frozen? ⟨bk, 4, none⟩ = false := HO.out.frz 1 rfl 4
  obtain ⟨x5, hx5⟩ : ∃ y, x4.setCell ⟨bk, 2, none⟩ (.int .i64 hp) = y := ⟨_, rfl⟩
  have hO := HO.out.setCell 1 rfl 2 (.int .i64 hp)
  rw [hx5] at hO
  replace HO := Lib.hid (show Own w none0 x5 [blkR bx (.cells #[.int .i64 pr, .int .i64 he, .int .i64 hp, .int .i64 th, .int .i64 tp, .bool sy, .bool fi, .bool rs, .int .i64 sq] 37), blkR bk (.cells #[.int .i64 pr, .int .i64 he, .int .i64 hp, .int .i64 0, .int .i64 0] 105)] from hO)
  clear hO
  have k2_3 : x5.cell? ⟨bk, 3, none⟩ = some (.int .i64 0) := HO.out.cell 1 rfl 3 rfl
  have l2_3 : x5.frozen? ⟨bk, 3, none⟩ = false := HO.out.frz 1 rfl 3
  have k2_4 : x5.cell? ⟨bk, 4, none⟩ = some (.int .i64 0) := HO.out.cell 1 rfl 4 rfl
  have l2_4 : x5.frozen? ⟨bk, 4, none⟩ = false := HO.out.frz 1 rfl 4
  obtain ⟨x6, hx6⟩ : ∃ y, x5.setCell ⟨bk, 3, none⟩ (.int .i64 th) = y := ⟨_, rfl⟩
  have hO := HO.out.setCell 1 rfl 3 (.int .i64 th)
  rw [hx6] at hO
  replace HO := Lib.hid (show Own w none0 x6 [blkR bx (.cells #[.int .i64 pr, .int .i64 he, .int .i64 hp, .int .i64 th, .int .i64 tp, .bool sy, .bool fi, .bool rs, .int .i64 sq] 37), blkR bk (.cells #[.int .i64 pr, .int .i64 he, .int .i64 hp, .int .i64 th, .int .i64 0] 105)] from hO)
  clear hO
  have k3_4 : x6.cell? ⟨bk, 4, none⟩ = some (.int .i64 0) := HO.out.cell 1 rfl 4 rfl
  have l3_4 : x6.frozen? ⟨bk, 4, none⟩ = false := HO.out.frz 1 rfl 4
  obtain ⟨x7, hx7⟩ : ∃ y, x6.setCell ⟨bk, 4, none⟩ (.int .i64 tp) = y := ⟨_, rfl⟩
  have hO := HO.out.setCell 1 rfl 4 (.int .i64 tp)
  rw [hx7] at hO
  replace HO := Lib.hid (show Own w none0 x7 [blkR bx (.cells #[.int .i64 pr, .int .i64 he, .int .i64 hp, .int .i64 th, .int .i64 tp, .bool sy, .bool fi, .bool rs, .int .i64 sq] 37), blkR bk (.cells #[.int .i64 pr, .int .i64 he, .int .i64 hp, .int .i64 th, .int .i64 tp] 105)] from hO)
  clear hO
  go_wp2
  have r0 : x7.cell? ⟨bk, 0, none⟩ = some (.int .i64 pr) := HO.out.cell 1 rfl 0 rfl
  have r1 : x7.cell? ⟨bk, 1, none⟩ = some (.int .i64 he) := HO.out.cell 1 rfl 1 rfl
  have r2 : x7.cell? ⟨bk, 2, none⟩ = some (.int .i64 hp) := HO.out.cell 1 rfl 2 rfl
  have r3 : x7.cell? ⟨bk, 3, none⟩ = some (.int .i64 th) := HO.out.cell 1 rfl 3 rfl
  have r4 : x7.cell? ⟨bk, 4, none⟩ = some (.int .i64 tp) := HO.out.cell 1 rfl 4 rfl
  exact bodyPost_ret (v := encK (keyF ⟨pr, he, hp, th, tp, sy, fi, rs, sq⟩)) (by simp [results, Try.results42, go_sem, r0, r1, r2, r3, r4, keyF]) rfl ⟨rfl, HO.out.below⟩

set_option maxRecDepth 100000 in
set_option maxHeartbeats 4000000 in
theorem validF_any (x : Fl) (w : World) : Calls Try.prog 41 #[flV x] w fun e w' => e = .returned (.bool (validF x)) ∧ Below w.heap.size w w' := by
  obtain ⟨pr, he, hp, th, tp, sy, fi, rs, sq⟩ := x
  have HO := Lib.hid (show Own w none0 w [] from Own.nil w none0)
  obtain ⟨x1, hx1⟩ : ∃ y, w.alloc (.cells #[.int .i64 pr, .int .i64 he, .int .i64 hp, .int .i64 th, .int .i64 tp, .bool sy, .bool fi, .bool rs, .int .i64 sq] 37) = y := ⟨_, rfl⟩
  obtain ⟨bx, hbx⟩ : ∃ y, w.heap.size = y := ⟨_, rfl⟩
  have hO := HO.out.alloc (.cells #[.int .i64 pr, .int .i64 he, .int .i64 hp, .int .i64 th, .int .i64 tp, .bool sy, .bool fi, .bool rs, .int .i64 sq] 37)
  rw [hx1, hbx] at hO
  replace HO := Lib.hid (show Own w none0 x1 [blkR bx (.cells #[.int .i64 pr, .int .i64 he, .int .i64 hp, .int .i64 th, .int .i64 tp, .bool sy, .bool fi, .bool rs, .int .i64 sq] 37)] from hO)
  clear hO
  have z0_0 : x1.cell? ⟨bx, 0, none⟩ = some (.int .i64 pr) := HO.out.cell 0 rfl 0 rfl
  have z0_1 : x1.cell? ⟨bx, 1, none⟩ = some (.int .i64 he) := HO.out.cell 0 rfl 1 rfl
  have z0_2 : x1.cell? ⟨bx, 2, none⟩ = some (.int .i64 hp) := HO.out.cell 0 rfl 2 rfl
  have z0_3 : x1.cell? ⟨bx, 3, none⟩ = some (.int .i64 th) := HO.out.cell 0 rfl 3 rfl
  have z0_4 : x1.cell? ⟨bx, 4, none⟩ = some (.int .i64 tp) := HO.out.cell 0 rfl 4 rfl
  have z0_5 : x1.cell? ⟨bx, 5, none⟩ = some (.bool sy) := HO.out.cell 0 rfl 5 rfl
  have z0_6 : x1.cell? ⟨bx, 6, none⟩ = some (.bool fi) := HO.out.cell 0 rfl 6 rfl
  have z0_7 : x1.cell? ⟨bx, 7, none⟩ = some (.bool rs) := HO.out.cell 0 rfl 7 rfl
  have z0_8 : x1.cell? ⟨bx, 8, none⟩ = some (.int .i64 sq) := HO.out.cell 0 rfl 8 rfl
  by_cases h0 : 0 ≤ pr
  · by_cases h1 : pr ≤ 255
    · cases h2 : hostB he with
      | false =>
        have HV := Lib.hid (show validF ⟨pr, he, hp, th, tp, sy, fi, rs, sq⟩ = false by simp [validF, h2])
        go_enter Try.func41, Try.ntmps41
        go_wp2_with fail
        refine (hostp_r h2 _).mono ?_
        rintro e x2 ⟨rfl, hb⟩
        replace HO := Lib.hid (show Own w none0 x2 [blkR bx (.cells #[.int .i64 pr, .int .i64 he, .int .i64 hp, .int .i64 th, .int .i64 tp, .bool sy, .bool fi, .bool rs, .int .i64 sq] 37)] from HO.out.stay hb)
        clear hb
        clear hx1 hbx z0_0 z0_1 z0_2 z0_3 z0_4 z0_5 z0_6 z0_7 z0_8
        have z0_0 : x2.cell? ⟨bx, 0, none⟩ = some (.int .i64 pr) := HO.out.cell 0 rfl 0 rfl
        have z0_1 : x2.cell? ⟨bx, 1, none⟩ = some (.int .i64 he) := HO.out.cell 0 rfl 1 rfl
        have z0_2 : x2.cell? ⟨bx, 2, none⟩ = some (.int .i64 hp) := HO.out.cell 0 rfl 2 rfl
        have z0_3 : x2.cell? ⟨bx, 3, none⟩ = some (.int .i64 th) := HO.out.cell 0 rfl 3 rfl
        have z0_4 : x2.cell? ⟨bx, 4, none⟩ = some (.int .i64 tp) := HO.out.cell 0 rfl 4 rfl
        have z0_5 : x2.cell? ⟨bx, 5, none⟩ = some (.bool sy) := HO.out.cell 0 rfl 5 rfl
        have z0_6 : x2.cell? ⟨bx, 6, none⟩ = some (.bool fi) := HO.out.cell 0 rfl 6 rfl
        have z0_7 : x2.cell? ⟨bx, 7, none⟩ = some (.bool rs) := HO.out.cell 0 rfl 7 rfl
        have z0_8 : x2.cell? ⟨bx, 8, none⟩ = some (.int .i64 sq) := HO.out.cell 0 rfl 8 rfl
        go_wp2
        go_ret
        exact ⟨by rw [HV.out]; rfl, HO.out.below⟩
      | true =>
        cases h3 : hostB th with
        | false =>
          have HV := Lib.hid (show validF ⟨pr, he, hp, th, tp, sy, fi, rs, sq⟩ = false by simp [validF, h3])
          go_enter Try.func41, Try.ntmps41
          go_wp2_with fail
          refine (hostp_r h2 _).mono ?_
          rintro e x2 ⟨rfl, hb⟩
          replace HO := Lib.hid (show Own w none0 x2 [blkR bx (.cells #[.int .i64 pr, .int .i64 he, .int .i64 hp, .int .i64 th, .int .i64 tp, .bool sy, .bool fi, .bool rs, .int .i64 sq] 37)] from HO.out.stay hb)
          clear hb
          clear hx1 hbx z0_0 z0_1 z0_2 z0_3 z0_4 z0_5 z0_6 z0_7 z0_8
          have z0_0 : x2.cell? ⟨bx, 0, none⟩ = some (.int .i64 pr) := HO.out.cell 0 rfl 0 rfl
          have z0_1 : x2.cell? ⟨bx, 1, none⟩ = some (.int .i64 he) := HO.out.cell 0 rfl 1 rfl
          have z0_2 : x2.cell? ⟨bx, 2, none⟩ = some (.int .i64 hp) := HO.out.cell 0 rfl 2 rfl
          have z0_3 : x2.cell? ⟨bx, 3, none⟩ = some (.int .i64 th) := HO.out.cell 0 rfl 3 rfl
          have z0_4 : x2.cell? ⟨bx, 4, none⟩ = some (.int .i64 tp) := HO.out.cell 0 rfl 4 rfl
          have z0_5 : x2.cell? ⟨bx, 5, none⟩ = some (.bool sy) := HO.out.cell 0 rfl 5 rfl
          have z0_6 : x2.cell? ⟨bx, 6, none⟩ = some (.bool fi) := HO.out.cell 0 rfl 6 rfl
          have z0_7 : x2.cell? ⟨bx, 7, none⟩ = some (.bool rs) := HO.out.cell 0 rfl 7 rfl
          have z0_8 : x2.cell? ⟨bx, 8, none⟩ = some (.int .i64 sq) := HO.out.cell 0 rfl 8 rfl
          go_wp2_with fail
          refine (hostp_r h3 _).mono ?_
          rintro e x3 ⟨rfl, hb⟩
          replace HO := Lib.hid (show Own w none0 x3 [blkR bx (.cells #[.int .i64 pr, .int .i64 he, .int .i64 hp, .int .i64 th, .int .i64 tp, .bool sy, .bool fi, .bool rs, .int .i64 sq] 37)] from HO.out.stay hb)
          clear hb
          clear z0_0 z0_1 z0_2 z0_3 z0_4 z0_5 z0_6 z0_7 z0_8
          have z0_0 : x3.cell? ⟨bx, 0, none⟩ = some (.int .i64 pr) := HO.out.cell 0 rfl 0 rfl
          have z0_1 : x3.cell? ⟨bx, 1, none⟩ = some (.int .i64 he) := HO.out.cell 0 rfl 1 rfl
          have z0_2 : x3.cell? ⟨bx, 2, none⟩ = some (.int .i64 hp) := HO.out.cell 0 rfl 2 rfl
          have z0_3 : x3.cell? ⟨bx, 3, none⟩ = some (.int .i64 th) := HO.out.cell 0 rfl 3 rfl
          have z0_4 : x3.cell? ⟨bx, 4, none⟩ = some (.int .i64 tp) := HO.out.cell 0 rfl 4 rfl
          have z0_5 : x3.cell? ⟨bx, 5, none⟩ = some (.bool sy) := HO.out.cell 0 rfl 5 rfl
          have z0_6 : x3.cell? ⟨bx, 6, none⟩ = some (.bool fi) := HO.out.cell 0 rfl 6 rfl
          have z0_7 : x3.cell? ⟨bx, 7, none⟩ = some (.bool rs) := HO.out.cell 0 rfl 7 rfl
          have z0_8 : x3.cell? ⟨bx, 8, none⟩ = some (.int .i64 sq) := HO.out.cell 0 rfl 8 rfl
          go_wp2
          go_ret
          exact ⟨by rw [HV.out]; rfl, HO.out.below⟩
        | true =>
          cases h4 : portB hp with
          | false =>
            have HV := Lib.hid (show validF ⟨pr, he, hp, th, tp, sy, fi, rs, sq⟩ = false by simp [validF, h4])
            go_enter Try.func41, Try.ntmps41
            go_wp2_with fail
            refine (hostp_r h2 _).mono ?_
            rintro e x2 ⟨rfl, hb⟩
            replace HO := Lib.hid (show Own w none0 x2 [blkR bx (.cells #[.int .i64 pr, .int .i64 he, .int .i64 hp, .int .i64 th, .int .i64 tp, .bool sy, .bool fi, .bool rs, .int .i64 sq] 37)] from HO.out.stay hb)
            clear hb
            clear hx1 hbx z0_0 z0_1 z0_2 z0_3 z0_4 z0_5 z0_6 z0_7 z0_8
            have z0_0 : x2.cell? ⟨bx, 0, none⟩ = some (.int .i64 pr) := HO.out.cell 0 rfl 0 rfl
            have z0_1 : x2.cell? ⟨bx, 1, none⟩ = some (.int .i64 he) := HO.out.cell 0 rfl 1 rfl
            have z0_2 : x2.cell? ⟨bx, 2, none⟩ = some (.int .i64 hp) := HO.out.cell 0 rfl 2 rfl
            have z0_3 : x2.cell? ⟨bx, 3, none⟩ = some (.int .i64 th) := HO.out.cell 0 rfl 3 rfl
            have z0_4 : x2.cell? ⟨bx, 4, none⟩ = some (.int .i64 tp) := HO.out.cell 0 rfl 4 rfl
            have z0_5 : x2.cell? ⟨bx, 5, none⟩ = some (.bool sy) := HO.out.cell 0 rfl 5 rfl
            have z0_6 : x2.cell? ⟨bx, 6, none⟩ = some (.bool fi) := HO.out.cell 0 rfl 6 rfl
            have z0_7 : x2.cell? ⟨bx, 7, none⟩ = some (.bool rs) := HO.out.cell 0 rfl 7 rfl
            have z0_8 : x2.cell? ⟨bx, 8, none⟩ = some (.int .i64 sq) := HO.out.cell 0 rfl 8 rfl
            go_wp2_with fail
            refine (hostp_r h3 _).mono ?_
            rintro e x3 ⟨rfl, hb⟩
            replace HO := Lib.hid (show Own w none0 x3 [blkR bx (.cells #[.int .i64 pr, .int .i64 he, .int .i64 hp, .int .i64 th, .int .i64 tp, .bool sy, .bool fi, .bool rs, .int .i64 sq] 37)] from HO.out.stay hb)
            clear hb
            clear z0_0 z0_1 z0_2 z0_3 z0_4 z0_5 z0_6 z0_7 z0_8
            have z0_0 : x3.cell? ⟨bx, 0, none⟩ = some (.int .i64 pr) := HO.out.cell 0 rfl 0 rfl
            have z0_1 : x3.cell? ⟨bx, 1, none⟩ = some (.int .i64 he) := HO.out.cell 0 rfl 1 rfl
            have z0_2 : x3.cell? ⟨bx, 2, none⟩ = some (.int .i64 hp) := HO.out.cell 0 rfl 2 rfl
            have z0_3 : x3.cell? ⟨bx, 3, none⟩ = some (.int .i64 th) := HO.out.cell 0 rfl 3 rfl
            have z0_4 : x3.cell? ⟨bx, 4, none⟩ = some (.int .i64 tp) := HO.out.cell 0 rfl 4 rfl
            have z0_5 : x3.cell? ⟨bx, 5, none⟩ = some (.bool sy) := HO.out.cell 0 rfl 5 rfl
            have z0_6 : x3.cell? ⟨bx, 6, none⟩ = some (.bool fi) := HO.out.cell 0 rfl 6 rfl
            have z0_7 : x3.cell? ⟨bx, 7, none⟩ = some (.bool rs) := HO.out.cell 0 rfl 7 rfl
            have z0_8 : x3.cell? ⟨bx, 8, none⟩ = some (.int .i64 sq) := HO.out.cell 0 rfl 8 rfl
            go_wp2_with fail
            refine (port_r h4 _).mono ?_
            rintro e xp ⟨rfl, rfl⟩
            go_wp2
            go_ret
            exact ⟨by rw [HV.out]; rfl, HO.out.below⟩
          | true =>
            cases h5 : portB tp with
            | false =>
              have HV := Lib.hid (show validF ⟨pr, he, hp, th, tp, sy, fi, rs, sq⟩ = false by simp [validF, h5])
              go_enter Try.func41, Try.ntmps41
              go_wp2_with fail
              refine (hostp_r h2 _).mono ?_
              rintro e x2 ⟨rfl, hb⟩
              replace HO := Lib.hid (show Own w none0 x2 [blkR bx (.cells #[.int .i64 pr, .int .i64 he, .int .i64 hp, .int .i64 th, .int .i64 tp, .bool sy, .bool fi, .bool rs, .int .i64 sq] 37)] from HO.out.stay hb)
              clear hb
              clear hx1 hbx z0_0 z0_1 z0_2 z0_3 z0_4 z0_5 z0_6 z0_7 z0_8
              have z0_0 : x2.cell? ⟨bx, 0, none⟩ = some (.int .i64 pr) := HO.out.cell 0 rfl 0 rfl
              have z0_1 : x2.cell? ⟨bx, 1, none⟩ = some (.int .i64 he) := HO.out.cell 0 rfl 1 rfl
              have z0_2 : x2.cell? ⟨bx, 2, none⟩ = some (.int .i64 hp) := HO.out.cell 0 rfl 2 rfl
              have z0_3 : x2.cell? ⟨bx, 3, none⟩ = some (.int .i64 th) := HO.out.cell 0 rfl 3 rfl
              have z0_4 : x2.cell? ⟨bx, 4, none⟩ = some (.int .i64 tp) := HO.out.cell 0 rfl 4 rfl
              have z0_5 : x2.cell? ⟨bx, 5, none⟩ = some (.bool sy) := HO.out.cell 0 rfl 5 rfl
              have z0_6 : x2.cell? ⟨bx, 6, none⟩ = some (.bool fi) := HO.out.cell 0 rfl 6 rfl
              have z0_7 : x2.cell? ⟨bx, 7, none⟩ = some (.bool rs) := HO.out.cell 0 rfl 7 rfl
              have z0_8 : x2.cell? ⟨bx, 8, none⟩ = some (.int .i64 sq) := HO.out.cell 0 rfl 8 rfl
              go_wp2_with fail
              refine (hostp_r h3 _).mono ?_
              rintro e x3 ⟨rfl, hb⟩
              replace HO := Lib.hid (show Own w none0 x3 [blkR bx (.cells #[.int .i64 pr, .int .i64 he, .int .i64 hp, .int .i64 th, .int .i64 tp, .bool sy, .bool fi, .bool rs, .int .i64 sq] 37)] from HO.out.stay hb)
              clear hb
              clear z0_0 z0_1 z0_2 z0_3 z0_4 z0_5 z0_6 z0_7 z0_8
              have z0_0 : x3.cell? ⟨bx, 0, none⟩ = some (.int .i64 pr) := HO.out.cell 0 rfl 0 rfl
              have z0_1 : x3.cell? ⟨bx, 1, none⟩ = some (.int .i64 he) := HO.out.cell 0 rfl 1 rfl
              have z0_2 : x3.cell? ⟨bx, 2, none⟩ = some (.int .i64 hp) := HO.out.cell 0 rfl 2 rfl
              have z0_3 : x3.cell? ⟨bx, 3, none⟩ = some (.int .i64 th) := HO.out.cell 0 rfl 3 rfl
              have z0_4 : x3.cell? ⟨bx, 4, none⟩ = some (.int .i64 tp) := HO.out.cell 0 rfl 4 rfl
              have z0_5 : x3.cell? ⟨bx, 5, none⟩ = some (.bool sy) := HO.out.cell 0 rfl 5 rfl
              have z0_6 : x3.cell? ⟨bx, 6, none⟩ = some (.bool fi) := HO.out.cell 0 rfl 6 rfl
              have z0_7 : x3.cell? ⟨bx, 7, none⟩ = some (.bool rs) := HO.out.cell 0 rfl 7 rfl
              have z0_8 : x3.cell? ⟨bx, 8, none⟩ = some (.int .i64 sq) := HO.out.cell 0 rfl 8 rfl
              go_wp2_with fail
              refine (port_r h4 _).mono ?_
              rintro e xp ⟨rfl, rfl⟩
              go_wp2_with fail
              refine (port_r h5 _).mono ?_
              rintro e xp ⟨rfl, rfl⟩
              go_wp2
              go_ret
              exact ⟨by rw [HV.out]; rfl, HO.out.below⟩
            | true =>
              have HV := Lib.hid (show validF ⟨pr, he, hp, th, tp, sy, fi, rs, sq⟩ = true by simp [validF, h0, h1, h2, h3, h4, h5])
              go_enter Try.func41, Try.ntmps41
              go_wp2_with fail
              refine (hostp_r h2 _).mono ?_
              rintro e x2 ⟨rfl, hb⟩
              replace HO := Lib.hid (show Own w none0 x2 [blkR bx (.cells #[.int .i64 pr, .int .i64 he, .int .i64 hp, .int .i64 th, .int .i64 tp, .bool sy, .bool fi, .bool rs, .int .i64 sq] 37)] from HO.out.stay hb)
              clear hb
              clear hx1 hbx z0_0 z0_1 z0_2 z0_3 z0_4 z0_5 z0_6 z0_7 z0_8
              have z0_0 : x2.cell? ⟨bx, 0, none⟩ = some (.int .i64 pr) := HO.out.cell 0 rfl 0 rfl
              have z0_1 : x2.cell? ⟨bx, 1, none⟩ = some (.int .i64 he) := HO.out.cell 0 rfl 1 rfl
              have z0_2 : x2.cell? ⟨bx, 2, none⟩ = some (.int .i64 hp) := HO.out.cell 0 rfl 2 rfl
              have z0_3 : x2.cell? ⟨bx, 3, none⟩ = some (.int .i64 th) := HO.out.cell 0 rfl 3 rfl
              have z0_4 : x2.cell? ⟨bx, 4, none⟩ = some (.int .i64 tp) := HO.out.cell 0 rfl 4 rfl
              have z0_5 : x2.cell? ⟨bx, 5, none⟩ = some (.bool sy) := HO.out.cell 0 rfl 5 rfl
              have z0_6 : x2.cell? ⟨bx, 6, none⟩ = some (.bool fi) := HO.out.cell 0 rfl 6 rfl
              have z0_7 : x2.cell? ⟨bx, 7, none⟩ = some (.bool rs) := HO.out.cell 0 rfl 7 rfl
              have z0_8 : x2.cell? ⟨bx, 8, none⟩ = some (.int .i64 sq) := HO.out.cell 0 rfl 8 rfl
              go_wp2_with fail
              refine (hostp_r h3 _).mono ?_
              rintro e x3 ⟨rfl, hb⟩
              replace HO := Lib.hid (show Own w none0 x3 [blkR bx (.cells #[.int .i64 pr, .int .i64 he, .int .i64 hp, .int .i64 th, .int .i64 tp, .bool sy, .bool fi, .bool rs, .int .i64 sq] 37)] from HO.out.stay hb)
              clear hb
              clear z0_0 z0_1 z0_2 z0_3 z0_4 z0_5 z0_6 z0_7 z0_8
              have z0_0 : x3.cell? ⟨bx, 0, none⟩ = some (.int .i64 pr) := HO.out.cell 0 rfl 0 rfl
              have z0_1 : x3.cell? ⟨bx, 1, none⟩ = some (.int .i64 he) := HO.out.cell 0 rfl 1 rfl
              have z0_2 : x3.cell? ⟨bx, 2, none⟩ = some (.int .i64 hp) := HO.out.cell 0 rfl 2 rfl
              have z0_3 : x3.cell? ⟨bx, 3, none⟩ = some (.int .i64 th) := HO.out.cell 0 rfl 3 rfl
              have z0_4 : x3.cell? ⟨bx, 4, none⟩ = some (.int .i64 tp) := HO.out.cell 0 rfl 4 rfl
              have z0_5 : x3.cell? ⟨bx, 5, none⟩ = some (.bool sy) := HO.out.cell 0 rfl 5 rfl
              have z0_6 : x3.cell? ⟨bx, 6, none⟩ = some (.bool fi) := HO.out.cell 0 rfl 6 rfl
              have z0_7 : x3.cell? ⟨bx, 7, none⟩ = some (.bool rs) := HO.out.cell 0 rfl 7 rfl
              have z0_8 : x3.cell? ⟨bx, 8, none⟩ = some (.int .i64 sq) := HO.out.cell 0 rfl 8 rfl
              go_wp2_with fail
              refine (port_r h4 _).mono ?_
              rintro e xp ⟨rfl, rfl⟩
              go_wp2_with fail
              refine (port_r h5 _).mono ?_
              rintro e xp ⟨rfl, rfl⟩
              go_wp2
              go_ret
              exact ⟨by rw [HV.out]; rfl, HO.out.below⟩
    · have HV := Lib.hid (show validF ⟨pr, he, hp, th, tp, sy, fi, rs, sq⟩ = false by simp [validF, h1])
      have hd : decide (pr ≤ 255) = false := by simpa using h1
      clear h1
      go_enter Try.func41, Try.ntmps41
      go_wp2
      go_ret
      exact ⟨by rw [HV.out]; rfl, by first | exact HO.out.below | exact hbx ▸ HO.out.below⟩
  · have HV := Lib.hid (show validF ⟨pr, he, hp, th, tp, sy, fi, rs, sq⟩ = false by simp [validF, h0])
    have hd : decide (0 ≤ pr) = false := by simpa using h0
    clear h0
    go_enter Try.func41, Try.ntmps41
    go_wp2
    go_ret
    exact ⟨by rw [HV.out]; rfl, by first | exact HO.out.below | exact hbx ▸ HO.out.below⟩
theorem vprefix_r {a b : Int} {v : Bool} (h : vpB a b = v) (w : World) : Calls Try.prog 56 #[.agg #[.int .i64 a, .int .i64 b]] w fun e w' => e = .returned (.bool v) ∧ Below w.heap.size w w' := h ▸ validPrefix_any a b w
set_option maxRecDepth 100000 in
set_option maxHeartbeats 4000000 in
theorem invalid_any (r : Rl) (w : World) : Calls Try.prog 39 #[rlV r] w fun e w' => e = .returned (.bool (invalR r)) ∧ Below w.heap.size w w' := by
  obtain ⟨inn, pr, na, nb, lo, hi, ps⟩ := r
  have HO := Lib.hid (show Own w none0 w [] from Own.nil w none0)
  obtain ⟨x1, hx1⟩ : ∃ y, w.alloc (.cells #[.bool inn, .int .i64 pr, .int .i64 na, .int .i64 nb, .int .i64 lo, .int .i64 hi, .bool ps] 74) = y := ⟨_, rfl⟩
  obtain ⟨bx, hbx⟩ : ∃ y, w.heap.size = y := ⟨_, rfl⟩
  have hO := HO.out.alloc (.cells #[.bool inn, .int .i64 pr, .int .i64 na, .int .i64 nb, .int .i64 lo, .int .i64 hi, .bool ps] 74)
  rw [hx1, hbx] at hO
  replace HO := Lib.hid (show Own w none0 x1 [blkR bx (.cells #[.bool inn, .int .i64 pr, .int .i64 na, .int .i64 nb, .int .i64 lo, .int .i64 hi, .bool ps] 74)] from hO)
  clear hO
  have z0_0 : x1.cell? ⟨bx, 0, none⟩ = some (.bool inn) := HO.out.cell 0 rfl 0 rfl
  have z0_1 : x1.cell? ⟨bx, 1, none⟩ = some (.int .i64 pr) := HO.out.cell 0 rfl 1 rfl
  have z0_2 : x1.cell? ⟨bx, 2, none⟩ = some (.int .i64 na) := HO.out.cell 0 rfl 2 rfl
  have z0_3 : x1.cell? ⟨bx, 3, none⟩ = some (.int .i64 nb) := HO.out.cell 0 rfl 3 rfl
  have z0_4 : x1.cell? ⟨bx, 4, none⟩ = some (.int .i64 lo) := HO.out.cell 0 rfl 4 rfl
  have z0_5 : x1.cell? ⟨bx, 5, none⟩ = some (.int .i64 hi) := HO.out.cell 0 rfl 5 rfl
  have z0_6 : x1.cell? ⟨bx, 6, none⟩ = some (.bool ps) := HO.out.cell 0 rfl 6 rfl
  by_cases h0 : 0 ≤ pr
  · by_cases h1 : pr ≤ 255
    · cases h2 : vpB na nb with
      | false =>
        have HV := Lib.hid (show invalR ⟨inn, pr, na, nb, lo, hi, ps⟩ = true by simp [invalR, h2])
        have d0 : decide (pr < 0) = false := by simpa using h0
        have d1 : decide (255 < pr) = false := by simpa using h1
        go_enter Try.func39, Try.ntmps39
        go_wp2_with fail
        refine (vprefix_r h2 _).mono ?_
        rintro e x2 ⟨rfl, hb⟩
        replace HO := Lib.hid (show Own w none0 x2 [blkR bx (.cells #[.bool inn, .int .i64 pr, .int .i64 na, .int .i64 nb, .int .i64 lo, .int .i64 hi, .bool ps] 74)] from HO.out.stay hb)
        clear hb
        clear hx1 hbx z0_0 z0_1 z0_2 z0_3 z0_4 z0_5 z0_6
        have z0_0 : x2.cell? ⟨bx, 0, none⟩ = some (.bool inn) := HO.out.cell 0 rfl 0 rfl
        have z0_1 : x2.cell? ⟨bx, 1, none⟩ = some (.int .i64 pr) := HO.out.cell 0 rfl 1 rfl
        have z0_2 : x2.cell? ⟨bx, 2, none⟩ = some (.int .i64 na) := HO.out.cell 0 rfl 2 rfl
        have z0_3 : x2.cell? ⟨bx, 3, none⟩ = some (.int .i64 nb) := HO.out.cell 0 rfl 3 rfl
        have z0_4 : x2.cell? ⟨bx, 4, none⟩ = some (.int .i64 lo) := HO.out.cell 0 rfl 4 rfl
        have z0_5 : x2.cell? ⟨bx, 5, none⟩ = some (.int .i64 hi) := HO.out.cell 0 rfl 5 rfl
        have z0_6 : x2.cell? ⟨bx, 6, none⟩ = some (.bool ps) := HO.out.cell 0 rfl 6 rfl
        go_wp2
        go_ret
        exact ⟨by rw [HV.out]; rfl, HO.out.below⟩
      | true =>
        by_cases h3 : 0 ≤ lo
        · by_cases h4 : lo ≤ hi
          · by_cases h5 : hi ≤ 65535
            · have HV := Lib.hid (show invalR ⟨inn, pr, na, nb, lo, hi, ps⟩ = false by simp [invalR, h0, h1, h2, h3, h4, h5])
              have d0 : decide (pr < 0) = false := by simpa using h0
              have d1 : decide (255 < pr) = false := by simpa using h1
              have d3 : decide (lo < 0) = false := by simpa using h3
              have d4 : decide (hi < lo) = false := by simpa using h4
              have d5 : decide (65535 < hi) = false := by simpa using h5
              go_enter Try.func39, Try.ntmps39
              go_wp2_with fail
              refine (vprefix_r h2 _).mono ?_
              rintro e x2 ⟨rfl, hb⟩
              replace HO := Lib.hid (show Own w none0 x2 [blkR bx (.cells #[.bool inn, .int .i64 pr, .int .i64 na, .int .i64 nb, .int .i64 lo, .int .i64 hi, .bool ps] 74)] from HO.out.stay hb)
              clear hb
              clear hx1 hbx z0_0 z0_1 z0_2 z0_3 z0_4 z0_5 z0_6
              have z0_0 : x2.cell? ⟨bx, 0, none⟩ = some (.bool inn) := HO.out.cell 0 rfl 0 rfl
              have z0_1 : x2.cell? ⟨bx, 1, none⟩ = some (.int .i64 pr) := HO.out.cell 0 rfl 1 rfl
              have z0_2 : x2.cell? ⟨bx, 2, none⟩ = some (.int .i64 na) := HO.out.cell 0 rfl 2 rfl
              have z0_3 : x2.cell? ⟨bx, 3, none⟩ = some (.int .i64 nb) := HO.out.cell 0 rfl 3 rfl
              have z0_4 : x2.cell? ⟨bx, 4, none⟩ = some (.int .i64 lo) := HO.out.cell 0 rfl 4 rfl
              have z0_5 : x2.cell? ⟨bx, 5, none⟩ = some (.int .i64 hi) := HO.out.cell 0 rfl 5 rfl
              have z0_6 : x2.cell? ⟨bx, 6, none⟩ = some (.bool ps) := HO.out.cell 0 rfl 6 rfl
              go_wp2
              go_ret
              exact ⟨by rw [HV.out]; rfl, HO.out.below⟩
            · have HV := Lib.hid (show invalR ⟨inn, pr, na, nb, lo, hi, ps⟩ = true by simp [invalR, h5])
              have d0 : decide (pr < 0) = false := by simpa using h0
              have d1 : decide (255 < pr) = false := by simpa using h1
              have d3 : decide (lo < 0) = false := by simpa using h3
              have d4 : decide (hi < lo) = false := by simpa using h4
              have d5 : decide (65535 < hi) = true := by simpa using h5
              go_enter Try.func39, Try.ntmps39
              go_wp2_with fail
              refine (vprefix_r h2 _).mono ?_
              rintro e x2 ⟨rfl, hb⟩
              replace HO := Lib.hid (show Own w none0 x2 [blkR bx (.cells #[.bool inn, .int .i64 pr, .int .i64 na, .int .i64 nb, .int .i64 lo, .int .i64 hi, .bool ps] 74)] from HO.out.stay hb)
              clear hb
              clear hx1 hbx z0_0 z0_1 z0_2 z0_3 z0_4 z0_5 z0_6
              have z0_0 : x2.cell? ⟨bx, 0, none⟩ = some (.bool inn) := HO.out.cell 0 rfl 0 rfl
              have z0_1 : x2.cell? ⟨bx, 1, none⟩ = some (.int .i64 pr) := HO.out.cell 0 rfl 1 rfl
              have z0_2 : x2.cell? ⟨bx, 2, none⟩ = some (.int .i64 na) := HO.out.cell 0 rfl 2 rfl
              have z0_3 : x2.cell? ⟨bx, 3, none⟩ = some (.int .i64 nb) := HO.out.cell 0 rfl 3 rfl
              have z0_4 : x2.cell? ⟨bx, 4, none⟩ = some (.int .i64 lo) := HO.out.cell 0 rfl 4 rfl
              have z0_5 : x2.cell? ⟨bx, 5, none⟩ = some (.int .i64 hi) := HO.out.cell 0 rfl 5 rfl
              have z0_6 : x2.cell? ⟨bx, 6, none⟩ = some (.bool ps) := HO.out.cell 0 rfl 6 rfl
              go_wp2
              go_ret
              exact ⟨by rw [HV.out]; rfl, HO.out.below⟩
          · have HV := Lib.hid (show invalR ⟨inn, pr, na, nb, lo, hi, ps⟩ = true by simp [invalR, h4])
            have d0 : decide (pr < 0) = false := by simpa using h0
            have d1 : decide (255 < pr) = false := by simpa using h1
            have d3 : decide (lo < 0) = false := by simpa using h3
            have d4 : decide (hi < lo) = true := by simpa using h4
            go_enter Try.func39, Try.ntmps39
            go_wp2_with fail
            refine (vprefix_r h2 _).mono ?_
            rintro e x2 ⟨rfl, hb⟩
            replace HO := Lib.hid (show Own w none0 x2 [blkR bx (.cells #[.bool inn, .int .i64 pr, .int .i64 na, .int .i64 nb, .int .i64 lo, .int .i64 hi, .bool ps] 74)] from HO.out.stay hb)
            clear hb
            clear hx1 hbx z0_0 z0_1 z0_2 z0_3 z0_4 z0_5 z0_6
            have z0_0 : x2.cell? ⟨bx, 0, none⟩ = some (.bool inn) := HO.out.cell 0 rfl 0 rfl
            have z0_1 : x2.cell? ⟨bx, 1, none⟩ = some (.int .i64 pr) := HO.out.cell 0 rfl 1 rfl
            have z0_2 : x2.cell? ⟨bx, 2, none⟩ = some (.int .i64 na) := HO.out.cell 0 rfl 2 rfl
            have z0_3 : x2.cell? ⟨bx, 3, none⟩ = some (.int .i64 nb) := HO.out.cell 0 rfl 3 rfl
            have z0_4 : x2.cell? ⟨bx, 4, none⟩ = some (.int .i64 lo) := HO.out.cell 0 rfl 4 rfl
            have z0_5 : x2.cell? ⟨bx, 5, none⟩ = some (.int .i64 hi) := HO.out.cell 0 rfl 5 rfl
            have z0_6 : x2.cell? ⟨bx, 6, none⟩ = some (.bool ps) := HO.out.cell 0 rfl 6 rfl
            go_wp2
            go_ret
            exact ⟨by rw [HV.out]; rfl, HO.out.below⟩
        · have HV := Lib.hid (show invalR ⟨inn, pr, na, nb, lo, hi, ps⟩ = true by simp [invalR, h3])
          have d0 : decide (pr < 0) = false := by simpa using h0
          have d1 : decide (255 < pr) = false := by simpa using h1
          have d3 : decide (lo < 0) = true := by simpa using h3
          go_enter Try.func39, Try.ntmps39
          go_wp2_with fail
          refine (vprefix_r h2 _).mono ?_
          rintro e x2 ⟨rfl, hb⟩
          replace HO := Lib.hid (show Own w none0 x2 [blkR bx (.cells #[.bool inn, .int .i64 pr, .int .i64 na, .int .i64 nb, .int .i64 lo, .int .i64 hi, .bool ps] 74)] from HO.out.stay hb)
          clear hb
          clear hx1 hbx z0_0 z0_1 z0_2 z0_3 z0_4 z0_5 z0_6
          have z0_0 : x2.cell? ⟨bx, 0, none⟩ = some (.bool inn) := HO.out.cell 0 rfl 0 rfl
          have z0_1 : x2.cell? ⟨bx, 1, none⟩ = some (.int .i64 pr) := HO.out.cell 0 rfl 1 rfl
          have z0_2 : x2.cell? ⟨bx, 2, none⟩ = some (.int .i64 na) := HO.out.cell 0 rfl 2 rfl
          have z0_3 : x2.cell? ⟨bx, 3, none⟩ = some (.int .i64 nb) := HO.out.cell 0 rfl 3 rfl
          have z0_4 : x2.cell? ⟨bx, 4, none⟩ = some (.int .i64 lo) := HO.out.cell 0 rfl 4 rfl
          have z0_5 : x2.cell? ⟨bx, 5, none⟩ = some (.int .i64 hi) := HO.out.cell 0 rfl 5 rfl
          have z0_6 : x2.cell? ⟨bx, 6, none⟩ = some (.bool ps) := HO.out.cell 0 rfl 6 rfl
          go_wp2
          go_ret
          exact ⟨by rw [HV.out]; rfl, HO.out.below⟩
    · have HV := Lib.hid (show invalR ⟨inn, pr, na, nb, lo, hi, ps⟩ = true by simp [invalR, h1])
      have d0 : decide (pr < 0) = false := by simpa using h0
      have d1 : decide (255 < pr) = true := by simpa using h1
      go_enter Try.func39, Try.ntmps39
      go_wp2
      go_ret
      exact ⟨by rw [HV.out]; rfl, by first | exact HO.out.below | exact hbx ▸ HO.out.below⟩
  · have HV := Lib.hid (show invalR ⟨inn, pr, na, nb, lo, hi, ps⟩ = true by simp [invalR, h0])
    have d0 : decide (pr < 0) = true := by simpa using h0
    go_enter Try.func39, Try.ntmps39
    go_wp2
    go_ret
    exact ⟨by rw [HV.out]; rfl, by first | exact HO.out.below | exact hbx ▸ HO.out.below⟩

end Go.Proofs.Ytjngfhgcifhioaa
