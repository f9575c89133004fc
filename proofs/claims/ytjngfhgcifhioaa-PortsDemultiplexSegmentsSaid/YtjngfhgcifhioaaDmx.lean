/- The walk of PortsDemultiplexSegments. Printed by wip/tools/gen23G.py. -/
import Derived.Test.YtjngfhgcifhioaaSg5
import Derived.Test.YtjngfhgcifhioaaPlw
import Derived.Test.YtjngfhgcifhioaaPown
namespace Go.Proofs.Ytjngfhgcifhioaa
open Go.RowKit Go.Sort
set_option linter.unusedVariables false
set_option maxRecDepth 100000

/-- The ports after the bindings. -/
def dmS (ls : Bool) (n b m : Int) : PSt := ⟨0, 0, if ls then [(⟨6, n⟩, 1)] else [], [(⟨n, b, m⟩, 2)]⟩
theorem dm_bind {n : Int} (h : 1 ≤ n ∧ n ≤ 65535) : bindE ⟨0, 0, [], []⟩ 6 n 1 = 0 ∧ bindS ⟨0, 0, [], []⟩ 6 n 1 = ⟨0, 0, [(⟨6, n⟩, 1)], []⟩ := by
  have e : bindE ⟨0, 0, [], []⟩ 6 n 1 = 0 := by
    unfold bindE
    have h1 : vpo n = true := by simp [vpo, h.1, h.2]
    have h2 : vpr 6 = true := by decide
    rw [h1, h2]
    simp [look, bindOf, heldOf]
  exact ⟨e, by unfold bindS; rw [if_pos e]; rfl⟩
theorem dm_conn (ls : Bool) {n b m : Int} (hn : 1 ≤ n ∧ n ≤ 65535) (hb : 0 ≤ b ∧ b ≤ 4294967295) (hm : 1 ≤ m ∧ m ≤ 65535) :
    connE ⟨0, 0, if ls then [(⟨6, n⟩, 1)] else [], []⟩ 2 n b m = 0 ∧ connS ⟨0, 0, if ls then [(⟨6, n⟩, 1)] else [], []⟩ 2 n b m = dmS ls n b m := by
  have e : connE ⟨0, 0, if ls then [(⟨6, n⟩, 1)] else [], []⟩ 2 n b m = 0 := by
    unfold connE
    have h1 : vpo n = true := by simp [vpo, hn.1, hn.2]
    have h2 : vpo m = true := by simp [vpo, hm.1, hm.2]
    have h3 : vad b = true := by simp [vad, hb.1, hb.2]
    rw [h1, h2, h3]
    simp [look]
  exact ⟨e, by unfold connS; rw [if_pos e]; rfl⟩
theorem dm_same (ls : Bool) (n b m : Int) : lookF (dmS ls n b m) 6 n b m = (2, true) := by
  simp [lookF, dmS, look]
theorem dm_yes {n b m x y : Int} (h : ¬ (x = b ∧ y = m)) : lookF (dmS true n b m) 6 n x y = (1, true) := by
  simp [lookF, dmS, look, heldOf, h]
theorem dm_no {n b m x y : Int} (h : ¬ (x = b ∧ y = m)) : lookF (dmS false n b m) 6 n x y = (0, false) := by
  simp [lookF, dmS, look, h]
theorem run_bs3p (a b c d e f : Int) (w : World) : (Instr.buildSlice 46 3 #[(0, .agg #[.int .i64 a, .int .i64 b]), (1, .agg #[.int .i64 c, .int .i64 d]), (2, .agg #[.int .i64 e, .int .i64 f])]).run Try.prog w = .ok (.slice (some ⟨w.heap.size, 0, none⟩) 3 3) (w.alloc (.cells #[.int .i64 a, .int .i64 b, .int .i64 c, .int .i64 d, .int .i64 e, .int .i64 f] 42)) := by kernel_rfl
theorem row6 {w : World} {r : Nat} {T : TypeId} {a b c d e f : Int} (h : w.heap[r]? = some (.cells #[.int .i64 a, .int .i64 b, .int .i64 c, .int .i64 d, .int .i64 e, .int .i64 f] T)) (k : Nat) (hk : k < 3) :
    ∃ x y : Int, ((x = a ∧ y = b) ∨ (x = c ∧ y = d) ∨ (x = e ∧ y = f)) ∧ w.cell? ⟨r, k * 2, none⟩ = some (.int .i64 x) ∧ w.cell? ⟨r, k * 2 + 1, none⟩ = some (.int .i64 y) := by
  obtain rfl | rfl | rfl : k = 0 ∨ k = 1 ∨ k = 2 := by omega
  · exact ⟨a, b, .inl ⟨rfl, rfl⟩, by simp [World.cell?, h], by simp [World.cell?, h]⟩
  · exact ⟨c, d, .inr (.inl ⟨rfl, rfl⟩), by simp [World.cell?, h], by simp [World.cell?, h]⟩
  · exact ⟨e, f, .inr (.inr ⟨rfl, rfl⟩), by simp [World.cell?, h], by simp [World.cell?, h]⟩
section
attribute [local go_sem] Oper.semAt_some
set_option maxRecDepth 100000 in
set_option maxHeartbeats 16000000 in
theorem demux_yes (hr ta tb u0 u1 u2 : Int) (w : World) (hh : -9223372036854775808 ≤ hr ∧ hr ≤ 9223372036854775807) (hta : -9223372036854775808 ≤ ta ∧ ta ≤ 9223372036854775807) (htb : -9223372036854775808 ≤ tb ∧ tb ≤ 9223372036854775807) (g0 : 0 ≤ u0 ∧ u0 ≤ 65535) (g1 : 0 ≤ u1 ∧ u1 ≤ 65535) (g2 : 0 ≤ u2 ∧ u2 ≤ 65535) :
    Calls Try.prog 4 #[.int .i64 hr, .agg #[.int .i64 ta, .int .i64 tb], .agg #[.int .u16 u0, .int .u16 u1, .int .u16 u2], .bool true] w fun e w' => e = .returned (.bool true) ∧ Below w.heap.size w w' := by
  have HO := Lib.hid (Own.nil w none0)
  have HA := Lib.hid (fun w => pick_any hr 4294967296 w hh (by decide))
  have HB := Lib.hid (fun w => pick_any ta 4294967296 w hta (by decide))
  have HC := Lib.hid (fun w => pick_any tb 4294967296 w htb (by decide))
  have ba := pk_bd hr 4294967296 (by decide)
  have bb := pk_bd ta 4294967296 (by decide)
  have bc := pk_bd tb 4294967296 (by decide)
  generalize pk hr 4294967296 = a at *
  generalize pk ta 4294967296 = b at *
  generalize pk tb 4294967296 = c at *
  obtain ⟨g00, g01⟩ := g0
  obtain ⟨g10, g11⟩ := g1
  obtain ⟨g20, g21⟩ := g2
  have HN := Lib.hid (show (1 ≤ 1 + u0 % 65535 ∧ 1 + u0 % 65535 ≤ 65535) ∧ (1 ≤ 1 + u1 % 65535 ∧ 1 + u1 % 65535 ≤ 65535) ∧ (1 ≤ 1 + u2 % 65535 ∧ 1 + u2 % 65535 ≤ 65535) by omega)
  have HAB := Lib.hid (show (0 ≤ a ∧ a ≤ 4294967295) ∧ (0 ≤ b ∧ b ≤ 4294967295) ∧ (0 ≤ c ∧ c ≤ 4294967295) by omega)
  clear hh hta htb ba bb bc
  have rb := run_bs3p
  obtain ⟨x1, hx1⟩ : ∃ y, w.alloc (.cells #[.int .i64 ta, .int .i64 tb] 42) = y := ⟨_, rfl⟩
  obtain ⟨bt5, hbt5⟩ : ∃ y, w.heap.size = y := ⟨_, rfl⟩
  have hO := HO.out.alloc (.cells #[.int .i64 ta, .int .i64 tb] 42)
  rw [hx1, hbt5] at hO
  replace HO := Lib.hid (show Own w none0 x1 [blkR bt5 (.cells #[.int .i64 ta, .int .i64 tb] 42)] from hO)
  clear hO
  obtain ⟨x2, hx2⟩ : ∃ y, x1.alloc (.cells #[.int .u16 u0, .int .u16 u1, .int .u16 u2] 43) = y := ⟨_, rfl⟩
  obtain ⟨bt6, hbt6⟩ : ∃ y, x1.heap.size = y := ⟨_, rfl⟩
  have hO := HO.out.alloc (.cells #[.int .u16 u0, .int .u16 u1, .int .u16 u2] 43)
  rw [hx2, hbt6] at hO
  replace HO := Lib.hid (show Own w none0 x2 [blkR bt5 (.cells #[.int .i64 ta, .int .i64 tb] 42), blkR bt6 (.cells #[.int .u16 u0, .int .u16 u1, .int .u16 u2] 43)] from hO)
  clear hO
  go_enter Try.func4, Try.ntmps4
  go_wp2_with fail
  refine (examples_o HO.out).mono ?_
  rintro e x3 ⟨rfl, hO, -⟩
  replace HO := Lib.hid (show Own w none0 x3 [blkR bt5 (.cells #[.int .i64 ta, .int .i64 tb] 42), blkR bt6 (.cells #[.int .u16 u0, .int .u16 u1, .int .u16 u2] 43)] from hO)
  clear hO
  clear hx1 hbt5 hx2 hbt6
  have z0_0 : x3.cell? ⟨bt5, 0, none⟩ = some (.int .i64 ta) := HO.out.cell 0 rfl 0 rfl
  have z0_1 : x3.cell? ⟨bt5, 1, none⟩ = some (.int .i64 tb) := HO.out.cell 0 rfl 1 rfl
  have z1_0 : x3.cell? ⟨bt6, 0, none⟩ = some (.int .u16 u0) := HO.out.cell 1 rfl 0 rfl
  have z1_1 : x3.cell? ⟨bt6, 1, none⟩ = some (.int .u16 u1) := HO.out.cell 1 rfl 1 rfl
  have z1_2 : x3.cell? ⟨bt6, 2, none⟩ = some (.int .u16 u2) := HO.out.cell 1 rfl 2 rfl
  go_wp2_with fail
  refine (HA.out _).mono ?_
  rintro e xp ⟨rfl, rfl⟩
  go_wp2_with fail
  refine (HB.out _).mono ?_
  rintro e xp ⟨rfl, rfl⟩
  go_wp2_with fail
  refine (HC.out _).mono ?_
  rintro e xp ⟨rfl, rfl⟩
  go_wp2_with fail
  refine (new_o 0 HO.out).mono ?_
  rintro e x4 ⟨p, rfl, hO, -⟩
  replace HO := Lib.hid (show Own w none0 x4 [blkR bt5 (.cells #[.int .i64 ta, .int .i64 tb] 42), blkR bt6 (.cells #[.int .u16 u0, .int .u16 u1, .int .u16 u2] 43), resP p ⟨0, 0, [], []⟩] from hO)
  clear hO
  clear z0_0 z0_1 z1_0 z1_1 z1_2
  generalize 1 + u0 % 65535 = n at *
  generalize 1 + u1 % 65535 = m at *
  generalize 1 + u2 % 65535 = o at *
  have HBD := Lib.hid (dm_bind HN.out.1)
  go_wp2_with fail
  refine (bind_o HO.out 2 rfl HBD.out.1 HBD.out.2 (by decide)).mono ?_
  rintro e x5 ⟨rfl, hO, -⟩
  replace HO := Lib.hid (show Own w none0 x5 [blkR bt5 (.cells #[.int .i64 ta, .int .i64 tb] 42), blkR bt6 (.cells #[.int .u16 u0, .int .u16 u1, .int .u16 u2] 43), resP p ⟨0, 0, [(⟨6, n⟩, 1)], []⟩] from hO)
  clear hO
  have HCN := Lib.hid (dm_conn true HN.out.1 HAB.out.2.1 HN.out.2.1)
  go_wp2_with fail
  refine (conn_o HO.out 2 rfl HCN.out.1 HCN.out.2 (by show 0 ≤ 1000000; decide)).mono ?_
  rintro e x6 ⟨rfl, hO, -⟩
  replace HO := Lib.hid (show Own w none0 x6 [blkR bt5 (.cells #[.int .i64 ta, .int .i64 tb] 42), blkR bt6 (.cells #[.int .u16 u0, .int .u16 u1, .int .u16 u2] 43), resP p (dmS true n b m)] from hO)
  clear hO
  obtain ⟨x7, hx7⟩ : ∃ y, x6.alloc (.cells #[.int .i64 b, .int .i64 m, .int .i64 c, .int .i64 m, .int .i64 b, .int .i64 o] 42) = y := ⟨_, rfl⟩
  obtain ⟨r, hr⟩ : ∃ y, x6.heap.size = y := ⟨_, rfl⟩
  have hO := HO.out.alloc (.cells #[.int .i64 b, .int .i64 m, .int .i64 c, .int .i64 m, .int .i64 b, .int .i64 o] 42)
  rw [hx7, hr] at hO
  replace HO := Lib.hid (show Own w none0 x7 [blkR bt5 (.cells #[.int .i64 ta, .int .i64 tb] 42), blkR bt6 (.cells #[.int .u16 u0, .int .u16 u1, .int .u16 u2] 43), resP p (dmS true n b m), blkR r (.cells #[.int .i64 b, .int .i64 m, .int .i64 c, .int .i64 m, .int .i64 b, .int .i64 o] 42)] from hO)
  clear hO
  go_wp2
  go_loopw [79] (fun iv wr => ∃ k : Nat, k ≤ 3 ∧ iv = .int .i64 k ∧ Own w none0 wr [blkR bt5 (.cells #[.int .i64 ta, .int .i64 tb] 42), blkR bt6 (.cells #[.int .u16 u0, .int .u16 u1, .int .u16 u2] 43), resP p (dmS true n b m), blkR r (.cells #[.int .i64 b, .int .i64 m, .int .i64 c, .int .i64 m, .int .i64 b, .int .i64 o] 42)]) (fun iv _ => 3 - (intOf iv).toNat)
  case atStart => exact ⟨0, Nat.zero_le _, rfl, HO.out⟩
  case round =>
    obtain ⟨k, hk, rfl, hO⟩ := hrel
    replace HO := Lib.hid hO
    clear hO hx7 hr rb
    by_cases hlt : k < 3
    · have hdl : decide ((k : Int) < 3) = true := decide_eq_true (by omega)
      obtain ⟨vx, vy, hxy, c0, c1⟩ := row6 (HO.out.blk 3 rfl) k hlt
      have HX := Lib.hid (show (0 ≤ vx ∧ vx ≤ 4294967295) ∧ (1 ≤ vy ∧ vy ≤ 65535) by have h1 := HN.out; have h2 := HAB.out; omega)
      have HEN := Lib.hid (fun w => sencode_r vx a vy n 7 ⟨#[122]⟩ w HX.out.1.1 HX.out.1.2 HAB.out.1.1 HAB.out.1.2 HX.out.2.1 HX.out.2.2 HN.out.1.1 HN.out.1.2 (by decide) (by decide) (by decide))
      have HDE := Lib.hid (fun w => sdecode_r vx a vy n 7 ⟨#[122]⟩ w HX.out.1.1 HX.out.1.2 HAB.out.1.1 HAB.out.1.2 HX.out.2.1 HX.out.2.2 HN.out.1.1 HN.out.1.2 (by decide) (by decide) (by decide))
      have HAV := Lib.hid (fun w => adrv_r vx w HX.out.1.1 HX.out.1.2)
      generalize encSg vx a vy n 7 ⟨#[122]⟩ = s at *
      unfold sgC at *
      clear hxy
      obtain ⟨x101, hx101⟩ : ∃ y, wr.alloc (.cells #[.int .i64 0, .int .i64 0] 42) = y := ⟨_, rfl⟩
      obtain ⟨q, hq⟩ : ∃ y, wr.heap.size = y := ⟨_, rfl⟩
      have hO := HO.out.alloc (.cells #[.int .i64 0, .int .i64 0] 42)
      rw [hx101, hq] at hO
      replace HO := Lib.hid (show Own w none0 x101 [blkR bt5 (.cells #[.int .i64 ta, .int .i64 tb] 42), blkR bt6 (.cells #[.int .u16 u0, .int .u16 u1, .int .u16 u2] 43), resP p (dmS true n b m), blkR r (.cells #[.int .i64 b, .int .i64 m, .int .i64 c, .int .i64 m, .int .i64 b, .int .i64 o] 42), blkR q (.cells #[.int .i64 0, .int .i64 0] 42)] from hO)
      clear hO
      have k4_0_102 : x101.cell? ⟨q, 0, none⟩ = some (.int .i64 0) := HO.out.cell 4 rfl 0 rfl
      have lk4_0_102 : x101.frozen? ⟨q, 0, none⟩ = false := HO.out.frz 4 rfl 0
      have k4_1_103 : x101.cell? ⟨q, 1, none⟩ = some (.int .i64 0) := HO.out.cell 4 rfl 1 rfl
      have lk4_1_103 : x101.frozen? ⟨q, 1, none⟩ = false := HO.out.frz 4 rfl 1
      obtain ⟨x104, hx104⟩ : ∃ y, x101.setCell ⟨q, 0, none⟩ (.int .i64 vx) = y := ⟨_, rfl⟩
      have hO := HO.out.setCell 4 rfl 0 (.int .i64 vx)
      rw [hx104] at hO
      replace HO := Lib.hid (show Own w none0 x104 [blkR bt5 (.cells #[.int .i64 ta, .int .i64 tb] 42), blkR bt6 (.cells #[.int .u16 u0, .int .u16 u1, .int .u16 u2] 43), resP p (dmS true n b m), blkR r (.cells #[.int .i64 b, .int .i64 m, .int .i64 c, .int .i64 m, .int .i64 b, .int .i64 o] 42), blkR q (.cells #[.int .i64 vx, .int .i64 0] 42)] from hO)
      clear hO
      have k4_1_105 : x104.cell? ⟨q, 1, none⟩ = some (.int .i64 0) := HO.out.cell 4 rfl 1 rfl
      have lk4_1_105 : x104.frozen? ⟨q, 1, none⟩ = false := HO.out.frz 4 rfl 1
      obtain ⟨x106, hx106⟩ : ∃ y, x104.setCell ⟨q, 1, none⟩ (.int .i64 vy) = y := ⟨_, rfl⟩
      have hO := HO.out.setCell 4 rfl 1 (.int .i64 vy)
      rw [hx106] at hO
      replace HO := Lib.hid (show Own w none0 x106 [blkR bt5 (.cells #[.int .i64 ta, .int .i64 tb] 42), blkR bt6 (.cells #[.int .u16 u0, .int .u16 u1, .int .u16 u2] 43), resP p (dmS true n b m), blkR r (.cells #[.int .i64 b, .int .i64 m, .int .i64 c, .int .i64 m, .int .i64 b, .int .i64 o] 42), blkR q (.cells #[.int .i64 vx, .int .i64 vy] 42)] from hO)
      clear hO
      have z4_0 : x106.cell? ⟨q, 0, none⟩ = some (.int .i64 vx) := HO.out.cell 4 rfl 0 rfl
      have z4_1 : x106.cell? ⟨q, 1, none⟩ = some (.int .i64 vy) := HO.out.cell 4 rfl 1 rfl
      go_wp2_with fail
      refine (o_still HO.out (HEN.out _)).mono ?_
      rintro e x107 ⟨rfl, hO, -⟩
      replace HO := Lib.hid (show Own w none0 x107 [blkR bt5 (.cells #[.int .i64 ta, .int .i64 tb] 42), blkR bt6 (.cells #[.int .u16 u0, .int .u16 u1, .int .u16 u2] 43), resP p (dmS true n b m), blkR r (.cells #[.int .i64 b, .int .i64 m, .int .i64 c, .int .i64 m, .int .i64 b, .int .i64 o] 42), blkR q (.cells #[.int .i64 vx, .int .i64 vy] 42)] from hO)
      clear hO
      clear c0 c1 hx101 hq k4_0_102 lk4_0_102 k4_1_103 lk4_1_103 hx104 k4_1_105 lk4_1_105 hx106 z4_0 z4_1
      have z4_0 : x107.cell? ⟨q, 0, none⟩ = some (.int .i64 vx) := HO.out.cell 4 rfl 0 rfl
      have z4_1 : x107.cell? ⟨q, 1, none⟩ = some (.int .i64 vy) := HO.out.cell 4 rfl 1 rfl
      go_wp2_with fail
      refine (o_still HO.out (HDE.out _)).mono ?_
      rintro e x108 ⟨rfl, hO, -⟩
      replace HO := Lib.hid (show Own w none0 x108 [blkR bt5 (.cells #[.int .i64 ta, .int .i64 tb] 42), blkR bt6 (.cells #[.int .u16 u0, .int .u16 u1, .int .u16 u2] 43), resP p (dmS true n b m), blkR r (.cells #[.int .i64 b, .int .i64 m, .int .i64 c, .int .i64 m, .int .i64 b, .int .i64 o] 42), blkR q (.cells #[.int .i64 vx, .int .i64 vy] 42)] from hO)
      clear hO
      clear z4_0 z4_1
      have z4_0 : x108.cell? ⟨q, 0, none⟩ = some (.int .i64 vx) := HO.out.cell 4 rfl 0 rfl
      have z4_1 : x108.cell? ⟨q, 1, none⟩ = some (.int .i64 vy) := HO.out.cell 4 rfl 1 rfl
      obtain ⟨x109, hx109⟩ : ∃ y, x108.alloc (.cells #[.int .i64 0, .int .i64 0, .int .i64 0, .int .i64 0, .bool false, .bool false, .bool false, .bool false, .int .i64 0, .int .i64 0, .bool false, .slice none 0 0, .string ⟨#[]⟩] 51) = y := ⟨_, rfl⟩
      obtain ⟨sg, hsg⟩ : ∃ y, x108.heap.size = y := ⟨_, rfl⟩
      have hO := HO.out.alloc (.cells #[.int .i64 0, .int .i64 0, .int .i64 0, .int .i64 0, .bool false, .bool false, .bool false, .bool false, .int .i64 0, .int .i64 0, .bool false, .slice none 0 0, .string ⟨#[]⟩] 51)
      rw [hx109, hsg] at hO
      replace HO := Lib.hid (show Own w none0 x109 [blkR bt5 (.cells #[.int .i64 ta, .int .i64 tb] 42), blkR bt6 (.cells #[.int .u16 u0, .int .u16 u1, .int .u16 u2] 43), resP p (dmS true n b m), blkR r (.cells #[.int .i64 b, .int .i64 m, .int .i64 c, .int .i64 m, .int .i64 b, .int .i64 o] 42), blkR q (.cells #[.int .i64 vx, .int .i64 vy] 42), blkR sg (.cells #[.int .i64 0, .int .i64 0, .int .i64 0, .int .i64 0, .bool false, .bool false, .bool false, .bool false, .int .i64 0, .int .i64 0, .bool false, .slice none 0 0, .string ⟨#[]⟩] 51)] from hO)
      clear hO
      have k5_0_110 : x109.cell? ⟨sg, 0, none⟩ = some (.int .i64 0) := HO.out.cell 5 rfl 0 rfl
      have lk5_0_110 : x109.frozen? ⟨sg, 0, none⟩ = false := HO.out.frz 5 rfl 0
      have k5_1_111 : x109.cell? ⟨sg, 1, none⟩ = some (.int .i64 0) := HO.out.cell 5 rfl 1 rfl
      have lk5_1_111 : x109.frozen? ⟨sg, 1, none⟩ = false := HO.out.frz 5 rfl 1
      have k5_2_112 : x109.cell? ⟨sg, 2, none⟩ = some (.int .i64 0) := HO.out.cell 5 rfl 2 rfl
      have lk5_2_112 : x109.frozen? ⟨sg, 2, none⟩ = false := HO.out.frz 5 rfl 2
      have k5_3_113 : x109.cell? ⟨sg, 3, none⟩ = some (.int .i64 0) := HO.out.cell 5 rfl 3 rfl
      have lk5_3_113 : x109.frozen? ⟨sg, 3, none⟩ = false := HO.out.frz 5 rfl 3
      have k5_4_114 : x109.cell? ⟨sg, 4, none⟩ = some (.bool false) := HO.out.cell 5 rfl 4 rfl
      have lk5_4_114 : x109.frozen? ⟨sg, 4, none⟩ = false := HO.out.frz 5 rfl 4
      have k5_5_115 : x109.cell? ⟨sg, 5, none⟩ = some (.bool false) := HO.out.cell 5 rfl 5 rfl
      have lk5_5_115 : x109.frozen? ⟨sg, 5, none⟩ = false := HO.out.frz 5 rfl 5
      have k5_6_116 : x109.cell? ⟨sg, 6, none⟩ = some (.bool false) := HO.out.cell 5 rfl 6 rfl
      have lk5_6_116 : x109.frozen? ⟨sg, 6, none⟩ = false := HO.out.frz 5 rfl 6
      have k5_7_117 : x109.cell? ⟨sg, 7, none⟩ = some (.bool false) := HO.out.cell 5 rfl 7 rfl
      have lk5_7_117 : x109.frozen? ⟨sg, 7, none⟩ = false := HO.out.frz 5 rfl 7
      have k5_8_118 : x109.cell? ⟨sg, 8, none⟩ = some (.int .i64 0) := HO.out.cell 5 rfl 8 rfl
      have lk5_8_118 : x109.frozen? ⟨sg, 8, none⟩ = false := HO.out.frz 5 rfl 8
      have k5_9_119 : x109.cell? ⟨sg, 9, none⟩ = some (.int .i64 0) := HO.out.cell 5 rfl 9 rfl
      have lk5_9_119 : x109.frozen? ⟨sg, 9, none⟩ = false := HO.out.frz 5 rfl 9
      have k5_10_120 : x109.cell? ⟨sg, 10, none⟩ = some (.bool false) := HO.out.cell 5 rfl 10 rfl
      have lk5_10_120 : x109.frozen? ⟨sg, 10, none⟩ = false := HO.out.frz 5 rfl 10
      have k5_11_121 : x109.cell? ⟨sg, 11, none⟩ = some (.slice none 0 0) := HO.out.cell 5 rfl 11 rfl
      have lk5_11_121 : x109.frozen? ⟨sg, 11, none⟩ = false := HO.out.frz 5 rfl 11
      have k5_12_122 : x109.cell? ⟨sg, 12, none⟩ = some (.string ⟨#[]⟩) := HO.out.cell 5 rfl 12 rfl
      have lk5_12_122 : x109.frozen? ⟨sg, 12, none⟩ = false := HO.out.frz 5 rfl 12
      obtain ⟨x123, hx123⟩ : ∃ y, x109.setCell ⟨sg, 0, none⟩ (.int .i64 vy) = y := ⟨_, rfl⟩
      have hO := HO.out.setCell 5 rfl 0 (.int .i64 vy)
      rw [hx123] at hO
      replace HO := Lib.hid (show Own w none0 x123 [blkR bt5 (.cells #[.int .i64 ta, .int .i64 tb] 42), blkR bt6 (.cells #[.int .u16 u0, .int .u16 u1, .int .u16 u2] 43), resP p (dmS true n b m), blkR r (.cells #[.int .i64 b, .int .i64 m, .int .i64 c, .int .i64 m, .int .i64 b, .int .i64 o] 42), blkR q (.cells #[.int .i64 vx, .int .i64 vy] 42), blkR sg (.cells #[.int .i64 vy, .int .i64 0, .int .i64 0, .int .i64 0, .bool false, .bool false, .bool false, .bool false, .int .i64 0, .int .i64 0, .bool false, .slice none 0 0, .string ⟨#[]⟩] 51)] from hO)
      clear hO
      have k5_1_124 : x123.cell? ⟨sg, 1, none⟩ = some (.int .i64 0) := HO.out.cell 5 rfl 1 rfl
      have lk5_1_124 : x123.frozen? ⟨sg, 1, none⟩ = false := HO.out.frz 5 rfl 1
      have k5_2_125 : x123.cell? ⟨sg, 2, none⟩ = some (.int .i64 0) := HO.out.cell 5 rfl 2 rfl
      have lk5_2_125 : x123.frozen? ⟨sg, 2, none⟩ = false := HO.out.frz 5 rfl 2
      have k5_3_126 : x123.cell? ⟨sg, 3, none⟩ = some (.int .i64 0) := HO.out.cell 5 rfl 3 rfl
      have lk5_3_126 : x123.frozen? ⟨sg, 3, none⟩ = false := HO.out.frz 5 rfl 3
      have k5_4_127 : x123.cell? ⟨sg, 4, none⟩ = some (.bool false) := HO.out.cell 5 rfl 4 rfl
      have lk5_4_127 : x123.frozen? ⟨sg, 4, none⟩ = false := HO.out.frz 5 rfl 4
      have k5_5_128 : x123.cell? ⟨sg, 5, none⟩ = some (.bool false) := HO.out.cell 5 rfl 5 rfl
      have lk5_5_128 : x123.frozen? ⟨sg, 5, none⟩ = false := HO.out.frz 5 rfl 5
      have k5_6_129 : x123.cell? ⟨sg, 6, none⟩ = some (.bool false) := HO.out.cell 5 rfl 6 rfl
      have lk5_6_129 : x123.frozen? ⟨sg, 6, none⟩ = false := HO.out.frz 5 rfl 6
      have k5_7_130 : x123.cell? ⟨sg, 7, none⟩ = some (.bool false) := HO.out.cell 5 rfl 7 rfl
      have lk5_7_130 : x123.frozen? ⟨sg, 7, none⟩ = false := HO.out.frz 5 rfl 7
      have k5_8_131 : x123.cell? ⟨sg, 8, none⟩ = some (.int .i64 0) := HO.out.cell 5 rfl 8 rfl
      have lk5_8_131 : x123.frozen? ⟨sg, 8, none⟩ = false := HO.out.frz 5 rfl 8
      have k5_9_132 : x123.cell? ⟨sg, 9, none⟩ = some (.int .i64 0) := HO.out.cell 5 rfl 9 rfl
      have lk5_9_132 : x123.frozen? ⟨sg, 9, none⟩ = false := HO.out.frz 5 rfl 9
      have k5_10_133 : x123.cell? ⟨sg, 10, none⟩ = some (.bool false) := HO.out.cell 5 rfl 10 rfl
      have lk5_10_133 : x123.frozen? ⟨sg, 10, none⟩ = false := HO.out.frz 5 rfl 10
      have k5_11_134 : x123.cell? ⟨sg, 11, none⟩ = some (.slice none 0 0) := HO.out.cell 5 rfl 11 rfl
      have lk5_11_134 : x123.frozen? ⟨sg, 11, none⟩ = false := HO.out.frz 5 rfl 11
      have k5_12_135 : x123.cell? ⟨sg, 12, none⟩ = some (.string ⟨#[]⟩) := HO.out.cell 5 rfl 12 rfl
      have lk5_12_135 : x123.frozen? ⟨sg, 12, none⟩ = false := HO.out.frz 5 rfl 12
      obtain ⟨x136, hx136⟩ : ∃ y, x123.setCell ⟨sg, 1, none⟩ (.int .i64 n) = y := ⟨_, rfl⟩
      have hO := HO.out.setCell 5 rfl 1 (.int .i64 n)
      rw [hx136] at hO
      replace HO := Lib.hid (show Own w none0 x136 [blkR bt5 (.cells #[.int .i64 ta, .int .i64 tb] 42), blkR bt6 (.cells #[.int .u16 u0, .int .u16 u1, .int .u16 u2] 43), resP p (dmS true n b m), blkR r (.cells #[.int .i64 b, .int .i64 m, .int .i64 c, .int .i64 m, .int .i64 b, .int .i64 o] 42), blkR q (.cells #[.int .i64 vx, .int .i64 vy] 42), blkR sg (.cells #[.int .i64 vy, .int .i64 n, .int .i64 0, .int .i64 0, .bool false, .bool false, .bool false, .bool false, .int .i64 0, .int .i64 0, .bool false, .slice none 0 0, .string ⟨#[]⟩] 51)] from hO)
      clear hO
      have k5_2_137 : x136.cell? ⟨sg, 2, none⟩ = some (.int .i64 0) := HO.out.cell 5 rfl 2 rfl
      have lk5_2_137 : x136.frozen? ⟨sg, 2, none⟩ = false := HO.out.frz 5 rfl 2
      have k5_3_138 : x136.cell? ⟨sg, 3, none⟩ = some (.int .i64 0) := HO.out.cell 5 rfl 3 rfl
      have lk5_3_138 : x136.frozen? ⟨sg, 3, none⟩ = false := HO.out.frz 5 rfl 3
      have k5_4_139 : x136.cell? ⟨sg, 4, none⟩ = some (.bool false) := HO.out.cell 5 rfl 4 rfl
      have lk5_4_139 : x136.frozen? ⟨sg, 4, none⟩ = false := HO.out.frz 5 rfl 4
      have k5_5_140 : x136.cell? ⟨sg, 5, none⟩ = some (.bool false) := HO.out.cell 5 rfl 5 rfl
      have lk5_5_140 : x136.frozen? ⟨sg, 5, none⟩ = false := HO.out.frz 5 rfl 5
      have k5_6_141 : x136.cell? ⟨sg, 6, none⟩ = some (.bool false) := HO.out.cell 5 rfl 6 rfl
      have lk5_6_141 : x136.frozen? ⟨sg, 6, none⟩ = false := HO.out.frz 5 rfl 6
      have k5_7_142 : x136.cell? ⟨sg, 7, none⟩ = some (.bool false) := HO.out.cell 5 rfl 7 rfl
      have lk5_7_142 : x136.frozen? ⟨sg, 7, none⟩ = false := HO.out.frz 5 rfl 7
      have k5_8_143 : x136.cell? ⟨sg, 8, none⟩ = some (.int .i64 0) := HO.out.cell 5 rfl 8 rfl
      have lk5_8_143 : x136.frozen? ⟨sg, 8, none⟩ = false := HO.out.frz 5 rfl 8
      have k5_9_144 : x136.cell? ⟨sg, 9, none⟩ = some (.int .i64 0) := HO.out.cell 5 rfl 9 rfl
      have lk5_9_144 : x136.frozen? ⟨sg, 9, none⟩ = false := HO.out.frz 5 rfl 9
      have k5_10_145 : x136.cell? ⟨sg, 10, none⟩ = some (.bool false) := HO.out.cell 5 rfl 10 rfl
      have lk5_10_145 : x136.frozen? ⟨sg, 10, none⟩ = false := HO.out.frz 5 rfl 10
      have k5_11_146 : x136.cell? ⟨sg, 11, none⟩ = some (.slice none 0 0) := HO.out.cell 5 rfl 11 rfl
      have lk5_11_146 : x136.frozen? ⟨sg, 11, none⟩ = false := HO.out.frz 5 rfl 11
      have k5_12_147 : x136.cell? ⟨sg, 12, none⟩ = some (.string ⟨#[]⟩) := HO.out.cell 5 rfl 12 rfl
      have lk5_12_147 : x136.frozen? ⟨sg, 12, none⟩ = false := HO.out.frz 5 rfl 12
      obtain ⟨x148, hx148⟩ : ∃ y, x136.setCell ⟨sg, 2, none⟩ (.int .i64 7) = y := ⟨_, rfl⟩
      have hO := HO.out.setCell 5 rfl 2 (.int .i64 7)
      rw [hx148] at hO
      replace HO := Lib.hid (show Own w none0 x148 [blkR bt5 (.cells #[.int .i64 ta, .int .i64 tb] 42), blkR bt6 (.cells #[.int .u16 u0, .int .u16 u1, .int .u16 u2] 43), resP p (dmS true n b m), blkR r (.cells #[.int .i64 b, .int .i64 m, .int .i64 c, .int .i64 m, .int .i64 b, .int .i64 o] 42), blkR q (.cells #[.int .i64 vx, .int .i64 vy] 42), blkR sg (.cells #[.int .i64 vy, .int .i64 n, .int .i64 7, .int .i64 0, .bool false, .bool false, .bool false, .bool false, .int .i64 0, .int .i64 0, .bool false, .slice none 0 0, .string ⟨#[]⟩] 51)] from hO)
      clear hO
      have k5_3_149 : x148.cell? ⟨sg, 3, none⟩ = some (.int .i64 0) := HO.out.cell 5 rfl 3 rfl
      have lk5_3_149 : x148.frozen? ⟨sg, 3, none⟩ = false := HO.out.frz 5 rfl 3
      have k5_4_150 : x148.cell? ⟨sg, 4, none⟩ = some (.bool false) := HO.out.cell 5 rfl 4 rfl
      have lk5_4_150 : x148.frozen? ⟨sg, 4, none⟩ = false := HO.out.frz 5 rfl 4
      have k5_5_151 : x148.cell? ⟨sg, 5, none⟩ = some (.bool false) := HO.out.cell 5 rfl 5 rfl
      have lk5_5_151 : x148.frozen? ⟨sg, 5, none⟩ = false := HO.out.frz 5 rfl 5
      have k5_6_152 : x148.cell? ⟨sg, 6, none⟩ = some (.bool false) := HO.out.cell 5 rfl 6 rfl
      have lk5_6_152 : x148.frozen? ⟨sg, 6, none⟩ = false := HO.out.frz 5 rfl 6
      have k5_7_153 : x148.cell? ⟨sg, 7, none⟩ = some (.bool false) := HO.out.cell 5 rfl 7 rfl
      have lk5_7_153 : x148.frozen? ⟨sg, 7, none⟩ = false := HO.out.frz 5 rfl 7
      have k5_8_154 : x148.cell? ⟨sg, 8, none⟩ = some (.int .i64 0) := HO.out.cell 5 rfl 8 rfl
      have lk5_8_154 : x148.frozen? ⟨sg, 8, none⟩ = false := HO.out.frz 5 rfl 8
      have k5_9_155 : x148.cell? ⟨sg, 9, none⟩ = some (.int .i64 0) := HO.out.cell 5 rfl 9 rfl
      have lk5_9_155 : x148.frozen? ⟨sg, 9, none⟩ = false := HO.out.frz 5 rfl 9
      have k5_10_156 : x148.cell? ⟨sg, 10, none⟩ = some (.bool false) := HO.out.cell 5 rfl 10 rfl
      have lk5_10_156 : x148.frozen? ⟨sg, 10, none⟩ = false := HO.out.frz 5 rfl 10
      have k5_11_157 : x148.cell? ⟨sg, 11, none⟩ = some (.slice none 0 0) := HO.out.cell 5 rfl 11 rfl
      have lk5_11_157 : x148.frozen? ⟨sg, 11, none⟩ = false := HO.out.frz 5 rfl 11
      have k5_12_158 : x148.cell? ⟨sg, 12, none⟩ = some (.string ⟨#[]⟩) := HO.out.cell 5 rfl 12 rfl
      have lk5_12_158 : x148.frozen? ⟨sg, 12, none⟩ = false := HO.out.frz 5 rfl 12
      obtain ⟨x159, hx159⟩ : ∃ y, x148.setCell ⟨sg, 3, none⟩ (.int .i64 0) = y := ⟨_, rfl⟩
      have hO := HO.out.setCell 5 rfl 3 (.int .i64 0)
      rw [hx159] at hO
      replace HO := Lib.hid (show Own w none0 x159 [blkR bt5 (.cells #[.int .i64 ta, .int .i64 tb] 42), blkR bt6 (.cells #[.int .u16 u0, .int .u16 u1, .int .u16 u2] 43), resP p (dmS true n b m), blkR r (.cells #[.int .i64 b, .int .i64 m, .int .i64 c, .int .i64 m, .int .i64 b, .int .i64 o] 42), blkR q (.cells #[.int .i64 vx, .int .i64 vy] 42), blkR sg (.cells #[.int .i64 vy, .int .i64 n, .int .i64 7, .int .i64 0, .bool false, .bool false, .bool false, .bool false, .int .i64 0, .int .i64 0, .bool false, .slice none 0 0, .string ⟨#[]⟩] 51)] from hO)
      clear hO
      have k5_4_160 : x159.cell? ⟨sg, 4, none⟩ = some (.bool false) := HO.out.cell 5 rfl 4 rfl
      have lk5_4_160 : x159.frozen? ⟨sg, 4, none⟩ = false := HO.out.frz 5 rfl 4
      have k5_5_161 : x159.cell? ⟨sg, 5, none⟩ = some (.bool false) := HO.out.cell 5 rfl 5 rfl
      have lk5_5_161 : x159.frozen? ⟨sg, 5, none⟩ = false := HO.out.frz 5 rfl 5
      have k5_6_162 : x159.cell? ⟨sg, 6, none⟩ = some (.bool false) := HO.out.cell 5 rfl 6 rfl
      have lk5_6_162 : x159.frozen? ⟨sg, 6, none⟩ = false := HO.out.frz 5 rfl 6
      have k5_7_163 : x159.cell? ⟨sg, 7, none⟩ = some (.bool false) := HO.out.cell 5 rfl 7 rfl
      have lk5_7_163 : x159.frozen? ⟨sg, 7, none⟩ = false := HO.out.frz 5 rfl 7
      have k5_8_164 : x159.cell? ⟨sg, 8, none⟩ = some (.int .i64 0) := HO.out.cell 5 rfl 8 rfl
      have lk5_8_164 : x159.frozen? ⟨sg, 8, none⟩ = false := HO.out.frz 5 rfl 8
      have k5_9_165 : x159.cell? ⟨sg, 9, none⟩ = some (.int .i64 0) := HO.out.cell 5 rfl 9 rfl
      have lk5_9_165 : x159.frozen? ⟨sg, 9, none⟩ = false := HO.out.frz 5 rfl 9
      have k5_10_166 : x159.cell? ⟨sg, 10, none⟩ = some (.bool false) := HO.out.cell 5 rfl 10 rfl
      have lk5_10_166 : x159.frozen? ⟨sg, 10, none⟩ = false := HO.out.frz 5 rfl 10
      have k5_11_167 : x159.cell? ⟨sg, 11, none⟩ = some (.slice none 0 0) := HO.out.cell 5 rfl 11 rfl
      have lk5_11_167 : x159.frozen? ⟨sg, 11, none⟩ = false := HO.out.frz 5 rfl 11
      have k5_12_168 : x159.cell? ⟨sg, 12, none⟩ = some (.string ⟨#[]⟩) := HO.out.cell 5 rfl 12 rfl
      have lk5_12_168 : x159.frozen? ⟨sg, 12, none⟩ = false := HO.out.frz 5 rfl 12
      obtain ⟨x169, hx169⟩ : ∃ y, x159.setCell ⟨sg, 4, none⟩ (.bool false) = y := ⟨_, rfl⟩
      have hO := HO.out.setCell 5 rfl 4 (.bool false)
      rw [hx169] at hO
      replace HO := Lib.hid (show Own w none0 x169 [blkR bt5 (.cells #[.int .i64 ta, .int .i64 tb] 42), blkR bt6 (.cells #[.int .u16 u0, .int .u16 u1, .int .u16 u2] 43), resP p (dmS true n b m), blkR r (.cells #[.int .i64 b, .int .i64 m, .int .i64 c, .int .i64 m, .int .i64 b, .int .i64 o] 42), blkR q (.cells #[.int .i64 vx, .int .i64 vy] 42), blkR sg (.cells #[.int .i64 vy, .int .i64 n, .int .i64 7, .int .i64 0, .bool false, .bool false, .bool false, .bool false, .int .i64 0, .int .i64 0, .bool false, .slice none 0 0, .string ⟨#[]⟩] 51)] from hO)
      clear hO
      have k5_5_170 : x169.cell? ⟨sg, 5, none⟩ = some (.bool false) := HO.out.cell 5 rfl 5 rfl
      have lk5_5_170 : x169.frozen? ⟨sg, 5, none⟩ = false := HO.out.frz 5 rfl 5
      have k5_6_171 : x169.cell? ⟨sg, 6, none⟩ = some (.bool false) := HO.out.cell 5 rfl 6 rfl
      have lk5_6_171 : x169.frozen? ⟨sg, 6, none⟩ = false := HO.out.frz 5 rfl 6
      have k5_7_172 : x169.cell? ⟨sg, 7, none⟩ = some (.bool false) := HO.out.cell 5 rfl 7 rfl
      have lk5_7_172 : x169.frozen? ⟨sg, 7, none⟩ = false := HO.out.frz 5 rfl 7
      have k5_8_173 : x169.cell? ⟨sg, 8, none⟩ = some (.int .i64 0) := HO.out.cell 5 rfl 8 rfl
      have lk5_8_173 : x169.frozen? ⟨sg, 8, none⟩ = false := HO.out.frz 5 rfl 8
      have k5_9_174 : x169.cell? ⟨sg, 9, none⟩ = some (.int .i64 0) := HO.out.cell 5 rfl 9 rfl
      have lk5_9_174 : x169.frozen? ⟨sg, 9, none⟩ = false := HO.out.frz 5 rfl 9
      have k5_10_175 : x169.cell? ⟨sg, 10, none⟩ = some (.bool false) := HO.out.cell 5 rfl 10 rfl
      have lk5_10_175 : x169.frozen? ⟨sg, 10, none⟩ = false := HO.out.frz 5 rfl 10
      have k5_11_176 : x169.cell? ⟨sg, 11, none⟩ = some (.slice none 0 0) := HO.out.cell 5 rfl 11 rfl
      have lk5_11_176 : x169.frozen? ⟨sg, 11, none⟩ = false := HO.out.frz 5 rfl 11
      have k5_12_177 : x169.cell? ⟨sg, 12, none⟩ = some (.string ⟨#[]⟩) := HO.out.cell 5 rfl 12 rfl
      have lk5_12_177 : x169.frozen? ⟨sg, 12, none⟩ = false := HO.out.frz 5 rfl 12
      obtain ⟨x178, hx178⟩ : ∃ y, x169.setCell ⟨sg, 5, none⟩ (.bool false) = y := ⟨_, rfl⟩
      have hO := HO.out.setCell 5 rfl 5 (.bool false)
      rw [hx178] at hO
      replace HO := Lib.hid (show Own w none0 x178 [blkR bt5 (.cells #[.int .i64 ta, .int .i64 tb] 42), blkR bt6 (.cells #[.int .u16 u0, .int .u16 u1, .int .u16 u2] 43), resP p (dmS true n b m), blkR r (.cells #[.int .i64 b, .int .i64 m, .int .i64 c, .int .i64 m, .int .i64 b, .int .i64 o] 42), blkR q (.cells #[.int .i64 vx, .int .i64 vy] 42), blkR sg (.cells #[.int .i64 vy, .int .i64 n, .int .i64 7, .int .i64 0, .bool false, .bool false, .bool false, .bool false, .int .i64 0, .int .i64 0, .bool false, .slice none 0 0, .string ⟨#[]⟩] 51)] from hO)
      clear hO
      have k5_6_179 : x178.cell? ⟨sg, 6, none⟩ = some (.bool false) := HO.out.cell 5 rfl 6 rfl
      have lk5_6_179 : x178.frozen? ⟨sg, 6, none⟩ = false := HO.out.frz 5 rfl 6
      have k5_7_180 : x178.cell? ⟨sg, 7, none⟩ = some (.bool false) := HO.out.cell 5 rfl 7 rfl
      have lk5_7_180 : x178.frozen? ⟨sg, 7, none⟩ = false := HO.out.frz 5 rfl 7
      have k5_8_181 : x178.cell? ⟨sg, 8, none⟩ = some (.int .i64 0) := HO.out.cell 5 rfl 8 rfl
      have lk5_8_181 : x178.frozen? ⟨sg, 8, none⟩ = false := HO.out.frz 5 rfl 8
      have k5_9_182 : x178.cell? ⟨sg, 9, none⟩ = some (.int .i64 0) := HO.out.cell 5 rfl 9 rfl
      have lk5_9_182 : x178.frozen? ⟨sg, 9, none⟩ = false := HO.out.frz 5 rfl 9
      have k5_10_183 : x178.cell? ⟨sg, 10, none⟩ = some (.bool false) := HO.out.cell 5 rfl 10 rfl
      have lk5_10_183 : x178.frozen? ⟨sg, 10, none⟩ = false := HO.out.frz 5 rfl 10
      have k5_11_184 : x178.cell? ⟨sg, 11, none⟩ = some (.slice none 0 0) := HO.out.cell 5 rfl 11 rfl
      have lk5_11_184 : x178.frozen? ⟨sg, 11, none⟩ = false := HO.out.frz 5 rfl 11
      have k5_12_185 : x178.cell? ⟨sg, 12, none⟩ = some (.string ⟨#[]⟩) := HO.out.cell 5 rfl 12 rfl
      have lk5_12_185 : x178.frozen? ⟨sg, 12, none⟩ = false := HO.out.frz 5 rfl 12
      obtain ⟨x186, hx186⟩ : ∃ y, x178.setCell ⟨sg, 6, none⟩ (.bool false) = y := ⟨_, rfl⟩
      have hO := HO.out.setCell 5 rfl 6 (.bool false)
      rw [hx186] at hO
      replace HO := Lib.hid (show Own w none0 x186 [blkR bt5 (.cells #[.int .i64 ta, .int .i64 tb] 42), blkR bt6 (.cells #[.int .u16 u0, .int .u16 u1, .int .u16 u2] 43), resP p (dmS true n b m), blkR r (.cells #[.int .i64 b, .int .i64 m, .int .i64 c, .int .i64 m, .int .i64 b, .int .i64 o] 42), blkR q (.cells #[.int .i64 vx, .int .i64 vy] 42), blkR sg (.cells #[.int .i64 vy, .int .i64 n, .int .i64 7, .int .i64 0, .bool false, .bool false, .bool false, .bool false, .int .i64 0, .int .i64 0, .bool false, .slice none 0 0, .string ⟨#[]⟩] 51)] from hO)
      clear hO
      have k5_7_187 : x186.cell? ⟨sg, 7, none⟩ = some (.bool false) := HO.out.cell 5 rfl 7 rfl
      have lk5_7_187 : x186.frozen? ⟨sg, 7, none⟩ = false := HO.out.frz 5 rfl 7
      have k5_8_188 : x186.cell? ⟨sg, 8, none⟩ = some (.int .i64 0) := HO.out.cell 5 rfl 8 rfl
      have lk5_8_188 : x186.frozen? ⟨sg, 8, none⟩ = false := HO.out.frz 5 rfl 8
      have k5_9_189 : x186.cell? ⟨sg, 9, none⟩ = some (.int .i64 0) := HO.out.cell 5 rfl 9 rfl
      have lk5_9_189 : x186.frozen? ⟨sg, 9, none⟩ = false := HO.out.frz 5 rfl 9
      have k5_10_190 : x186.cell? ⟨sg, 10, none⟩ = some (.bool false) := HO.out.cell 5 rfl 10 rfl
      have lk5_10_190 : x186.frozen? ⟨sg, 10, none⟩ = false := HO.out.frz 5 rfl 10
      have k5_11_191 : x186.cell? ⟨sg, 11, none⟩ = some (.slice none 0 0) := HO.out.cell 5 rfl 11 rfl
      have lk5_11_191 : x186.frozen? ⟨sg, 11, none⟩ = false := HO.out.frz 5 rfl 11
      have k5_12_192 : x186.cell? ⟨sg, 12, none⟩ = some (.string ⟨#[]⟩) := HO.out.cell 5 rfl 12 rfl
      have lk5_12_192 : x186.frozen? ⟨sg, 12, none⟩ = false := HO.out.frz 5 rfl 12
      obtain ⟨x193, hx193⟩ : ∃ y, x186.setCell ⟨sg, 7, none⟩ (.bool false) = y := ⟨_, rfl⟩
      have hO := HO.out.setCell 5 rfl 7 (.bool false)
      rw [hx193] at hO
      replace HO := Lib.hid (show Own w none0 x193 [blkR bt5 (.cells #[.int .i64 ta, .int .i64 tb] 42), blkR bt6 (.cells #[.int .u16 u0, .int .u16 u1, .int .u16 u2] 43), resP p (dmS true n b m), blkR r (.cells #[.int .i64 b, .int .i64 m, .int .i64 c, .int .i64 m, .int .i64 b, .int .i64 o] 42), blkR q (.cells #[.int .i64 vx, .int .i64 vy] 42), blkR sg (.cells #[.int .i64 vy, .int .i64 n, .int .i64 7, .int .i64 0, .bool false, .bool false, .bool false, .bool false, .int .i64 0, .int .i64 0, .bool false, .slice none 0 0, .string ⟨#[]⟩] 51)] from hO)
      clear hO
      have k5_8_194 : x193.cell? ⟨sg, 8, none⟩ = some (.int .i64 0) := HO.out.cell 5 rfl 8 rfl
      have lk5_8_194 : x193.frozen? ⟨sg, 8, none⟩ = false := HO.out.frz 5 rfl 8
      have k5_9_195 : x193.cell? ⟨sg, 9, none⟩ = some (.int .i64 0) := HO.out.cell 5 rfl 9 rfl
      have lk5_9_195 : x193.frozen? ⟨sg, 9, none⟩ = false := HO.out.frz 5 rfl 9
      have k5_10_196 : x193.cell? ⟨sg, 10, none⟩ = some (.bool false) := HO.out.cell 5 rfl 10 rfl
      have lk5_10_196 : x193.frozen? ⟨sg, 10, none⟩ = false := HO.out.frz 5 rfl 10
      have k5_11_197 : x193.cell? ⟨sg, 11, none⟩ = some (.slice none 0 0) := HO.out.cell 5 rfl 11 rfl
      have lk5_11_197 : x193.frozen? ⟨sg, 11, none⟩ = false := HO.out.frz 5 rfl 11
      have k5_12_198 : x193.cell? ⟨sg, 12, none⟩ = some (.string ⟨#[]⟩) := HO.out.cell 5 rfl 12 rfl
      have lk5_12_198 : x193.frozen? ⟨sg, 12, none⟩ = false := HO.out.frz 5 rfl 12
      obtain ⟨x199, hx199⟩ : ∃ y, x193.setCell ⟨sg, 8, none⟩ (.int .i64 0) = y := ⟨_, rfl⟩
      have hO := HO.out.setCell 5 rfl 8 (.int .i64 0)
      rw [hx199] at hO
      replace HO := Lib.hid (show Own w none0 x199 [blkR bt5 (.cells #[.int .i64 ta, .int .i64 tb] 42), blkR bt6 (.cells #[.int .u16 u0, .int .u16 u1, .int .u16 u2] 43), resP p (dmS true n b m), blkR r (.cells #[.int .i64 b, .int .i64 m, .int .i64 c, .int .i64 m, .int .i64 b, .int .i64 o] 42), blkR q (.cells #[.int .i64 vx, .int .i64 vy] 42), blkR sg (.cells #[.int .i64 vy, .int .i64 n, .int .i64 7, .int .i64 0, .bool false, .bool false, .bool false, .bool false, .int .i64 0, .int .i64 0, .bool false, .slice none 0 0, .string ⟨#[]⟩] 51)] from hO)
      clear hO
      have k5_9_200 : x199.cell? ⟨sg, 9, none⟩ = some (.int .i64 0) := HO.out.cell 5 rfl 9 rfl
      have lk5_9_200 : x199.frozen? ⟨sg, 9, none⟩ = false := HO.out.frz 5 rfl 9
      have k5_10_201 : x199.cell? ⟨sg, 10, none⟩ = some (.bool false) := HO.out.cell 5 rfl 10 rfl
      have lk5_10_201 : x199.frozen? ⟨sg, 10, none⟩ = false := HO.out.frz 5 rfl 10
      have k5_11_202 : x199.cell? ⟨sg, 11, none⟩ = some (.slice none 0 0) := HO.out.cell 5 rfl 11 rfl
      have lk5_11_202 : x199.frozen? ⟨sg, 11, none⟩ = false := HO.out.frz 5 rfl 11
      have k5_12_203 : x199.cell? ⟨sg, 12, none⟩ = some (.string ⟨#[]⟩) := HO.out.cell 5 rfl 12 rfl
      have lk5_12_203 : x199.frozen? ⟨sg, 12, none⟩ = false := HO.out.frz 5 rfl 12
      obtain ⟨x204, hx204⟩ : ∃ y, x199.setCell ⟨sg, 9, none⟩ (.int .i64 0) = y := ⟨_, rfl⟩
      have hO := HO.out.setCell 5 rfl 9 (.int .i64 0)
      rw [hx204] at hO
      replace HO := Lib.hid (show Own w none0 x204 [blkR bt5 (.cells #[.int .i64 ta, .int .i64 tb] 42), blkR bt6 (.cells #[.int .u16 u0, .int .u16 u1, .int .u16 u2] 43), resP p (dmS true n b m), blkR r (.cells #[.int .i64 b, .int .i64 m, .int .i64 c, .int .i64 m, .int .i64 b, .int .i64 o] 42), blkR q (.cells #[.int .i64 vx, .int .i64 vy] 42), blkR sg (.cells #[.int .i64 vy, .int .i64 n, .int .i64 7, .int .i64 0, .bool false, .bool false, .bool false, .bool false, .int .i64 0, .int .i64 0, .bool false, .slice none 0 0, .string ⟨#[]⟩] 51)] from hO)
      clear hO
      have k5_10_205 : x204.cell? ⟨sg, 10, none⟩ = some (.bool false) := HO.out.cell 5 rfl 10 rfl
      have lk5_10_205 : x204.frozen? ⟨sg, 10, none⟩ = false := HO.out.frz 5 rfl 10
      have k5_11_206 : x204.cell? ⟨sg, 11, none⟩ = some (.slice none 0 0) := HO.out.cell 5 rfl 11 rfl
      have lk5_11_206 : x204.frozen? ⟨sg, 11, none⟩ = false := HO.out.frz 5 rfl 11
      have k5_12_207 : x204.cell? ⟨sg, 12, none⟩ = some (.string ⟨#[]⟩) := HO.out.cell 5 rfl 12 rfl
      have lk5_12_207 : x204.frozen? ⟨sg, 12, none⟩ = false := HO.out.frz 5 rfl 12
      obtain ⟨x208, hx208⟩ : ∃ y, x204.setCell ⟨sg, 10, none⟩ (.bool false) = y := ⟨_, rfl⟩
      have hO := HO.out.setCell 5 rfl 10 (.bool false)
      rw [hx208] at hO
      replace HO := Lib.hid (show Own w none0 x208 [blkR bt5 (.cells #[.int .i64 ta, .int .i64 tb] 42), blkR bt6 (.cells #[.int .u16 u0, .int .u16 u1, .int .u16 u2] 43), resP p (dmS true n b m), blkR r (.cells #[.int .i64 b, .int .i64 m, .int .i64 c, .int .i64 m, .int .i64 b, .int .i64 o] 42), blkR q (.cells #[.int .i64 vx, .int .i64 vy] 42), blkR sg (.cells #[.int .i64 vy, .int .i64 n, .int .i64 7, .int .i64 0, .bool false, .bool false, .bool false, .bool false, .int .i64 0, .int .i64 0, .bool false, .slice none 0 0, .string ⟨#[]⟩] 51)] from hO)
      clear hO
      have k5_11_209 : x208.cell? ⟨sg, 11, none⟩ = some (.slice none 0 0) := HO.out.cell 5 rfl 11 rfl
      have lk5_11_209 : x208.frozen? ⟨sg, 11, none⟩ = false := HO.out.frz 5 rfl 11
      have k5_12_210 : x208.cell? ⟨sg, 12, none⟩ = some (.string ⟨#[]⟩) := HO.out.cell 5 rfl 12 rfl
      have lk5_12_210 : x208.frozen? ⟨sg, 12, none⟩ = false := HO.out.frz 5 rfl 12
      obtain ⟨x211, hx211⟩ : ∃ y, x208.setCell ⟨sg, 11, none⟩ (.slice none 0 0) = y := ⟨_, rfl⟩
      have hO := HO.out.setCell 5 rfl 11 (.slice none 0 0)
      rw [hx211] at hO
      replace HO := Lib.hid (show Own w none0 x211 [blkR bt5 (.cells #[.int .i64 ta, .int .i64 tb] 42), blkR bt6 (.cells #[.int .u16 u0, .int .u16 u1, .int .u16 u2] 43), resP p (dmS true n b m), blkR r (.cells #[.int .i64 b, .int .i64 m, .int .i64 c, .int .i64 m, .int .i64 b, .int .i64 o] 42), blkR q (.cells #[.int .i64 vx, .int .i64 vy] 42), blkR sg (.cells #[.int .i64 vy, .int .i64 n, .int .i64 7, .int .i64 0, .bool false, .bool false, .bool false, .bool false, .int .i64 0, .int .i64 0, .bool false, .slice none 0 0, .string ⟨#[]⟩] 51)] from hO)
      clear hO
      have k5_12_212 : x211.cell? ⟨sg, 12, none⟩ = some (.string ⟨#[]⟩) := HO.out.cell 5 rfl 12 rfl
      have lk5_12_212 : x211.frozen? ⟨sg, 12, none⟩ = false := HO.out.frz 5 rfl 12
      obtain ⟨x213, hx213⟩ : ∃ y, x211.setCell ⟨sg, 12, none⟩ (.string ⟨#[122]⟩) = y := ⟨_, rfl⟩
      have hO := HO.out.setCell 5 rfl 12 (.string ⟨#[122]⟩)
      rw [hx213] at hO
      replace HO := Lib.hid (show Own w none0 x213 [blkR bt5 (.cells #[.int .i64 ta, .int .i64 tb] 42), blkR bt6 (.cells #[.int .u16 u0, .int .u16 u1, .int .u16 u2] 43), resP p (dmS true n b m), blkR r (.cells #[.int .i64 b, .int .i64 m, .int .i64 c, .int .i64 m, .int .i64 b, .int .i64 o] 42), blkR q (.cells #[.int .i64 vx, .int .i64 vy] 42), blkR sg (.cells #[.int .i64 vy, .int .i64 n, .int .i64 7, .int .i64 0, .bool false, .bool false, .bool false, .bool false, .int .i64 0, .int .i64 0, .bool false, .slice none 0 0, .string ⟨#[122]⟩] 51)] from hO)
      clear hO
      have z4_0t : x213.cell? ⟨q, 0, none⟩ = some (.int .i64 vx) := HO.out.cell 4 rfl 0 rfl
      have z4_1t : x213.cell? ⟨q, 1, none⟩ = some (.int .i64 vy) := HO.out.cell 4 rfl 1 rfl
      have z5_0 : x213.cell? ⟨sg, 0, none⟩ = some (.int .i64 vy) := HO.out.cell 5 rfl 0 rfl
      have z5_1 : x213.cell? ⟨sg, 1, none⟩ = some (.int .i64 n) := HO.out.cell 5 rfl 1 rfl
      have z5_2 : x213.cell? ⟨sg, 2, none⟩ = some (.int .i64 7) := HO.out.cell 5 rfl 2 rfl
      have z5_3 : x213.cell? ⟨sg, 3, none⟩ = some (.int .i64 0) := HO.out.cell 5 rfl 3 rfl
      have z5_4 : x213.cell? ⟨sg, 4, none⟩ = some (.bool false) := HO.out.cell 5 rfl 4 rfl
      have z5_5 : x213.cell? ⟨sg, 5, none⟩ = some (.bool false) := HO.out.cell 5 rfl 5 rfl
      have z5_6 : x213.cell? ⟨sg, 6, none⟩ = some (.bool false) := HO.out.cell 5 rfl 6 rfl
      have z5_7 : x213.cell? ⟨sg, 7, none⟩ = some (.bool false) := HO.out.cell 5 rfl 7 rfl
      have z5_8 : x213.cell? ⟨sg, 8, none⟩ = some (.int .i64 0) := HO.out.cell 5 rfl 8 rfl
      have z5_9 : x213.cell? ⟨sg, 9, none⟩ = some (.int .i64 0) := HO.out.cell 5 rfl 9 rfl
      have z5_10 : x213.cell? ⟨sg, 10, none⟩ = some (.bool false) := HO.out.cell 5 rfl 10 rfl
      have z5_11 : x213.cell? ⟨sg, 11, none⟩ = some (.slice none 0 0) := HO.out.cell 5 rfl 11 rfl
      have z5_12 : x213.cell? ⟨sg, 12, none⟩ = some (.string ⟨#[122]⟩) := HO.out.cell 5 rfl 12 rfl
      go_wp2_with fail
      by_cases hx : vx = b
      · by_cases hy : vy = m
        · obtain rfl := hx.symm
          obtain rfl := hy.symm
          skip
          refine (look_o HO.out 2 rfl (dm_same true n b m) (by show 1 ≤ 1000000; decide)).mono ?_
          rintro e x214 ⟨rfl, hO, -⟩
          replace HO := Lib.hid (show Own w none0 x214 [blkR bt5 (.cells #[.int .i64 ta, .int .i64 tb] 42), blkR bt6 (.cells #[.int .u16 u0, .int .u16 u1, .int .u16 u2] 43), resP p (dmS true n b m), blkR r (.cells #[.int .i64 b, .int .i64 m, .int .i64 c, .int .i64 m, .int .i64 b, .int .i64 o] 42), blkR q (.cells #[.int .i64 b, .int .i64 m] 42), blkR sg (.cells #[.int .i64 m, .int .i64 n, .int .i64 7, .int .i64 0, .bool false, .bool false, .bool false, .bool false, .int .i64 0, .int .i64 0, .bool false, .slice none 0 0, .string ⟨#[122]⟩] 51)] from hO)
          clear hO
          clear z4_0 z4_1 hx109 hsg k5_0_110 lk5_0_110 k5_1_111 lk5_1_111 k5_2_112 lk5_2_112 k5_3_113 lk5_3_113 k5_4_114 lk5_4_114 k5_5_115 lk5_5_115 k5_6_116 lk5_6_116 k5_7_117 lk5_7_117 k5_8_118 lk5_8_118 k5_9_119 lk5_9_119 k5_10_120 lk5_10_120 k5_11_121 lk5_11_121 k5_12_122 lk5_12_122 hx123 k5_1_124 lk5_1_124 k5_2_125 lk5_2_125 k5_3_126 lk5_3_126 k5_4_127 lk5_4_127 k5_5_128 lk5_5_128 k5_6_129 lk5_6_129 k5_7_130 lk5_7_130 k5_8_131 lk5_8_131 k5_9_132 lk5_9_132 k5_10_133 lk5_10_133 k5_11_134 lk5_11_134 k5_12_135 lk5_12_135 hx136 k5_2_137 lk5_2_137 k5_3_138 lk5_3_138 k5_4_139 lk5_4_139 k5_5_140 lk5_5_140 k5_6_141 lk5_6_141 k5_7_142 lk5_7_142 k5_8_143 lk5_8_143 k5_9_144 lk5_9_144 k5_10_145 lk5_10_145 k5_11_146 lk5_11_146 k5_12_147 lk5_12_147 hx148 k5_3_149 lk5_3_149 k5_4_150 lk5_4_150 k5_5_151 lk5_5_151 k5_6_152 lk5_6_152 k5_7_153 lk5_7_153 k5_8_154 lk5_8_154 k5_9_155 lk5_9_155 k5_10_156 lk5_10_156 k5_11_157 lk5_11_157 k5_12_158 lk5_12_158 hx159 k5_4_160 lk5_4_160 k5_5_161 lk5_5_161 k5_6_162 lk5_6_162 k5_7_163 lk5_7_163 k5_8_164 lk5_8_164 k5_9_165 lk5_9_165 k5_10_166 lk5_10_166 k5_11_167 lk5_11_167 k5_12_168 lk5_12_168 hx169 k5_5_170 lk5_5_170 k5_6_171 lk5_6_171 k5_7_172 lk5_7_172 k5_8_173 lk5_8_173 k5_9_174 lk5_9_174 k5_10_175 lk5_10_175 k5_11_176 lk5_11_176 k5_12_177 lk5_12_177 hx178 k5_6_179 lk5_6_179 k5_7_180 lk5_7_180 k5_8_181 lk5_8_181 k5_9_182 lk5_9_182 k5_10_183 lk5_10_183 k5_11_184 lk5_11_184 k5_12_185 lk5_12_185 hx186 k5_7_187 lk5_7_187 k5_8_188 lk5_8_188 k5_9_189 lk5_9_189 k5_10_190 lk5_10_190 k5_11_191 lk5_11_191 k5_12_192 lk5_12_192 hx193 k5_8_194 lk5_8_194 k5_9_195 lk5_9_195 k5_10_196 lk5_10_196 k5_11_197 lk5_11_197 k5_12_198 lk5_12_198 hx199 k5_9_200 lk5_9_200 k5_10_201 lk5_10_201 k5_11_202 lk5_11_202 k5_12_203 lk5_12_203 hx204 k5_10_205 lk5_10_205 k5_11_206 lk5_11_206 k5_12_207 lk5_12_207 hx208 k5_11_209 lk5_11_209 k5_12_210 lk5_12_210 hx211 k5_12_212 lk5_12_212 hx213 z4_0t z4_1t z5_0 z5_1 z5_2 z5_3 z5_4 z5_5 z5_6 z5_7 z5_8 z5_9 z5_10 z5_11 z5_12
          have z4_0 : x214.cell? ⟨q, 0, none⟩ = some (.int .i64 b) := HO.out.cell 4 rfl 0 rfl
          have z4_1 : x214.cell? ⟨q, 1, none⟩ = some (.int .i64 m) := HO.out.cell 4 rfl 1 rfl
          go_wp2_with fail
          refine (HAV.out _).mono ?_
          rintro e xp ⟨rfl, rfl⟩
          go_wp2
          go_roundw
          case rel => exact ⟨k + 1, by omega, by go_num, HO.out.take 4⟩
          case measure => simp [intOf]; omega
        · obtain rfl := hx.symm
          have hym : (vy == m) = false := by simpa using hy
          have hym2 : (vy = m) = False := eq_false hy
          refine (look_o HO.out 2 rfl (dm_yes (fun h => hy h.2)) (by show 1 ≤ 1000000; decide)).mono ?_
          rintro e x214 ⟨rfl, hO, -⟩
          replace HO := Lib.hid (show Own w none0 x214 [blkR bt5 (.cells #[.int .i64 ta, .int .i64 tb] 42), blkR bt6 (.cells #[.int .u16 u0, .int .u16 u1, .int .u16 u2] 43), resP p (dmS true n b m), blkR r (.cells #[.int .i64 b, .int .i64 m, .int .i64 c, .int .i64 m, .int .i64 b, .int .i64 o] 42), blkR q (.cells #[.int .i64 b, .int .i64 vy] 42), blkR sg (.cells #[.int .i64 vy, .int .i64 n, .int .i64 7, .int .i64 0, .bool false, .bool false, .bool false, .bool false, .int .i64 0, .int .i64 0, .bool false, .slice none 0 0, .string ⟨#[122]⟩] 51)] from hO)
          clear hO
          clear z4_0 z4_1 hx109 hsg k5_0_110 lk5_0_110 k5_1_111 lk5_1_111 k5_2_112 lk5_2_112 k5_3_113 lk5_3_113 k5_4_114 lk5_4_114 k5_5_115 lk5_5_115 k5_6_116 lk5_6_116 k5_7_117 lk5_7_117 k5_8_118 lk5_8_118 k5_9_119 lk5_9_119 k5_10_120 lk5_10_120 k5_11_121 lk5_11_121 k5_12_122 lk5_12_122 hx123 k5_1_124 lk5_1_124 k5_2_125 lk5_2_125 k5_3_126 lk5_3_126 k5_4_127 lk5_4_127 k5_5_128 lk5_5_128 k5_6_129 lk5_6_129 k5_7_130 lk5_7_130 k5_8_131 lk5_8_131 k5_9_132 lk5_9_132 k5_10_133 lk5_10_133 k5_11_134 lk5_11_134 k5_12_135 lk5_12_135 hx136 k5_2_137 lk5_2_137 k5_3_138 lk5_3_138 k5_4_139 lk5_4_139 k5_5_140 lk5_5_140 k5_6_141 lk5_6_141 k5_7_142 lk5_7_142 k5_8_143 lk5_8_143 k5_9_144 lk5_9_144 k5_10_145 lk5_10_145 k5_11_146 lk5_11_146 k5_12_147 lk5_12_147 hx148 k5_3_149 lk5_3_149 k5_4_150 lk5_4_150 k5_5_151 lk5_5_151 k5_6_152 lk5_6_152 k5_7_153 lk5_7_153 k5_8_154 lk5_8_154 k5_9_155 lk5_9_155 k5_10_156 lk5_10_156 k5_11_157 lk5_11_157 k5_12_158 lk5_12_158 hx159 k5_4_160 lk5_4_160 k5_5_161 lk5_5_161 k5_6_162 lk5_6_162 k5_7_163 lk5_7_163 k5_8_164 lk5_8_164 k5_9_165 lk5_9_165 k5_10_166 lk5_10_166 k5_11_167 lk5_11_167 k5_12_168 lk5_12_168 hx169 k5_5_170 lk5_5_170 k5_6_171 lk5_6_171 k5_7_172 lk5_7_172 k5_8_173 lk5_8_173 k5_9_174 lk5_9_174 k5_10_175 lk5_10_175 k5_11_176 lk5_11_176 k5_12_177 lk5_12_177 hx178 k5_6_179 lk5_6_179 k5_7_180 lk5_7_180 k5_8_181 lk5_8_181 k5_9_182 lk5_9_182 k5_10_183 lk5_10_183 k5_11_184 lk5_11_184 k5_12_185 lk5_12_185 hx186 k5_7_187 lk5_7_187 k5_8_188 lk5_8_188 k5_9_189 lk5_9_189 k5_10_190 lk5_10_190 k5_11_191 lk5_11_191 k5_12_192 lk5_12_192 hx193 k5_8_194 lk5_8_194 k5_9_195 lk5_9_195 k5_10_196 lk5_10_196 k5_11_197 lk5_11_197 k5_12_198 lk5_12_198 hx199 k5_9_200 lk5_9_200 k5_10_201 lk5_10_201 k5_11_202 lk5_11_202 k5_12_203 lk5_12_203 hx204 k5_10_205 lk5_10_205 k5_11_206 lk5_11_206 k5_12_207 lk5_12_207 hx208 k5_11_209 lk5_11_209 k5_12_210 lk5_12_210 hx211 k5_12_212 lk5_12_212 hx213 z4_0t z4_1t z5_0 z5_1 z5_2 z5_3 z5_4 z5_5 z5_6 z5_7 z5_8 z5_9 z5_10 z5_11 z5_12
          have z4_0 : x214.cell? ⟨q, 0, none⟩ = some (.int .i64 b) := HO.out.cell 4 rfl 0 rfl
          have z4_1 : x214.cell? ⟨q, 1, none⟩ = some (.int .i64 vy) := HO.out.cell 4 rfl 1 rfl
          go_wp2_with fail
          refine (HAV.out _).mono ?_
          rintro e xp ⟨rfl, rfl⟩
          go_wp2
          go_roundw
          case rel => exact ⟨k + 1, by omega, by go_num, HO.out.take 4⟩
          case measure => simp [intOf]; omega
      · have hxb : (vx == b) = false := by simpa using hx
        have hxb2 : (vx = b) = False := eq_false hx
        refine (look_o HO.out 2 rfl (dm_yes (fun h => hx h.1)) (by show 1 ≤ 1000000; decide)).mono ?_
        rintro e x214 ⟨rfl, hO, -⟩
        replace HO := Lib.hid (show Own w none0 x214 [blkR bt5 (.cells #[.int .i64 ta, .int .i64 tb] 42), blkR bt6 (.cells #[.int .u16 u0, .int .u16 u1, .int .u16 u2] 43), resP p (dmS true n b m), blkR r (.cells #[.int .i64 b, .int .i64 m, .int .i64 c, .int .i64 m, .int .i64 b, .int .i64 o] 42), blkR q (.cells #[.int .i64 vx, .int .i64 vy] 42), blkR sg (.cells #[.int .i64 vy, .int .i64 n, .int .i64 7, .int .i64 0, .bool false, .bool false, .bool false, .bool false, .int .i64 0, .int .i64 0, .bool false, .slice none 0 0, .string ⟨#[122]⟩] 51)] from hO)
        clear hO
        clear z4_0 z4_1 hx109 hsg k5_0_110 lk5_0_110 k5_1_111 lk5_1_111 k5_2_112 lk5_2_112 k5_3_113 lk5_3_113 k5_4_114 lk5_4_114 k5_5_115 lk5_5_115 k5_6_116 lk5_6_116 k5_7_117 lk5_7_117 k5_8_118 lk5_8_118 k5_9_119 lk5_9_119 k5_10_120 lk5_10_120 k5_11_121 lk5_11_121 k5_12_122 lk5_12_122 hx123 k5_1_124 lk5_1_124 k5_2_125 lk5_2_125 k5_3_126 lk5_3_126 k5_4_127 lk5_4_127 k5_5_128 lk5_5_128 k5_6_129 lk5_6_129 k5_7_130 lk5_7_130 k5_8_131 lk5_8_131 k5_9_132 lk5_9_132 k5_10_133 lk5_10_133 k5_11_134 lk5_11_134 k5_12_135 lk5_12_135 hx136 k5_2_137 lk5_2_137 k5_3_138 lk5_3_138 k5_4_139 lk5_4_139 k5_5_140 lk5_5_140 k5_6_141 lk5_6_141 k5_7_142 lk5_7_142 k5_8_143 lk5_8_143 k5_9_144 lk5_9_144 k5_10_145 lk5_10_145 k5_11_146 lk5_11_146 k5_12_147 lk5_12_147 hx148 k5_3_149 lk5_3_149 k5_4_150 lk5_4_150 k5_5_151 lk5_5_151 k5_6_152 lk5_6_152 k5_7_153 lk5_7_153 k5_8_154 lk5_8_154 k5_9_155 lk5_9_155 k5_10_156 lk5_10_156 k5_11_157 lk5_11_157 k5_12_158 lk5_12_158 hx159 k5_4_160 lk5_4_160 k5_5_161 lk5_5_161 k5_6_162 lk5_6_162 k5_7_163 lk5_7_163 k5_8_164 lk5_8_164 k5_9_165 lk5_9_165 k5_10_166 lk5_10_166 k5_11_167 lk5_11_167 k5_12_168 lk5_12_168 hx169 k5_5_170 lk5_5_170 k5_6_171 lk5_6_171 k5_7_172 lk5_7_172 k5_8_173 lk5_8_173 k5_9_174 lk5_9_174 k5_10_175 lk5_10_175 k5_11_176 lk5_11_176 k5_12_177 lk5_12_177 hx178 k5_6_179 lk5_6_179 k5_7_180 lk5_7_180 k5_8_181 lk5_8_181 k5_9_182 lk5_9_182 k5_10_183 lk5_10_183 k5_11_184 lk5_11_184 k5_12_185 lk5_12_185 hx186 k5_7_187 lk5_7_187 k5_8_188 lk5_8_188 k5_9_189 lk5_9_189 k5_10_190 lk5_10_190 k5_11_191 lk5_11_191 k5_12_192 lk5_12_192 hx193 k5_8_194 lk5_8_194 k5_9_195 lk5_9_195 k5_10_196 lk5_10_196 k5_11_197 lk5_11_197 k5_12_198 lk5_12_198 hx199 k5_9_200 lk5_9_200 k5_10_201 lk5_10_201 k5_11_202 lk5_11_202 k5_12_203 lk5_12_203 hx204 k5_10_205 lk5_10_205 k5_11_206 lk5_11_206 k5_12_207 lk5_12_207 hx208 k5_11_209 lk5_11_209 k5_12_210 lk5_12_210 hx211 k5_12_212 lk5_12_212 hx213 z4_0t z4_1t z5_0 z5_1 z5_2 z5_3 z5_4 z5_5 z5_6 z5_7 z5_8 z5_9 z5_10 z5_11 z5_12
        have z4_0 : x214.cell? ⟨q, 0, none⟩ = some (.int .i64 vx) := HO.out.cell 4 rfl 0 rfl
        have z4_1 : x214.cell? ⟨q, 1, none⟩ = some (.int .i64 vy) := HO.out.cell 4 rfl 1 rfl
        go_wp2_with fail
        refine (HAV.out _).mono ?_
        rintro e xp ⟨rfl, rfl⟩
        go_wp2
        go_roundw
        case rel => exact ⟨k + 1, by omega, by go_num, HO.out.take 4⟩
        case measure => simp [intOf]; omega
    · obtain rfl : k = 3 := by omega
      go_wp2
      go_ret
      exact ⟨rfl, HO.out.below⟩
set_option maxRecDepth 100000 in
set_option maxHeartbeats 16000000 in
theorem demux_no (hr ta tb u0 u1 u2 : Int) (w : World) (hh : -9223372036854775808 ≤ hr ∧ hr ≤ 9223372036854775807) (hta : -9223372036854775808 ≤ ta ∧ ta ≤ 9223372036854775807) (htb : -9223372036854775808 ≤ tb ∧ tb ≤ 9223372036854775807) (g0 : 0 ≤ u0 ∧ u0 ≤ 65535) (g1 : 0 ≤ u1 ∧ u1 ≤ 65535) (g2 : 0 ≤ u2 ∧ u2 ≤ 65535) :
    Calls Try.prog 4 #[.int .i64 hr, .agg #[.int .i64 ta, .int .i64 tb], .agg #[.int .u16 u0, .int .u16 u1, .int .u16 u2], .bool false] w fun e w' => e = .returned (.bool true) ∧ Below w.heap.size w w' := by
  have HO := Lib.hid (Own.nil w none0)
  have HA := Lib.hid (fun w => pick_any hr 4294967296 w hh (by decide))
  have HB := Lib.hid (fun w => pick_any ta 4294967296 w hta (by decide))
  have HC := Lib.hid (fun w => pick_any tb 4294967296 w htb (by decide))
  have ba := pk_bd hr 4294967296 (by decide)
  have bb := pk_bd ta 4294967296 (by decide)
  have bc := pk_bd tb 4294967296 (by decide)
  generalize pk hr 4294967296 = a at *
  generalize pk ta 4294967296 = b at *
  generalize pk tb 4294967296 = c at *
  obtain ⟨g00, g01⟩ := g0
  obtain ⟨g10, g11⟩ := g1
  obtain ⟨g20, g21⟩ := g2
  have HN := Lib.hid (show (1 ≤ 1 + u0 % 65535 ∧ 1 + u0 % 65535 ≤ 65535) ∧ (1 ≤ 1 + u1 % 65535 ∧ 1 + u1 % 65535 ≤ 65535) ∧ (1 ≤ 1 + u2 % 65535 ∧ 1 + u2 % 65535 ≤ 65535) by omega)
  have HAB := Lib.hid (show (0 ≤ a ∧ a ≤ 4294967295) ∧ (0 ≤ b ∧ b ≤ 4294967295) ∧ (0 ≤ c ∧ c ≤ 4294967295) by omega)
  clear hh hta htb ba bb bc
  have rb := run_bs3p
  obtain ⟨x1, hx1⟩ : ∃ y, w.alloc (.cells #[.int .i64 ta, .int .i64 tb] 42) = y := ⟨_, rfl⟩
  obtain ⟨bt5, hbt5⟩ : ∃ y, w.heap.size = y := ⟨_, rfl⟩
  have hO := HO.out.alloc (.cells #[.int .i64 ta, .int .i64 tb] 42)
  rw [hx1, hbt5] at hO
  replace HO := Lib.hid (show Own w none0 x1 [blkR bt5 (.cells #[.int .i64 ta, .int .i64 tb] 42)] from hO)
  clear hO
  obtain ⟨x2, hx2⟩ : ∃ y, x1.alloc (.cells #[.int .u16 u0, .int .u16 u1, .int .u16 u2] 43) = y := ⟨_, rfl⟩
  obtain ⟨bt6, hbt6⟩ : ∃ y, x1.heap.size = y := ⟨_, rfl⟩
  have hO := HO.out.alloc (.cells #[.int .u16 u0, .int .u16 u1, .int .u16 u2] 43)
  rw [hx2, hbt6] at hO
  replace HO := Lib.hid (show Own w none0 x2 [blkR bt5 (.cells #[.int .i64 ta, .int .i64 tb] 42), blkR bt6 (.cells #[.int .u16 u0, .int .u16 u1, .int .u16 u2] 43)] from hO)
  clear hO
  go_enter Try.func4, Try.ntmps4
  go_wp2_with fail
  refine (examples_o HO.out).mono ?_
  rintro e x3 ⟨rfl, hO, -⟩
  replace HO := Lib.hid (show Own w none0 x3 [blkR bt5 (.cells #[.int .i64 ta, .int .i64 tb] 42), blkR bt6 (.cells #[.int .u16 u0, .int .u16 u1, .int .u16 u2] 43)] from hO)
  clear hO
  clear hx1 hbt5 hx2 hbt6
  have z0_0 : x3.cell? ⟨bt5, 0, none⟩ = some (.int .i64 ta) := HO.out.cell 0 rfl 0 rfl
  have z0_1 : x3.cell? ⟨bt5, 1, none⟩ = some (.int .i64 tb) := HO.out.cell 0 rfl 1 rfl
  have z1_0 : x3.cell? ⟨bt6, 0, none⟩ = some (.int .u16 u0) := HO.out.cell 1 rfl 0 rfl
  have z1_1 : x3.cell? ⟨bt6, 1, none⟩ = some (.int .u16 u1) := HO.out.cell 1 rfl 1 rfl
  have z1_2 : x3.cell? ⟨bt6, 2, none⟩ = some (.int .u16 u2) := HO.out.cell 1 rfl 2 rfl
  go_wp2_with fail
  refine (HA.out _).mono ?_
  rintro e xp ⟨rfl, rfl⟩
  go_wp2_with fail
  refine (HB.out _).mono ?_
  rintro e xp ⟨rfl, rfl⟩
  go_wp2_with fail
  refine (HC.out _).mono ?_
  rintro e xp ⟨rfl, rfl⟩
  go_wp2_with fail
  refine (new_o 0 HO.out).mono ?_
  rintro e x4 ⟨p, rfl, hO, -⟩
  replace HO := Lib.hid (show Own w none0 x4 [blkR bt5 (.cells #[.int .i64 ta, .int .i64 tb] 42), blkR bt6 (.cells #[.int .u16 u0, .int .u16 u1, .int .u16 u2] 43), resP p ⟨0, 0, [], []⟩] from hO)
  clear hO
  clear z0_0 z0_1 z1_0 z1_1 z1_2
  generalize 1 + u0 % 65535 = n at *
  generalize 1 + u1 % 65535 = m at *
  generalize 1 + u2 % 65535 = o at *
  have HCN := Lib.hid (dm_conn false HN.out.1 HAB.out.2.1 HN.out.2.1)
  go_wp2_with fail
  refine (conn_o HO.out 2 rfl HCN.out.1 HCN.out.2 (by show 0 ≤ 1000000; decide)).mono ?_
  rintro e x5 ⟨rfl, hO, -⟩
  replace HO := Lib.hid (show Own w none0 x5 [blkR bt5 (.cells #[.int .i64 ta, .int .i64 tb] 42), blkR bt6 (.cells #[.int .u16 u0, .int .u16 u1, .int .u16 u2] 43), resP p (dmS false n b m)] from hO)
  clear hO
  obtain ⟨x6, hx6⟩ : ∃ y, x5.alloc (.cells #[.int .i64 b, .int .i64 m, .int .i64 c, .int .i64 m, .int .i64 b, .int .i64 o] 42) = y := ⟨_, rfl⟩
  obtain ⟨r, hr⟩ : ∃ y, x5.heap.size = y := ⟨_, rfl⟩
  have hO := HO.out.alloc (.cells #[.int .i64 b, .int .i64 m, .int .i64 c, .int .i64 m, .int .i64 b, .int .i64 o] 42)
  rw [hx6, hr] at hO
  replace HO := Lib.hid (show Own w none0 x6 [blkR bt5 (.cells #[.int .i64 ta, .int .i64 tb] 42), blkR bt6 (.cells #[.int .u16 u0, .int .u16 u1, .int .u16 u2] 43), resP p (dmS false n b m), blkR r (.cells #[.int .i64 b, .int .i64 m, .int .i64 c, .int .i64 m, .int .i64 b, .int .i64 o] 42)] from hO)
  clear hO
  go_wp2
  go_loopw [79] (fun iv wr => ∃ k : Nat, k ≤ 3 ∧ iv = .int .i64 k ∧ Own w none0 wr [blkR bt5 (.cells #[.int .i64 ta, .int .i64 tb] 42), blkR bt6 (.cells #[.int .u16 u0, .int .u16 u1, .int .u16 u2] 43), resP p (dmS false n b m), blkR r (.cells #[.int .i64 b, .int .i64 m, .int .i64 c, .int .i64 m, .int .i64 b, .int .i64 o] 42)]) (fun iv _ => 3 - (intOf iv).toNat)
  case atStart => exact ⟨0, Nat.zero_le _, rfl, HO.out⟩
  case round =>
    obtain ⟨k, hk, rfl, hO⟩ := hrel
    replace HO := Lib.hid hO
    clear hO hx6 hr rb
    by_cases hlt : k < 3
    · have hdl : decide ((k : Int) < 3) = true := decide_eq_true (by omega)
      obtain ⟨vx, vy, hxy, c0, c1⟩ := row6 (HO.out.blk 3 rfl) k hlt
      have HX := Lib.hid (show (0 ≤ vx ∧ vx ≤ 4294967295) ∧ (1 ≤ vy ∧ vy ≤ 65535) by have h1 := HN.out; have h2 := HAB.out; omega)
      have HEN := Lib.hid (fun w => sencode_r vx a vy n 7 ⟨#[122]⟩ w HX.out.1.1 HX.out.1.2 HAB.out.1.1 HAB.out.1.2 HX.out.2.1 HX.out.2.2 HN.out.1.1 HN.out.1.2 (by decide) (by decide) (by decide))
      have HDE := Lib.hid (fun w => sdecode_r vx a vy n 7 ⟨#[122]⟩ w HX.out.1.1 HX.out.1.2 HAB.out.1.1 HAB.out.1.2 HX.out.2.1 HX.out.2.2 HN.out.1.1 HN.out.1.2 (by decide) (by decide) (by decide))
      have HAV := Lib.hid (fun w => adrv_r vx w HX.out.1.1 HX.out.1.2)
      generalize encSg vx a vy n 7 ⟨#[122]⟩ = s at *
      unfold sgC at *
      clear hxy
      obtain ⟨x101, hx101⟩ : ∃ y, wr.alloc (.cells #[.int .i64 0, .int .i64 0] 42) = y := ⟨_, rfl⟩
      obtain ⟨q, hq⟩ : ∃ y, wr.heap.size = y := ⟨_, rfl⟩
      have hO := HO.out.alloc (.cells #[.int .i64 0, .int .i64 0] 42)
      rw [hx101, hq] at hO
      replace HO := Lib.hid (show Own w none0 x101 [blkR bt5 (.cells #[.int .i64 ta, .int .i64 tb] 42), blkR bt6 (.cells #[.int .u16 u0, .int .u16 u1, .int .u16 u2] 43), resP p (dmS false n b m), blkR r (.cells #[.int .i64 b, .int .i64 m, .int .i64 c, .int .i64 m, .int .i64 b, .int .i64 o] 42), blkR q (.cells #[.int .i64 0, .int .i64 0] 42)] from hO)
      clear hO
      have k4_0_102 : x101.cell? ⟨q, 0, none⟩ = some (.int .i64 0) := HO.out.cell 4 rfl 0 rfl
      have lk4_0_102 : x101.frozen? ⟨q, 0, none⟩ = false := HO.out.frz 4 rfl 0
      have k4_1_103 : x101.cell? ⟨q, 1, none⟩ = some (.int .i64 0) := HO.out.cell 4 rfl 1 rfl
      have lk4_1_103 : x101.frozen? ⟨q, 1, none⟩ = false := HO.out.frz 4 rfl 1
      obtain ⟨x104, hx104⟩ : ∃ y, x101.setCell ⟨q, 0, none⟩ (.int .i64 vx) = y := ⟨_, rfl⟩
      have hO := HO.out.setCell 4 rfl 0 (.int .i64 vx)
      rw [hx104] at hO
      replace HO := Lib.hid (show Own w none0 x104 [blkR bt5 (.cells #[.int .i64 ta, .int .i64 tb] 42), blkR bt6 (.cells #[.int .u16 u0, .int .u16 u1, .int .u16 u2] 43), resP p (dmS false n b m), blkR r (.cells #[.int .i64 b, .int .i64 m, .int .i64 c, .int .i64 m, .int .i64 b, .int .i64 o] 42), blkR q (.cells #[.int .i64 vx, .int .i64 0] 42)] from hO)
      clear hO
      have k4_1_105 : x104.cell? ⟨q, 1, none⟩ = some (.int .i64 0) := HO.out.cell 4 rfl 1 rfl
      have lk4_1_105 : x104.frozen? ⟨q, 1, none⟩ = false := HO.out.frz 4 rfl 1
      obtain ⟨x106, hx106⟩ : ∃ y, x104.setCell ⟨q, 1, none⟩ (.int .i64 vy) = y := ⟨_, rfl⟩
      have hO := HO.out.setCell 4 rfl 1 (.int .i64 vy)
      rw [hx106] at hO
      replace HO := Lib.hid (show Own w none0 x106 [blkR bt5 (.cells #[.int .i64 ta, .int .i64 tb] 42), blkR bt6 (.cells #[.int .u16 u0, .int .u16 u1, .int .u16 u2] 43), resP p (dmS false n b m), blkR r (.cells #[.int .i64 b, .int .i64 m, .int .i64 c, .int .i64 m, .int .i64 b, .int .i64 o] 42), blkR q (.cells #[.int .i64 vx, .int .i64 vy] 42)] from hO)
      clear hO
      have z4_0 : x106.cell? ⟨q, 0, none⟩ = some (.int .i64 vx) := HO.out.cell 4 rfl 0 rfl
      have z4_1 : x106.cell? ⟨q, 1, none⟩ = some (.int .i64 vy) := HO.out.cell 4 rfl 1 rfl
      go_wp2_with fail
      refine (o_still HO.out (HEN.out _)).mono ?_
      rintro e x107 ⟨rfl, hO, -⟩
      replace HO := Lib.hid (show Own w none0 x107 [blkR bt5 (.cells #[.int .i64 ta, .int .i64 tb] 42), blkR bt6 (.cells #[.int .u16 u0, .int .u16 u1, .int .u16 u2] 43), resP p (dmS false n b m), blkR r (.cells #[.int .i64 b, .int .i64 m, .int .i64 c, .int .i64 m, .int .i64 b, .int .i64 o] 42), blkR q (.cells #[.int .i64 vx, .int .i64 vy] 42)] from hO)
      clear hO
      clear c0 c1 hx101 hq k4_0_102 lk4_0_102 k4_1_103 lk4_1_103 hx104 k4_1_105 lk4_1_105 hx106 z4_0 z4_1
      have z4_0 : x107.cell? ⟨q, 0, none⟩ = some (.int .i64 vx) := HO.out.cell 4 rfl 0 rfl
      have z4_1 : x107.cell? ⟨q, 1, none⟩ = some (.int .i64 vy) := HO.out.cell 4 rfl 1 rfl
      go_wp2_with fail
      refine (o_still HO.out (HDE.out _)).mono ?_
      rintro e x108 ⟨rfl, hO, -⟩
      replace HO := Lib.hid (show Own w none0 x108 [blkR bt5 (.cells #[.int .i64 ta, .int .i64 tb] 42), blkR bt6 (.cells #[.int .u16 u0, .int .u16 u1, .int .u16 u2] 43), resP p (dmS false n b m), blkR r (.cells #[.int .i64 b, .int .i64 m, .int .i64 c, .int .i64 m, .int .i64 b, .int .i64 o] 42), blkR q (.cells #[.int .i64 vx, .int .i64 vy] 42)] from hO)
      clear hO
      clear z4_0 z4_1
      have z4_0 : x108.cell? ⟨q, 0, none⟩ = some (.int .i64 vx) := HO.out.cell 4 rfl 0 rfl
      have z4_1 : x108.cell? ⟨q, 1, none⟩ = some (.int .i64 vy) := HO.out.cell 4 rfl 1 rfl
      obtain ⟨x109, hx109⟩ : ∃ y, x108.alloc (.cells #[.int .i64 0, .int .i64 0, .int .i64 0, .int .i64 0, .bool false, .bool false, .bool false, .bool false, .int .i64 0, .int .i64 0, .bool false, .slice none 0 0, .string ⟨#[]⟩] 51) = y := ⟨_, rfl⟩
      obtain ⟨sg, hsg⟩ : ∃ y, x108.heap.size = y := ⟨_, rfl⟩
      have hO := HO.out.alloc (.cells #[.int .i64 0, .int .i64 0, .int .i64 0, .int .i64 0, .bool false, .bool false, .bool false, .bool false, .int .i64 0, .int .i64 0, .bool false, .slice none 0 0, .string ⟨#[]⟩] 51)
      rw [hx109, hsg] at hO
      replace HO := Lib.hid (show Own w none0 x109 [blkR bt5 (.cells #[.int .i64 ta, .int .i64 tb] 42), blkR bt6 (.cells #[.int .u16 u0, .int .u16 u1, .int .u16 u2] 43), resP p (dmS false n b m), blkR r (.cells #[.int .i64 b, .int .i64 m, .int .i64 c, .int .i64 m, .int .i64 b, .int .i64 o] 42), blkR q (.cells #[.int .i64 vx, .int .i64 vy] 42), blkR sg (.cells #[.int .i64 0, .int .i64 0, .int .i64 0, .int .i64 0, .bool false, .bool false, .bool false, .bool false, .int .i64 0, .int .i64 0, .bool false, .slice none 0 0, .string ⟨#[]⟩] 51)] from hO)
      clear hO
      have k5_0_110 : x109.cell? ⟨sg, 0, none⟩ = some (.int .i64 0) := HO.out.cell 5 rfl 0 rfl
      have lk5_0_110 : x109.frozen? ⟨sg, 0, none⟩ = false := HO.out.frz 5 rfl 0
      have k5_1_111 : x109.cell? ⟨sg, 1, none⟩ = some (.int .i64 0) := HO.out.cell 5 rfl 1 rfl
      have lk5_1_111 : x109.frozen? ⟨sg, 1, none⟩ = false := HO.out.frz 5 rfl 1
      have k5_2_112 : x109.cell? ⟨sg, 2, none⟩ = some (.int .i64 0) := HO.out.cell 5 rfl 2 rfl
      have lk5_2_112 : x109.frozen? ⟨sg, 2, none⟩ = false := HO.out.frz 5 rfl 2
      have k5_3_113 : x109.cell? ⟨sg, 3, none⟩ = some (.int .i64 0) := HO.out.cell 5 rfl 3 rfl
      have lk5_3_113 : x109.frozen? ⟨sg, 3, none⟩ = false := HO.out.frz 5 rfl 3
      have k5_4_114 : x109.cell? ⟨sg, 4, none⟩ = some (.bool false) := HO.out.cell 5 rfl 4 rfl
      have lk5_4_114 : x109.frozen? ⟨sg, 4, none⟩ = false := HO.out.frz 5 rfl 4
      have k5_5_115 : x109.cell? ⟨sg, 5, none⟩ = some (.bool false) := HO.out.cell 5 rfl 5 rfl
      have lk5_5_115 : x109.frozen? ⟨sg, 5, none⟩ = false := HO.out.frz 5 rfl 5
      have k5_6_116 : x109.cell? ⟨sg, 6, none⟩ = some (.bool false) := HO.out.cell 5 rfl 6 rfl
      have lk5_6_116 : x109.frozen? ⟨sg, 6, none⟩ = false := HO.out.frz 5 rfl 6
      have k5_7_117 : x109.cell? ⟨sg, 7, none⟩ = some (.bool false) := HO.out.cell 5 rfl 7 rfl
      have lk5_7_117 : x109.frozen? ⟨sg, 7, none⟩ = false := HO.out.frz 5 rfl 7
      have k5_8_118 : x109.cell? ⟨sg, 8, none⟩ = some (.int .i64 0) := HO.out.cell 5 rfl 8 rfl
      have lk5_8_118 : x109.frozen? ⟨sg, 8, none⟩ = false := HO.out.frz 5 rfl 8
      have k5_9_119 : x109.cell? ⟨sg, 9, none⟩ = some (.int .i64 0) := HO.out.cell 5 rfl 9 rfl
      have lk5_9_119 : x109.frozen? ⟨sg, 9, none⟩ = false := HO.out.frz 5 rfl 9
      have k5_10_120 : x109.cell? ⟨sg, 10, none⟩ = some (.bool false) := HO.out.cell 5 rfl 10 rfl
      have lk5_10_120 : x109.frozen? ⟨sg, 10, none⟩ = false := HO.out.frz 5 rfl 10
      have k5_11_121 : x109.cell? ⟨sg, 11, none⟩ = some (.slice none 0 0) := HO.out.cell 5 rfl 11 rfl
      have lk5_11_121 : x109.frozen? ⟨sg, 11, none⟩ = false := HO.out.frz 5 rfl 11
      have k5_12_122 : x109.cell? ⟨sg, 12, none⟩ = some (.string ⟨#[]⟩) := HO.out.cell 5 rfl 12 rfl
      have lk5_12_122 : x109.frozen? ⟨sg, 12, none⟩ = false := HO.out.frz 5 rfl 12
      obtain ⟨x123, hx123⟩ : ∃ y, x109.setCell ⟨sg, 0, none⟩ (.int .i64 vy) = y := ⟨_, rfl⟩
      have hO := HO.out.setCell 5 rfl 0 (.int .i64 vy)
      rw [hx123] at hO
      replace HO := Lib.hid (show Own w none0 x123 [blkR bt5 (.cells #[.int .i64 ta, .int .i64 tb] 42), blkR bt6 (.cells #[.int .u16 u0, .int .u16 u1, .int .u16 u2] 43), resP p (dmS false n b m), blkR r (.cells #[.int .i64 b, .int .i64 m, .int .i64 c, .int .i64 m, .int .i64 b, .int .i64 o] 42), blkR q (.cells #[.int .i64 vx, .int .i64 vy] 42), blkR sg (.cells #[.int .i64 vy, .int .i64 0, .int .i64 0, .int .i64 0, .bool false, .bool false, .bool false, .bool false, .int .i64 0, .int .i64 0, .bool false, .slice none 0 0, .string ⟨#[]⟩] 51)] from hO)
      clear hO
      have k5_1_124 : x123.cell? ⟨sg, 1, none⟩ = some (.int .i64 0) := HO.out.cell 5 rfl 1 rfl
      have lk5_1_124 : x123.frozen? ⟨sg, 1, none⟩ = false := HO.out.frz 5 rfl 1
      have k5_2_125 : x123.cell? ⟨sg, 2, none⟩ = some (.int .i64 0) := HO.out.cell 5 rfl 2 rfl
      have lk5_2_125 : x123.frozen? ⟨sg, 2, none⟩ = false := HO.out.frz 5 rfl 2
      have k5_3_126 : x123.cell? ⟨sg, 3, none⟩ = some (.int .i64 0) := HO.out.cell 5 rfl 3 rfl
      have lk5_3_126 : x123.frozen? ⟨sg, 3, none⟩ = false := HO.out.frz 5 rfl 3
      have k5_4_127 : x123.cell? ⟨sg, 4, none⟩ = some (.bool false) := HO.out.cell 5 rfl 4 rfl
      have lk5_4_127 : x123.frozen? ⟨sg, 4, none⟩ = false := HO.out.frz 5 rfl 4
      have k5_5_128 : x123.cell? ⟨sg, 5, none⟩ = some (.bool false) := HO.out.cell 5 rfl 5 rfl
      have lk5_5_128 : x123.frozen? ⟨sg, 5, none⟩ = false := HO.out.frz 5 rfl 5
      have k5_6_129 : x123.cell? ⟨sg, 6, none⟩ = some (.bool false) := HO.out.cell 5 rfl 6 rfl
      have lk5_6_129 : x123.frozen? ⟨sg, 6, none⟩ = false := HO.out.frz 5 rfl 6
      have k5_7_130 : x123.cell? ⟨sg, 7, none⟩ = some (.bool false) := HO.out.cell 5 rfl 7 rfl
      have lk5_7_130 : x123.frozen? ⟨sg, 7, none⟩ = false := HO.out.frz 5 rfl 7
      have k5_8_131 : x123.cell? ⟨sg, 8, none⟩ = some (.int .i64 0) := HO.out.cell 5 rfl 8 rfl
      have lk5_8_131 : x123.frozen? ⟨sg, 8, none⟩ = false := HO.out.frz 5 rfl 8
      have k5_9_132 : x123.cell? ⟨sg, 9, none⟩ = some (.int .i64 0) := HO.out.cell 5 rfl 9 rfl
      have lk5_9_132 : x123.frozen? ⟨sg, 9, none⟩ = false := HO.out.frz 5 rfl 9
      have k5_10_133 : x123.cell? ⟨sg, 10, none⟩ = some (.bool false) := HO.out.cell 5 rfl 10 rfl
      have lk5_10_133 : x123.frozen? ⟨sg, 10, none⟩ = false := HO.out.frz 5 rfl 10
      have k5_11_134 : x123.cell? ⟨sg, 11, none⟩ = some (.slice none 0 0) := HO.out.cell 5 rfl 11 rfl
      have lk5_11_134 : x123.frozen? ⟨sg, 11, none⟩ = false := HO.out.frz 5 rfl 11
      have k5_12_135 : x123.cell? ⟨sg, 12, none⟩ = some (.string ⟨#[]⟩) := HO.out.cell 5 rfl 12 rfl
      have lk5_12_135 : x123.frozen? ⟨sg, 12, none⟩ = false := HO.out.frz 5 rfl 12
      obtain ⟨x136, hx136⟩ : ∃ y, x123.setCell ⟨sg, 1, none⟩ (.int .i64 n) = y := ⟨_, rfl⟩
      have hO := HO.out.setCell 5 rfl 1 (.int .i64 n)
      rw [hx136] at hO
      replace HO := Lib.hid (show Own w none0 x136 [blkR bt5 (.cells #[.int .i64 ta, .int .i64 tb] 42), blkR bt6 (.cells #[.int .u16 u0, .int .u16 u1, .int .u16 u2] 43), resP p (dmS false n b m), blkR r (.cells #[.int .i64 b, .int .i64 m, .int .i64 c, .int .i64 m, .int .i64 b, .int .i64 o] 42), blkR q (.cells #[.int .i64 vx, .int .i64 vy] 42), blkR sg (.cells #[.int .i64 vy, .int .i64 n, .int .i64 0, .int .i64 0, .bool false, .bool false, .bool false, .bool false, .int .i64 0, .int .i64 0, .bool false, .slice none 0 0, .string ⟨#[]⟩] 51)] from hO)
      clear hO
      have k5_2_137 : x136.cell? ⟨sg, 2, none⟩ = some (.int .i64 0) := HO.out.cell 5 rfl 2 rfl
      have lk5_2_137 : x136.frozen? ⟨sg, 2, none⟩ = false := HO.out.frz 5 rfl 2
      have k5_3_138 : x136.cell? ⟨sg, 3, none⟩ = some (.int .i64 0) := HO.out.cell 5 rfl 3 rfl
      have lk5_3_138 : x136.frozen? ⟨sg, 3, none⟩ = false := HO.out.frz 5 rfl 3
      have k5_4_139 : x136.cell? ⟨sg, 4, none⟩ = some (.bool false) := HO.out.cell 5 rfl 4 rfl
      have lk5_4_139 : x136.frozen? ⟨sg, 4, none⟩ = false := HO.out.frz 5 rfl 4
      have k5_5_140 : x136.cell? ⟨sg, 5, none⟩ = some (.bool false) := HO.out.cell 5 rfl 5 rfl
      have lk5_5_140 : x136.frozen? ⟨sg, 5, none⟩ = false := HO.out.frz 5 rfl 5
      have k5_6_141 : x136.cell? ⟨sg, 6, none⟩ = some (.bool false) := HO.out.cell 5 rfl 6 rfl
      have lk5_6_141 : x136.frozen? ⟨sg, 6, none⟩ = false := HO.out.frz 5 rfl 6
      have k5_7_142 : x136.cell? ⟨sg, 7, none⟩ = some (.bool false) := HO.out.cell 5 rfl 7 rfl
      have lk5_7_142 : x136.frozen? ⟨sg, 7, none⟩ = false := HO.out.frz 5 rfl 7
      have k5_8_143 : x136.cell? ⟨sg, 8, none⟩ = some (.int .i64 0) := HO.out.cell 5 rfl 8 rfl
      have lk5_8_143 : x136.frozen? ⟨sg, 8, none⟩ = false := HO.out.frz 5 rfl 8
      have k5_9_144 : x136.cell? ⟨sg, 9, none⟩ = some (.int .i64 0) := HO.out.cell 5 rfl 9 rfl
      have lk5_9_144 : x136.frozen? ⟨sg, 9, none⟩ = false := HO.out.frz 5 rfl 9
      have k5_10_145 : x136.cell? ⟨sg, 10, none⟩ = some (.bool false) := HO.out.cell 5 rfl 10 rfl
      have lk5_10_145 : x136.frozen? ⟨sg, 10, none⟩ = false := HO.out.frz 5 rfl 10
      have k5_11_146 : x136.cell? ⟨sg, 11, none⟩ = some (.slice none 0 0) := HO.out.cell 5 rfl 11 rfl
      have lk5_11_146 : x136.frozen? ⟨sg, 11, none⟩ = false := HO.out.frz 5 rfl 11
      have k5_12_147 : x136.cell? ⟨sg, 12, none⟩ = some (.string ⟨#[]⟩) := HO.out.cell 5 rfl 12 rfl
      have lk5_12_147 : x136.frozen? ⟨sg, 12, none⟩ = false := HO.out.frz 5 rfl 12
      obtain ⟨x148, hx148⟩ : ∃ y, x136.setCell ⟨sg, 2, none⟩ (.int .i64 7) = y := ⟨_, rfl⟩
      have hO := HO.out.setCell 5 rfl 2 (.int .i64 7)
      rw [hx148] at hO
      replace HO := Lib.hid (show Own w none0 x148 [blkR bt5 (.cells #[.int .i64 ta, .int .i64 tb] 42), blkR bt6 (.cells #[.int .u16 u0, .int .u16 u1, .int .u16 u2] 43), resP p (dmS false n b m), blkR r (.cells #[.int .i64 b, .int .i64 m, .int .i64 c, .int .i64 m, .int .i64 b, .int .i64 o] 42), blkR q (.cells #[.int .i64 vx, .int .i64 vy] 42), blkR sg (.cells #[.int .i64 vy, .int .i64 n, .int .i64 7, .int .i64 0, .bool false, .bool false, .bool false, .bool false, .int .i64 0, .int .i64 0, .bool false, .slice none 0 0, .string ⟨#[]⟩] 51)] from hO)
      clear hO
      have k5_3_149 : x148.cell? ⟨sg, 3, none⟩ = some (.int .i64 0) := HO.out.cell 5 rfl 3 rfl
      have lk5_3_149 : x148.frozen? ⟨sg, 3, none⟩ = false := HO.out.frz 5 rfl 3
      have k5_4_150 : x148.cell? ⟨sg, 4, none⟩ = some (.bool false) := HO.out.cell 5 rfl 4 rfl
      have lk5_4_150 : x148.frozen? ⟨sg, 4, none⟩ = false := HO.out.frz 5 rfl 4
      have k5_5_151 : x148.cell? ⟨sg, 5, none⟩ = some (.bool false) := HO.out.cell 5 rfl 5 rfl
      have lk5_5_151 : x148.frozen? ⟨sg, 5, none⟩ = false := HO.out.frz 5 rfl 5
      have k5_6_152 : x148.cell? ⟨sg, 6, none⟩ = some (.bool false) := HO.out.cell 5 rfl 6 rfl
      have lk5_6_152 : x148.frozen? ⟨sg, 6, none⟩ = false := HO.out.frz 5 rfl 6
      have k5_7_153 : x148.cell? ⟨sg, 7, none⟩ = some (.bool false) := HO.out.cell 5 rfl 7 rfl
      have lk5_7_153 : x148.frozen? ⟨sg, 7, none⟩ = false := HO.out.frz 5 rfl 7
      have k5_8_154 : x148.cell? ⟨sg, 8, none⟩ = some (.int .i64 0) := HO.out.cell 5 rfl 8 rfl
      have lk5_8_154 : x148.frozen? ⟨sg, 8, none⟩ = false := HO.out.frz 5 rfl 8
      have k5_9_155 : x148.cell? ⟨sg, 9, none⟩ = some (.int .i64 0) := HO.out.cell 5 rfl 9 rfl
      have lk5_9_155 : x148.frozen? ⟨sg, 9, none⟩ = false := HO.out.frz 5 rfl 9
      have k5_10_156 : x148.cell? ⟨sg, 10, none⟩ = some (.bool false) := HO.out.cell 5 rfl 10 rfl
      have lk5_10_156 : x148.frozen? ⟨sg, 10, none⟩ = false := HO.out.frz 5 rfl 10
      have k5_11_157 : x148.cell? ⟨sg, 11, none⟩ = some (.slice none 0 0) := HO.out.cell 5 rfl 11 rfl
      have lk5_11_157 : x148.frozen? ⟨sg, 11, none⟩ = false := HO.out.frz 5 rfl 11
      have k5_12_158 : x148.cell? ⟨sg, 12, none⟩ = some (.string ⟨#[]⟩) := HO.out.cell 5 rfl 12 rfl
      have lk5_12_158 : x148.frozen? ⟨sg, 12, none⟩ = false := HO.out.frz 5 rfl 12
      obtain ⟨x159, hx159⟩ : ∃ y, x148.setCell ⟨sg, 3, none⟩ (.int .i64 0) = y := ⟨_, rfl⟩
      have hO := HO.out.setCell 5 rfl 3 (.int .i64 0)
      rw [hx159] at hO
      replace HO := Lib.hid (show Own w none0 x159 [blkR bt5 (.cells #[.int .i64 ta, .int .i64 tb] 42), blkR bt6 (.cells #[.int .u16 u0, .int .u16 u1, .int .u16 u2] 43), resP p (dmS false n b m), blkR r (.cells #[.int .i64 b, .int .i64 m, .int .i64 c, .int .i64 m, .int .i64 b, .int .i64 o] 42), blkR q (.cells #[.int .i64 vx, .int .i64 vy] 42), blkR sg (.cells #[.int .i64 vy, .int .i64 n, .int .i64 7, .int .i64 0, .bool false, .bool false, .bool false, .bool false, .int .i64 0, .int .i64 0, .bool false, .slice none 0 0, .string ⟨#[]⟩] 51)] from hO)
      clear hO
      have k5_4_160 : x159.cell? ⟨sg, 4, none⟩ = some (.bool false) := HO.out.cell 5 rfl 4 rfl
      have lk5_4_160 : x159.frozen? ⟨sg, 4, none⟩ = false := HO.out.frz 5 rfl 4
      have k5_5_161 : x159.cell? ⟨sg, 5, none⟩ = some (.bool false) := HO.out.cell 5 rfl 5 rfl
      have lk5_5_161 : x159.frozen? ⟨sg, 5, none⟩ = false := HO.out.frz 5 rfl 5
      have k5_6_162 : x159.cell? ⟨sg, 6, none⟩ = some (.bool false) := HO.out.cell 5 rfl 6 rfl
      have lk5_6_162 : x159.frozen? ⟨sg, 6, none⟩ = false := HO.out.frz 5 rfl 6
      have k5_7_163 : x159.cell? ⟨sg, 7, none⟩ = some (.bool false) := HO.out.cell 5 rfl 7 rfl
      have lk5_7_163 : x159.frozen? ⟨sg, 7, none⟩ = false := HO.out.frz 5 rfl 7
      have k5_8_164 : x159.cell? ⟨sg, 8, none⟩ = some (.int .i64 0) := HO.out.cell 5 rfl 8 rfl
      have lk5_8_164 : x159.frozen? ⟨sg, 8, none⟩ = false := HO.out.frz 5 rfl 8
      have k5_9_165 : x159.cell? ⟨sg, 9, none⟩ = some (.int .i64 0) := HO.out.cell 5 rfl 9 rfl
      have lk5_9_165 : x159.frozen? ⟨sg, 9, none⟩ = false := HO.out.frz 5 rfl 9
      have k5_10_166 : x159.cell? ⟨sg, 10, none⟩ = some (.bool false) := HO.out.cell 5 rfl 10 rfl
      have lk5_10_166 : x159.frozen? ⟨sg, 10, none⟩ = false := HO.out.frz 5 rfl 10
      have k5_11_167 : x159.cell? ⟨sg, 11, none⟩ = some (.slice none 0 0) := HO.out.cell 5 rfl 11 rfl
      have lk5_11_167 : x159.frozen? ⟨sg, 11, none⟩ = false := HO.out.frz 5 rfl 11
      have k5_12_168 : x159.cell? ⟨sg, 12, none⟩ = some (.string ⟨#[]⟩) := HO.out.cell 5 rfl 12 rfl
      have lk5_12_168 : x159.frozen? ⟨sg, 12, none⟩ = false := HO.out.frz 5 rfl 12
      obtain ⟨x169, hx169⟩ : ∃ y, x159.setCell ⟨sg, 4, none⟩ (.bool false) = y := ⟨_, rfl⟩
      have hO := HO.out.setCell 5 rfl 4 (.bool false)
      rw [hx169] at hO
      replace HO := Lib.hid (show Own w none0 x169 [blkR bt5 (.cells #[.int .i64 ta, .int .i64 tb] 42), blkR bt6 (.cells #[.int .u16 u0, .int .u16 u1, .int .u16 u2] 43), resP p (dmS false n b m), blkR r (.cells #[.int .i64 b, .int .i64 m, .int .i64 c, .int .i64 m, .int .i64 b, .int .i64 o] 42), blkR q (.cells #[.int .i64 vx, .int .i64 vy] 42), blkR sg (.cells #[.int .i64 vy, .int .i64 n, .int .i64 7, .int .i64 0, .bool false, .bool false, .bool false, .bool false, .int .i64 0, .int .i64 0, .bool false, .slice none 0 0, .string ⟨#[]⟩] 51)] from hO)
      clear hO
      have k5_5_170 : x169.cell? ⟨sg, 5, none⟩ = some (.bool false) := HO.out.cell 5 rfl 5 rfl
      have lk5_5_170 : x169.frozen? ⟨sg, 5, none⟩ = false := HO.out.frz 5 rfl 5
      have k5_6_171 : x169.cell? ⟨sg, 6, none⟩ = some (.bool false) := HO.out.cell 5 rfl 6 rfl
      have lk5_6_171 : x169.frozen? ⟨sg, 6, none⟩ = false := HO.out.frz 5 rfl 6
      have k5_7_172 : x169.cell? ⟨sg, 7, none⟩ = some (.bool false) := HO.out.cell 5 rfl 7 rfl
      have lk5_7_172 : x169.frozen? ⟨sg, 7, none⟩ = false := HO.out.frz 5 rfl 7
      have k5_8_173 : x169.cell? ⟨sg, 8, none⟩ = some (.int .i64 0) := HO.out.cell 5 rfl 8 rfl
      have lk5_8_173 : x169.frozen? ⟨sg, 8, none⟩ = false := HO.out.frz 5 rfl 8
      have k5_9_174 : x169.cell? ⟨sg, 9, none⟩ = some (.int .i64 0) := HO.out.cell 5 rfl 9 rfl
      have lk5_9_174 : x169.frozen? ⟨sg, 9, none⟩ = false := HO.out.frz 5 rfl 9
      have k5_10_175 : x169.cell? ⟨sg, 10, none⟩ = some (.bool false) := HO.out.cell 5 rfl 10 rfl
      have lk5_10_175 : x169.frozen? ⟨sg, 10, none⟩ = false := HO.out.frz 5 rfl 10
      have k5_11_176 : x169.cell? ⟨sg, 11, none⟩ = some (.slice none 0 0) := HO.out.cell 5 rfl 11 rfl
      have lk5_11_176 : x169.frozen? ⟨sg, 11, none⟩ = false := HO.out.frz 5 rfl 11
      have k5_12_177 : x169.cell? ⟨sg, 12, none⟩ = some (.string ⟨#[]⟩) := HO.out.cell 5 rfl 12 rfl
      have lk5_12_177 : x169.frozen? ⟨sg, 12, none⟩ = false := HO.out.frz 5 rfl 12
      obtain ⟨x178, hx178⟩ : ∃ y, x169.setCell ⟨sg, 5, none⟩ (.bool false) = y := ⟨_, rfl⟩
      have hO := HO.out.setCell 5 rfl 5 (.bool false)
      rw [hx178] at hO
      replace HO := Lib.hid (show Own w none0 x178 [blkR bt5 (.cells #[.int .i64 ta, .int .i64 tb] 42), blkR bt6 (.cells #[.int .u16 u0, .int .u16 u1, .int .u16 u2] 43), resP p (dmS false n b m), blkR r (.cells #[.int .i64 b, .int .i64 m, .int .i64 c, .int .i64 m, .int .i64 b, .int .i64 o] 42), blkR q (.cells #[.int .i64 vx, .int .i64 vy] 42), blkR sg (.cells #[.int .i64 vy, .int .i64 n, .int .i64 7, .int .i64 0, .bool false, .bool false, .bool false, .bool false, .int .i64 0, .int .i64 0, .bool false, .slice none 0 0, .string ⟨#[]⟩] 51)] from hO)
      clear hO
      have k5_6_179 : x178.cell? ⟨sg, 6, none⟩ = some (.bool false) := HO.out.cell 5 rfl 6 rfl
      have lk5_6_179 : x178.frozen? ⟨sg, 6, none⟩ = false := HO.out.frz 5 rfl 6
      have k5_7_180 : x178.cell? ⟨sg, 7, none⟩ = some (.bool false) := HO.out.cell 5 rfl 7 rfl
      have lk5_7_180 : x178.frozen? ⟨sg, 7, none⟩ = false := HO.out.frz 5 rfl 7
      have k5_8_181 : x178.cell? ⟨sg, 8, none⟩ = some (.int .i64 0) := HO.out.cell 5 rfl 8 rfl
      have lk5_8_181 : x178.frozen? ⟨sg, 8, none⟩ = false := HO.out.frz 5 rfl 8
      have k5_9_182 : x178.cell? ⟨sg, 9, none⟩ = some (.int .i64 0) := HO.out.cell 5 rfl 9 rfl
      have lk5_9_182 : x178.frozen? ⟨sg, 9, none⟩ = false := HO.out.frz 5 rfl 9
      have k5_10_183 : x178.cell? ⟨sg, 10, none⟩ = some (.bool false) := HO.out.cell 5 rfl 10 rfl
      have lk5_10_183 : x178.frozen? ⟨sg, 10, none⟩ = false := HO.out.frz 5 rfl 10
      have k5_11_184 : x178.cell? ⟨sg, 11, none⟩ = some (.slice none 0 0) := HO.out.cell 5 rfl 11 rfl
      have lk5_11_184 : x178.frozen? ⟨sg, 11, none⟩ = false := HO.out.frz 5 rfl 11
      have k5_12_185 : x178.cell? ⟨sg, 12, none⟩ = some (.string ⟨#[]⟩) := HO.out.cell 5 rfl 12 rfl
      have lk5_12_185 : x178.frozen? ⟨sg, 12, none⟩ = false := HO.out.frz 5 rfl 12
      obtain ⟨x186, hx186⟩ : ∃ y, x178.setCell ⟨sg, 6, none⟩ (.bool false) = y := ⟨_, rfl⟩
      have hO := HO.out.setCell 5 rfl 6 (.bool false)
      rw [hx186] at hO
      replace HO := Lib.hid (show Own w none0 x186 [blkR bt5 (.cells #[.int .i64 ta, .int .i64 tb] 42), blkR bt6 (.cells #[.int .u16 u0, .int .u16 u1, .int .u16 u2] 43), resP p (dmS false n b m), blkR r (.cells #[.int .i64 b, .int .i64 m, .int .i64 c, .int .i64 m, .int .i64 b, .int .i64 o] 42), blkR q (.cells #[.int .i64 vx, .int .i64 vy] 42), blkR sg (.cells #[.int .i64 vy, .int .i64 n, .int .i64 7, .int .i64 0, .bool false, .bool false, .bool false, .bool false, .int .i64 0, .int .i64 0, .bool false, .slice none 0 0, .string ⟨#[]⟩] 51)] from hO)
      clear hO
      have k5_7_187 : x186.cell? ⟨sg, 7, none⟩ = some (.bool false) := HO.out.cell 5 rfl 7 rfl
      have lk5_7_187 : x186.frozen? ⟨sg, 7, none⟩ = false := HO.out.frz 5 rfl 7
      have k5_8_188 : x186.cell? ⟨sg, 8, none⟩ = some (.int .i64 0) := HO.out.cell 5 rfl 8 rfl
      have lk5_8_188 : x186.frozen? ⟨sg, 8, none⟩ = false := HO.out.frz 5 rfl 8
      have k5_9_189 : x186.cell? ⟨sg, 9, none⟩ = some (.int .i64 0) := HO.out.cell 5 rfl 9 rfl
      have lk5_9_189 : x186.frozen? ⟨sg, 9, none⟩ = false := HO.out.frz 5 rfl 9
      have k5_10_190 : x186.cell? ⟨sg, 10, none⟩ = some (.bool false) := HO.out.cell 5 rfl 10 rfl
      have lk5_10_190 : x186.frozen? ⟨sg, 10, none⟩ = false := HO.out.frz 5 rfl 10
      have k5_11_191 : x186.cell? ⟨sg, 11, none⟩ = some (.slice none 0 0) := HO.out.cell 5 rfl 11 rfl
      have lk5_11_191 : x186.frozen? ⟨sg, 11, none⟩ = false := HO.out.frz 5 rfl 11
      have k5_12_192 : x186.cell? ⟨sg, 12, none⟩ = some (.string ⟨#[]⟩) := HO.out.cell 5 rfl 12 rfl
      have lk5_12_192 : x186.frozen? ⟨sg, 12, none⟩ = false := HO.out.frz 5 rfl 12
      obtain ⟨x193, hx193⟩ : ∃ y, x186.setCell ⟨sg, 7, none⟩ (.bool false) = y := ⟨_, rfl⟩
      have hO := HO.out.setCell 5 rfl 7 (.bool false)
      rw [hx193] at hO
      replace HO := Lib.hid (show Own w none0 x193 [blkR bt5 (.cells #[.int .i64 ta, .int .i64 tb] 42), blkR bt6 (.cells #[.int .u16 u0, .int .u16 u1, .int .u16 u2] 43), resP p (dmS false n b m), blkR r (.cells #[.int .i64 b, .int .i64 m, .int .i64 c, .int .i64 m, .int .i64 b, .int .i64 o] 42), blkR q (.cells #[.int .i64 vx, .int .i64 vy] 42), blkR sg (.cells #[.int .i64 vy, .int .i64 n, .int .i64 7, .int .i64 0, .bool false, .bool false, .bool false, .bool false, .int .i64 0, .int .i64 0, .bool false, .slice none 0 0, .string ⟨#[]⟩] 51)] from hO)
      clear hO
      have k5_8_194 : x193.cell? ⟨sg, 8, none⟩ = some (.int .i64 0) := HO.out.cell 5 rfl 8 rfl
      have lk5_8_194 : x193.frozen? ⟨sg, 8, none⟩ = false := HO.out.frz 5 rfl 8
      have k5_9_195 : x193.cell? ⟨sg, 9, none⟩ = some (.int .i64 0) := HO.out.cell 5 rfl 9 rfl
      have lk5_9_195 : x193.frozen? ⟨sg, 9, none⟩ = false := HO.out.frz 5 rfl 9
      have k5_10_196 : x193.cell? ⟨sg, 10, none⟩ = some (.bool false) := HO.out.cell 5 rfl 10 rfl
      have lk5_10_196 : x193.frozen? ⟨sg, 10, none⟩ = false := HO.out.frz 5 rfl 10
      have k5_11_197 : x193.cell? ⟨sg, 11, none⟩ = some (.slice none 0 0) := HO.out.cell 5 rfl 11 rfl
      have lk5_11_197 : x193.frozen? ⟨sg, 11, none⟩ = false := HO.out.frz 5 rfl 11
      have k5_12_198 : x193.cell? ⟨sg, 12, none⟩ = some (.string ⟨#[]⟩) := HO.out.cell 5 rfl 12 rfl
      have lk5_12_198 : x193.frozen? ⟨sg, 12, none⟩ = false := HO.out.frz 5 rfl 12
      obtain ⟨x199, hx199⟩ : ∃ y, x193.setCell ⟨sg, 8, none⟩ (.int .i64 0) = y := ⟨_, rfl⟩
      have hO := HO.out.setCell 5 rfl 8 (.int .i64 0)
      rw [hx199] at hO
      replace HO := Lib.hid (show Own w none0 x199 [blkR bt5 (.cells #[.int .i64 ta, .int .i64 tb] 42), blkR bt6 (.cells #[.int .u16 u0, .int .u16 u1, .int .u16 u2] 43), resP p (dmS false n b m), blkR r (.cells #[.int .i64 b, .int .i64 m, .int .i64 c, .int .i64 m, .int .i64 b, .int .i64 o] 42), blkR q (.cells #[.int .i64 vx, .int .i64 vy] 42), blkR sg (.cells #[.int .i64 vy, .int .i64 n, .int .i64 7, .int .i64 0, .bool false, .bool false, .bool false, .bool false, .int .i64 0, .int .i64 0, .bool false, .slice none 0 0, .string ⟨#[]⟩] 51)] from hO)
      clear hO
      have k5_9_200 : x199.cell? ⟨sg, 9, none⟩ = some (.int .i64 0) := HO.out.cell 5 rfl 9 rfl
      have lk5_9_200 : x199.frozen? ⟨sg, 9, none⟩ = false := HO.out.frz 5 rfl 9
      have k5_10_201 : x199.cell? ⟨sg, 10, none⟩ = some (.bool false) := HO.out.cell 5 rfl 10 rfl
      have lk5_10_201 : x199.frozen? ⟨sg, 10, none⟩ = false := HO.out.frz 5 rfl 10
      have k5_11_202 : x199.cell? ⟨sg, 11, none⟩ = some (.slice none 0 0) := HO.out.cell 5 rfl 11 rfl
      have lk5_11_202 : x199.frozen? ⟨sg, 11, none⟩ = false := HO.out.frz 5 rfl 11
      have k5_12_203 : x199.cell? ⟨sg, 12, none⟩ = some (.string ⟨#[]⟩) := HO.out.cell 5 rfl 12 rfl
      have lk5_12_203 : x199.frozen? ⟨sg, 12, none⟩ = false := HO.out.frz 5 rfl 12
      obtain ⟨x204, hx204⟩ : ∃ y, x199.setCell ⟨sg, 9, none⟩ (.int .i64 0) = y := ⟨_, rfl⟩
      have hO := HO.out.setCell 5 rfl 9 (.int .i64 0)
      rw [hx204] at hO
      replace HO := Lib.hid (show Own w none0 x204 [blkR bt5 (.cells #[.int .i64 ta, .int .i64 tb] 42), blkR bt6 (.cells #[.int .u16 u0, .int .u16 u1, .int .u16 u2] 43), resP p (dmS false n b m), blkR r (.cells #[.int .i64 b, .int .i64 m, .int .i64 c, .int .i64 m, .int .i64 b, .int .i64 o] 42), blkR q (.cells #[.int .i64 vx, .int .i64 vy] 42), blkR sg (.cells #[.int .i64 vy, .int .i64 n, .int .i64 7, .int .i64 0, .bool false, .bool false, .bool false, .bool false, .int .i64 0, .int .i64 0, .bool false, .slice none 0 0, .string ⟨#[]⟩] 51)] from hO)
      clear hO
      have k5_10_205 : x204.cell? ⟨sg, 10, none⟩ = some (.bool false) := HO.out.cell 5 rfl 10 rfl
      have lk5_10_205 : x204.frozen? ⟨sg, 10, none⟩ = false := HO.out.frz 5 rfl 10
      have k5_11_206 : x204.cell? ⟨sg, 11, none⟩ = some (.slice none 0 0) := HO.out.cell 5 rfl 11 rfl
      have lk5_11_206 : x204.frozen? ⟨sg, 11, none⟩ = false := HO.out.frz 5 rfl 11
      have k5_12_207 : x204.cell? ⟨sg, 12, none⟩ = some (.string ⟨#[]⟩) := HO.out.cell 5 rfl 12 rfl
      have lk5_12_207 : x204.frozen? ⟨sg, 12, none⟩ = false := HO.out.frz 5 rfl 12
      obtain ⟨x208, hx208⟩ : ∃ y, x204.setCell ⟨sg, 10, none⟩ (.bool false) = y := ⟨_, rfl⟩
      have hO := HO.out.setCell 5 rfl 10 (.bool false)
      rw [hx208] at hO
      replace HO := Lib.hid (show Own w none0 x208 [blkR bt5 (.cells #[.int .i64 ta, .int .i64 tb] 42), blkR bt6 (.cells #[.int .u16 u0, .int .u16 u1, .int .u16 u2] 43), resP p (dmS false n b m), blkR r (.cells #[.int .i64 b, .int .i64 m, .int .i64 c, .int .i64 m, .int .i64 b, .int .i64 o] 42), blkR q (.cells #[.int .i64 vx, .int .i64 vy] 42), blkR sg (.cells #[.int .i64 vy, .int .i64 n, .int .i64 7, .int .i64 0, .bool false, .bool false, .bool false, .bool false, .int .i64 0, .int .i64 0, .bool false, .slice none 0 0, .string ⟨#[]⟩] 51)] from hO)
      clear hO
      have k5_11_209 : x208.cell? ⟨sg, 11, none⟩ = some (.slice none 0 0) := HO.out.cell 5 rfl 11 rfl
      have lk5_11_209 : x208.frozen? ⟨sg, 11, none⟩ = false := HO.out.frz 5 rfl 11
      have k5_12_210 : x208.cell? ⟨sg, 12, none⟩ = some (.string ⟨#[]⟩) := HO.out.cell 5 rfl 12 rfl
      have lk5_12_210 : x208.frozen? ⟨sg, 12, none⟩ = false := HO.out.frz 5 rfl 12
      obtain ⟨x211, hx211⟩ : ∃ y, x208.setCell ⟨sg, 11, none⟩ (.slice none 0 0) = y := ⟨_, rfl⟩
      have hO := HO.out.setCell 5 rfl 11 (.slice none 0 0)
      rw [hx211] at hO
      replace HO := Lib.hid (show Own w none0 x211 [blkR bt5 (.cells #[.int .i64 ta, .int .i64 tb] 42), blkR bt6 (.cells #[.int .u16 u0, .int .u16 u1, .int .u16 u2] 43), resP p (dmS false n b m), blkR r (.cells #[.int .i64 b, .int .i64 m, .int .i64 c, .int .i64 m, .int .i64 b, .int .i64 o] 42), blkR q (.cells #[.int .i64 vx, .int .i64 vy] 42), blkR sg (.cells #[.int .i64 vy, .int .i64 n, .int .i64 7, .int .i64 0, .bool false, .bool false, .bool false, .bool false, .int .i64 0, .int .i64 0, .bool false, .slice none 0 0, .string ⟨#[]⟩] 51)] from hO)
      clear hO
      have k5_12_212 : x211.cell? ⟨sg, 12, none⟩ = some (.string ⟨#[]⟩) := HO.out.cell 5 rfl 12 rfl
      have lk5_12_212 : x211.frozen? ⟨sg, 12, none⟩ = false := HO.out.frz 5 rfl 12
      obtain ⟨x213, hx213⟩ : ∃ y, x211.setCell ⟨sg, 12, none⟩ (.string ⟨#[122]⟩) = y := ⟨_, rfl⟩
      have hO := HO.out.setCell 5 rfl 12 (.string ⟨#[122]⟩)
      rw [hx213] at hO
      replace HO := Lib.hid (show Own w none0 x213 [blkR bt5 (.cells #[.int .i64 ta, .int .i64 tb] 42), blkR bt6 (.cells #[.int .u16 u0, .int .u16 u1, .int .u16 u2] 43), resP p (dmS false n b m), blkR r (.cells #[.int .i64 b, .int .i64 m, .int .i64 c, .int .i64 m, .int .i64 b, .int .i64 o] 42), blkR q (.cells #[.int .i64 vx, .int .i64 vy] 42), blkR sg (.cells #[.int .i64 vy, .int .i64 n, .int .i64 7, .int .i64 0, .bool false, .bool false, .bool false, .bool false, .int .i64 0, .int .i64 0, .bool false, .slice none 0 0, .string ⟨#[122]⟩] 51)] from hO)
      clear hO
      have z4_0t : x213.cell? ⟨q, 0, none⟩ = some (.int .i64 vx) := HO.out.cell 4 rfl 0 rfl
      have z4_1t : x213.cell? ⟨q, 1, none⟩ = some (.int .i64 vy) := HO.out.cell 4 rfl 1 rfl
      have z5_0 : x213.cell? ⟨sg, 0, none⟩ = some (.int .i64 vy) := HO.out.cell 5 rfl 0 rfl
      have z5_1 : x213.cell? ⟨sg, 1, none⟩ = some (.int .i64 n) := HO.out.cell 5 rfl 1 rfl
      have z5_2 : x213.cell? ⟨sg, 2, none⟩ = some (.int .i64 7) := HO.out.cell 5 rfl 2 rfl
      have z5_3 : x213.cell? ⟨sg, 3, none⟩ = some (.int .i64 0) := HO.out.cell 5 rfl 3 rfl
      have z5_4 : x213.cell? ⟨sg, 4, none⟩ = some (.bool false) := HO.out.cell 5 rfl 4 rfl
      have z5_5 : x213.cell? ⟨sg, 5, none⟩ = some (.bool false) := HO.out.cell 5 rfl 5 rfl
      have z5_6 : x213.cell? ⟨sg, 6, none⟩ = some (.bool false) := HO.out.cell 5 rfl 6 rfl
      have z5_7 : x213.cell? ⟨sg, 7, none⟩ = some (.bool false) := HO.out.cell 5 rfl 7 rfl
      have z5_8 : x213.cell? ⟨sg, 8, none⟩ = some (.int .i64 0) := HO.out.cell 5 rfl 8 rfl
      have z5_9 : x213.cell? ⟨sg, 9, none⟩ = some (.int .i64 0) := HO.out.cell 5 rfl 9 rfl
      have z5_10 : x213.cell? ⟨sg, 10, none⟩ = some (.bool false) := HO.out.cell 5 rfl 10 rfl
      have z5_11 : x213.cell? ⟨sg, 11, none⟩ = some (.slice none 0 0) := HO.out.cell 5 rfl 11 rfl
      have z5_12 : x213.cell? ⟨sg, 12, none⟩ = some (.string ⟨#[122]⟩) := HO.out.cell 5 rfl 12 rfl
      go_wp2_with fail
      by_cases hx : vx = b
      · by_cases hy : vy = m
        · obtain rfl := hx.symm
          obtain rfl := hy.symm
          skip
          refine (look_o HO.out 2 rfl (dm_same false n b m) (by show 1 ≤ 1000000; decide)).mono ?_
          rintro e x214 ⟨rfl, hO, -⟩
          replace HO := Lib.hid (show Own w none0 x214 [blkR bt5 (.cells #[.int .i64 ta, .int .i64 tb] 42), blkR bt6 (.cells #[.int .u16 u0, .int .u16 u1, .int .u16 u2] 43), resP p (dmS false n b m), blkR r (.cells #[.int .i64 b, .int .i64 m, .int .i64 c, .int .i64 m, .int .i64 b, .int .i64 o] 42), blkR q (.cells #[.int .i64 b, .int .i64 m] 42), blkR sg (.cells #[.int .i64 m, .int .i64 n, .int .i64 7, .int .i64 0, .bool false, .bool false, .bool false, .bool false, .int .i64 0, .int .i64 0, .bool false, .slice none 0 0, .string ⟨#[122]⟩] 51)] from hO)
          clear hO
          clear z4_0 z4_1 hx109 hsg k5_0_110 lk5_0_110 k5_1_111 lk5_1_111 k5_2_112 lk5_2_112 k5_3_113 lk5_3_113 k5_4_114 lk5_4_114 k5_5_115 lk5_5_115 k5_6_116 lk5_6_116 k5_7_117 lk5_7_117 k5_8_118 lk5_8_118 k5_9_119 lk5_9_119 k5_10_120 lk5_10_120 k5_11_121 lk5_11_121 k5_12_122 lk5_12_122 hx123 k5_1_124 lk5_1_124 k5_2_125 lk5_2_125 k5_3_126 lk5_3_126 k5_4_127 lk5_4_127 k5_5_128 lk5_5_128 k5_6_129 lk5_6_129 k5_7_130 lk5_7_130 k5_8_131 lk5_8_131 k5_9_132 lk5_9_132 k5_10_133 lk5_10_133 k5_11_134 lk5_11_134 k5_12_135 lk5_12_135 hx136 k5_2_137 lk5_2_137 k5_3_138 lk5_3_138 k5_4_139 lk5_4_139 k5_5_140 lk5_5_140 k5_6_141 lk5_6_141 k5_7_142 lk5_7_142 k5_8_143 lk5_8_143 k5_9_144 lk5_9_144 k5_10_145 lk5_10_145 k5_11_146 lk5_11_146 k5_12_147 lk5_12_147 hx148 k5_3_149 lk5_3_149 k5_4_150 lk5_4_150 k5_5_151 lk5_5_151 k5_6_152 lk5_6_152 k5_7_153 lk5_7_153 k5_8_154 lk5_8_154 k5_9_155 lk5_9_155 k5_10_156 lk5_10_156 k5_11_157 lk5_11_157 k5_12_158 lk5_12_158 hx159 k5_4_160 lk5_4_160 k5_5_161 lk5_5_161 k5_6_162 lk5_6_162 k5_7_163 lk5_7_163 k5_8_164 lk5_8_164 k5_9_165 lk5_9_165 k5_10_166 lk5_10_166 k5_11_167 lk5_11_167 k5_12_168 lk5_12_168 hx169 k5_5_170 lk5_5_170 k5_6_171 lk5_6_171 k5_7_172 lk5_7_172 k5_8_173 lk5_8_173 k5_9_174 lk5_9_174 k5_10_175 lk5_10_175 k5_11_176 lk5_11_176 k5_12_177 lk5_12_177 hx178 k5_6_179 lk5_6_179 k5_7_180 lk5_7_180 k5_8_181 lk5_8_181 k5_9_182 lk5_9_182 k5_10_183 lk5_10_183 k5_11_184 lk5_11_184 k5_12_185 lk5_12_185 hx186 k5_7_187 lk5_7_187 k5_8_188 lk5_8_188 k5_9_189 lk5_9_189 k5_10_190 lk5_10_190 k5_11_191 lk5_11_191 k5_12_192 lk5_12_192 hx193 k5_8_194 lk5_8_194 k5_9_195 lk5_9_195 k5_10_196 lk5_10_196 k5_11_197 lk5_11_197 k5_12_198 lk5_12_198 hx199 k5_9_200 lk5_9_200 k5_10_201 lk5_10_201 k5_11_202 lk5_11_202 k5_12_203 lk5_12_203 hx204 k5_10_205 lk5_10_205 k5_11_206 lk5_11_206 k5_12_207 lk5_12_207 hx208 k5_11_209 lk5_11_209 k5_12_210 lk5_12_210 hx211 k5_12_212 lk5_12_212 hx213 z4_0t z4_1t z5_0 z5_1 z5_2 z5_3 z5_4 z5_5 z5_6 z5_7 z5_8 z5_9 z5_10 z5_11 z5_12
          have z4_0 : x214.cell? ⟨q, 0, none⟩ = some (.int .i64 b) := HO.out.cell 4 rfl 0 rfl
          have z4_1 : x214.cell? ⟨q, 1, none⟩ = some (.int .i64 m) := HO.out.cell 4 rfl 1 rfl
          go_wp2_with fail
          refine (HAV.out _).mono ?_
          rintro e xp ⟨rfl, rfl⟩
          go_wp2
          go_roundw
          case rel => exact ⟨k + 1, by omega, by go_num, HO.out.take 4⟩
          case measure => simp [intOf]; omega
        · obtain rfl := hx.symm
          have hym : (vy == m) = false := by simpa using hy
          have hym2 : (vy = m) = False := eq_false hy
          refine (look_o HO.out 2 rfl (dm_no (fun h => hy h.2)) (by show 1 ≤ 1000000; decide)).mono ?_
          rintro e x214 ⟨rfl, hO, -⟩
          replace HO := Lib.hid (show Own w none0 x214 [blkR bt5 (.cells #[.int .i64 ta, .int .i64 tb] 42), blkR bt6 (.cells #[.int .u16 u0, .int .u16 u1, .int .u16 u2] 43), resP p (dmS false n b m), blkR r (.cells #[.int .i64 b, .int .i64 m, .int .i64 c, .int .i64 m, .int .i64 b, .int .i64 o] 42), blkR q (.cells #[.int .i64 b, .int .i64 vy] 42), blkR sg (.cells #[.int .i64 vy, .int .i64 n, .int .i64 7, .int .i64 0, .bool false, .bool false, .bool false, .bool false, .int .i64 0, .int .i64 0, .bool false, .slice none 0 0, .string ⟨#[122]⟩] 51)] from hO)
          clear hO
          clear z4_0 z4_1 hx109 hsg k5_0_110 lk5_0_110 k5_1_111 lk5_1_111 k5_2_112 lk5_2_112 k5_3_113 lk5_3_113 k5_4_114 lk5_4_114 k5_5_115 lk5_5_115 k5_6_116 lk5_6_116 k5_7_117 lk5_7_117 k5_8_118 lk5_8_118 k5_9_119 lk5_9_119 k5_10_120 lk5_10_120 k5_11_121 lk5_11_121 k5_12_122 lk5_12_122 hx123 k5_1_124 lk5_1_124 k5_2_125 lk5_2_125 k5_3_126 lk5_3_126 k5_4_127 lk5_4_127 k5_5_128 lk5_5_128 k5_6_129 lk5_6_129 k5_7_130 lk5_7_130 k5_8_131 lk5_8_131 k5_9_132 lk5_9_132 k5_10_133 lk5_10_133 k5_11_134 lk5_11_134 k5_12_135 lk5_12_135 hx136 k5_2_137 lk5_2_137 k5_3_138 lk5_3_138 k5_4_139 lk5_4_139 k5_5_140 lk5_5_140 k5_6_141 lk5_6_141 k5_7_142 lk5_7_142 k5_8_143 lk5_8_143 k5_9_144 lk5_9_144 k5_10_145 lk5_10_145 k5_11_146 lk5_11_146 k5_12_147 lk5_12_147 hx148 k5_3_149 lk5_3_149 k5_4_150 lk5_4_150 k5_5_151 lk5_5_151 k5_6_152 lk5_6_152 k5_7_153 lk5_7_153 k5_8_154 lk5_8_154 k5_9_155 lk5_9_155 k5_10_156 lk5_10_156 k5_11_157 lk5_11_157 k5_12_158 lk5_12_158 hx159 k5_4_160 lk5_4_160 k5_5_161 lk5_5_161 k5_6_162 lk5_6_162 k5_7_163 lk5_7_163 k5_8_164 lk5_8_164 k5_9_165 lk5_9_165 k5_10_166 lk5_10_166 k5_11_167 lk5_11_167 k5_12_168 lk5_12_168 hx169 k5_5_170 lk5_5_170 k5_6_171 lk5_6_171 k5_7_172 lk5_7_172 k5_8_173 lk5_8_173 k5_9_174 lk5_9_174 k5_10_175 lk5_10_175 k5_11_176 lk5_11_176 k5_12_177 lk5_12_177 hx178 k5_6_179 lk5_6_179 k5_7_180 lk5_7_180 k5_8_181 lk5_8_181 k5_9_182 lk5_9_182 k5_10_183 lk5_10_183 k5_11_184 lk5_11_184 k5_12_185 lk5_12_185 hx186 k5_7_187 lk5_7_187 k5_8_188 lk5_8_188 k5_9_189 lk5_9_189 k5_10_190 lk5_10_190 k5_11_191 lk5_11_191 k5_12_192 lk5_12_192 hx193 k5_8_194 lk5_8_194 k5_9_195 lk5_9_195 k5_10_196 lk5_10_196 k5_11_197 lk5_11_197 k5_12_198 lk5_12_198 hx199 k5_9_200 lk5_9_200 k5_10_201 lk5_10_201 k5_11_202 lk5_11_202 k5_12_203 lk5_12_203 hx204 k5_10_205 lk5_10_205 k5_11_206 lk5_11_206 k5_12_207 lk5_12_207 hx208 k5_11_209 lk5_11_209 k5_12_210 lk5_12_210 hx211 k5_12_212 lk5_12_212 hx213 z4_0t z4_1t z5_0 z5_1 z5_2 z5_3 z5_4 z5_5 z5_6 z5_7 z5_8 z5_9 z5_10 z5_11 z5_12
          have z4_0 : x214.cell? ⟨q, 0, none⟩ = some (.int .i64 b) := HO.out.cell 4 rfl 0 rfl
          have z4_1 : x214.cell? ⟨q, 1, none⟩ = some (.int .i64 vy) := HO.out.cell 4 rfl 1 rfl
          go_wp2_with fail
          refine (HAV.out _).mono ?_
          rintro e xp ⟨rfl, rfl⟩
          go_wp2
          go_roundw
          case rel => exact ⟨k + 1, by omega, by go_num, HO.out.take 4⟩
          case measure => simp [intOf]; omega
      · have hxb : (vx == b) = false := by simpa using hx
        have hxb2 : (vx = b) = False := eq_false hx
        refine (look_o HO.out 2 rfl (dm_no (fun h => hx h.1)) (by show 1 ≤ 1000000; decide)).mono ?_
        rintro e x214 ⟨rfl, hO, -⟩
        replace HO := Lib.hid (show Own w none0 x214 [blkR bt5 (.cells #[.int .i64 ta, .int .i64 tb] 42), blkR bt6 (.cells #[.int .u16 u0, .int .u16 u1, .int .u16 u2] 43), resP p (dmS false n b m), blkR r (.cells #[.int .i64 b, .int .i64 m, .int .i64 c, .int .i64 m, .int .i64 b, .int .i64 o] 42), blkR q (.cells #[.int .i64 vx, .int .i64 vy] 42), blkR sg (.cells #[.int .i64 vy, .int .i64 n, .int .i64 7, .int .i64 0, .bool false, .bool false, .bool false, .bool false, .int .i64 0, .int .i64 0, .bool false, .slice none 0 0, .string ⟨#[122]⟩] 51)] from hO)
        clear hO
        clear z4_0 z4_1 hx109 hsg k5_0_110 lk5_0_110 k5_1_111 lk5_1_111 k5_2_112 lk5_2_112 k5_3_113 lk5_3_113 k5_4_114 lk5_4_114 k5_5_115 lk5_5_115 k5_6_116 lk5_6_116 k5_7_117 lk5_7_117 k5_8_118 lk5_8_118 k5_9_119 lk5_9_119 k5_10_120 lk5_10_120 k5_11_121 lk5_11_121 k5_12_122 lk5_12_122 hx123 k5_1_124 lk5_1_124 k5_2_125 lk5_2_125 k5_3_126 lk5_3_126 k5_4_127 lk5_4_127 k5_5_128 lk5_5_128 k5_6_129 lk5_6_129 k5_7_130 lk5_7_130 k5_8_131 lk5_8_131 k5_9_132 lk5_9_132 k5_10_133 lk5_10_133 k5_11_134 lk5_11_134 k5_12_135 lk5_12_135 hx136 k5_2_137 lk5_2_137 k5_3_138 lk5_3_138 k5_4_139 lk5_4_139 k5_5_140 lk5_5_140 k5_6_141 lk5_6_141 k5_7_142 lk5_7_142 k5_8_143 lk5_8_143 k5_9_144 lk5_9_144 k5_10_145 lk5_10_145 k5_11_146 lk5_11_146 k5_12_147 lk5_12_147 hx148 k5_3_149 lk5_3_149 k5_4_150 lk5_4_150 k5_5_151 lk5_5_151 k5_6_152 lk5_6_152 k5_7_153 lk5_7_153 k5_8_154 lk5_8_154 k5_9_155 lk5_9_155 k5_10_156 lk5_10_156 k5_11_157 lk5_11_157 k5_12_158 lk5_12_158 hx159 k5_4_160 lk5_4_160 k5_5_161 lk5_5_161 k5_6_162 lk5_6_162 k5_7_163 lk5_7_163 k5_8_164 lk5_8_164 k5_9_165 lk5_9_165 k5_10_166 lk5_10_166 k5_11_167 lk5_11_167 k5_12_168 lk5_12_168 hx169 k5_5_170 lk5_5_170 k5_6_171 lk5_6_171 k5_7_172 lk5_7_172 k5_8_173 lk5_8_173 k5_9_174 lk5_9_174 k5_10_175 lk5_10_175 k5_11_176 lk5_11_176 k5_12_177 lk5_12_177 hx178 k5_6_179 lk5_6_179 k5_7_180 lk5_7_180 k5_8_181 lk5_8_181 k5_9_182 lk5_9_182 k5_10_183 lk5_10_183 k5_11_184 lk5_11_184 k5_12_185 lk5_12_185 hx186 k5_7_187 lk5_7_187 k5_8_188 lk5_8_188 k5_9_189 lk5_9_189 k5_10_190 lk5_10_190 k5_11_191 lk5_11_191 k5_12_192 lk5_12_192 hx193 k5_8_194 lk5_8_194 k5_9_195 lk5_9_195 k5_10_196 lk5_10_196 k5_11_197 lk5_11_197 k5_12_198 lk5_12_198 hx199 k5_9_200 lk5_9_200 k5_10_201 lk5_10_201 k5_11_202 lk5_11_202 k5_12_203 lk5_12_203 hx204 k5_10_205 lk5_10_205 k5_11_206 lk5_11_206 k5_12_207 lk5_12_207 hx208 k5_11_209 lk5_11_209 k5_12_210 lk5_12_210 hx211 k5_12_212 lk5_12_212 hx213 z4_0t z4_1t z5_0 z5_1 z5_2 z5_3 z5_4 z5_5 z5_6 z5_7 z5_8 z5_9 z5_10 z5_11 z5_12
        have z4_0 : x214.cell? ⟨q, 0, none⟩ = some (.int .i64 vx) := HO.out.cell 4 rfl 0 rfl
        have z4_1 : x214.cell? ⟨q, 1, none⟩ = some (.int .i64 vy) := HO.out.cell 4 rfl 1 rfl
        go_wp2_with fail
        refine (HAV.out _).mono ?_
        rintro e xp ⟨rfl, rfl⟩
        go_wp2
        go_roundw
        case rel => exact ⟨k + 1, by omega, by go_num, HO.out.take 4⟩
        case measure => simp [intOf]; omega
    · obtain rfl : k = 3 := by omega
      go_wp2
      go_ret
      exact ⟨rfl, HO.out.below⟩
theorem demux_walk (hr ta tb u0 u1 u2 : Int) (ls : Bool) (w : World) (hh : -9223372036854775808 ≤ hr ∧ hr ≤ 9223372036854775807) (hta : -9223372036854775808 ≤ ta ∧ ta ≤ 9223372036854775807) (htb : -9223372036854775808 ≤ tb ∧ tb ≤ 9223372036854775807) (g0 : 0 ≤ u0 ∧ u0 ≤ 65535) (g1 : 0 ≤ u1 ∧ u1 ≤ 65535) (g2 : 0 ≤ u2 ∧ u2 ≤ 65535) :
    Calls Try.prog 4 #[.int .i64 hr, .agg #[.int .i64 ta, .int .i64 tb], .agg #[.int .u16 u0, .int .u16 u1, .int .u16 u2], .bool ls] w fun e w' => e = .returned (.bool true) ∧ Below w.heap.size w w' := by
  cases ls with
  | true => exact demux_yes hr ta tb u0 u1 u2 w hh hta htb g0 g1 g2
  | false => exact demux_no hr ta tb u0 u1 u2 w hh hta htb g0 g1 g2
end
end Go.Proofs.Ytjngfhgcifhioaa
