/- Contracts of the laws' own helpers of chapter 23: pick, proto, near. -/
import Derived.Test.YtfipamdknanlmaaPex
namespace Go.Proofs.Ytfipamdknanlmaa
open Go.RowKit Go.Sort
set_option linter.unusedVariables false

def pk (c n : Int) : Int := (if c < 0 then -(c + 1) else c) % n
theorem pk_bd (c n : Int) (h : 0 < n) : 0 ≤ pk c n ∧ pk c n < n := by
  unfold pk; exact ⟨Int.emod_nonneg _ (by omega), Int.emod_lt_of_pos _ h⟩
theorem pick_any (c n : Int) (w : World) (hc : -9223372036854775808 ≤ c ∧ c ≤ 9223372036854775807) (hn : 0 < n) :
    Calls Try.prog 24 #[.int .i64 c, .int .i64 n] w fun e w' => e = .returned (.int .i64 (pk c n)) ∧ w = w' := by
  obtain ⟨hc1, hc2⟩ := hc
  have hz : (n == 0) = false := by simp; omega
  by_cases h : c < 0
  · have HP := Lib.hid (show pk c n = (-(c + 1)) % n by simp [pk, h])
    go_enter Try.func24, Try.ntmps24
    go_wp2
    all_goals go_ret
    all_goals exact ⟨ret_i64 (by rw [HP.out, ← Int.neg_tmod, Int.tmod_eq_emod_of_nonneg (by omega)]), rfl⟩
  · have HP := Lib.hid (show pk c n = c % n by simp [pk, h])
    go_enter Try.func24, Try.ntmps24
    go_wp2
    all_goals go_ret
    all_goals exact ⟨ret_i64 (by rw [HP.out]), rfl⟩

/-- A generated call. -/
structure Cl where
  kd : Int
  ud : Bool
  po : Int
  so : Int
  th : Int
  ot : Int
abbrev clA (c : Cl) : Array Value := #[.int .u8 c.kd, .bool c.ud, .int .i64 c.po, .int .i64 c.so, .int .i64 c.th, .int .i64 c.ot]
abbrev clV (c : Cl) : Value := .agg (clA c)
def i64B (n : Int) : Prop := -9223372036854775808 ≤ n ∧ n ≤ 9223372036854775807
structure ClOk (c : Cl) : Prop where
  kd : 0 ≤ c.kd ∧ c.kd ≤ 255
  po : i64B c.po
  so : i64B c.so
  th : i64B c.th
  ot : i64B c.ot
def protoF (c : Cl) : Int := if c.ud then 17 else 6
theorem new_blk (w : World) (o : Obj) : (w.alloc o).heap[w.heap.size]? = some o := by show (w.heap.push _)[w.heap.size]? = _; simp
theorem proto_any (c : Cl) (w : World) : Calls Try.prog 11 #[clV c] w fun e w' => e = .returned (.int .i64 (protoF c)) ∧ Below w.heap.size w w' := by
  obtain ⟨kd, ud, po, so, th, ot⟩ := c
  cases ud
  · go_enter Try.func11, Try.ntmps11
    go_wp2
    go_ret
    exact ⟨rfl, (Below.refl _ _).alloc (Nat.le_refl _) _⟩
  · go_enter Try.func11, Try.ntmps11
    go_wp2
    go_ret
    exact ⟨rfl, (Below.refl _ _).alloc (Nat.le_refl _) _⟩

def tabP (i : Int) : Int := ([80, 81, 49152, 49153, 49154, 49215, 0, 65536] : List Int).getD i.toNat 0
theorem tab_cell {w : World} {b : Nat} {t : TypeId} (h : w.heap[b]? = some (.cells #[.int .i64 80, .int .i64 81, .int .i64 49152, .int .i64 49153, .int .i64 49154, .int .i64 49215, .int .i64 0, .int .i64 65536] t)) (i : Int) (h0 : 0 ≤ i) (h1 : i < 8) : w.cell? ⟨b, i.toNat, none⟩ = some (.int .i64 (tabP i)) := by
  rw [blk_cell h]
  obtain rfl | rfl | rfl | rfl | rfl | rfl | rfl | rfl : i = 0 ∨ i = 1 ∨ i = 2 ∨ i = 3 ∨ i = 4 ∨ i = 5 ∨ i = 6 ∨ i = 7 := by omega
  all_goals rfl
def nearC (c : Cl) : Cl := { c with po := tabP (pk c.po 8), so := pk c.so 6, th := 100 + pk c.th 3, ot := 900 + pk c.ot 3 }
theorem run_bsI8 (w : World) : (Instr.buildSlice 37 8 #[(0, .int .i64 80), (1, .int .i64 81), (2, .int .i64 49152), (3, .int .i64 49153), (4, .int .i64 49154), (5, .int .i64 49215), (6, .int .i64 0), (7, .int .i64 65536)]).run Try.prog w = .ok (.slice (some ⟨w.heap.size, 0, none⟩) 8 8) (w.alloc (.cells #[.int .i64 80, .int .i64 81, .int .i64 49152, .int .i64 49153, .int .i64 49154, .int .i64 49215, .int .i64 0, .int .i64 65536] 3)) := by kernel_rfl
set_option maxHeartbeats 1000000 in
theorem near_any (c : Cl) (w : World) (hc : ClOk c) : Calls Try.prog 12 #[clV c] w fun e w' => e = .returned (clV (nearC c)) ∧ Below w.heap.size w w' := by
  have P0 := Lib.hid (fun w => pick_any c.po 8 w hc.po (by decide))
  have P1 := Lib.hid (fun w => pick_any c.so 6 w hc.so (by decide))
  have P2 := Lib.hid (fun w => pick_any c.th 3 w hc.th (by decide))
  have P3 := Lib.hid (fun w => pick_any c.ot 3 w hc.ot (by decide))
  obtain ⟨a0, a1⟩ := pk_bd c.po 8 (by decide)
  obtain ⟨b0, b1⟩ := pk_bd c.so 6 (by decide)
  obtain ⟨c0, c1⟩ := pk_bd c.th 3 (by decide)
  obtain ⟨d0, d1⟩ := pk_bd c.ot 3 (by decide)
  have HN := Lib.hid (show nearC c = ⟨c.kd, c.ud, tabP (pk c.po 8), pk c.so 6, 100 + pk c.th 3, 900 + pk c.ot 3⟩ from rfl)
  obtain ⟨kd, ud, po, so, th, ot⟩ := c
  simp only at P0 P1 P2 P3 a0 a1 b0 b1 c0 c1 d0 d1 HN
  generalize pk po 8 = n0 at *
  generalize pk so 6 = n1 at *
  generalize pk th 3 = n2 at *
  generalize pk ot 3 = n3 at *
  have rb := run_bsI8
  obtain ⟨W1, hW1⟩ : ∃ y, ((w.alloc (.cells (clA ⟨kd, ud, po, so, th, ot⟩) 29)).alloc (.cells #[.int .u8 0, .bool false, .int .i64 0, .int .i64 0, .int .i64 0, .int .i64 0] 29)).alloc (.cells #[.int .i64 80, .int .i64 81, .int .i64 49152, .int .i64 49153, .int .i64 49154, .int .i64 49215, .int .i64 0, .int .i64 65536] 3) = y := ⟨_, rfl⟩
  have b1 := below_one w (.cells (clA ⟨kd, ud, po, so, th, ot⟩) 29)
  have b2 := below_one (w.alloc (.cells (clA ⟨kd, ud, po, so, th, ot⟩) 29)) (.cells #[.int .u8 0, .bool false, .int .i64 0, .int .i64 0, .int .i64 0, .int .i64 0] 29)
  have b3 := below_one ((w.alloc (.cells (clA ⟨kd, ud, po, so, th, ot⟩) 29)).alloc (.cells #[.int .u8 0, .bool false, .int .i64 0, .int .i64 0, .int .i64 0, .int .i64 0] 29)) (.cells #[.int .i64 80, .int .i64 81, .int .i64 49152, .int .i64 49153, .int .i64 49154, .int .i64 49215, .int .i64 0, .int .i64 65536] 3)
  rw [hW1] at b3
  have X1 := Lib.hid (blk_stay b3 (blk_stay b2 (new_blk w (.cells (clA ⟨kd, ud, po, so, th, ot⟩) 29))))
  have R1 := Lib.hid (blk_stay b3 (new_blk (w.alloc (.cells (clA ⟨kd, ud, po, so, th, ot⟩) 29)) (.cells #[.int .u8 0, .bool false, .int .i64 0, .int .i64 0, .int .i64 0, .int .i64 0] 29)))
  have T1 := new_blk ((w.alloc (.cells (clA ⟨kd, ud, po, so, th, ot⟩) 29)).alloc (.cells #[.int .u8 0, .bool false, .int .i64 0, .int .i64 0, .int .i64 0, .int .i64 0] 29)) (.cells #[.int .i64 80, .int .i64 81, .int .i64 49152, .int .i64 49153, .int .i64 49154, .int .i64 49215, .int .i64 0, .int .i64 65536] 3)
  rw [hW1] at T1
  replace R1 := Lib.hid (show W1.heap[w.heap.size + 1]? = some (.cells #[.int .u8 0, .bool false, .int .i64 0, .int .i64 0, .int .i64 0, .int .i64 0] 29) by simpa using R1.out)
  have tc := tab_cell T1 n0 a0 a1
  replace tc : W1.cell? ⟨w.heap.size + 1 + 1, n0.toNat, none⟩ = some (.int .i64 (tabP n0)) := by simpa using tc
  generalize tabP n0 = tp at *
  have HB1 := Lib.hid (below_mid b1 (below_mid b2 b3))
  have HZ := Lib.hid (show w.heap.size + 1 ≠ w.heap.size by omega)
  clear b1 b2 b3 T1
  have q1 : W1.cell? ⟨w.heap.size, 2, none⟩ = some (.int .i64 po) := blk_cell X1.out 2
  have z1 : W1.frozen? ⟨w.heap.size, 2, none⟩ = false := blk_frz X1.out 2
  obtain ⟨W2, hW2⟩ : ∃ y, W1.setCell ⟨w.heap.size, 2, none⟩ (.int .i64 tp) = y := ⟨_, rfl⟩
  have X2 := Lib.hid (show W2.heap[w.heap.size]? = some (.cells #[.int .u8 kd, .bool ud, .int .i64 tp, .int .i64 so, .int .i64 th, .int .i64 ot] 29) by rw [← hW2]; exact blk_set X1.out 2 _)
  have R2 := Lib.hid (show W2.heap[w.heap.size + 1]? = some (.cells #[.int .u8 0, .bool false, .int .i64 0, .int .i64 0, .int .i64 0, .int .i64 0] 29) by rw [← hW2, Below.heap_setCell _ _ _ _ HZ.out]; exact R1.out)
  have HB2 := Lib.hid (show Below w.heap.size w W2 by rw [← hW2]; exact HB1.out.setCell (Nat.le_refl _) _)
  have q2 : W2.cell? ⟨w.heap.size, 3, none⟩ = some (.int .i64 so) := blk_cell X2.out 3
  have z2 : W2.frozen? ⟨w.heap.size, 3, none⟩ = false := blk_frz X2.out 3
  obtain ⟨W3, hW3⟩ : ∃ y, W2.setCell ⟨w.heap.size, 3, none⟩ (.int .i64 n1) = y := ⟨_, rfl⟩
  have X3 := Lib.hid (show W3.heap[w.heap.size]? = some (.cells #[.int .u8 kd, .bool ud, .int .i64 tp, .int .i64 n1, .int .i64 th, .int .i64 ot] 29) by rw [← hW3]; exact blk_set X2.out 3 _)
  have R3 := Lib.hid (show W3.heap[w.heap.size + 1]? = some (.cells #[.int .u8 0, .bool false, .int .i64 0, .int .i64 0, .int .i64 0, .int .i64 0] 29) by rw [← hW3, Below.heap_setCell _ _ _ _ HZ.out]; exact R2.out)
  have HB3 := Lib.hid (show Below w.heap.size w W3 by rw [← hW3]; exact HB2.out.setCell (Nat.le_refl _) _)
  have q3 : W3.cell? ⟨w.heap.size, 4, none⟩ = some (.int .i64 th) := blk_cell X3.out 4
  have z3 : W3.frozen? ⟨w.heap.size, 4, none⟩ = false := blk_frz X3.out 4
  obtain ⟨W4, hW4⟩ : ∃ y, W3.setCell ⟨w.heap.size, 4, none⟩ (.int .i64 (100 + n2)) = y := ⟨_, rfl⟩
  have X4 := Lib.hid (show W4.heap[w.heap.size]? = some (.cells #[.int .u8 kd, .bool ud, .int .i64 tp, .int .i64 n1, .int .i64 (100 + n2), .int .i64 ot] 29) by rw [← hW4]; exact blk_set X3.out 4 _)
  have R4 := Lib.hid (show W4.heap[w.heap.size + 1]? = some (.cells #[.int .u8 0, .bool false, .int .i64 0, .int .i64 0, .int .i64 0, .int .i64 0] 29) by rw [← hW4, Below.heap_setCell _ _ _ _ HZ.out]; exact R3.out)
  have HB4 := Lib.hid (show Below w.heap.size w W4 by rw [← hW4]; exact HB3.out.setCell (Nat.le_refl _) _)
  have q4 : W4.cell? ⟨w.heap.size, 5, none⟩ = some (.int .i64 ot) := blk_cell X4.out 5
  have z4 : W4.frozen? ⟨w.heap.size, 5, none⟩ = false := blk_frz X4.out 5
  obtain ⟨W5, hW5⟩ : ∃ y, W4.setCell ⟨w.heap.size, 5, none⟩ (.int .i64 (900 + n3)) = y := ⟨_, rfl⟩
  have X5 := Lib.hid (show W5.heap[w.heap.size]? = some (.cells #[.int .u8 kd, .bool ud, .int .i64 tp, .int .i64 n1, .int .i64 (100 + n2), .int .i64 (900 + n3)] 29) by rw [← hW5]; exact blk_set X4.out 5 _)
  have R5 := Lib.hid (show W5.heap[w.heap.size + 1]? = some (.cells #[.int .u8 0, .bool false, .int .i64 0, .int .i64 0, .int .i64 0, .int .i64 0] 29) by rw [← hW5, Below.heap_setCell _ _ _ _ HZ.out]; exact R4.out)
  have HB5 := Lib.hid (show Below w.heap.size w W5 by rw [← hW5]; exact HB4.out.setCell (Nat.le_refl _) _)
  have f0 : W5.cell? ⟨w.heap.size, 0, none⟩ = some (.int .u8 kd) := blk_cell X5.out 0
  have g0 : W5.cell? ⟨w.heap.size + 1, 0, none⟩ = some (.int .u8 0) := blk_cell R5.out 0
  have y0 : W5.frozen? ⟨w.heap.size + 1, 0, none⟩ = false := blk_frz R5.out 0
  have f1 : W5.cell? ⟨w.heap.size, 1, none⟩ = some (.bool ud) := blk_cell X5.out 1
  have g1 : W5.cell? ⟨w.heap.size + 1, 1, none⟩ = some (.bool false) := blk_cell R5.out 1
  have y1 : W5.frozen? ⟨w.heap.size + 1, 1, none⟩ = false := blk_frz R5.out 1
  have f2 : W5.cell? ⟨w.heap.size, 2, none⟩ = some (.int .i64 tp) := blk_cell X5.out 2
  have g2 : W5.cell? ⟨w.heap.size + 1, 2, none⟩ = some (.int .i64 0) := blk_cell R5.out 2
  have y2 : W5.frozen? ⟨w.heap.size + 1, 2, none⟩ = false := blk_frz R5.out 2
  have f3 : W5.cell? ⟨w.heap.size, 3, none⟩ = some (.int .i64 n1) := blk_cell X5.out 3
  have g3 : W5.cell? ⟨w.heap.size + 1, 3, none⟩ = some (.int .i64 0) := blk_cell R5.out 3
  have y3 : W5.frozen? ⟨w.heap.size + 1, 3, none⟩ = false := blk_frz R5.out 3
  have f4 : W5.cell? ⟨w.heap.size, 4, none⟩ = some (.int .i64 (100 + n2)) := blk_cell X5.out 4
  have g4 : W5.cell? ⟨w.heap.size + 1, 4, none⟩ = some (.int .i64 0) := blk_cell R5.out 4
  have y4 : W5.frozen? ⟨w.heap.size + 1, 4, none⟩ = false := blk_frz R5.out 4
  have f5 : W5.cell? ⟨w.heap.size, 5, none⟩ = some (.int .i64 (900 + n3)) := blk_cell X5.out 5
  have g5 : W5.cell? ⟨w.heap.size + 1, 5, none⟩ = some (.int .i64 0) := blk_cell R5.out 5
  have y5 : W5.frozen? ⟨w.heap.size + 1, 5, none⟩ = false := blk_frz R5.out 5
  clear hc
  go_enter Try.func12, Try.ntmps12
  go_wp2_with fail
  refine (P0.out _).mono ?_
  rintro e w1 ⟨rfl, rfl⟩
  go_wp2_with fail
  refine (P1.out _).mono ?_
  rintro e w1 ⟨rfl, rfl⟩
  go_wp2_with fail
  refine (P2.out _).mono ?_
  rintro e w1 ⟨rfl, rfl⟩
  go_wp2_with fail
  refine (P3.out _).mono ?_
  rintro e w1 ⟨rfl, rfl⟩
  go_wp2
  have RF : ((((((W5.setCell ⟨w.heap.size + 1, 0, none⟩ (.int .u8 kd)).setCell ⟨w.heap.size + 1, 1, none⟩ (.bool ud)).setCell ⟨w.heap.size + 1, 2, none⟩ (.int .i64 tp)).setCell ⟨w.heap.size + 1, 3, none⟩ (.int .i64 n1)).setCell ⟨w.heap.size + 1, 4, none⟩ (.int .i64 (100 + n2))).setCell ⟨w.heap.size + 1, 5, none⟩ (.int .i64 (900 + n3))).heap[w.heap.size + 1]? = some (.cells #[.int .u8 kd, .bool ud, .int .i64 tp, .int .i64 n1, .int .i64 (100 + n2), .int .i64 (900 + n3)] 29) := (blk_set (blk_set (blk_set (blk_set (blk_set (blk_set R5.out 0 _) 1 _) 2 _) 3 _) 4 _) 5 _)
  have r0 : ((((((W5.setCell ⟨w.heap.size + 1, 0, none⟩ (.int .u8 kd)).setCell ⟨w.heap.size + 1, 1, none⟩ (.bool ud)).setCell ⟨w.heap.size + 1, 2, none⟩ (.int .i64 tp)).setCell ⟨w.heap.size + 1, 3, none⟩ (.int .i64 n1)).setCell ⟨w.heap.size + 1, 4, none⟩ (.int .i64 (100 + n2))).setCell ⟨w.heap.size + 1, 5, none⟩ (.int .i64 (900 + n3))).cell? ⟨w.heap.size + 1, 0, none⟩ = some (.int .u8 kd) := blk_cell RF 0
  have r1 : ((((((W5.setCell ⟨w.heap.size + 1, 0, none⟩ (.int .u8 kd)).setCell ⟨w.heap.size + 1, 1, none⟩ (.bool ud)).setCell ⟨w.heap.size + 1, 2, none⟩ (.int .i64 tp)).setCell ⟨w.heap.size + 1, 3, none⟩ (.int .i64 n1)).setCell ⟨w.heap.size + 1, 4, none⟩ (.int .i64 (100 + n2))).setCell ⟨w.heap.size + 1, 5, none⟩ (.int .i64 (900 + n3))).cell? ⟨w.heap.size + 1, 1, none⟩ = some (.bool ud) := blk_cell RF 1
  have r2 : ((((((W5.setCell ⟨w.heap.size + 1, 0, none⟩ (.int .u8 kd)).setCell ⟨w.heap.size + 1, 1, none⟩ (.bool ud)).setCell ⟨w.heap.size + 1, 2, none⟩ (.int .i64 tp)).setCell ⟨w.heap.size + 1, 3, none⟩ (.int .i64 n1)).setCell ⟨w.heap.size + 1, 4, none⟩ (.int .i64 (100 + n2))).setCell ⟨w.heap.size + 1, 5, none⟩ (.int .i64 (900 + n3))).cell? ⟨w.heap.size + 1, 2, none⟩ = some (.int .i64 tp) := blk_cell RF 2
  have r3 : ((((((W5.setCell ⟨w.heap.size + 1, 0, none⟩ (.int .u8 kd)).setCell ⟨w.heap.size + 1, 1, none⟩ (.bool ud)).setCell ⟨w.heap.size + 1, 2, none⟩ (.int .i64 tp)).setCell ⟨w.heap.size + 1, 3, none⟩ (.int .i64 n1)).setCell ⟨w.heap.size + 1, 4, none⟩ (.int .i64 (100 + n2))).setCell ⟨w.heap.size + 1, 5, none⟩ (.int .i64 (900 + n3))).cell? ⟨w.heap.size + 1, 3, none⟩ = some (.int .i64 n1) := blk_cell RF 3
  have r4 : ((((((W5.setCell ⟨w.heap.size + 1, 0, none⟩ (.int .u8 kd)).setCell ⟨w.heap.size + 1, 1, none⟩ (.bool ud)).setCell ⟨w.heap.size + 1, 2, none⟩ (.int .i64 tp)).setCell ⟨w.heap.size + 1, 3, none⟩ (.int .i64 n1)).setCell ⟨w.heap.size + 1, 4, none⟩ (.int .i64 (100 + n2))).setCell ⟨w.heap.size + 1, 5, none⟩ (.int .i64 (900 + n3))).cell? ⟨w.heap.size + 1, 4, none⟩ = some (.int .i64 (100 + n2)) := blk_cell RF 4
  have r5 : ((((((W5.setCell ⟨w.heap.size + 1, 0, none⟩ (.int .u8 kd)).setCell ⟨w.heap.size + 1, 1, none⟩ (.bool ud)).setCell ⟨w.heap.size + 1, 2, none⟩ (.int .i64 tp)).setCell ⟨w.heap.size + 1, 3, none⟩ (.int .i64 n1)).setCell ⟨w.heap.size + 1, 4, none⟩ (.int .i64 (100 + n2))).setCell ⟨w.heap.size + 1, 5, none⟩ (.int .i64 (900 + n3))).cell? ⟨w.heap.size + 1, 5, none⟩ = some (.int .i64 (900 + n3)) := blk_cell RF 5
  have HBF := Lib.hid (show Below w.heap.size w ((((((W5.setCell ⟨w.heap.size + 1, 0, none⟩ (.int .u8 kd)).setCell ⟨w.heap.size + 1, 1, none⟩ (.bool ud)).setCell ⟨w.heap.size + 1, 2, none⟩ (.int .i64 tp)).setCell ⟨w.heap.size + 1, 3, none⟩ (.int .i64 n1)).setCell ⟨w.heap.size + 1, 4, none⟩ (.int .i64 (100 + n2))).setCell ⟨w.heap.size + 1, 5, none⟩ (.int .i64 (900 + n3))) from ((((((HB5.out.setCell (by simp) _).setCell (by simp) _).setCell (by simp) _).setCell (by simp) _).setCell (by simp) _).setCell (by simp) _))
  generalize ((((((W5.setCell ⟨w.heap.size + 1, 0, none⟩ (.int .u8 kd)).setCell ⟨w.heap.size + 1, 1, none⟩ (.bool ud)).setCell ⟨w.heap.size + 1, 2, none⟩ (.int .i64 tp)).setCell ⟨w.heap.size + 1, 3, none⟩ (.int .i64 n1)).setCell ⟨w.heap.size + 1, 4, none⟩ (.int .i64 (100 + n2))).setCell ⟨w.heap.size + 1, 5, none⟩ (.int .i64 (900 + n3))) = WF at *
  refine bodyPost_ret (v := .agg #[.int .u8 kd, .bool ud, .int .i64 tp, .int .i64 n1, .int .i64 (100 + n2), .int .i64 (900 + n3)]) (by simp [results, Try.results12, go_sem, r0, r1, r2, r3, r4, r5]) rfl ⟨by rw [HN.out], HBF.out⟩

end Go.Proofs.Ytfipamdknanlmaa
