/- Contract of the law's Rules. Printed by wip/tools/gen22k.py. -/
import Derived.Test.YthhoknhjbkkflaaFlw1
import Derived.Test.YthhoknhjbkkflaaRowl
namespace Go.Proofs.Ythhoknhjbkkflaa
open Go.RowKit Go.Sort
set_option linter.unusedVariables false

structure Rw where
  inn : Bool
  pr : Int
  ne : Int
  lo : Int
  ma : Int
  ps : Bool
abbrev rwA (x : Rw) : Array Value := #[.bool x.inn, .int .i64 x.pr, .int .i64 x.ne, .int .i64 x.lo, .int .i64 x.ma, .bool x.ps]
structure RwOk (x : Rw) : Prop where
  pr : i64B x.pr
  ne : i64B x.ne
  lo : i64B x.lo
  ma : i64B x.ma
/-- A slice of raw rules. -/
def RdR (w : World) (v : Value) (len : Nat) (g : Nat → Rw) : Prop :=
  ∃ a cap, v = .slice a len cap ∧ len ≤ cap ∧ len ≤ 9223372036854775807 ∧ (∀ i, i < len → RwOk (g i)) ∧ (len ≠ 0 → ∃ b o, a = some ⟨b, o, none⟩ ∧ ∀ i, i < len → ∀ j, j < 6 → w.cell? ⟨b, o + i * 6 + j, none⟩ = (rwA (g i))[j]?)
def tPr (x : Int) : Int := tabI [0, 6, 17, 1] (pk x 4)
def tNa (i : Int) : Int := tabI [0, 167772160, 167772164, 167772161, 3232235520] i
def tNb (i : Int) : Int := tabI [0, 24, 30, 32, 16] i
def mnF (x y : Int) : Int := min x y
def ruleF (x : Rw) : Rl := ⟨x.inn, tabI [0, 6, 17, 1] (pk x.pr 4), tNa (pk x.ne 5), tNb (pk x.ne 5), tabI [0, 1, 79, 80, 5000] (pk x.lo 5), mnF (tabI [0, 1, 79, 80, 5000] (pk x.lo 5) + tabI [0, 1, 100, 65535] (pk x.ma 4)) 65535, x.ps⟩
def rulesTo (x : Nat → Rw) (k : Nat) : List Rl := (List.range k).map fun i => ruleF (x i)
theorem rulesTo_len (x : Nat → Rw) (k : Nat) : (rulesTo x k).length = k := by simp [rulesTo]
theorem rulesTo_succ (x : Nat → Rw) (k : Nat) : rulesTo x (k + 1) = rulesTo x k ++ [ruleF (x k)] := by simp [rulesTo, List.range_succ]
theorem run_mn (x y : Int) (w : World) : (Builtin.min_ #[3, 3] 3 #[.int .i64 x, .int .i64 y]).run Try.prog w = .ok (.int .i64 (mnF x y)) w := by
  have e : mnF x y = if y < x then y else x := by unfold mnF; split <;> omega
  rw [e]
  simp [go_sem]
theorem run_bdP0 (w : World) : (Instr.build 28 #[]).run Try.prog w = .ok (.agg #[.int .i64 0, .int .i64 0]) w := by kernel_rfl
theorem run_bsP (a0 a1 b0 b1 c0 c1 d0 d1 e0 e1 : Int) (w : World) : (Instr.buildSlice 53 5 #[(0, .agg #[.int .i64 a0, .int .i64 a1]), (1, .agg #[.int .i64 b0, .int .i64 b1]), (2, .agg #[.int .i64 c0, .int .i64 c1]), (3, .agg #[.int .i64 d0, .int .i64 d1]), (4, .agg #[.int .i64 e0, .int .i64 e1])]).run Try.prog w = .ok (.slice (some ⟨w.heap.size, 0, none⟩) 5 5) (w.alloc (.cells #[.int .i64 a0, .int .i64 a1, .int .i64 b0, .int .i64 b1, .int .i64 c0, .int .i64 c1, .int .i64 d0, .int .i64 d1, .int .i64 e0, .int .i64 e1] 28)) := by kernel_rfl
theorem run_bsRl (a : Bool) (b c d e f : Int) (g : Bool) (w : World) : (Instr.buildSlice 25 1 #[(0, .agg #[.bool a, .int .i64 b, .int .i64 c, .int .i64 d, .int .i64 e, .int .i64 f, .bool g])]).run Try.prog w = .ok (.slice (some ⟨w.heap.size, 0, none⟩) 1 1) (w.alloc (.cells #[.bool a, .int .i64 b, .int .i64 c, .int .i64 d, .int .i64 e, .int .i64 f, .bool g] 30)) := by kernel_rfl
theorem infoRl : (Try.prog.info? 30).map (fun i => (i.zero, i.size, i.bytes)) = some (some (.agg #[.bool false, .int .i64 0, .int .i64 0, .int .i64 0, .int .i64 0, .int .i64 0, .bool false]), 7, 56) := by kernel_rfl
theorem oneRl (a : Bool) (b c d e f : Int) (g : Bool) : ∀ u ∈ ([.bool a, .int .i64 b, .int .i64 c, .int .i64 d, .int .i64 e, .int .i64 f, .bool g] : List Value), u.oneCell' = true := by
  intro u hu; simp at hu; rcases hu with h | h | h | h | h | h | h <;> (subst h; rfl)
theorem tabP_cell {w : World} {b : Nat} (h : w.heap[b]? = some (.cells #[.int .i64 0, .int .i64 0, .int .i64 167772160, .int .i64 24, .int .i64 167772164, .int .i64 30, .int .i64 167772161, .int .i64 32, .int .i64 3232235520, .int .i64 16] 28)) (i : Int) (h0 : 0 ≤ i) (h1 : i < 5) : w.cell? ⟨b, i.toNat * 2, none⟩ = some (.int .i64 (tNa i)) ∧ w.cell? ⟨b, i.toNat * 2 + 1, none⟩ = some (.int .i64 (tNb i)) := by
  obtain rfl | rfl | rfl | rfl | rfl : i = 0 ∨ i = 1 ∨ i = 2 ∨ i = 3 ∨ i = 4 := by omega
  all_goals exact ⟨by simp [World.cell?, h, tNa, tabI], by simp [World.cell?, h, tNb, tabI]⟩
theorem tLo_bd (i : Int) (h0 : 0 ≤ i) (h1 : i < 5) : 0 ≤ tabI [0, 1, 79, 80, 5000] i ∧ tabI [0, 1, 79, 80, 5000] i ≤ 5000 := by
  have := tabI_mem (xs := [0, 1, 79, 80, 5000]) h0 h1
  simp at this; omega
theorem tMa_bd (i : Int) (h0 : 0 ≤ i) (h1 : i < 4) : 0 ≤ tabI [0, 1, 100, 65535] i ∧ tabI [0, 1, 100, 65535] i ≤ 65535 := by
  have := tabI_mem (xs := [0, 1, 100, 65535]) h0 h1
  simp at this; omega
section
attribute [local go_sem ↓] run_mn
set_option maxRecDepth 100000 in
set_option maxHeartbeats 8000000 in
theorem rules_any (n : Nat) (x : Nat → Rw) (v : Value) (w : World) (hR : RdR w v n x) :
    Calls Try.prog 8 #[v] w fun e w' => ∃ u, e = .returned u ∧ Own w none0 w' [rowRl u (rulesTo x (min n 16))] ∧ w.heap.size ≤ w'.heap.size := by
  obtain ⟨a, cap, rfl, hcap, hlen, hok, hp⟩ := hR
  have HP := Lib.hid hp
  have HOK := Lib.hid hok
  clear hp hok
  go_enter Try.func8, Try.ntmps8
  go_wp2
  go_loopw [3, 4] (fun out i wr => ∃ k : Nat, k ≤ min n 16 ∧ i = .int .i64 k ∧ Own w none0 wr [rowRl out (rulesTo x k)]) (fun _ i _ => 16 - (intOf i).toNat)
  case atStart => exact ⟨0, Nat.zero_le _, rfl, (Own.nil w none0).rowNew _ _⟩
  case round =>
    obtain ⟨k, hk, rfl, hO⟩ := hrel
    have HO := Lib.hid hO
    clear hO
    obtain ⟨kn, hkn⟩ : ∃ kn, (rulesTo x k).length = kn := ⟨_, rfl⟩
    have HKN := Lib.hid (show kn = k by rw [← hkn, rulesTo_len])
    clear hkn
    by_cases hlt : k < n ∧ k < 16
    · obtain ⟨hk1, hk2⟩ := hlt
      obtain ⟨b, o, rfl, hcc⟩ := HP.out (by omega)
      obtain ⟨x1, x2, x3, x4⟩ := HOK.out k hk1
      have hcc := hcc k hk1
      have HXS := Lib.hid (rulesTo_succ x k)
      generalize hxk : x k = xk at *
      obtain ⟨inn, pr, ne, lo, ma, ps⟩ := xk
      simp only at x1 x2 x3 x4
      clear hxk
      have ycell : ∀ j u, j < 6 → (rwA ⟨inn, pr, ne, lo, ma, ps⟩)[j]? = some u → wr.cell? ⟨b, o + k * 6 + j, none⟩ = some u := fun j u hj hu => keep HO.out.below ((hcc j hj).trans hu)
      clear hcc
      have P1 := Lib.hid (fun w => pick_b pr 4 w x1 (by decide))
      have P2 := Lib.hid (fun w => pick_b ne 5 w x2 (by decide))
      have P3 := Lib.hid (fun w => pick_b lo 5 w x3 (by decide))
      have P4 := Lib.hid (fun w => pick_b ma 4 w x4 (by decide))
      have HF := Lib.hid (show ruleF ⟨inn, pr, ne, lo, ma, ps⟩ = ⟨inn, tabI [0, 6, 17, 1] (pk pr 4), tNa (pk ne 5), tNb (pk ne 5), tabI [0, 1, 79, 80, 5000] (pk lo 5), mnF (tabI [0, 1, 79, 80, 5000] (pk lo 5) + tabI [0, 1, 100, 65535] (pk ma 4)) 65535, ps⟩ from rfl)
      have q1 := pk_bd pr 4 (by decide)
      have q2 := pk_bd ne 5 (by decide)
      have q3 := pk_bd lo 5 (by decide)
      have q4 := pk_bd ma 4 (by decide)
      clear x1 x2 x3 x4
      generalize pk pr 4 = n1 at *
      generalize pk ne 5 = n2 at *
      generalize pk lo 5 = n3 at *
      generalize pk ma 4 = n4 at *
      have y0 : wr.cell? ⟨b, o + k * 6, none⟩ = some (.bool inn) := ycell 0 _ (by decide) rfl
      have y1 : wr.cell? ⟨b, o + k * 6 + 1, none⟩ = some (.int .i64 pr) := ycell 1 _ (by decide) rfl
      have y2 : wr.cell? ⟨b, o + k * 6 + 2, none⟩ = some (.int .i64 ne) := ycell 2 _ (by decide) rfl
      have y3 : wr.cell? ⟨b, o + k * 6 + 3, none⟩ = some (.int .i64 lo) := ycell 3 _ (by decide) rfl
      have y4 : wr.cell? ⟨b, o + k * 6 + 4, none⟩ = some (.int .i64 ma) := ycell 4 _ (by decide) rfl
      have y5 : wr.cell? ⟨b, o + k * 6 + 5, none⟩ = some (.bool ps) := ycell 5 _ (by decide) rfl
      clear ycell
      obtain ⟨x1, hx1⟩ : ∃ y, wr.alloc (.cells #[.bool false, .int .i64 0, .int .i64 0, .int .i64 0, .int .i64 0, .bool false] 52) = y := ⟨_, rfl⟩
      obtain ⟨bx, hbx⟩ : ∃ y, wr.heap.size = y := ⟨_, rfl⟩
      have hO := HO.out.alloc (.cells #[.bool false, .int .i64 0, .int .i64 0, .int .i64 0, .int .i64 0, .bool false] 52)
      rw [hx1, hbx] at hO
      replace HO := Lib.hid (show Own w none0 x1 [rowRl u3 (rulesTo x k), blkR bx (.cells #[.bool false, .int .i64 0, .int .i64 0, .int .i64 0, .int .i64 0, .bool false] 52)] from hO)
      clear hO
      have k1_0_2 : x1.cell? ⟨bx, 0, none⟩ = some (.bool false) := HO.out.cell 1 rfl 0 rfl
      have lk1_0_2 : x1.frozen? ⟨bx, 0, none⟩ = false := HO.out.frz 1 rfl 0
      have k1_1_3 : x1.cell? ⟨bx, 1, none⟩ = some (.int .i64 0) := HO.out.cell 1 rfl 1 rfl
      have lk1_1_3 : x1.frozen? ⟨bx, 1, none⟩ = false := HO.out.frz 1 rfl 1
      have k1_2_4 : x1.cell? ⟨bx, 2, none⟩ = some (.int .i64 0) := HO.out.cell 1 rfl 2 rfl
      have lk1_2_4 : x1.frozen? ⟨bx, 2, none⟩ = false := HO.out.frz 1 rfl 2
      have k1_3_5 : x1.cell? ⟨bx, 3, none⟩ = some (.int .i64 0) := HO.out.cell 1 rfl 3 rfl
      have lk1_3_5 : x1.frozen? ⟨bx, 3, none⟩ = false := HO.out.frz 1 rfl 3
      have k1_4_6 : x1.cell? ⟨bx, 4, none⟩ = some (.int .i64 0) := HO.out.cell 1 rfl 4 rfl
      have lk1_4_6 : x1.frozen? ⟨bx, 4, none⟩ = false := HO.out.frz 1 rfl 4
      have k1_5_7 : x1.cell? ⟨bx, 5, none⟩ = some (.bool false) := HO.out.cell 1 rfl 5 rfl
      have lk1_5_7 : x1.frozen? ⟨bx, 5, none⟩ = false := HO.out.frz 1 rfl 5
      obtain ⟨x8, hx8⟩ : ∃ y, x1.setCell ⟨bx, 0, none⟩ (.bool inn) = y := ⟨_, rfl⟩
      have hO := HO.out.setCell 1 rfl 0 (.bool inn)
      rw [hx8] at hO
      replace HO := Lib.hid (show Own w none0 x8 [rowRl u3 (rulesTo x k), blkR bx (.cells #[.bool inn, .int .i64 0, .int .i64 0, .int .i64 0, .int .i64 0, .bool false] 52)] from hO)
      clear hO
      have k1_1_9 : x8.cell? ⟨bx, 1, none⟩ = some (.int .i64 0) := HO.out.cell 1 rfl 1 rfl
      have lk1_1_9 : x8.frozen? ⟨bx, 1, none⟩ = false := HO.out.frz 1 rfl 1
      have k1_2_10 : x8.cell? ⟨bx, 2, none⟩ = some (.int .i64 0) := HO.out.cell 1 rfl 2 rfl
      have lk1_2_10 : x8.frozen? ⟨bx, 2, none⟩ = false := HO.out.frz 1 rfl 2
      have k1_3_11 : x8.cell? ⟨bx, 3, none⟩ = some (.int .i64 0) := HO.out.cell 1 rfl 3 rfl
      have lk1_3_11 : x8.frozen? ⟨bx, 3, none⟩ = false := HO.out.frz 1 rfl 3
      have k1_4_12 : x8.cell? ⟨bx, 4, none⟩ = some (.int .i64 0) := HO.out.cell 1 rfl 4 rfl
      have lk1_4_12 : x8.frozen? ⟨bx, 4, none⟩ = false := HO.out.frz 1 rfl 4
      have k1_5_13 : x8.cell? ⟨bx, 5, none⟩ = some (.bool false) := HO.out.cell 1 rfl 5 rfl
      have lk1_5_13 : x8.frozen? ⟨bx, 5, none⟩ = false := HO.out.frz 1 rfl 5
      obtain ⟨x14, hx14⟩ : ∃ y, x8.setCell ⟨bx, 1, none⟩ (.int .i64 pr) = y := ⟨_, rfl⟩
      have hO := HO.out.setCell 1 rfl 1 (.int .i64 pr)
      rw [hx14] at hO
      replace HO := Lib.hid (show Own w none0 x14 [rowRl u3 (rulesTo x k), blkR bx (.cells #[.bool inn, .int .i64 pr, .int .i64 0, .int .i64 0, .int .i64 0, .bool false] 52)] from hO)
      clear hO
      have k1_2_15 : x14.cell? ⟨bx, 2, none⟩ = some (.int .i64 0) := HO.out.cell 1 rfl 2 rfl
      have lk1_2_15 : x14.frozen? ⟨bx, 2, none⟩ = false := HO.out.frz 1 rfl 2
      have k1_3_16 : x14.cell? ⟨bx, 3, none⟩ = some (.int .i64 0) := HO.out.cell 1 rfl 3 rfl
      have lk1_3_16 : x14.frozen? ⟨bx, 3, none⟩ = false := HO.out.frz 1 rfl 3
      have k1_4_17 : x14.cell? ⟨bx, 4, none⟩ = some (.int .i64 0) := HO.out.cell 1 rfl 4 rfl
      have lk1_4_17 : x14.frozen? ⟨bx, 4, none⟩ = false := HO.out.frz 1 rfl 4
      have k1_5_18 : x14.cell? ⟨bx, 5, none⟩ = some (.bool false) := HO.out.cell 1 rfl 5 rfl
      have lk1_5_18 : x14.frozen? ⟨bx, 5, none⟩ = false := HO.out.frz 1 rfl 5
      obtain ⟨x19, hx19⟩ : ∃ y, x14.setCell ⟨bx, 2, none⟩ (.int .i64 ne) = y := ⟨_, rfl⟩
      have hO := HO.out.setCell 1 rfl 2 (.int .i64 ne)
      rw [hx19] at hO
      replace HO := Lib.hid (show Own w none0 x19 [rowRl u3 (rulesTo x k), blkR bx (.cells #[.bool inn, .int .i64 pr, .int .i64 ne, .int .i64 0, .int .i64 0, .bool false] 52)] from hO)
      clear hO
      have k1_3_20 : x19.cell? ⟨bx, 3, none⟩ = some (.int .i64 0) := HO.out.cell 1 rfl 3 rfl
      have lk1_3_20 : x19.frozen? ⟨bx, 3, none⟩ = false := HO.out.frz 1 rfl 3
      have k1_4_21 : x19.cell? ⟨bx, 4, none⟩ = some (.int .i64 0) := HO.out.cell 1 rfl 4 rfl
      have lk1_4_21 : x19.frozen? ⟨bx, 4, none⟩ = false := HO.out.frz 1 rfl 4
      have k1_5_22 : x19.cell? ⟨bx, 5, none⟩ = some (.bool false) := HO.out.cell 1 rfl 5 rfl
      have lk1_5_22 : x19.frozen? ⟨bx, 5, none⟩ = false := HO.out.frz 1 rfl 5
      obtain ⟨x23, hx23⟩ : ∃ y, x19.setCell ⟨bx, 3, none⟩ (.int .i64 lo) = y := ⟨_, rfl⟩
      have hO := HO.out.setCell 1 rfl 3 (.int .i64 lo)
      rw [hx23] at hO
      replace HO := Lib.hid (show Own w none0 x23 [rowRl u3 (rulesTo x k), blkR bx (.cells #[.bool inn, .int .i64 pr, .int .i64 ne, .int .i64 lo, .int .i64 0, .bool false] 52)] from hO)
      clear hO
      have k1_4_24 : x23.cell? ⟨bx, 4, none⟩ = some (.int .i64 0) := HO.out.cell 1 rfl 4 rfl
      have lk1_4_24 : x23.frozen? ⟨bx, 4, none⟩ = false := HO.out.frz 1 rfl 4
      have k1_5_25 : x23.cell? ⟨bx, 5, none⟩ = some (.bool false) := HO.out.cell 1 rfl 5 rfl
      have lk1_5_25 : x23.frozen? ⟨bx, 5, none⟩ = false := HO.out.frz 1 rfl 5
      obtain ⟨x26, hx26⟩ : ∃ y, x23.setCell ⟨bx, 4, none⟩ (.int .i64 ma) = y := ⟨_, rfl⟩
      have hO := HO.out.setCell 1 rfl 4 (.int .i64 ma)
      rw [hx26] at hO
      replace HO := Lib.hid (show Own w none0 x26 [rowRl u3 (rulesTo x k), blkR bx (.cells #[.bool inn, .int .i64 pr, .int .i64 ne, .int .i64 lo, .int .i64 ma, .bool false] 52)] from hO)
      clear hO
      have k1_5_27 : x26.cell? ⟨bx, 5, none⟩ = some (.bool false) := HO.out.cell 1 rfl 5 rfl
      have lk1_5_27 : x26.frozen? ⟨bx, 5, none⟩ = false := HO.out.frz 1 rfl 5
      obtain ⟨x28, hx28⟩ : ∃ y, x26.setCell ⟨bx, 5, none⟩ (.bool ps) = y := ⟨_, rfl⟩
      have hO := HO.out.setCell 1 rfl 5 (.bool ps)
      rw [hx28] at hO
      replace HO := Lib.hid (show Own w none0 x28 [rowRl u3 (rulesTo x k), blkR bx (.cells #[.bool inn, .int .i64 pr, .int .i64 ne, .int .i64 lo, .int .i64 ma, .bool ps] 52)] from hO)
      clear hO
      go_wp2
      clear y0 y1 y2 y3 y4 y5
      clear hx1 hbx k1_0_2 lk1_0_2 k1_1_3 lk1_1_3 k1_2_4 lk1_2_4 k1_3_5 lk1_3_5 k1_4_6 lk1_4_6 k1_5_7 lk1_5_7 hx8 k1_1_9 lk1_1_9 k1_2_10 lk1_2_10 k1_3_11 lk1_3_11 k1_4_12 lk1_4_12 k1_5_13 lk1_5_13 hx14 k1_2_15 lk1_2_15 k1_3_16 lk1_3_16 k1_4_17 lk1_4_17 k1_5_18 lk1_5_18 hx19 k1_3_20 lk1_3_20 k1_4_21 lk1_4_21 k1_5_22 lk1_5_22 hx23 k1_4_24 lk1_4_24 k1_5_25 lk1_5_25 hx26 k1_5_27 lk1_5_27 hx28
      have g1_0 := cell_regrown (show x28.cell? ⟨bx, 0, none⟩ = some (.bool inn) from HO.out.cell 1 rfl 0 rfl)
      have g1_1 := cell_regrown (show x28.cell? ⟨bx, 1, none⟩ = some (.int .i64 pr) from HO.out.cell 1 rfl 1 rfl)
      have g1_5 := cell_regrown (show x28.cell? ⟨bx, 5, none⟩ = some (.bool ps) from HO.out.cell 1 rfl 5 rfl)
      refine wp_region_R 12 (by kernel_rfl) (by kernel_rfl) ?_
      simp only [List.take, List.drop]
      iterate 2 (first | (refine wpR_want (by kernel_rfl) rfl rfl ?_; intro K hK; go_big_quiet_op; go_big_quiet_on) | (refine wpR_is (by kernel_rfl) rfl _ (fun w _ => rfl) ?_; simp only [Act.put, List.setIfInBounds_toArray, List.set_cons_succ, List.set_cons_zero]))
      refine wpR_ex (rowOf 4 #[.int .i64 0, .int .i64 6, .int .i64 17, .int .i64 1] 3) (rowOf_lasts _ _ _) (by kernel_rfl) (fun a' w' hw' he => ?_) (fun d hd => ?_)
      · simp [go_sem]
        exact ⟨_, rfl, (Below.refl _ _).alloc (Nat.le_refl _) _, ⟨w'.heap.size, rfl, new_block _ _⟩⟩
      cases hd
      simp only [List.nil_append]
      iterate 2 (first | (refine wpR_want (by kernel_rfl) rfl rfl ?_; intro K hK; go_big_quiet_op; go_big_quiet_on) | (refine wpR_is (by kernel_rfl) rfl _ (fun w _ => rfl) ?_; simp only [Act.put, List.setIfInBounds_toArray, List.set_cons_succ, List.set_cons_zero]))
      refine wpR_call (by kernel_rfl) rfl 10 #[.int .i64 pr, .int .i64 4] (.int .i64 n1) (fun w => by simp [go_sem]) (fun w _ => P1.out w) ?_
      simp only [Act.put, List.setIfInBounds_toArray, List.set_cons_succ, List.set_cons_zero]
      refine wpR_ex (ptrTo (.int .i64 (tabI [0, 6, 17, 1] n1))) (ptrTo_lasts _) (by kernel_rfl) (fun a' w' hw' he => ?_) (fun d hd => ?_)
      · obtain ⟨⟨tb, hta, htb⟩, hib, _⟩ := he
        have hcell := tabI_cell [0, 6, 17, 1] htb n1 q1.1 q1.2
        have htl : (n1).toNat < 4 := by have := q1; omega
        have hta' : a'.tmps.getD 23 undef = .slice (some ⟨tb, 0, none⟩) 4 4 := hta
        have hib' : a'.tmps.getD 26 undef = .int .i64 (n1) := hib
        clear hta hib g1_0 g1_1 g1_5
        simp only [go_sem, hta', hib']
        obtain ⟨q51, q52⟩ := q1
        simp [go_sem, ↓IntWalk.iteOmega]
        exact ⟨_, rfl, Below.refl _ _, ⟨tb, _, rfl, hcell⟩⟩
      cases hd
      simp only [List.cons_append, List.nil_append]
      refine wpR_known (.int .i64 (tabI [0, 6, 17, 1] n1)) (by kernel_rfl) (fun a' w' hw' he => ?_) ?_
      · obtain ⟨⟨tb, to, hpa, hcell⟩, _⟩ := he
        have hpa' : a'.tmps.getD 27 undef = .pointer (some ⟨tb, to, none⟩) := hpa
        clear hpa g1_0 g1_1 g1_5
        simp only [go_sem, hpa']
        simp [go_sem, hcell]
        exact Below.refl _ _
      simp only [Act.put, List.setIfInBounds_toArray, List.set_cons_succ, List.set_cons_zero]
      iterate 3 (first | (refine wpR_want (by kernel_rfl) rfl rfl ?_; intro K hK; go_big_quiet_op; go_big_quiet_on) | (refine wpR_is (by kernel_rfl) rfl _ (fun w _ => rfl) ?_; simp only [Act.put, List.setIfInBounds_toArray, List.set_cons_succ, List.set_cons_zero]))
      refine wpR_ex (nblk x28.heap.size (.cells #[.bool false, .int .i64 0, .int .i64 0, .int .i64 0, .int .i64 0, .int .i64 0, .bool false] 30)) (nblk_lasts _ _) (by kernel_rfl) (fun a' w' hw' he => ?_) (fun d hd => ?_)
      · have hs := hw'.size
        simp [go_sem]
        exact ⟨_, rfl, (Below.refl _ _).alloc (Nat.le_refl _) _, ⟨w'.heap.size, rfl, hs, new_block _ _⟩⟩
      cases hd
      simp only [List.cons_append, List.nil_append]
      refine wpR_nil (by kernel_rfl) (by simp) ?_
      rintro w5 hbw
      simp only [exAll]
      rintro u23 -
      rintro u27 -
      rintro u6 ⟨br, rfl, hgebr, hbbbr⟩
      simp only [Act.put, List.setIfInBounds_toArray, List.set_cons_succ, List.set_cons_zero, List.drop]
      have hO := HO.out.push (R := blkR br (.cells #[.bool false, .int .i64 0, .int .i64 0, .int .i64 0, .int .i64 0, .int .i64 0, .bool false] 30)) (F := fun z => z = br) ⟨fun _ => Iff.rfl, hbbbr⟩ (fun z hz => hz ▸ hgebr) hbw
      clear hgebr hbbbr
      replace HO := Lib.hid (show Own w none0 w5 [rowRl u3 (rulesTo x k), blkR bx (.cells #[.bool inn, .int .i64 pr, .int .i64 ne, .int .i64 lo, .int .i64 ma, .bool ps] 52), blkR br (.cells #[.bool false, .int .i64 0, .int .i64 0, .int .i64 0, .int .i64 0, .int .i64 0, .bool false] 30)] from hO)
      clear hO hbw g1_0 g1_1 g1_5 
      generalize tabI [0, 6, 17, 1] n1 = v1 at *
      have k2_0_29 : w5.cell? ⟨br, 0, none⟩ = some (.bool false) := HO.out.cell 2 rfl 0 rfl
      have lk2_0_29 : w5.frozen? ⟨br, 0, none⟩ = false := HO.out.frz 2 rfl 0
      have k2_1_30 : w5.cell? ⟨br, 1, none⟩ = some (.int .i64 0) := HO.out.cell 2 rfl 1 rfl
      have lk2_1_30 : w5.frozen? ⟨br, 1, none⟩ = false := HO.out.frz 2 rfl 1
      have k2_2_31 : w5.cell? ⟨br, 2, none⟩ = some (.int .i64 0) := HO.out.cell 2 rfl 2 rfl
      have lk2_2_31 : w5.frozen? ⟨br, 2, none⟩ = false := HO.out.frz 2 rfl 2
      have k2_3_32 : w5.cell? ⟨br, 3, none⟩ = some (.int .i64 0) := HO.out.cell 2 rfl 3 rfl
      have lk2_3_32 : w5.frozen? ⟨br, 3, none⟩ = false := HO.out.frz 2 rfl 3
      have k2_4_33 : w5.cell? ⟨br, 4, none⟩ = some (.int .i64 0) := HO.out.cell 2 rfl 4 rfl
      have lk2_4_33 : w5.frozen? ⟨br, 4, none⟩ = false := HO.out.frz 2 rfl 4
      have k2_5_34 : w5.cell? ⟨br, 5, none⟩ = some (.int .i64 0) := HO.out.cell 2 rfl 5 rfl
      have lk2_5_34 : w5.frozen? ⟨br, 5, none⟩ = false := HO.out.frz 2 rfl 5
      have k2_6_35 : w5.cell? ⟨br, 6, none⟩ = some (.bool false) := HO.out.cell 2 rfl 6 rfl
      have lk2_6_35 : w5.frozen? ⟨br, 6, none⟩ = false := HO.out.frz 2 rfl 6
      obtain ⟨x36, hx36⟩ : ∃ y, w5.setCell ⟨br, 0, none⟩ (.bool inn) = y := ⟨_, rfl⟩
      have hO := HO.out.setCell 2 rfl 0 (.bool inn)
      rw [hx36] at hO
      replace HO := Lib.hid (show Own w none0 x36 [rowRl u3 (rulesTo x k), blkR bx (.cells #[.bool inn, .int .i64 pr, .int .i64 ne, .int .i64 lo, .int .i64 ma, .bool ps] 52), blkR br (.cells #[.bool inn, .int .i64 0, .int .i64 0, .int .i64 0, .int .i64 0, .int .i64 0, .bool false] 30)] from hO)
      clear hO
      have k2_1_37 : x36.cell? ⟨br, 1, none⟩ = some (.int .i64 0) := HO.out.cell 2 rfl 1 rfl
      have lk2_1_37 : x36.frozen? ⟨br, 1, none⟩ = false := HO.out.frz 2 rfl 1
      have k2_2_38 : x36.cell? ⟨br, 2, none⟩ = some (.int .i64 0) := HO.out.cell 2 rfl 2 rfl
      have lk2_2_38 : x36.frozen? ⟨br, 2, none⟩ = false := HO.out.frz 2 rfl 2
      have k2_3_39 : x36.cell? ⟨br, 3, none⟩ = some (.int .i64 0) := HO.out.cell 2 rfl 3 rfl
      have lk2_3_39 : x36.frozen? ⟨br, 3, none⟩ = false := HO.out.frz 2 rfl 3
      have k2_4_40 : x36.cell? ⟨br, 4, none⟩ = some (.int .i64 0) := HO.out.cell 2 rfl 4 rfl
      have lk2_4_40 : x36.frozen? ⟨br, 4, none⟩ = false := HO.out.frz 2 rfl 4
      have k2_5_41 : x36.cell? ⟨br, 5, none⟩ = some (.int .i64 0) := HO.out.cell 2 rfl 5 rfl
      have lk2_5_41 : x36.frozen? ⟨br, 5, none⟩ = false := HO.out.frz 2 rfl 5
      have k2_6_42 : x36.cell? ⟨br, 6, none⟩ = some (.bool false) := HO.out.cell 2 rfl 6 rfl
      have lk2_6_42 : x36.frozen? ⟨br, 6, none⟩ = false := HO.out.frz 2 rfl 6
      obtain ⟨x43, hx43⟩ : ∃ y, x36.setCell ⟨br, 1, none⟩ (.int .i64 v1) = y := ⟨_, rfl⟩
      have hO := HO.out.setCell 2 rfl 1 (.int .i64 v1)
      rw [hx43] at hO
      replace HO := Lib.hid (show Own w none0 x43 [rowRl u3 (rulesTo x k), blkR bx (.cells #[.bool inn, .int .i64 pr, .int .i64 ne, .int .i64 lo, .int .i64 ma, .bool ps] 52), blkR br (.cells #[.bool inn, .int .i64 v1, .int .i64 0, .int .i64 0, .int .i64 0, .int .i64 0, .bool false] 30)] from hO)
      clear hO
      have k2_2_44 : x43.cell? ⟨br, 2, none⟩ = some (.int .i64 0) := HO.out.cell 2 rfl 2 rfl
      have lk2_2_44 : x43.frozen? ⟨br, 2, none⟩ = false := HO.out.frz 2 rfl 2
      have k2_3_45 : x43.cell? ⟨br, 3, none⟩ = some (.int .i64 0) := HO.out.cell 2 rfl 3 rfl
      have lk2_3_45 : x43.frozen? ⟨br, 3, none⟩ = false := HO.out.frz 2 rfl 3
      have k2_4_46 : x43.cell? ⟨br, 4, none⟩ = some (.int .i64 0) := HO.out.cell 2 rfl 4 rfl
      have lk2_4_46 : x43.frozen? ⟨br, 4, none⟩ = false := HO.out.frz 2 rfl 4
      have k2_5_47 : x43.cell? ⟨br, 5, none⟩ = some (.int .i64 0) := HO.out.cell 2 rfl 5 rfl
      have lk2_5_47 : x43.frozen? ⟨br, 5, none⟩ = false := HO.out.frz 2 rfl 5
      have k2_6_48 : x43.cell? ⟨br, 6, none⟩ = some (.bool false) := HO.out.cell 2 rfl 6 rfl
      have lk2_6_48 : x43.frozen? ⟨br, 6, none⟩ = false := HO.out.frz 2 rfl 6
      obtain ⟨x49, hx49⟩ : ∃ y, x43.setCell ⟨br, 2, none⟩ (.int .i64 0) = y := ⟨_, rfl⟩
      have hO := HO.out.setCell 2 rfl 2 (.int .i64 0)
      rw [hx49] at hO
      replace HO := Lib.hid (show Own w none0 x49 [rowRl u3 (rulesTo x k), blkR bx (.cells #[.bool inn, .int .i64 pr, .int .i64 ne, .int .i64 lo, .int .i64 ma, .bool ps] 52), blkR br (.cells #[.bool inn, .int .i64 v1, .int .i64 0, .int .i64 0, .int .i64 0, .int .i64 0, .bool false] 30)] from hO)
      clear hO
      have k2_3_50 : x49.cell? ⟨br, 3, none⟩ = some (.int .i64 0) := HO.out.cell 2 rfl 3 rfl
      have lk2_3_50 : x49.frozen? ⟨br, 3, none⟩ = false := HO.out.frz 2 rfl 3
      have k2_4_51 : x49.cell? ⟨br, 4, none⟩ = some (.int .i64 0) := HO.out.cell 2 rfl 4 rfl
      have lk2_4_51 : x49.frozen? ⟨br, 4, none⟩ = false := HO.out.frz 2 rfl 4
      have k2_5_52 : x49.cell? ⟨br, 5, none⟩ = some (.int .i64 0) := HO.out.cell 2 rfl 5 rfl
      have lk2_5_52 : x49.frozen? ⟨br, 5, none⟩ = false := HO.out.frz 2 rfl 5
      have k2_6_53 : x49.cell? ⟨br, 6, none⟩ = some (.bool false) := HO.out.cell 2 rfl 6 rfl
      have lk2_6_53 : x49.frozen? ⟨br, 6, none⟩ = false := HO.out.frz 2 rfl 6
      obtain ⟨x54, hx54⟩ : ∃ y, x49.setCell ⟨br, 3, none⟩ (.int .i64 0) = y := ⟨_, rfl⟩
      have hO := HO.out.setCell 2 rfl 3 (.int .i64 0)
      rw [hx54] at hO
      replace HO := Lib.hid (show Own w none0 x54 [rowRl u3 (rulesTo x k), blkR bx (.cells #[.bool inn, .int .i64 pr, .int .i64 ne, .int .i64 lo, .int .i64 ma, .bool ps] 52), blkR br (.cells #[.bool inn, .int .i64 v1, .int .i64 0, .int .i64 0, .int .i64 0, .int .i64 0, .bool false] 30)] from hO)
      clear hO
      have k2_4_55 : x54.cell? ⟨br, 4, none⟩ = some (.int .i64 0) := HO.out.cell 2 rfl 4 rfl
      have lk2_4_55 : x54.frozen? ⟨br, 4, none⟩ = false := HO.out.frz 2 rfl 4
      have k2_5_56 : x54.cell? ⟨br, 5, none⟩ = some (.int .i64 0) := HO.out.cell 2 rfl 5 rfl
      have lk2_5_56 : x54.frozen? ⟨br, 5, none⟩ = false := HO.out.frz 2 rfl 5
      have k2_6_57 : x54.cell? ⟨br, 6, none⟩ = some (.bool false) := HO.out.cell 2 rfl 6 rfl
      have lk2_6_57 : x54.frozen? ⟨br, 6, none⟩ = false := HO.out.frz 2 rfl 6
      obtain ⟨x58, hx58⟩ : ∃ y, x54.setCell ⟨br, 4, none⟩ (.int .i64 0) = y := ⟨_, rfl⟩
      have hO := HO.out.setCell 2 rfl 4 (.int .i64 0)
      rw [hx58] at hO
      replace HO := Lib.hid (show Own w none0 x58 [rowRl u3 (rulesTo x k), blkR bx (.cells #[.bool inn, .int .i64 pr, .int .i64 ne, .int .i64 lo, .int .i64 ma, .bool ps] 52), blkR br (.cells #[.bool inn, .int .i64 v1, .int .i64 0, .int .i64 0, .int .i64 0, .int .i64 0, .bool false] 30)] from hO)
      clear hO
      have k2_5_59 : x58.cell? ⟨br, 5, none⟩ = some (.int .i64 0) := HO.out.cell 2 rfl 5 rfl
      have lk2_5_59 : x58.frozen? ⟨br, 5, none⟩ = false := HO.out.frz 2 rfl 5
      have k2_6_60 : x58.cell? ⟨br, 6, none⟩ = some (.bool false) := HO.out.cell 2 rfl 6 rfl
      have lk2_6_60 : x58.frozen? ⟨br, 6, none⟩ = false := HO.out.frz 2 rfl 6
      obtain ⟨x61, hx61⟩ : ∃ y, x58.setCell ⟨br, 5, none⟩ (.int .i64 0) = y := ⟨_, rfl⟩
      have hO := HO.out.setCell 2 rfl 5 (.int .i64 0)
      rw [hx61] at hO
      replace HO := Lib.hid (show Own w none0 x61 [rowRl u3 (rulesTo x k), blkR bx (.cells #[.bool inn, .int .i64 pr, .int .i64 ne, .int .i64 lo, .int .i64 ma, .bool ps] 52), blkR br (.cells #[.bool inn, .int .i64 v1, .int .i64 0, .int .i64 0, .int .i64 0, .int .i64 0, .bool false] 30)] from hO)
      clear hO
      have k2_6_62 : x61.cell? ⟨br, 6, none⟩ = some (.bool false) := HO.out.cell 2 rfl 6 rfl
      have lk2_6_62 : x61.frozen? ⟨br, 6, none⟩ = false := HO.out.frz 2 rfl 6
      obtain ⟨x63, hx63⟩ : ∃ y, x61.setCell ⟨br, 6, none⟩ (.bool ps) = y := ⟨_, rfl⟩
      have hO := HO.out.setCell 2 rfl 6 (.bool ps)
      rw [hx63] at hO
      replace HO := Lib.hid (show Own w none0 x63 [rowRl u3 (rulesTo x k), blkR bx (.cells #[.bool inn, .int .i64 pr, .int .i64 ne, .int .i64 lo, .int .i64 ma, .bool ps] 52), blkR br (.cells #[.bool inn, .int .i64 v1, .int .i64 0, .int .i64 0, .int .i64 0, .int .i64 0, .bool ps] 30)] from hO)
      clear hO
      have rb := run_bsP
      have rp0 := run_bdP0
      obtain ⟨x64, hx64⟩ : ∃ y, x63.alloc (.cells #[.int .i64 0, .int .i64 0, .int .i64 167772160, .int .i64 24, .int .i64 167772164, .int .i64 30, .int .i64 167772161, .int .i64 32, .int .i64 3232235520, .int .i64 16] 28) = y := ⟨_, rfl⟩
      obtain ⟨bt, hbt⟩ : ∃ y, x63.heap.size = y := ⟨_, rfl⟩
      have hO := HO.out.alloc (.cells #[.int .i64 0, .int .i64 0, .int .i64 167772160, .int .i64 24, .int .i64 167772164, .int .i64 30, .int .i64 167772161, .int .i64 32, .int .i64 3232235520, .int .i64 16] 28)
      rw [hx64, hbt] at hO
      replace HO := Lib.hid (show Own w none0 x64 [rowRl u3 (rulesTo x k), blkR bx (.cells #[.bool inn, .int .i64 pr, .int .i64 ne, .int .i64 lo, .int .i64 ma, .bool ps] 52), blkR br (.cells #[.bool inn, .int .i64 v1, .int .i64 0, .int .i64 0, .int .i64 0, .int .i64 0, .bool ps] 30), blkR bt (.cells #[.int .i64 0, .int .i64 0, .int .i64 167772160, .int .i64 24, .int .i64 167772164, .int .i64 30, .int .i64 167772161, .int .i64 32, .int .i64 3232235520, .int .i64 16] 28)] from hO)
      clear hO
      have z1_2 : x64.cell? ⟨bx, 2, none⟩ = some (.int .i64 ne) := HO.out.cell 1 rfl 2 rfl
      go_wp2_with fail
      refine (o_still HO.out (P2.out _)).mono ?_
      rintro e x65 ⟨rfl, hO, -⟩
      replace HO := Lib.hid (show Own w none0 x65 [rowRl u3 (rulesTo x k), blkR bx (.cells #[.bool inn, .int .i64 pr, .int .i64 ne, .int .i64 lo, .int .i64 ma, .bool ps] 52), blkR br (.cells #[.bool inn, .int .i64 v1, .int .i64 0, .int .i64 0, .int .i64 0, .int .i64 0, .bool ps] 30), blkR bt (.cells #[.int .i64 0, .int .i64 0, .int .i64 167772160, .int .i64 24, .int .i64 167772164, .int .i64 30, .int .i64 167772161, .int .i64 32, .int .i64 3232235520, .int .i64 16] 28)] from hO)
      clear hO
      clear k2_0_29 lk2_0_29 k2_1_30 lk2_1_30 k2_2_31 lk2_2_31 k2_3_32 lk2_3_32 k2_4_33 lk2_4_33 k2_5_34 lk2_5_34 k2_6_35 lk2_6_35 hx36 k2_1_37 lk2_1_37 k2_2_38 lk2_2_38 k2_3_39 lk2_3_39 k2_4_40 lk2_4_40 k2_5_41 lk2_5_41 k2_6_42 lk2_6_42 hx43 k2_2_44 lk2_2_44 k2_3_45 lk2_3_45 k2_4_46 lk2_4_46 k2_5_47 lk2_5_47 k2_6_48 lk2_6_48 hx49 k2_3_50 lk2_3_50 k2_4_51 lk2_4_51 k2_5_52 lk2_5_52 k2_6_53 lk2_6_53 hx54 k2_4_55 lk2_4_55 k2_5_56 lk2_5_56 k2_6_57 lk2_6_57 hx58 k2_5_59 lk2_5_59 k2_6_60 lk2_6_60 hx61 k2_6_62 lk2_6_62 hx63 hx64 hbt z1_2
      clear rb rp0
      obtain ⟨t0, t1⟩ := tabP_cell (HO.out.blk 3 rfl) n2 q2.1 q2.2
      generalize tNa n2 = na at *
      generalize tNb n2 = nb at *
      have k2_2_66 : x65.cell? ⟨br, 2, none⟩ = some (.int .i64 0) := HO.out.cell 2 rfl 2 rfl
      have lk2_2_66 : x65.frozen? ⟨br, 2, none⟩ = false := HO.out.frz 2 rfl 2
      have k2_3_67 : x65.cell? ⟨br, 3, none⟩ = some (.int .i64 0) := HO.out.cell 2 rfl 3 rfl
      have lk2_3_67 : x65.frozen? ⟨br, 3, none⟩ = false := HO.out.frz 2 rfl 3
      obtain ⟨x68, hx68⟩ : ∃ y, x65.setCell ⟨br, 2, none⟩ (.int .i64 na) = y := ⟨_, rfl⟩
      have hO := HO.out.setCell 2 rfl 2 (.int .i64 na)
      rw [hx68] at hO
      replace HO := Lib.hid (show Own w none0 x68 [rowRl u3 (rulesTo x k), blkR bx (.cells #[.bool inn, .int .i64 pr, .int .i64 ne, .int .i64 lo, .int .i64 ma, .bool ps] 52), blkR br (.cells #[.bool inn, .int .i64 v1, .int .i64 na, .int .i64 0, .int .i64 0, .int .i64 0, .bool ps] 30), blkR bt (.cells #[.int .i64 0, .int .i64 0, .int .i64 167772160, .int .i64 24, .int .i64 167772164, .int .i64 30, .int .i64 167772161, .int .i64 32, .int .i64 3232235520, .int .i64 16] 28)] from hO)
      clear hO
      have k2_3_69 : x68.cell? ⟨br, 3, none⟩ = some (.int .i64 0) := HO.out.cell 2 rfl 3 rfl
      have lk2_3_69 : x68.frozen? ⟨br, 3, none⟩ = false := HO.out.frz 2 rfl 3
      obtain ⟨x70, hx70⟩ : ∃ y, x68.setCell ⟨br, 3, none⟩ (.int .i64 nb) = y := ⟨_, rfl⟩
      have hO := HO.out.setCell 2 rfl 3 (.int .i64 nb)
      rw [hx70] at hO
      replace HO := Lib.hid (show Own w none0 x70 [rowRl u3 (rulesTo x k), blkR bx (.cells #[.bool inn, .int .i64 pr, .int .i64 ne, .int .i64 lo, .int .i64 ma, .bool ps] 52), blkR br (.cells #[.bool inn, .int .i64 v1, .int .i64 na, .int .i64 nb, .int .i64 0, .int .i64 0, .bool ps] 30), blkR bt (.cells #[.int .i64 0, .int .i64 0, .int .i64 167772160, .int .i64 24, .int .i64 167772164, .int .i64 30, .int .i64 167772161, .int .i64 32, .int .i64 3232235520, .int .i64 16] 28)] from hO)
      clear hO
      obtain ⟨x71, hx71⟩ : ∃ y, x70.alloc (.cells #[.int .i64 0, .int .i64 1, .int .i64 79, .int .i64 80, .int .i64 5000] 3) = y := ⟨_, rfl⟩
      obtain ⟨bl, hbl⟩ : ∃ y, x70.heap.size = y := ⟨_, rfl⟩
      have hO := HO.out.alloc (.cells #[.int .i64 0, .int .i64 1, .int .i64 79, .int .i64 80, .int .i64 5000] 3)
      rw [hx71, hbl] at hO
      replace HO := Lib.hid (show Own w none0 x71 [rowRl u3 (rulesTo x k), blkR bx (.cells #[.bool inn, .int .i64 pr, .int .i64 ne, .int .i64 lo, .int .i64 ma, .bool ps] 52), blkR br (.cells #[.bool inn, .int .i64 v1, .int .i64 na, .int .i64 nb, .int .i64 0, .int .i64 0, .bool ps] 30), blkR bt (.cells #[.int .i64 0, .int .i64 0, .int .i64 167772160, .int .i64 24, .int .i64 167772164, .int .i64 30, .int .i64 167772161, .int .i64 32, .int .i64 3232235520, .int .i64 16] 28), blkR bl (.cells #[.int .i64 0, .int .i64 1, .int .i64 79, .int .i64 80, .int .i64 5000] 3)] from hO)
      clear hO
      have z1_3 : x71.cell? ⟨bx, 3, none⟩ = some (.int .i64 lo) := HO.out.cell 1 rfl 3 rfl
      go_wp2_with fail
      refine (o_still HO.out (P3.out _)).mono ?_
      rintro e x72 ⟨rfl, hO, -⟩
      replace HO := Lib.hid (show Own w none0 x72 [rowRl u3 (rulesTo x k), blkR bx (.cells #[.bool inn, .int .i64 pr, .int .i64 ne, .int .i64 lo, .int .i64 ma, .bool ps] 52), blkR br (.cells #[.bool inn, .int .i64 v1, .int .i64 na, .int .i64 nb, .int .i64 0, .int .i64 0, .bool ps] 30), blkR bt (.cells #[.int .i64 0, .int .i64 0, .int .i64 167772160, .int .i64 24, .int .i64 167772164, .int .i64 30, .int .i64 167772161, .int .i64 32, .int .i64 3232235520, .int .i64 16] 28), blkR bl (.cells #[.int .i64 0, .int .i64 1, .int .i64 79, .int .i64 80, .int .i64 5000] 3)] from hO)
      clear hO
      clear t0 t1 k2_2_66 lk2_2_66 k2_3_67 lk2_3_67 hx68 k2_3_69 lk2_3_69 hx70 hx71 hbl z1_3
      have t0 := tabI_cell [0, 1, 79, 80, 5000] (HO.out.blk 4 rfl) n3 q3.1 q3.2
      obtain ⟨r1, r2⟩ := tLo_bd n3 q3.1 q3.2
      generalize tabI [0, 1, 79, 80, 5000] n3 = lov at *
      have k2_4_73 : x72.cell? ⟨br, 4, none⟩ = some (.int .i64 0) := HO.out.cell 2 rfl 4 rfl
      have lk2_4_73 : x72.frozen? ⟨br, 4, none⟩ = false := HO.out.frz 2 rfl 4
      obtain ⟨x74, hx74⟩ : ∃ y, x72.setCell ⟨br, 4, none⟩ (.int .i64 lov) = y := ⟨_, rfl⟩
      have hO := HO.out.setCell 2 rfl 4 (.int .i64 lov)
      rw [hx74] at hO
      replace HO := Lib.hid (show Own w none0 x74 [rowRl u3 (rulesTo x k), blkR bx (.cells #[.bool inn, .int .i64 pr, .int .i64 ne, .int .i64 lo, .int .i64 ma, .bool ps] 52), blkR br (.cells #[.bool inn, .int .i64 v1, .int .i64 na, .int .i64 nb, .int .i64 lov, .int .i64 0, .bool ps] 30), blkR bt (.cells #[.int .i64 0, .int .i64 0, .int .i64 167772160, .int .i64 24, .int .i64 167772164, .int .i64 30, .int .i64 167772161, .int .i64 32, .int .i64 3232235520, .int .i64 16] 28), blkR bl (.cells #[.int .i64 0, .int .i64 1, .int .i64 79, .int .i64 80, .int .i64 5000] 3)] from hO)
      clear hO
      go_wp2
      clear t0 k2_4_73 lk2_4_73 hx74
      obtain ⟨r3, r4⟩ := tMa_bd n4 q4.1 q4.2
      have ew : IntKind.i64.wrap (lov + tabI [0, 1, 100, 65535] n4) = lov + tabI [0, 1, 100, 65535] n4 := IntWalk.i64_in _ (by omega)
      have g1_4 := cell_regrown (show x74.cell? ⟨bx, 4, none⟩ = some (.int .i64 ma) from HO.out.cell 1 rfl 4 rfl)
      have g2_4 := cell_regrown (show x74.cell? ⟨br, 4, none⟩ = some (.int .i64 lov) from HO.out.cell 2 rfl 4 rfl)
      refine wp_region_R 11 (by kernel_rfl) (by kernel_rfl) ?_
      simp only [List.take, List.drop]
      iterate 2 (first | (refine wpR_want (by kernel_rfl) rfl rfl ?_; intro K hK; go_big_quiet_op; go_big_quiet_on) | (refine wpR_is (by kernel_rfl) rfl _ (fun w _ => rfl) ?_; simp only [Act.put, List.setIfInBounds_toArray, List.set_cons_succ, List.set_cons_zero]))
      refine wpR_ex (rowOf 4 #[.int .i64 0, .int .i64 1, .int .i64 100, .int .i64 65535] 3) (rowOf_lasts _ _ _) (by kernel_rfl) (fun a' w' hw' he => ?_) (fun d hd => ?_)
      · simp [go_sem]
        exact ⟨_, rfl, (Below.refl _ _).alloc (Nat.le_refl _) _, ⟨w'.heap.size, rfl, new_block _ _⟩⟩
      cases hd
      simp only [List.nil_append]
      iterate 2 (first | (refine wpR_want (by kernel_rfl) rfl rfl ?_; intro K hK; go_big_quiet_op; go_big_quiet_on) | (refine wpR_is (by kernel_rfl) rfl _ (fun w _ => rfl) ?_; simp only [Act.put, List.setIfInBounds_toArray, List.set_cons_succ, List.set_cons_zero]))
      refine wpR_call (by kernel_rfl) rfl 10 #[.int .i64 ma, .int .i64 4] (.int .i64 n4) (fun w => by simp [go_sem]) (fun w _ => P4.out w) ?_
      simp only [Act.put, List.setIfInBounds_toArray, List.set_cons_succ, List.set_cons_zero]
      refine wpR_ex (ptrTo (.int .i64 (tabI [0, 1, 100, 65535] n4))) (ptrTo_lasts _) (by kernel_rfl) (fun a' w' hw' he => ?_) (fun d hd => ?_)
      · obtain ⟨⟨tb, hta, htb⟩, hib, _⟩ := he
        have hcell := tabI_cell [0, 1, 100, 65535] htb n4 q4.1 q4.2
        have htl : (n4).toNat < 4 := by have := q4; omega
        have hta' : a'.tmps.getD 53 undef = .slice (some ⟨tb, 0, none⟩) 4 4 := hta
        have hib' : a'.tmps.getD 56 undef = .int .i64 (n4) := hib
        clear hta hib g1_4 g2_4
        simp only [go_sem, hta', hib']
        obtain ⟨q51, q52⟩ := q4
        simp [go_sem, ↓IntWalk.iteOmega]
        exact ⟨_, rfl, Below.refl _ _, ⟨tb, _, rfl, hcell⟩⟩
      cases hd
      simp only [List.cons_append, List.nil_append]
      refine wpR_known (.int .i64 (tabI [0, 1, 100, 65535] n4)) (by kernel_rfl) (fun a' w' hw' he => ?_) ?_
      · obtain ⟨⟨tb, to, hpa, hcell⟩, _⟩ := he
        have hpa' : a'.tmps.getD 57 undef = .pointer (some ⟨tb, to, none⟩) := hpa
        clear hpa g1_4 g2_4
        simp only [go_sem, hpa']
        simp [go_sem, hcell]
        exact Below.refl _ _
      simp only [Act.put, List.setIfInBounds_toArray, List.set_cons_succ, List.set_cons_zero]
      iterate 3 (first | (refine wpR_want (by kernel_rfl) rfl rfl ?_; intro K hK; go_big_quiet_op; go_big_quiet_on) | (refine wpR_is (by kernel_rfl) rfl _ (fun w _ => rfl) ?_; simp only [Act.put, List.setIfInBounds_toArray, List.set_cons_succ, List.set_cons_zero]))
      refine wpR_nil (by kernel_rfl) (by simp) ?_
      rintro w6 hbw
      simp only [exAll]
      rintro u53 -
      rintro u57 -
      simp only [Act.put, List.setIfInBounds_toArray, List.set_cons_succ, List.set_cons_zero, List.drop]
      have hO := HO.out.stay hbw
      replace HO := Lib.hid (show Own w none0 w6 [rowRl u3 (rulesTo x k), blkR bx (.cells #[.bool inn, .int .i64 pr, .int .i64 ne, .int .i64 lo, .int .i64 ma, .bool ps] 52), blkR br (.cells #[.bool inn, .int .i64 v1, .int .i64 na, .int .i64 nb, .int .i64 lov, .int .i64 0, .bool ps] 30), blkR bt (.cells #[.int .i64 0, .int .i64 0, .int .i64 167772160, .int .i64 24, .int .i64 167772164, .int .i64 30, .int .i64 167772161, .int .i64 32, .int .i64 3232235520, .int .i64 16] 28), blkR bl (.cells #[.int .i64 0, .int .i64 1, .int .i64 79, .int .i64 80, .int .i64 5000] 3)] from hO)
      clear hO hbw g1_4 g2_4 ew
      generalize hmn : mnF (lov + tabI [0, 1, 100, 65535] n4) 65535 = hiv at *
      have k2_5_75 : w6.cell? ⟨br, 5, none⟩ = some (.int .i64 0) := HO.out.cell 2 rfl 5 rfl
      have lk2_5_75 : w6.frozen? ⟨br, 5, none⟩ = false := HO.out.frz 2 rfl 5
      obtain ⟨x76, hx76⟩ : ∃ y, w6.setCell ⟨br, 5, none⟩ (.int .i64 hiv) = y := ⟨_, rfl⟩
      have hO := HO.out.setCell 2 rfl 5 (.int .i64 hiv)
      rw [hx76] at hO
      replace HO := Lib.hid (show Own w none0 x76 [rowRl u3 (rulesTo x k), blkR bx (.cells #[.bool inn, .int .i64 pr, .int .i64 ne, .int .i64 lo, .int .i64 ma, .bool ps] 52), blkR br (.cells #[.bool inn, .int .i64 v1, .int .i64 na, .int .i64 nb, .int .i64 lov, .int .i64 hiv, .bool ps] 30), blkR bt (.cells #[.int .i64 0, .int .i64 0, .int .i64 167772160, .int .i64 24, .int .i64 167772164, .int .i64 30, .int .i64 167772161, .int .i64 32, .int .i64 3232235520, .int .i64 16] 28), blkR bl (.cells #[.int .i64 0, .int .i64 1, .int .i64 79, .int .i64 80, .int .i64 5000] 3)] from hO)
      clear hO
      have z2_0 : x76.cell? ⟨br, 0, none⟩ = some (.bool inn) := HO.out.cell 2 rfl 0 rfl
      have z2_1 : x76.cell? ⟨br, 1, none⟩ = some (.int .i64 v1) := HO.out.cell 2 rfl 1 rfl
      have z2_2 : x76.cell? ⟨br, 2, none⟩ = some (.int .i64 na) := HO.out.cell 2 rfl 2 rfl
      have z2_3 : x76.cell? ⟨br, 3, none⟩ = some (.int .i64 nb) := HO.out.cell 2 rfl 3 rfl
      have z2_4 : x76.cell? ⟨br, 4, none⟩ = some (.int .i64 lov) := HO.out.cell 2 rfl 4 rfl
      have z2_5 : x76.cell? ⟨br, 5, none⟩ = some (.int .i64 hiv) := HO.out.cell 2 rfl 5 rfl
      have z2_6 : x76.cell? ⟨br, 6, none⟩ = some (.bool ps) := HO.out.cell 2 rfl 6 rfl
      have rb := run_bsRl
      obtain ⟨x77, hx77⟩ : ∃ y, x76.alloc (.cells #[.bool inn, .int .i64 v1, .int .i64 na, .int .i64 nb, .int .i64 lov, .int .i64 hiv, .bool ps] 30) = y := ⟨_, rfl⟩
      obtain ⟨bn, hbn⟩ : ∃ y, x76.heap.size = y := ⟨_, rfl⟩
      have hO := HO.out.alloc (.cells #[.bool inn, .int .i64 v1, .int .i64 na, .int .i64 nb, .int .i64 lov, .int .i64 hiv, .bool ps] 30)
      rw [hx77, hbn] at hO
      replace HO := Lib.hid (show Own w none0 x77 [rowRl u3 (rulesTo x k), blkR bx (.cells #[.bool inn, .int .i64 pr, .int .i64 ne, .int .i64 lo, .int .i64 ma, .bool ps] 52), blkR br (.cells #[.bool inn, .int .i64 v1, .int .i64 na, .int .i64 nb, .int .i64 lov, .int .i64 hiv, .bool ps] 30), blkR bt (.cells #[.int .i64 0, .int .i64 0, .int .i64 167772160, .int .i64 24, .int .i64 167772164, .int .i64 30, .int .i64 167772161, .int .i64 32, .int .i64 3232235520, .int .i64 16] 28), blkR bl (.cells #[.int .i64 0, .int .i64 1, .int .i64 79, .int .i64 80, .int .i64 5000] 3), blkR bn (.cells #[.bool inn, .int .i64 v1, .int .i64 na, .int .i64 nb, .int .i64 lov, .int .i64 hiv, .bool ps] 30)] from hO)
      clear hO
      go_wp2_with ((at_builtin; refine (show _ = True → _ from fun h => of_eq_true h) ?_))
      refine eq_true ?_
      refine wpList_appO rfl (.tmp 62) (.tmp 64) 25 rfl Try.underlying25 infoRl rfl (by decide) HO.out 0 rfl rfl 5 1 1 [.bool inn, .int .i64 v1, .int .i64 na, .int .i64 nb, .int .i64 lov, .int .i64 hiv, .bool ps] rfl rfl rfl (oneRl _ _ _ _ _ _ _) (by have := rulesTo_len x k; unfold maxLen; omega) (by have := rulesTo_len x k; omega) ?_
      intro v9 x9 hO
      clear k2_5_75 lk2_5_75 hx76 z2_0 z2_1 z2_2 z2_3 z2_4 z2_5 z2_6 hx77 hbn
      clear rb
      have e1 : rowR v9 30 7 ((rulesTo x k).length + 1) ((rulesTo x k).flatMap cRl ++ [.bool inn, .int .i64 v1, .int .i64 na, .int .i64 nb, .int .i64 lov, .int .i64 hiv, .bool ps]) = rowRl v9 (rulesTo x (k + 1)) := by
        rw [HXS.out, HF.out]
        show _ = rowR _ _ _ _ _
        rw [List.length_append, List.flatMap_append]; rfl
      simp only [List.set_cons_zero, e1] at hO
      replace HO := Lib.hid (show Own w none0 x9 [rowRl v9 (rulesTo x (k + 1))] from hO.take 1)
      clear hO e1
      go_wp2
      go_roundw
      case rel => exact ⟨k + 1, by omega, by go_num, HO.out⟩
      case measure => simp [intOf]; omega
    · have hke : k = min n 16 := by omega
      have HKE := Lib.hid hke
      clear hke
      by_cases h1 : k < n
      · have h2 : ¬ (k : Int) < 16 := by omega
        go_wp2
        go_ret
        exact ⟨_, rfl, by rw [← HKE.out]; exact HO.out, HO.out.size⟩
      · go_wp2
        go_ret
        exact ⟨_, rfl, by rw [← HKE.out]; exact HO.out, HO.out.size⟩
end

end Go.Proofs.Ythhoknhjbkkflaa
