/- The walk of FirewallTableBound. Printed by wip/tools/gen22p.py. -/
import Derived.Test.YthhoknhjbkkflaaFw12
import Derived.Test.YthhoknhjbkkflaaFpl
namespace Go.Proofs.Ythhoknhjbkkflaa
open Go.RowKit Go.Sort
set_option linter.unusedVariables false

/-- A slice of integers. -/
def RdI (w : World) (v : Value) (len : Nat) (g : Nat → Int) : Prop :=
  ∃ a cap, v = .slice a len cap ∧ len ≤ cap ∧ len ≤ 9223372036854775807 ∧ (∀ i, i < len → i64B (g i)) ∧ (len ≠ 0 → ∃ b o, a = some ⟨b, o, none⟩ ∧ ∀ i, i < len → w.cell? ⟨b, o + i, none⟩ = some (.int .i64 (g i)))
def tbX (n : Int) : Fl := ⟨17, 9, 1 + n, 2, 53, false, false, false, 0⟩
theorem tbX_valid {n : Int} (h0 : 0 ≤ n) (h1 : n < 60000) : validF (tbX n) = true := by
  have e9 : hostB 9 = true := by decide
  have e2 : hostB 2 = true := by decide
  have p1 : portB (1 + n) = true := decide_eq_true (by omega)
  show (decide _ && hostB 9 && hostB 2 && portB (1 + n) && portB 53) = true
  rw [e9, e2, p1]; rfl
theorem tb_out {T N now n : Int} {st st' : FSt} {r : Bool} (h : FW T N st) (hr : st.rl = []) (h0 : 0 ≤ n) (h1 : n < 60000) (hp : DidR st 0 now (tbX n) r st') : r = true := by
  have hv := tbX_valid h0 h1
  rcases did_out hp with ⟨h2, _⟩ | ⟨_, _, _, h2, _⟩ | ⟨_, _, h2, _⟩ | ⟨_, _, _, h2, _⟩ | ⟨_, _, _, h2, _⟩
  · rw [hv] at h2; cases h2
  · exact h2
  · rw [hr] at h2; cases h2
  · exact h2
  · exact h2
theorem tb_quo {T N now n : Int} {st st' st'' : FSt} {r : Bool} (h : FW T N st) (hT : T ≤ now) (hn : 0 ≤ now) (h0 : 0 ≤ n) (h1 : n < 60000) (hp : DidR st 0 now (tbX n) true st') (hq : DidR st' 4 now (tbX n) r st'') : r = true ∧ 1 ≤ st''.m.length := by
  obtain ⟨hv, u, hm⟩ := pass_in h (did_out hp) rfl
  obtain ⟨h2, _⟩ := did_fw h hT hn hp
  obtain ⟨rfl, rfl⟩ := did_quo hq
  refine ⟨quo_mem h2.nd hv hm (by simp only; omega), ?_⟩
  exact List.length_pos_of_mem (exp_of hm (by simp only; omega))
section
attribute [local go_sem ↓] run_mn
set_option maxRecDepth 100000 in
set_option maxHeartbeats 8000000 in
theorem tableBound_walk (n : Nat) (g : Nat → Int) (v : Value) (af : Int) (w : World) (hR : RdI w v n g) (ha : i64B af) : Calls Try.prog 5 #[v, .int .i64 af] w fun e w' => e = .returned (.bool true) ∧ Below w.heap.size w w' := by
  obtain ⟨a, cap, rfl, hcap, hlen, hok, hp⟩ := hR
  have HP := Lib.hid hp
  have HOK := Lib.hid hok
  have P1 := Lib.hid (fun w => pick_b af 4 w ha (by decide))
  obtain ⟨q1, q2⟩ := pk_bd af 4 (by decide)
  generalize pk af 4 = pa at *
  clear hp hok ha
  have hO := (Own.nil w none0).rowNew 30 7
  have HO := Lib.hid (show Own w none0 w [rowRl (.slice none 0 0) []] from hO)
  clear hO
  go_enter Try.func5, Try.ntmps5
  go_wp2_with fail
  refine (o_still HO.out (sane_any _)).mono ?_
  rintro e x1 ⟨rfl, hO, -⟩
  replace HO := Lib.hid (show Own w none0 x1 [rowRl (.slice none 0 0) []] from hO)
  clear hO
  go_wp2_with fail
  refine (new_ok HO.out 0 rfl (by decide) (by kernel_rfl)).mono ?_
  rintro e x2 ⟨f, rfl, hO, -⟩
  replace HO := Lib.hid (show Own w none0 x2 [rowRl (.slice none 0 0) [], resF f ⟨[], [], 0⟩] from hO)
  clear hO
  have HF0 := Lib.hid (show FW 0 0 ⟨[], [], 0⟩ from (fw_of (by kernel_rfl)).1)
  go_wp2
  go_loopw [8, 9] (fun now i wr => ∃ (k : Nat) (nw : Int) (st : FSt), k ≤ min n 100 ∧ now = .int .i64 nw ∧ i = .int .i64 k ∧ 0 ≤ nw ∧ nw ≤ 4 * k ∧ FW nw (2 * k) st ∧ st.rl = [] ∧ st.m.length ≤ k ∧ Own w none0 wr [rowRl (.slice none 0 0) [], resF f st]) (fun _ i _ => 100 - (intOf i).toNat)
  case atStart => exact ⟨0, 0, ⟨[], [], 0⟩, Nat.zero_le _, rfl, rfl, by omega, by omega, HF0.out, rfl, Nat.le_refl _, HO.out⟩
  case round =>
    obtain ⟨k, nw, st, hk, rfl, rfl, hw0, hw1, hfw, hrl, hml, hO⟩ := hrel
    replace HO := Lib.hid hO
    have HFW := Lib.hid hfw
    have HRL := Lib.hid hrl
    have HML := Lib.hid hml
    have HM32 := Lib.hid hfw.len
    clear hO hfw hrl hml HF0
    by_cases hlt : k < n ∧ k < 100
    · obtain ⟨hk1, hk2⟩ := hlt
      obtain ⟨b, o, rfl, hcc⟩ := HP.out (by omega)
      have x1 := HOK.out k hk1
      have y0 : wr.cell? ⟨b, o + k, none⟩ = some (.int .i64 (g k)) := keep HO.out.below (hcc k hk1)
      clear hcc
      generalize g k = gk at *
      have P2 := Lib.hid (fun w => pick_b gk 60000 w x1 (by decide))
      obtain ⟨q3, q4⟩ := pk_bd gk 60000 (by decide)
      generalize pk gk 60000 = pn at *
      clear x1
      go_wp2_with fail
      refine (o_still HO.out (P2.out _)).mono ?_
      rintro e x51 ⟨rfl, hO, -⟩
      replace HO := Lib.hid (show Own w none0 x51 [rowRl (.slice none 0 0) [], resF f st] from hO)
      clear hO
      obtain ⟨x52, hx52⟩ : ∃ y, x51.alloc (.cells #[.int .i64 0, .int .i64 0, .int .i64 0, .int .i64 0, .int .i64 0, .bool false, .bool false, .bool false, .int .i64 0] 41) = y := ⟨_, rfl⟩
      obtain ⟨bx, hbx⟩ : ∃ y, x51.heap.size = y := ⟨_, rfl⟩
      have hO := HO.out.alloc (.cells #[.int .i64 0, .int .i64 0, .int .i64 0, .int .i64 0, .int .i64 0, .bool false, .bool false, .bool false, .int .i64 0] 41)
      rw [hx52, hbx] at hO
      replace HO := Lib.hid (show Own w none0 x52 [rowRl (.slice none 0 0) [], resF f st, blkR bx (.cells #[.int .i64 0, .int .i64 0, .int .i64 0, .int .i64 0, .int .i64 0, .bool false, .bool false, .bool false, .int .i64 0] 41)] from hO)
      clear hO
      have k2_0_53 : x52.cell? ⟨bx, 0, none⟩ = some (.int .i64 0) := HO.out.cell 2 rfl 0 rfl
      have lk2_0_53 : x52.frozen? ⟨bx, 0, none⟩ = false := HO.out.frz 2 rfl 0
      have k2_1_54 : x52.cell? ⟨bx, 1, none⟩ = some (.int .i64 0) := HO.out.cell 2 rfl 1 rfl
      have lk2_1_54 : x52.frozen? ⟨bx, 1, none⟩ = false := HO.out.frz 2 rfl 1
      have k2_2_55 : x52.cell? ⟨bx, 2, none⟩ = some (.int .i64 0) := HO.out.cell 2 rfl 2 rfl
      have lk2_2_55 : x52.frozen? ⟨bx, 2, none⟩ = false := HO.out.frz 2 rfl 2
      have k2_3_56 : x52.cell? ⟨bx, 3, none⟩ = some (.int .i64 0) := HO.out.cell 2 rfl 3 rfl
      have lk2_3_56 : x52.frozen? ⟨bx, 3, none⟩ = false := HO.out.frz 2 rfl 3
      have k2_4_57 : x52.cell? ⟨bx, 4, none⟩ = some (.int .i64 0) := HO.out.cell 2 rfl 4 rfl
      have lk2_4_57 : x52.frozen? ⟨bx, 4, none⟩ = false := HO.out.frz 2 rfl 4
      have k2_5_58 : x52.cell? ⟨bx, 5, none⟩ = some (.bool false) := HO.out.cell 2 rfl 5 rfl
      have lk2_5_58 : x52.frozen? ⟨bx, 5, none⟩ = false := HO.out.frz 2 rfl 5
      have k2_6_59 : x52.cell? ⟨bx, 6, none⟩ = some (.bool false) := HO.out.cell 2 rfl 6 rfl
      have lk2_6_59 : x52.frozen? ⟨bx, 6, none⟩ = false := HO.out.frz 2 rfl 6
      have k2_7_60 : x52.cell? ⟨bx, 7, none⟩ = some (.bool false) := HO.out.cell 2 rfl 7 rfl
      have lk2_7_60 : x52.frozen? ⟨bx, 7, none⟩ = false := HO.out.frz 2 rfl 7
      have k2_8_61 : x52.cell? ⟨bx, 8, none⟩ = some (.int .i64 0) := HO.out.cell 2 rfl 8 rfl
      have lk2_8_61 : x52.frozen? ⟨bx, 8, none⟩ = false := HO.out.frz 2 rfl 8
      obtain ⟨x62, hx62⟩ : ∃ y, x52.setCell ⟨bx, 0, none⟩ (.int .i64 17) = y := ⟨_, rfl⟩
      have hO := HO.out.setCell 2 rfl 0 (.int .i64 17)
      rw [hx62] at hO
      replace HO := Lib.hid (show Own w none0 x62 [rowRl (.slice none 0 0) [], resF f st, blkR bx (.cells #[.int .i64 17, .int .i64 0, .int .i64 0, .int .i64 0, .int .i64 0, .bool false, .bool false, .bool false, .int .i64 0] 41)] from hO)
      clear hO
      have k2_1_63 : x62.cell? ⟨bx, 1, none⟩ = some (.int .i64 0) := HO.out.cell 2 rfl 1 rfl
      have lk2_1_63 : x62.frozen? ⟨bx, 1, none⟩ = false := HO.out.frz 2 rfl 1
      have k2_2_64 : x62.cell? ⟨bx, 2, none⟩ = some (.int .i64 0) := HO.out.cell 2 rfl 2 rfl
      have lk2_2_64 : x62.frozen? ⟨bx, 2, none⟩ = false := HO.out.frz 2 rfl 2
      have k2_3_65 : x62.cell? ⟨bx, 3, none⟩ = some (.int .i64 0) := HO.out.cell 2 rfl 3 rfl
      have lk2_3_65 : x62.frozen? ⟨bx, 3, none⟩ = false := HO.out.frz 2 rfl 3
      have k2_4_66 : x62.cell? ⟨bx, 4, none⟩ = some (.int .i64 0) := HO.out.cell 2 rfl 4 rfl
      have lk2_4_66 : x62.frozen? ⟨bx, 4, none⟩ = false := HO.out.frz 2 rfl 4
      have k2_5_67 : x62.cell? ⟨bx, 5, none⟩ = some (.bool false) := HO.out.cell 2 rfl 5 rfl
      have lk2_5_67 : x62.frozen? ⟨bx, 5, none⟩ = false := HO.out.frz 2 rfl 5
      have k2_6_68 : x62.cell? ⟨bx, 6, none⟩ = some (.bool false) := HO.out.cell 2 rfl 6 rfl
      have lk2_6_68 : x62.frozen? ⟨bx, 6, none⟩ = false := HO.out.frz 2 rfl 6
      have k2_7_69 : x62.cell? ⟨bx, 7, none⟩ = some (.bool false) := HO.out.cell 2 rfl 7 rfl
      have lk2_7_69 : x62.frozen? ⟨bx, 7, none⟩ = false := HO.out.frz 2 rfl 7
      have k2_8_70 : x62.cell? ⟨bx, 8, none⟩ = some (.int .i64 0) := HO.out.cell 2 rfl 8 rfl
      have lk2_8_70 : x62.frozen? ⟨bx, 8, none⟩ = false := HO.out.frz 2 rfl 8
      obtain ⟨x71, hx71⟩ : ∃ y, x62.setCell ⟨bx, 1, none⟩ (.int .i64 9) = y := ⟨_, rfl⟩
      have hO := HO.out.setCell 2 rfl 1 (.int .i64 9)
      rw [hx71] at hO
      replace HO := Lib.hid (show Own w none0 x71 [rowRl (.slice none 0 0) [], resF f st, blkR bx (.cells #[.int .i64 17, .int .i64 9, .int .i64 0, .int .i64 0, .int .i64 0, .bool false, .bool false, .bool false, .int .i64 0] 41)] from hO)
      clear hO
      have k2_2_72 : x71.cell? ⟨bx, 2, none⟩ = some (.int .i64 0) := HO.out.cell 2 rfl 2 rfl
      have lk2_2_72 : x71.frozen? ⟨bx, 2, none⟩ = false := HO.out.frz 2 rfl 2
      have k2_3_73 : x71.cell? ⟨bx, 3, none⟩ = some (.int .i64 0) := HO.out.cell 2 rfl 3 rfl
      have lk2_3_73 : x71.frozen? ⟨bx, 3, none⟩ = false := HO.out.frz 2 rfl 3
      have k2_4_74 : x71.cell? ⟨bx, 4, none⟩ = some (.int .i64 0) := HO.out.cell 2 rfl 4 rfl
      have lk2_4_74 : x71.frozen? ⟨bx, 4, none⟩ = false := HO.out.frz 2 rfl 4
      have k2_5_75 : x71.cell? ⟨bx, 5, none⟩ = some (.bool false) := HO.out.cell 2 rfl 5 rfl
      have lk2_5_75 : x71.frozen? ⟨bx, 5, none⟩ = false := HO.out.frz 2 rfl 5
      have k2_6_76 : x71.cell? ⟨bx, 6, none⟩ = some (.bool false) := HO.out.cell 2 rfl 6 rfl
      have lk2_6_76 : x71.frozen? ⟨bx, 6, none⟩ = false := HO.out.frz 2 rfl 6
      have k2_7_77 : x71.cell? ⟨bx, 7, none⟩ = some (.bool false) := HO.out.cell 2 rfl 7 rfl
      have lk2_7_77 : x71.frozen? ⟨bx, 7, none⟩ = false := HO.out.frz 2 rfl 7
      have k2_8_78 : x71.cell? ⟨bx, 8, none⟩ = some (.int .i64 0) := HO.out.cell 2 rfl 8 rfl
      have lk2_8_78 : x71.frozen? ⟨bx, 8, none⟩ = false := HO.out.frz 2 rfl 8
      obtain ⟨x79, hx79⟩ : ∃ y, x71.setCell ⟨bx, 2, none⟩ (.int .i64 (1 + pn)) = y := ⟨_, rfl⟩
      have hO := HO.out.setCell 2 rfl 2 (.int .i64 (1 + pn))
      rw [hx79] at hO
      replace HO := Lib.hid (show Own w none0 x79 [rowRl (.slice none 0 0) [], resF f st, blkR bx (.cells #[.int .i64 17, .int .i64 9, .int .i64 (1 + pn), .int .i64 0, .int .i64 0, .bool false, .bool false, .bool false, .int .i64 0] 41)] from hO)
      clear hO
      have k2_3_80 : x79.cell? ⟨bx, 3, none⟩ = some (.int .i64 0) := HO.out.cell 2 rfl 3 rfl
      have lk2_3_80 : x79.frozen? ⟨bx, 3, none⟩ = false := HO.out.frz 2 rfl 3
      have k2_4_81 : x79.cell? ⟨bx, 4, none⟩ = some (.int .i64 0) := HO.out.cell 2 rfl 4 rfl
      have lk2_4_81 : x79.frozen? ⟨bx, 4, none⟩ = false := HO.out.frz 2 rfl 4
      have k2_5_82 : x79.cell? ⟨bx, 5, none⟩ = some (.bool false) := HO.out.cell 2 rfl 5 rfl
      have lk2_5_82 : x79.frozen? ⟨bx, 5, none⟩ = false := HO.out.frz 2 rfl 5
      have k2_6_83 : x79.cell? ⟨bx, 6, none⟩ = some (.bool false) := HO.out.cell 2 rfl 6 rfl
      have lk2_6_83 : x79.frozen? ⟨bx, 6, none⟩ = false := HO.out.frz 2 rfl 6
      have k2_7_84 : x79.cell? ⟨bx, 7, none⟩ = some (.bool false) := HO.out.cell 2 rfl 7 rfl
      have lk2_7_84 : x79.frozen? ⟨bx, 7, none⟩ = false := HO.out.frz 2 rfl 7
      have k2_8_85 : x79.cell? ⟨bx, 8, none⟩ = some (.int .i64 0) := HO.out.cell 2 rfl 8 rfl
      have lk2_8_85 : x79.frozen? ⟨bx, 8, none⟩ = false := HO.out.frz 2 rfl 8
      obtain ⟨x86, hx86⟩ : ∃ y, x79.setCell ⟨bx, 3, none⟩ (.int .i64 2) = y := ⟨_, rfl⟩
      have hO := HO.out.setCell 2 rfl 3 (.int .i64 2)
      rw [hx86] at hO
      replace HO := Lib.hid (show Own w none0 x86 [rowRl (.slice none 0 0) [], resF f st, blkR bx (.cells #[.int .i64 17, .int .i64 9, .int .i64 (1 + pn), .int .i64 2, .int .i64 0, .bool false, .bool false, .bool false, .int .i64 0] 41)] from hO)
      clear hO
      have k2_4_87 : x86.cell? ⟨bx, 4, none⟩ = some (.int .i64 0) := HO.out.cell 2 rfl 4 rfl
      have lk2_4_87 : x86.frozen? ⟨bx, 4, none⟩ = false := HO.out.frz 2 rfl 4
      have k2_5_88 : x86.cell? ⟨bx, 5, none⟩ = some (.bool false) := HO.out.cell 2 rfl 5 rfl
      have lk2_5_88 : x86.frozen? ⟨bx, 5, none⟩ = false := HO.out.frz 2 rfl 5
      have k2_6_89 : x86.cell? ⟨bx, 6, none⟩ = some (.bool false) := HO.out.cell 2 rfl 6 rfl
      have lk2_6_89 : x86.frozen? ⟨bx, 6, none⟩ = false := HO.out.frz 2 rfl 6
      have k2_7_90 : x86.cell? ⟨bx, 7, none⟩ = some (.bool false) := HO.out.cell 2 rfl 7 rfl
      have lk2_7_90 : x86.frozen? ⟨bx, 7, none⟩ = false := HO.out.frz 2 rfl 7
      have k2_8_91 : x86.cell? ⟨bx, 8, none⟩ = some (.int .i64 0) := HO.out.cell 2 rfl 8 rfl
      have lk2_8_91 : x86.frozen? ⟨bx, 8, none⟩ = false := HO.out.frz 2 rfl 8
      obtain ⟨x92, hx92⟩ : ∃ y, x86.setCell ⟨bx, 4, none⟩ (.int .i64 53) = y := ⟨_, rfl⟩
      have hO := HO.out.setCell 2 rfl 4 (.int .i64 53)
      rw [hx92] at hO
      replace HO := Lib.hid (show Own w none0 x92 [rowRl (.slice none 0 0) [], resF f st, blkR bx (.cells #[.int .i64 17, .int .i64 9, .int .i64 (1 + pn), .int .i64 2, .int .i64 53, .bool false, .bool false, .bool false, .int .i64 0] 41)] from hO)
      clear hO
      have k2_5_93 : x92.cell? ⟨bx, 5, none⟩ = some (.bool false) := HO.out.cell 2 rfl 5 rfl
      have lk2_5_93 : x92.frozen? ⟨bx, 5, none⟩ = false := HO.out.frz 2 rfl 5
      have k2_6_94 : x92.cell? ⟨bx, 6, none⟩ = some (.bool false) := HO.out.cell 2 rfl 6 rfl
      have lk2_6_94 : x92.frozen? ⟨bx, 6, none⟩ = false := HO.out.frz 2 rfl 6
      have k2_7_95 : x92.cell? ⟨bx, 7, none⟩ = some (.bool false) := HO.out.cell 2 rfl 7 rfl
      have lk2_7_95 : x92.frozen? ⟨bx, 7, none⟩ = false := HO.out.frz 2 rfl 7
      have k2_8_96 : x92.cell? ⟨bx, 8, none⟩ = some (.int .i64 0) := HO.out.cell 2 rfl 8 rfl
      have lk2_8_96 : x92.frozen? ⟨bx, 8, none⟩ = false := HO.out.frz 2 rfl 8
      obtain ⟨x97, hx97⟩ : ∃ y, x92.setCell ⟨bx, 5, none⟩ (.bool false) = y := ⟨_, rfl⟩
      have hO := HO.out.setCell 2 rfl 5 (.bool false)
      rw [hx97] at hO
      replace HO := Lib.hid (show Own w none0 x97 [rowRl (.slice none 0 0) [], resF f st, blkR bx (.cells #[.int .i64 17, .int .i64 9, .int .i64 (1 + pn), .int .i64 2, .int .i64 53, .bool false, .bool false, .bool false, .int .i64 0] 41)] from hO)
      clear hO
      have k2_6_98 : x97.cell? ⟨bx, 6, none⟩ = some (.bool false) := HO.out.cell 2 rfl 6 rfl
      have lk2_6_98 : x97.frozen? ⟨bx, 6, none⟩ = false := HO.out.frz 2 rfl 6
      have k2_7_99 : x97.cell? ⟨bx, 7, none⟩ = some (.bool false) := HO.out.cell 2 rfl 7 rfl
      have lk2_7_99 : x97.frozen? ⟨bx, 7, none⟩ = false := HO.out.frz 2 rfl 7
      have k2_8_100 : x97.cell? ⟨bx, 8, none⟩ = some (.int .i64 0) := HO.out.cell 2 rfl 8 rfl
      have lk2_8_100 : x97.frozen? ⟨bx, 8, none⟩ = false := HO.out.frz 2 rfl 8
      obtain ⟨x101, hx101⟩ : ∃ y, x97.setCell ⟨bx, 6, none⟩ (.bool false) = y := ⟨_, rfl⟩
      have hO := HO.out.setCell 2 rfl 6 (.bool false)
      rw [hx101] at hO
      replace HO := Lib.hid (show Own w none0 x101 [rowRl (.slice none 0 0) [], resF f st, blkR bx (.cells #[.int .i64 17, .int .i64 9, .int .i64 (1 + pn), .int .i64 2, .int .i64 53, .bool false, .bool false, .bool false, .int .i64 0] 41)] from hO)
      clear hO
      have k2_7_102 : x101.cell? ⟨bx, 7, none⟩ = some (.bool false) := HO.out.cell 2 rfl 7 rfl
      have lk2_7_102 : x101.frozen? ⟨bx, 7, none⟩ = false := HO.out.frz 2 rfl 7
      have k2_8_103 : x101.cell? ⟨bx, 8, none⟩ = some (.int .i64 0) := HO.out.cell 2 rfl 8 rfl
      have lk2_8_103 : x101.frozen? ⟨bx, 8, none⟩ = false := HO.out.frz 2 rfl 8
      obtain ⟨x104, hx104⟩ : ∃ y, x101.setCell ⟨bx, 7, none⟩ (.bool false) = y := ⟨_, rfl⟩
      have hO := HO.out.setCell 2 rfl 7 (.bool false)
      rw [hx104] at hO
      replace HO := Lib.hid (show Own w none0 x104 [rowRl (.slice none 0 0) [], resF f st, blkR bx (.cells #[.int .i64 17, .int .i64 9, .int .i64 (1 + pn), .int .i64 2, .int .i64 53, .bool false, .bool false, .bool false, .int .i64 0] 41)] from hO)
      clear hO
      have k2_8_105 : x104.cell? ⟨bx, 8, none⟩ = some (.int .i64 0) := HO.out.cell 2 rfl 8 rfl
      have lk2_8_105 : x104.frozen? ⟨bx, 8, none⟩ = false := HO.out.frz 2 rfl 8
      obtain ⟨x106, hx106⟩ : ∃ y, x104.setCell ⟨bx, 8, none⟩ (.int .i64 0) = y := ⟨_, rfl⟩
      have hO := HO.out.setCell 2 rfl 8 (.int .i64 0)
      rw [hx106] at hO
      replace HO := Lib.hid (show Own w none0 x106 [rowRl (.slice none 0 0) [], resF f st, blkR bx (.cells #[.int .i64 17, .int .i64 9, .int .i64 (1 + pn), .int .i64 2, .int .i64 53, .bool false, .bool false, .bool false, .int .i64 0] 41)] from hO)
      clear hO
      go_wp2_with fail
      refine (o_still HO.out (P1.out _)).mono ?_
      rintro e x107 ⟨rfl, hO, -⟩
      replace HO := Lib.hid (show Own w none0 x107 [rowRl (.slice none 0 0) [], resF f st, blkR bx (.cells #[.int .i64 17, .int .i64 9, .int .i64 (1 + pn), .int .i64 2, .int .i64 53, .bool false, .bool false, .bool false, .int .i64 0] 41)] from hO)
      clear hO
      clear hx52 hbx k2_0_53 lk2_0_53 k2_1_54 lk2_1_54 k2_2_55 lk2_2_55 k2_3_56 lk2_3_56 k2_4_57 lk2_4_57 k2_5_58 lk2_5_58 k2_6_59 lk2_6_59 k2_7_60 lk2_7_60 k2_8_61 lk2_8_61 hx62 k2_1_63 lk2_1_63 k2_2_64 lk2_2_64 k2_3_65 lk2_3_65 k2_4_66 lk2_4_66 k2_5_67 lk2_5_67 k2_6_68 lk2_6_68 k2_7_69 lk2_7_69 k2_8_70 lk2_8_70 hx71 k2_2_72 lk2_2_72 k2_3_73 lk2_3_73 k2_4_74 lk2_4_74 k2_5_75 lk2_5_75 k2_6_76 lk2_6_76 k2_7_77 lk2_7_77 k2_8_78 lk2_8_78 hx79 k2_3_80 lk2_3_80 k2_4_81 lk2_4_81 k2_5_82 lk2_5_82 k2_6_83 lk2_6_83 k2_7_84 lk2_7_84 k2_8_85 lk2_8_85 hx86 k2_4_87 lk2_4_87 k2_5_88 lk2_5_88 k2_6_89 lk2_6_89 k2_7_90 lk2_7_90 k2_8_91 lk2_8_91 hx92 k2_5_93 lk2_5_93 k2_6_94 lk2_6_94 k2_7_95 lk2_7_95 k2_8_96 lk2_8_96 hx97 k2_6_98 lk2_6_98 k2_7_99 lk2_7_99 k2_8_100 lk2_8_100 hx101 k2_7_102 lk2_7_102 k2_8_103 lk2_8_103 hx104 k2_8_105 lk2_8_105 hx106
      clear y0
      have z2_0 : x107.cell? ⟨bx, 0, none⟩ = some (.int .i64 17) := HO.out.cell 2 rfl 0 rfl
      have z2_1 : x107.cell? ⟨bx, 1, none⟩ = some (.int .i64 9) := HO.out.cell 2 rfl 1 rfl
      have z2_2 : x107.cell? ⟨bx, 2, none⟩ = some (.int .i64 (1 + pn)) := HO.out.cell 2 rfl 2 rfl
      have z2_3 : x107.cell? ⟨bx, 3, none⟩ = some (.int .i64 2) := HO.out.cell 2 rfl 3 rfl
      have z2_4 : x107.cell? ⟨bx, 4, none⟩ = some (.int .i64 53) := HO.out.cell 2 rfl 4 rfl
      have z2_5 : x107.cell? ⟨bx, 5, none⟩ = some (.bool false) := HO.out.cell 2 rfl 5 rfl
      have z2_6 : x107.cell? ⟨bx, 6, none⟩ = some (.bool false) := HO.out.cell 2 rfl 6 rfl
      have z2_7 : x107.cell? ⟨bx, 7, none⟩ = some (.bool false) := HO.out.cell 2 rfl 7 rfl
      have z2_8 : x107.cell? ⟨bx, 8, none⟩ = some (.int .i64 0) := HO.out.cell 2 rfl 8 rfl
      go_wp2_with fail
      refine (did_o (T := nw) (N := 2 * k) (how := 0) (x := tbX pn) HO.out 1 rfl HFW.out (by omega) (by omega) (by unfold timeB; omega) (by unfold i64B; omega)).mono ?_
      rintro e y108 ⟨⟨r, st1⟩, v, ⟨hP, rfl⟩, rfl, hO, -⟩
      clear z2_0 z2_1 z2_2 z2_3 z2_4 z2_5 z2_6 z2_7 z2_8
      simp only at hP hO ⊢
      replace HO := Lib.hid (show Own w none0 y108 [rowRl (.slice none 0 0) [], resF f st1, blkR bx (.cells #[.int .i64 17, .int .i64 9, .int .i64 (1 + pn), .int .i64 2, .int .i64 53, .bool false, .bool false, .bool false, .int .i64 0] 41)] from hO)
      clear hO
      obtain rfl : r = true := tb_out HFW.out HRL.out q3 q4 hP
      have HD1 := Lib.hid hP
      clear hP
      simp only [i01_t]
      have HA1 := Lib.hid (did_fw HFW.out (show nw ≤ nw + pa by omega) (by omega) HD1.out)
      have z2_0 : y108.cell? ⟨bx, 0, none⟩ = some (.int .i64 17) := HO.out.cell 2 rfl 0 rfl
      have z2_1 : y108.cell? ⟨bx, 1, none⟩ = some (.int .i64 9) := HO.out.cell 2 rfl 1 rfl
      have z2_2 : y108.cell? ⟨bx, 2, none⟩ = some (.int .i64 (1 + pn)) := HO.out.cell 2 rfl 2 rfl
      have z2_3 : y108.cell? ⟨bx, 3, none⟩ = some (.int .i64 2) := HO.out.cell 2 rfl 3 rfl
      have z2_4 : y108.cell? ⟨bx, 4, none⟩ = some (.int .i64 53) := HO.out.cell 2 rfl 4 rfl
      have z2_5 : y108.cell? ⟨bx, 5, none⟩ = some (.bool false) := HO.out.cell 2 rfl 5 rfl
      have z2_6 : y108.cell? ⟨bx, 6, none⟩ = some (.bool false) := HO.out.cell 2 rfl 6 rfl
      have z2_7 : y108.cell? ⟨bx, 7, none⟩ = some (.bool false) := HO.out.cell 2 rfl 7 rfl
      have z2_8 : y108.cell? ⟨bx, 8, none⟩ = some (.int .i64 0) := HO.out.cell 2 rfl 8 rfl
      go_wp2_with fail
      refine (did_o (T := nw + pa) (N := 2 * k + 1) (how := 4) (x := tbX pn) HO.out 1 rfl HA1.out.1 (by omega) (by omega) (by unfold timeB; omega) (by unfold i64B; omega)).mono ?_
      rintro e y109 ⟨⟨r, st2⟩, v, ⟨hP, rfl⟩, rfl, hO, -⟩
      clear z2_0 z2_1 z2_2 z2_3 z2_4 z2_5 z2_6 z2_7 z2_8
      simp only at hP hO ⊢
      replace HO := Lib.hid (show Own w none0 y109 [rowRl (.slice none 0 0) [], resF f st2, blkR bx (.cells #[.int .i64 17, .int .i64 9, .int .i64 (1 + pn), .int .i64 2, .int .i64 53, .bool false, .bool false, .bool false, .int .i64 0] 41)] from hO)
      clear hO
      obtain ⟨hr, hl1⟩ := tb_quo HFW.out (show nw ≤ nw + pa by omega) (by omega) q3 q4 HD1.out hP
      subst hr
      have HD2 := Lib.hid hP
      have HL1 := Lib.hid hl1
      clear hP hl1
      simp only [i01_t]
      have HA2 := Lib.hid (did_fw HA1.out.1 (Int.le_refl _) (by omega) HD2.out)
      obtain ⟨ln, hln⟩ : ∃ ln, st2.m.length = ln := ⟨_, rfl⟩
      have HLN := Lib.hid hln
      have hd1 : ln ≤ 32 := by rw [← hln]; exact HA2.out.1.len
      have hd2 : 1 ≤ ln := by rw [← hln]; exact HL1.out
      have hd3 : ln ≤ k + 1 := by
        have e1 := HA1.out.2.len
        have e2 : st2.m = expF (nw + pa) st1.m := by rw [(did_quo HD2.out).2]
        have e3 := expF_len (nw + pa) st1.m
        have e4 := HML.out
        rw [← hln, e2]; omega
      clear hln
      have g1 : decide ((32 : Int) < ln) = false := by simp; omega
      have g2 : decide ((ln : Int) < 1) = false := by simp; omega
      go_wp2_with fail
      refine (flen_f (n := ln) HO.out 1 rfl HLN.out).mono ?_
      rintro e x110 ⟨rfl, hO, -⟩
      replace HO := Lib.hid (show Own w none0 x110 [rowRl (.slice none 0 0) [], resF f st2, blkR bx (.cells #[.int .i64 17, .int .i64 9, .int .i64 (1 + pn), .int .i64 2, .int .i64 53, .bool false, .bool false, .bool false, .int .i64 0] 41)] from hO)
      clear hO
      go_wp2_with fail
      refine (flen_f (n := ln) HO.out 1 rfl HLN.out).mono ?_
      rintro e x111 ⟨rfl, hO, -⟩
      replace HO := Lib.hid (show Own w none0 x111 [rowRl (.slice none 0 0) [], resF f st2, blkR bx (.cells #[.int .i64 17, .int .i64 9, .int .i64 (1 + pn), .int .i64 2, .int .i64 53, .bool false, .bool false, .bool false, .int .i64 0] 41)] from hO)
      clear hO
      have HRL2 := Lib.hid (show st2.rl = [] by rw [HA2.out.2.rl, HA1.out.2.rl, HRL.out])
      have HFW2 := Lib.hid (show FW (nw + pa) (2 * ((k + 1 : Nat) : Int)) st2 from HA2.out.1.mono (Int.le_refl _) (by omega))
      have HML2 := Lib.hid (show st2.m.length ≤ k + 1 by rw [HLN.out]; exact hd3)
      go_wp2
      go_roundw
      case rel => exact ⟨k + 1, nw + pa, st2, by omega, rfl, by go_num, by omega, by omega, HFW2.out, HRL2.out, HML2.out, HO.out.take 2⟩
      case measure => simp [intOf]; omega
    · obtain ⟨ln, hln⟩ : ∃ ln, st.m.length = ln := ⟨_, rfl⟩
      have HLN := Lib.hid hln
      have hd1 : ln ≤ 32 := by rw [← hln]; exact HM32.out
      have hd3 : ln ≤ k := by rw [← hln]; exact HML.out
      have hke : k = min n 100 := by omega
      have g1 : decide ((ln : Int) ≤ mnF n 32) = true := decide_eq_true (by unfold mnF; omega)
      clear hln hd1 hd3
      by_cases h1 : k < n
      · have h2 : ¬ (k : Int) < 100 := by omega
        clear hlt hk hke
        go_wp2_with fail
        refine (flen_f (n := ln) HO.out 1 rfl HLN.out).mono ?_
        rintro e x91 ⟨rfl, hO, -⟩
        replace HO := Lib.hid (show Own w none0 x91 [rowRl (.slice none 0 0) [], resF f st] from hO)
        clear hO
        go_wp2
        go_ret
        exact ⟨rfl, HO.out.below⟩
      · clear hlt hk hke
        go_wp2_with fail
        refine (flen_f (n := ln) HO.out 1 rfl HLN.out).mono ?_
        rintro e x91 ⟨rfl, hO, -⟩
        replace HO := Lib.hid (show Own w none0 x91 [rowRl (.slice none 0 0) [], resF f st] from hO)
        clear hO
        go_wp2
        go_ret
        exact ⟨rfl, HO.out.below⟩
end

end Go.Proofs.Ythhoknhjbkkflaa
