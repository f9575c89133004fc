/- Contracts of the laws' helpers of chapter 20: pick, Name, Rec. Printed by wip/tools/gen20n.py. -/
import Derived.Test.YtapeljiopbkjlaaGreatDoorCput
namespace Go.Proofs.YtapeljiopbkjlaaGreatDoor
open Go.RowKit Go.Sort
set_option linter.unusedVariables false
set_option maxRecDepth 100000

theorem ret_i64' {a b : Int} (h : a = b) : Ending.returned (.int .i64 a) = .returned (.int .i64 b) := by rw [h]
def pk (c n : Int) : Int := (if c < 0 then -(c + 1) else c) % n
theorem pk_bd (c n : Int) (h : 0 < n) : 0 ≤ pk c n ∧ pk c n < n := by
  unfold pk; exact ⟨Int.emod_nonneg _ (by omega), Int.emod_lt_of_pos _ h⟩
theorem pick_any (c n : Int) (w : World) (hc : -9223372036854775808 ≤ c ∧ c ≤ 9223372036854775807) (hn : 0 < n) :
    Calls Tryz.prog 6 #[.int .i64 c, .int .i64 n] w fun e w' => e = .returned (.int .i64 (pk c n)) ∧ w = w' := by
  obtain ⟨hc1, hc2⟩ := hc
  have hz : (n == 0) = false := by simp; omega
  by_cases h : c < 0
  · have HP := Lib.hid (show pk c n = (-(c + 1)) % n by simp [pk, h])
    go_enter Tryz.func6, Tryz.ntmps6
    go_wp2
    all_goals go_ret
    all_goals exact ⟨ret_i64' (by rw [HP.out, ← Int.neg_tmod, Int.tmod_eq_emod_of_nonneg (by omega)]), rfl⟩
  · have HP := Lib.hid (show pk c n = c % n by simp [pk, h])
    go_enter Tryz.func6, Tryz.ntmps6
    go_wp2
    all_goals go_ret
    all_goals exact ⟨ret_i64' (by rw [HP.out]), rfl⟩
theorem pick_b (c n : Int) (w : World) (hc : -9223372036854775808 ≤ c ∧ c ≤ 9223372036854775807) (hn : 0 < n) :
    Calls Tryz.prog 6 #[.int .i64 c, .int .i64 n] w fun e w' => e = .returned (.int .i64 (pk c n)) ∧ Below w.heap.size w w' := (pick_any c n w hc hn).mono fun e w' ⟨h1, h2⟩ => ⟨h1, h2 ▸ Below.refl _ _⟩
def i64B (n : Int) : Prop := -9223372036854775808 ≤ n ∧ n ≤ 9223372036854775807
def nmAt : Nat → ByteArray
  | 0 => ⟨#[97]⟩
  | 1 => ⟨#[97, 46, 98]⟩
  | 2 => ⟨#[119, 119, 119, 46, 97, 46, 98]⟩
  | 3 => ⟨#[120, 45, 49, 46, 99]⟩
  | _ => ⟨#[122, 122]⟩
def nmF (n : Int) : ByteArray := nmAt (pk n 5).toNat
theorem nmAt_size (k : Nat) : (nmAt k).size ≤ 7 := by
  unfold nmAt; split <;> decide
theorem nmF_max (n : Int) : (nmF n).size ≤ maxLen := Nat.le_trans (nmAt_size _) (by decide)
theorem pk5 (n : Int) : pk n 5 = 0 ∨ pk n 5 = 1 ∨ pk n 5 = 2 ∨ pk n 5 = 3 ∨ pk n 5 = 4 := by have := pk_bd n 5 (by decide); omega
theorem run_bsN (w : World) : (Instr.buildSlice 87 5 #[(0, .string ⟨#[97]⟩), (1, .string ⟨#[97, 46, 98]⟩), (2, .string ⟨#[119, 119, 119, 46, 97, 46, 98]⟩), (3, .string ⟨#[120, 45, 49, 46, 99]⟩), (4, .string ⟨#[122, 122]⟩)]).run Tryz.prog w = .ok (.slice (some ⟨w.heap.size, 0, none⟩) 5 5) (w.alloc (.cells #[.string ⟨#[97]⟩, .string ⟨#[97, 46, 98]⟩, .string ⟨#[119, 119, 119, 46, 97, 46, 98]⟩, .string ⟨#[120, 45, 49, 46, 99]⟩, .string ⟨#[122, 122]⟩] 9)) := by kernel_rfl
theorem name_any (n : Int) (w : World) (hn : i64B n) : Calls Tryz.prog 16 #[.int .i64 n] w fun e w' => e = .returned (.string (nmF n)) ∧ Below w.heap.size w w' := by
  have P := Lib.hid (fun w => pick_b n 5 w hn (by decide))
  have rb := run_bsN
  have HF := Lib.hid (show nmF n = nmAt (pk n 5).toNat from rfl)
  have h5 := pk5 n
  generalize pk n 5 = q at *
  clear hn
  obtain ⟨x1, hx1⟩ : ∃ y, w.alloc (.cells #[.string ⟨#[97]⟩, .string ⟨#[97, 46, 98]⟩, .string ⟨#[119, 119, 119, 46, 97, 46, 98]⟩, .string ⟨#[120, 45, 49, 46, 99]⟩, .string ⟨#[122, 122]⟩] 9) = y := ⟨_, rfl⟩
  obtain ⟨b, hb⟩ : ∃ y, w.heap.size = y := ⟨_, rfl⟩
  have hO := (Own.nil w none0).alloc (.cells #[.string ⟨#[97]⟩, .string ⟨#[97, 46, 98]⟩, .string ⟨#[119, 119, 119, 46, 97, 46, 98]⟩, .string ⟨#[120, 45, 49, 46, 99]⟩, .string ⟨#[122, 122]⟩] 9)
  rw [hx1, hb] at hO
  have HO := Lib.hid (show Own w none0 x1 [blkR b (.cells #[.string ⟨#[97]⟩, .string ⟨#[97, 46, 98]⟩, .string ⟨#[119, 119, 119, 46, 97, 46, 98]⟩, .string ⟨#[120, 45, 49, 46, 99]⟩, .string ⟨#[122, 122]⟩] 9)] from hO)
  clear hO
  rcases h5 with rfl | rfl | rfl | rfl | rfl
  · go_enter Tryz.func16, Tryz.ntmps16
    go_wp2_with fail
    refine (o_still HO.out (P.out _)).mono ?_
    rintro e x2 ⟨rfl, hO, -⟩
    replace HO := Lib.hid (show Own w none0 x2 [blkR b (.cells #[.string ⟨#[97]⟩, .string ⟨#[97, 46, 98]⟩, .string ⟨#[119, 119, 119, 46, 97, 46, 98]⟩, .string ⟨#[120, 45, 49, 46, 99]⟩, .string ⟨#[122, 122]⟩] 9)] from hO)
    clear hO hx1 hb rb
    have z0_0 : x2.cell? ⟨b, 0, none⟩ = some (.string ⟨#[97]⟩) := HO.out.cell 0 rfl 0 rfl
    go_wp2
    go_ret
    exact ⟨by rw [HF.out]; rfl, HO.out.below⟩
  · go_enter Tryz.func16, Tryz.ntmps16
    go_wp2_with fail
    refine (o_still HO.out (P.out _)).mono ?_
    rintro e x2 ⟨rfl, hO, -⟩
    replace HO := Lib.hid (show Own w none0 x2 [blkR b (.cells #[.string ⟨#[97]⟩, .string ⟨#[97, 46, 98]⟩, .string ⟨#[119, 119, 119, 46, 97, 46, 98]⟩, .string ⟨#[120, 45, 49, 46, 99]⟩, .string ⟨#[122, 122]⟩] 9)] from hO)
    clear hO hx1 hb rb
    have z0_1 : x2.cell? ⟨b, 1, none⟩ = some (.string ⟨#[97, 46, 98]⟩) := HO.out.cell 0 rfl 1 rfl
    go_wp2
    go_ret
    exact ⟨by rw [HF.out]; rfl, HO.out.below⟩
  · go_enter Tryz.func16, Tryz.ntmps16
    go_wp2_with fail
    refine (o_still HO.out (P.out _)).mono ?_
    rintro e x2 ⟨rfl, hO, -⟩
    replace HO := Lib.hid (show Own w none0 x2 [blkR b (.cells #[.string ⟨#[97]⟩, .string ⟨#[97, 46, 98]⟩, .string ⟨#[119, 119, 119, 46, 97, 46, 98]⟩, .string ⟨#[120, 45, 49, 46, 99]⟩, .string ⟨#[122, 122]⟩] 9)] from hO)
    clear hO hx1 hb rb
    have z0_2 : x2.cell? ⟨b, 2, none⟩ = some (.string ⟨#[119, 119, 119, 46, 97, 46, 98]⟩) := HO.out.cell 0 rfl 2 rfl
    go_wp2
    go_ret
    exact ⟨by rw [HF.out]; rfl, HO.out.below⟩
  · go_enter Tryz.func16, Tryz.ntmps16
    go_wp2_with fail
    refine (o_still HO.out (P.out _)).mono ?_
    rintro e x2 ⟨rfl, hO, -⟩
    replace HO := Lib.hid (show Own w none0 x2 [blkR b (.cells #[.string ⟨#[97]⟩, .string ⟨#[97, 46, 98]⟩, .string ⟨#[119, 119, 119, 46, 97, 46, 98]⟩, .string ⟨#[120, 45, 49, 46, 99]⟩, .string ⟨#[122, 122]⟩] 9)] from hO)
    clear hO hx1 hb rb
    have z0_3 : x2.cell? ⟨b, 3, none⟩ = some (.string ⟨#[120, 45, 49, 46, 99]⟩) := HO.out.cell 0 rfl 3 rfl
    go_wp2
    go_ret
    exact ⟨by rw [HF.out]; rfl, HO.out.below⟩
  · go_enter Tryz.func16, Tryz.ntmps16
    go_wp2_with fail
    refine (o_still HO.out (P.out _)).mono ?_
    rintro e x2 ⟨rfl, hO, -⟩
    replace HO := Lib.hid (show Own w none0 x2 [blkR b (.cells #[.string ⟨#[97]⟩, .string ⟨#[97, 46, 98]⟩, .string ⟨#[119, 119, 119, 46, 97, 46, 98]⟩, .string ⟨#[120, 45, 49, 46, 99]⟩, .string ⟨#[122, 122]⟩] 9)] from hO)
    clear hO hx1 hb rb
    have z0_4 : x2.cell? ⟨b, 4, none⟩ = some (.string ⟨#[122, 122]⟩) := HO.out.cell 0 rfl 4 rfl
    go_wp2
    go_ret
    exact ⟨by rw [HF.out]; rfl, HO.out.below⟩
theorem name_r {n : Int} {s : ByteArray} (h : nmF n = s) (hn : i64B n) (w : World) : Calls Tryz.prog 16 #[.int .i64 n] w fun e w' => e = .returned (.string s) ∧ Below w.heap.size w w' := h ▸ name_any n w hn
structure Rw where
  nm : Int
  kd : Int
  tt : Int
  ad : Int
abbrev rwA (x : Rw) : Array Value := #[.int .i64 x.nm, .int .i64 x.kd, .int .i64 x.tt, .int .i64 x.ad]
structure RwOk (x : Rw) : Prop where
  nm : i64B x.nm
  kd : i64B x.kd
  tt : i64B x.tt
  ad : i64B x.ad
def recF (x : Rw) : Rc := if pk x.kd 3 = 0 then ⟨nmF x.nm, 2, pk x.tt 30, 0, nmF x.ad⟩ else ⟨nmF x.nm, 1, pk x.tt 30, 1 + pk x.ad 9, ⟨#[]⟩⟩
set_option maxHeartbeats 4000000 in
theorem rec_any (x : Rw) (hx : RwOk x) (w : World) : Calls Tryz.prog 5 #[.agg (rwA x)] w fun e w' => e = .returned (rcV (recF x)) ∧ Below w.heap.size w w' := by
  have P1 := Lib.hid (fun w => name_any x.nm w hx.nm)
  have P2 := Lib.hid (fun w => pick_b x.tt 30 w hx.tt (by decide))
  have P3 := Lib.hid (fun w => pick_b x.ad 9 w hx.ad (by decide))
  have P4 := Lib.hid (fun w => pick_b x.kd 3 w hx.kd (by decide))
  have P5 := Lib.hid (fun w => name_any x.ad w hx.ad)
  have HF := Lib.hid (show recF x = if pk x.kd 3 = 0 then ⟨nmF x.nm, 2, pk x.tt 30, 0, nmF x.ad⟩ else ⟨nmF x.nm, 1, pk x.tt 30, 1 + pk x.ad 9, ⟨#[]⟩⟩ from rfl)
  have q3 := pk_bd x.ad 9 (by decide)
  obtain ⟨nm, kd, tt, ad⟩ := x
  simp only at P1 P2 P3 P4 P5 HF q3
  clear hx
  generalize nmF nm = n1 at *
  generalize nmF ad = n5 at *
  generalize pk tt 30 = n2 at *
  generalize pk ad 9 = n3 at *
  generalize pk kd 3 = n4 at *
  obtain ⟨q31, q32⟩ := q3
  have HO := Lib.hid (show Own w none0 w [] from Own.nil w none0)
  obtain ⟨x1, hx1⟩ : ∃ y, w.alloc (.cells #[.int .i64 nm, .int .i64 kd, .int .i64 tt, .int .i64 ad] 31) = y := ⟨_, rfl⟩
  obtain ⟨bx, hbx⟩ : ∃ y, w.heap.size = y := ⟨_, rfl⟩
  have hO := HO.out.alloc (.cells #[.int .i64 nm, .int .i64 kd, .int .i64 tt, .int .i64 ad] 31)
  rw [hx1, hbx] at hO
  replace HO := Lib.hid (show Own w none0 x1 [blkR bx (.cells #[.int .i64 nm, .int .i64 kd, .int .i64 tt, .int .i64 ad] 31)] from hO)
  clear hO
  obtain ⟨x2, hx2⟩ : ∃ y, x1.alloc (.cells #[.string ⟨#[]⟩, .int .i64 0, .int .i64 0, .int .i64 0, .string ⟨#[]⟩] 28) = y := ⟨_, rfl⟩
  obtain ⟨br, hbr⟩ : ∃ y, x1.heap.size = y := ⟨_, rfl⟩
  have hO := HO.out.alloc (.cells #[.string ⟨#[]⟩, .int .i64 0, .int .i64 0, .int .i64 0, .string ⟨#[]⟩] 28)
  rw [hx2, hbr] at hO
  replace HO := Lib.hid (show Own w none0 x2 [blkR bx (.cells #[.int .i64 nm, .int .i64 kd, .int .i64 tt, .int .i64 ad] 31), blkR br (.cells #[.string ⟨#[]⟩, .int .i64 0, .int .i64 0, .int .i64 0, .string ⟨#[]⟩] 28)] from hO)
  clear hO
  go_enter Tryz.func5, Tryz.ntmps5
  go_wp2
  clear hx1 hbx hx2 hbr
  have g0_0 := cell_regrown (show x2.cell? ⟨bx, 0, none⟩ = some (.int .i64 nm) from HO.out.cell 0 rfl 0 rfl)
  have g0_2 := cell_regrown (show x2.cell? ⟨bx, 2, none⟩ = some (.int .i64 tt) from HO.out.cell 0 rfl 2 rfl)
  have g0_3 := cell_regrown (show x2.cell? ⟨bx, 3, none⟩ = some (.int .i64 ad) from HO.out.cell 0 rfl 3 rfl)
  have hs : IntKind.i64.wrap (1 + n3) = 1 + n3 := IntWalk.i64_in _ (by omega)
  refine wp_region_R 12 (by kernel_rfl) (by kernel_rfl) ?_
  simp only [List.take, List.drop]
  iterate 2 (first | (refine wpR_want (by kernel_rfl) rfl rfl ?_; intro K hK; go_big_quiet_op; go_big_quiet_on) | (refine wpR_is (by kernel_rfl) rfl _ (fun w _ => rfl) ?_; simp only [Act.put, List.setIfInBounds_toArray, List.set_cons_succ, List.set_cons_zero]))
  refine wpR_call (by kernel_rfl) rfl 16 #[.int .i64 nm] (.string n1) (fun w => by simp [go_sem]) (fun w _ => P1.out w) ?_
  simp only [Act.put, List.setIfInBounds_toArray, List.set_cons_succ, List.set_cons_zero]
  iterate 2 (first | (refine wpR_want (by kernel_rfl) rfl rfl ?_; intro K hK; go_big_quiet_op; go_big_quiet_on) | (refine wpR_is (by kernel_rfl) rfl _ (fun w _ => rfl) ?_; simp only [Act.put, List.setIfInBounds_toArray, List.set_cons_succ, List.set_cons_zero]))
  refine wpR_call (by kernel_rfl) rfl 6 #[.int .i64 tt, .int .i64 30] (.int .i64 n2) (fun w => by simp [go_sem]) (fun w _ => P2.out w) ?_
  simp only [Act.put, List.setIfInBounds_toArray, List.set_cons_succ, List.set_cons_zero]
  iterate 2 (first | (refine wpR_want (by kernel_rfl) rfl rfl ?_; intro K hK; go_big_quiet_op; go_big_quiet_on) | (refine wpR_is (by kernel_rfl) rfl _ (fun w _ => rfl) ?_; simp only [Act.put, List.setIfInBounds_toArray, List.set_cons_succ, List.set_cons_zero]))
  refine wpR_call (by kernel_rfl) rfl 6 #[.int .i64 ad, .int .i64 9] (.int .i64 n3) (fun w => by simp [go_sem]) (fun w _ => P3.out w) ?_
  simp only [Act.put, List.setIfInBounds_toArray, List.set_cons_succ, List.set_cons_zero]
  iterate 2 (first | (refine wpR_want (by kernel_rfl) rfl rfl ?_; intro K hK; go_big_quiet_op; go_big_quiet_on) | (refine wpR_is (by kernel_rfl) rfl _ (fun w _ => rfl) ?_; simp only [Act.put, List.setIfInBounds_toArray, List.set_cons_succ, List.set_cons_zero]))
  refine wpR_ex (nblk x2.heap.size (.cells #[.string ⟨#[]⟩, .int .i64 0, .int .i64 0, .int .i64 0, .string ⟨#[]⟩] 28)) (nblk_lasts _ _) (by kernel_rfl) (fun a' w' hw' he => ?_) (fun d hd => ?_)
  · have hs := hw'.size
    simp [go_sem]
    exact ⟨_, rfl, (Below.refl _ _).alloc (Nat.le_refl _) _, ⟨w'.heap.size, rfl, hs, new_block _ _⟩⟩
  cases hd
  simp only [List.nil_append]
  refine wpR_nil (by kernel_rfl) (by simp) ?_
  rintro w5 hbw
  simp only [exAll]
  rintro u3 ⟨bf, rfl, hgebf, hbbbf⟩
  simp only [Act.put, List.setIfInBounds_toArray, List.set_cons_succ, List.set_cons_zero, List.drop]
  have hO := HO.out.push (R := blkR bf (.cells #[.string ⟨#[]⟩, .int .i64 0, .int .i64 0, .int .i64 0, .string ⟨#[]⟩] 28)) (F := fun z => z = bf) ⟨fun _ => Iff.rfl, hbbbf⟩ (fun z hz => hz ▸ hgebf) hbw
  clear hgebf hbbbf
  replace HO := Lib.hid (show Own w none0 w5 [blkR bx (.cells #[.int .i64 nm, .int .i64 kd, .int .i64 tt, .int .i64 ad] 31), blkR br (.cells #[.string ⟨#[]⟩, .int .i64 0, .int .i64 0, .int .i64 0, .string ⟨#[]⟩] 28), blkR bf (.cells #[.string ⟨#[]⟩, .int .i64 0, .int .i64 0, .int .i64 0, .string ⟨#[]⟩] 28)] from hO)
  clear hO hbw g0_0 g0_2 g0_3 hs 
  have k2_0_3 : w5.cell? ⟨bf, 0, none⟩ = some (.string ⟨#[]⟩) := HO.out.cell 2 rfl 0 rfl
  have lk2_0_3 : w5.frozen? ⟨bf, 0, none⟩ = false := HO.out.frz 2 rfl 0
  have k2_1_4 : w5.cell? ⟨bf, 1, none⟩ = some (.int .i64 0) := HO.out.cell 2 rfl 1 rfl
  have lk2_1_4 : w5.frozen? ⟨bf, 1, none⟩ = false := HO.out.frz 2 rfl 1
  have k2_2_5 : w5.cell? ⟨bf, 2, none⟩ = some (.int .i64 0) := HO.out.cell 2 rfl 2 rfl
  have lk2_2_5 : w5.frozen? ⟨bf, 2, none⟩ = false := HO.out.frz 2 rfl 2
  have k2_3_6 : w5.cell? ⟨bf, 3, none⟩ = some (.int .i64 0) := HO.out.cell 2 rfl 3 rfl
  have lk2_3_6 : w5.frozen? ⟨bf, 3, none⟩ = false := HO.out.frz 2 rfl 3
  have k2_4_7 : w5.cell? ⟨bf, 4, none⟩ = some (.string ⟨#[]⟩) := HO.out.cell 2 rfl 4 rfl
  have lk2_4_7 : w5.frozen? ⟨bf, 4, none⟩ = false := HO.out.frz 2 rfl 4
  obtain ⟨x8, hx8⟩ : ∃ y, w5.setCell ⟨bf, 0, none⟩ (.string n1) = y := ⟨_, rfl⟩
  have hO := HO.out.setCell 2 rfl 0 (.string n1)
  rw [hx8] at hO
  replace HO := Lib.hid (show Own w none0 x8 [blkR bx (.cells #[.int .i64 nm, .int .i64 kd, .int .i64 tt, .int .i64 ad] 31), blkR br (.cells #[.string ⟨#[]⟩, .int .i64 0, .int .i64 0, .int .i64 0, .string ⟨#[]⟩] 28), blkR bf (.cells #[.string n1, .int .i64 0, .int .i64 0, .int .i64 0, .string ⟨#[]⟩] 28)] from hO)
  clear hO
  have k2_1_9 : x8.cell? ⟨bf, 1, none⟩ = some (.int .i64 0) := HO.out.cell 2 rfl 1 rfl
  have lk2_1_9 : x8.frozen? ⟨bf, 1, none⟩ = false := HO.out.frz 2 rfl 1
  have k2_2_10 : x8.cell? ⟨bf, 2, none⟩ = some (.int .i64 0) := HO.out.cell 2 rfl 2 rfl
  have lk2_2_10 : x8.frozen? ⟨bf, 2, none⟩ = false := HO.out.frz 2 rfl 2
  have k2_3_11 : x8.cell? ⟨bf, 3, none⟩ = some (.int .i64 0) := HO.out.cell 2 rfl 3 rfl
  have lk2_3_11 : x8.frozen? ⟨bf, 3, none⟩ = false := HO.out.frz 2 rfl 3
  have k2_4_12 : x8.cell? ⟨bf, 4, none⟩ = some (.string ⟨#[]⟩) := HO.out.cell 2 rfl 4 rfl
  have lk2_4_12 : x8.frozen? ⟨bf, 4, none⟩ = false := HO.out.frz 2 rfl 4
  obtain ⟨x13, hx13⟩ : ∃ y, x8.setCell ⟨bf, 1, none⟩ (.int .i64 1) = y := ⟨_, rfl⟩
  have hO := HO.out.setCell 2 rfl 1 (.int .i64 1)
  rw [hx13] at hO
  replace HO := Lib.hid (show Own w none0 x13 [blkR bx (.cells #[.int .i64 nm, .int .i64 kd, .int .i64 tt, .int .i64 ad] 31), blkR br (.cells #[.string ⟨#[]⟩, .int .i64 0, .int .i64 0, .int .i64 0, .string ⟨#[]⟩] 28), blkR bf (.cells #[.string n1, .int .i64 1, .int .i64 0, .int .i64 0, .string ⟨#[]⟩] 28)] from hO)
  clear hO
  have k2_2_14 : x13.cell? ⟨bf, 2, none⟩ = some (.int .i64 0) := HO.out.cell 2 rfl 2 rfl
  have lk2_2_14 : x13.frozen? ⟨bf, 2, none⟩ = false := HO.out.frz 2 rfl 2
  have k2_3_15 : x13.cell? ⟨bf, 3, none⟩ = some (.int .i64 0) := HO.out.cell 2 rfl 3 rfl
  have lk2_3_15 : x13.frozen? ⟨bf, 3, none⟩ = false := HO.out.frz 2 rfl 3
  have k2_4_16 : x13.cell? ⟨bf, 4, none⟩ = some (.string ⟨#[]⟩) := HO.out.cell 2 rfl 4 rfl
  have lk2_4_16 : x13.frozen? ⟨bf, 4, none⟩ = false := HO.out.frz 2 rfl 4
  obtain ⟨x17, hx17⟩ : ∃ y, x13.setCell ⟨bf, 2, none⟩ (.int .i64 n2) = y := ⟨_, rfl⟩
  have hO := HO.out.setCell 2 rfl 2 (.int .i64 n2)
  rw [hx17] at hO
  replace HO := Lib.hid (show Own w none0 x17 [blkR bx (.cells #[.int .i64 nm, .int .i64 kd, .int .i64 tt, .int .i64 ad] 31), blkR br (.cells #[.string ⟨#[]⟩, .int .i64 0, .int .i64 0, .int .i64 0, .string ⟨#[]⟩] 28), blkR bf (.cells #[.string n1, .int .i64 1, .int .i64 n2, .int .i64 0, .string ⟨#[]⟩] 28)] from hO)
  clear hO
  have k2_3_18 : x17.cell? ⟨bf, 3, none⟩ = some (.int .i64 0) := HO.out.cell 2 rfl 3 rfl
  have lk2_3_18 : x17.frozen? ⟨bf, 3, none⟩ = false := HO.out.frz 2 rfl 3
  have k2_4_19 : x17.cell? ⟨bf, 4, none⟩ = some (.string ⟨#[]⟩) := HO.out.cell 2 rfl 4 rfl
  have lk2_4_19 : x17.frozen? ⟨bf, 4, none⟩ = false := HO.out.frz 2 rfl 4
  obtain ⟨x20, hx20⟩ : ∃ y, x17.setCell ⟨bf, 3, none⟩ (.int .i64 (1 + n3)) = y := ⟨_, rfl⟩
  have hO := HO.out.setCell 2 rfl 3 (.int .i64 (1 + n3))
  rw [hx20] at hO
  replace HO := Lib.hid (show Own w none0 x20 [blkR bx (.cells #[.int .i64 nm, .int .i64 kd, .int .i64 tt, .int .i64 ad] 31), blkR br (.cells #[.string ⟨#[]⟩, .int .i64 0, .int .i64 0, .int .i64 0, .string ⟨#[]⟩] 28), blkR bf (.cells #[.string n1, .int .i64 1, .int .i64 n2, .int .i64 (1 + n3), .string ⟨#[]⟩] 28)] from hO)
  clear hO
  have k2_4_21 : x20.cell? ⟨bf, 4, none⟩ = some (.string ⟨#[]⟩) := HO.out.cell 2 rfl 4 rfl
  have lk2_4_21 : x20.frozen? ⟨bf, 4, none⟩ = false := HO.out.frz 2 rfl 4
  obtain ⟨x22, hx22⟩ : ∃ y, x20.setCell ⟨bf, 4, none⟩ (.string ⟨#[]⟩) = y := ⟨_, rfl⟩
  have hO := HO.out.setCell 2 rfl 4 (.string ⟨#[]⟩)
  rw [hx22] at hO
  replace HO := Lib.hid (show Own w none0 x22 [blkR bx (.cells #[.int .i64 nm, .int .i64 kd, .int .i64 tt, .int .i64 ad] 31), blkR br (.cells #[.string ⟨#[]⟩, .int .i64 0, .int .i64 0, .int .i64 0, .string ⟨#[]⟩] 28), blkR bf (.cells #[.string n1, .int .i64 1, .int .i64 n2, .int .i64 (1 + n3), .string ⟨#[]⟩] 28)] from hO)
  clear hO
  have z0_1 : x22.cell? ⟨bx, 1, none⟩ = some (.int .i64 kd) := HO.out.cell 0 rfl 1 rfl
  go_wp2_with fail
  refine (o_still HO.out (P4.out _)).mono ?_
  rintro e x23 ⟨rfl, hO, -⟩
  replace HO := Lib.hid (show Own w none0 x23 [blkR bx (.cells #[.int .i64 nm, .int .i64 kd, .int .i64 tt, .int .i64 ad] 31), blkR br (.cells #[.string ⟨#[]⟩, .int .i64 0, .int .i64 0, .int .i64 0, .string ⟨#[]⟩] 28), blkR bf (.cells #[.string n1, .int .i64 1, .int .i64 n2, .int .i64 (1 + n3), .string ⟨#[]⟩] 28)] from hO)
  clear hO
  clear k2_0_3 lk2_0_3 k2_1_4 lk2_1_4 k2_2_5 lk2_2_5 k2_3_6 lk2_3_6 k2_4_7 lk2_4_7 hx8 k2_1_9 lk2_1_9 k2_2_10 lk2_2_10 k2_3_11 lk2_3_11 k2_4_12 lk2_4_12 hx13 k2_2_14 lk2_2_14 k2_3_15 lk2_3_15 k2_4_16 lk2_4_16 hx17 k2_3_18 lk2_3_18 k2_4_19 lk2_4_19 hx20 k2_4_21 lk2_4_21 hx22 z0_1
  by_cases h4 : n4 = 0
  · subst h4
    have HV := Lib.hid (show recF ⟨nm, kd, tt, ad⟩ = ⟨n1, 2, n2, 0, n5⟩ by rw [HF.out]; rfl)
    clear HF
    have z2_1 : x23.cell? ⟨bf, 1, none⟩ = some (.int .i64 1) := HO.out.cell 2 rfl 1 rfl
    have y2_1 : x23.frozen? ⟨bf, 1, none⟩ = false := HO.out.frz 2 rfl 1
    obtain ⟨x24, hx24⟩ : ∃ y, x23.setCell ⟨bf, 1, none⟩ (.int .i64 2) = y := ⟨_, rfl⟩
    have hO := HO.out.setCell 2 rfl 1 (.int .i64 2)
    rw [hx24] at hO
    replace HO := Lib.hid (show Own w none0 x24 [blkR bx (.cells #[.int .i64 nm, .int .i64 kd, .int .i64 tt, .int .i64 ad] 31), blkR br (.cells #[.string ⟨#[]⟩, .int .i64 0, .int .i64 0, .int .i64 0, .string ⟨#[]⟩] 28), blkR bf (.cells #[.string n1, .int .i64 2, .int .i64 n2, .int .i64 (1 + n3), .string ⟨#[]⟩] 28)] from hO)
    clear hO
    have z2_3 : x24.cell? ⟨bf, 3, none⟩ = some (.int .i64 (1 + n3)) := HO.out.cell 2 rfl 3 rfl
    have y2_3 : x24.frozen? ⟨bf, 3, none⟩ = false := HO.out.frz 2 rfl 3
    obtain ⟨x25, hx25⟩ : ∃ y, x24.setCell ⟨bf, 3, none⟩ (.int .i64 0) = y := ⟨_, rfl⟩
    have hO := HO.out.setCell 2 rfl 3 (.int .i64 0)
    rw [hx25] at hO
    replace HO := Lib.hid (show Own w none0 x25 [blkR bx (.cells #[.int .i64 nm, .int .i64 kd, .int .i64 tt, .int .i64 ad] 31), blkR br (.cells #[.string ⟨#[]⟩, .int .i64 0, .int .i64 0, .int .i64 0, .string ⟨#[]⟩] 28), blkR bf (.cells #[.string n1, .int .i64 2, .int .i64 n2, .int .i64 0, .string ⟨#[]⟩] 28)] from hO)
    clear hO
    have z0_3 : x25.cell? ⟨bx, 3, none⟩ = some (.int .i64 ad) := HO.out.cell 0 rfl 3 rfl
    go_wp2_with fail
    refine (o_still HO.out (P5.out _)).mono ?_
    rintro e x26 ⟨rfl, hO, -⟩
    replace HO := Lib.hid (show Own w none0 x26 [blkR bx (.cells #[.int .i64 nm, .int .i64 kd, .int .i64 tt, .int .i64 ad] 31), blkR br (.cells #[.string ⟨#[]⟩, .int .i64 0, .int .i64 0, .int .i64 0, .string ⟨#[]⟩] 28), blkR bf (.cells #[.string n1, .int .i64 2, .int .i64 n2, .int .i64 0, .string ⟨#[]⟩] 28)] from hO)
    clear hO
    clear z2_1 y2_1 hx24 z2_3 y2_3 hx25 z0_3
    have z2_4 : x26.cell? ⟨bf, 4, none⟩ = some (.string ⟨#[]⟩) := HO.out.cell 2 rfl 4 rfl
    have y2_4 : x26.frozen? ⟨bf, 4, none⟩ = false := HO.out.frz 2 rfl 4
    obtain ⟨x27, hx27⟩ : ∃ y, x26.setCell ⟨bf, 4, none⟩ (.string n5) = y := ⟨_, rfl⟩
    have hO := HO.out.setCell 2 rfl 4 (.string n5)
    rw [hx27] at hO
    replace HO := Lib.hid (show Own w none0 x27 [blkR bx (.cells #[.int .i64 nm, .int .i64 kd, .int .i64 tt, .int .i64 ad] 31), blkR br (.cells #[.string ⟨#[]⟩, .int .i64 0, .int .i64 0, .int .i64 0, .string ⟨#[]⟩] 28), blkR bf (.cells #[.string n1, .int .i64 2, .int .i64 n2, .int .i64 0, .string n5] 28)] from hO)
    clear hO
    have z2_0 : x27.cell? ⟨bf, 0, none⟩ = some (.string n1) := HO.out.cell 2 rfl 0 rfl
    have z2_1 : x27.cell? ⟨bf, 1, none⟩ = some (.int .i64 2) := HO.out.cell 2 rfl 1 rfl
    have z2_2 : x27.cell? ⟨bf, 2, none⟩ = some (.int .i64 n2) := HO.out.cell 2 rfl 2 rfl
    have z2_3 : x27.cell? ⟨bf, 3, none⟩ = some (.int .i64 0) := HO.out.cell 2 rfl 3 rfl
    have z2_4t : x27.cell? ⟨bf, 4, none⟩ = some (.string n5) := HO.out.cell 2 rfl 4 rfl
    have k1_0_28 : x27.cell? ⟨br, 0, none⟩ = some (.string ⟨#[]⟩) := HO.out.cell 1 rfl 0 rfl
    have lk1_0_28 : x27.frozen? ⟨br, 0, none⟩ = false := HO.out.frz 1 rfl 0
    have k1_1_29 : x27.cell? ⟨br, 1, none⟩ = some (.int .i64 0) := HO.out.cell 1 rfl 1 rfl
    have lk1_1_29 : x27.frozen? ⟨br, 1, none⟩ = false := HO.out.frz 1 rfl 1
    have k1_2_30 : x27.cell? ⟨br, 2, none⟩ = some (.int .i64 0) := HO.out.cell 1 rfl 2 rfl
    have lk1_2_30 : x27.frozen? ⟨br, 2, none⟩ = false := HO.out.frz 1 rfl 2
    have k1_3_31 : x27.cell? ⟨br, 3, none⟩ = some (.int .i64 0) := HO.out.cell 1 rfl 3 rfl
    have lk1_3_31 : x27.frozen? ⟨br, 3, none⟩ = false := HO.out.frz 1 rfl 3
    have k1_4_32 : x27.cell? ⟨br, 4, none⟩ = some (.string ⟨#[]⟩) := HO.out.cell 1 rfl 4 rfl
    have lk1_4_32 : x27.frozen? ⟨br, 4, none⟩ = false := HO.out.frz 1 rfl 4
    obtain ⟨x33, hx33⟩ : ∃ y, x27.setCell ⟨br, 0, none⟩ (.string n1) = y := ⟨_, rfl⟩
    have hO := HO.out.setCell 1 rfl 0 (.string n1)
    rw [hx33] at hO
    replace HO := Lib.hid (show Own w none0 x33 [blkR bx (.cells #[.int .i64 nm, .int .i64 kd, .int .i64 tt, .int .i64 ad] 31), blkR br (.cells #[.string n1, .int .i64 0, .int .i64 0, .int .i64 0, .string ⟨#[]⟩] 28), blkR bf (.cells #[.string n1, .int .i64 2, .int .i64 n2, .int .i64 0, .string n5] 28)] from hO)
    clear hO
    have k1_1_34 : x33.cell? ⟨br, 1, none⟩ = some (.int .i64 0) := HO.out.cell 1 rfl 1 rfl
    have lk1_1_34 : x33.frozen? ⟨br, 1, none⟩ = false := HO.out.frz 1 rfl 1
    have k1_2_35 : x33.cell? ⟨br, 2, none⟩ = some (.int .i64 0) := HO.out.cell 1 rfl 2 rfl
    have lk1_2_35 : x33.frozen? ⟨br, 2, none⟩ = false := HO.out.frz 1 rfl 2
    have k1_3_36 : x33.cell? ⟨br, 3, none⟩ = some (.int .i64 0) := HO.out.cell 1 rfl 3 rfl
    have lk1_3_36 : x33.frozen? ⟨br, 3, none⟩ = false := HO.out.frz 1 rfl 3
    have k1_4_37 : x33.cell? ⟨br, 4, none⟩ = some (.string ⟨#[]⟩) := HO.out.cell 1 rfl 4 rfl
    have lk1_4_37 : x33.frozen? ⟨br, 4, none⟩ = false := HO.out.frz 1 rfl 4
    obtain ⟨x38, hx38⟩ : ∃ y, x33.setCell ⟨br, 1, none⟩ (.int .i64 2) = y := ⟨_, rfl⟩
    have hO := HO.out.setCell 1 rfl 1 (.int .i64 2)
    rw [hx38] at hO
    replace HO := Lib.hid (show Own w none0 x38 [blkR bx (.cells #[.int .i64 nm, .int .i64 kd, .int .i64 tt, .int .i64 ad] 31), blkR br (.cells #[.string n1, .int .i64 2, .int .i64 0, .int .i64 0, .string ⟨#[]⟩] 28), blkR bf (.cells #[.string n1, .int .i64 2, .int .i64 n2, .int .i64 0, .string n5] 28)] from hO)
    clear hO
    have k1_2_39 : x38.cell? ⟨br, 2, none⟩ = some (.int .i64 0) := HO.out.cell 1 rfl 2 rfl
    have lk1_2_39 : x38.frozen? ⟨br, 2, none⟩ = false := HO.out.frz 1 rfl 2
    have k1_3_40 : x38.cell? ⟨br, 3, none⟩ = some (.int .i64 0) := HO.out.cell 1 rfl 3 rfl
    have lk1_3_40 : x38.frozen? ⟨br, 3, none⟩ = false := HO.out.frz 1 rfl 3
    have k1_4_41 : x38.cell? ⟨br, 4, none⟩ = some (.string ⟨#[]⟩) := HO.out.cell 1 rfl 4 rfl
    have lk1_4_41 : x38.frozen? ⟨br, 4, none⟩ = false := HO.out.frz 1 rfl 4
    obtain ⟨x42, hx42⟩ : ∃ y, x38.setCell ⟨br, 2, none⟩ (.int .i64 n2) = y := ⟨_, rfl⟩
    have hO := HO.out.setCell 1 rfl 2 (.int .i64 n2)
    rw [hx42] at hO
    replace HO := Lib.hid (show Own w none0 x42 [blkR bx (.cells #[.int .i64 nm, .int .i64 kd, .int .i64 tt, .int .i64 ad] 31), blkR br (.cells #[.string n1, .int .i64 2, .int .i64 n2, .int .i64 0, .string ⟨#[]⟩] 28), blkR bf (.cells #[.string n1, .int .i64 2, .int .i64 n2, .int .i64 0, .string n5] 28)] from hO)
    clear hO
    have k1_3_43 : x42.cell? ⟨br, 3, none⟩ = some (.int .i64 0) := HO.out.cell 1 rfl 3 rfl
    have lk1_3_43 : x42.frozen? ⟨br, 3, none⟩ = false := HO.out.frz 1 rfl 3
    have k1_4_44 : x42.cell? ⟨br, 4, none⟩ = some (.string ⟨#[]⟩) := HO.out.cell 1 rfl 4 rfl
    have lk1_4_44 : x42.frozen? ⟨br, 4, none⟩ = false := HO.out.frz 1 rfl 4
    obtain ⟨x45, hx45⟩ : ∃ y, x42.setCell ⟨br, 3, none⟩ (.int .i64 0) = y := ⟨_, rfl⟩
    have hO := HO.out.setCell 1 rfl 3 (.int .i64 0)
    rw [hx45] at hO
    replace HO := Lib.hid (show Own w none0 x45 [blkR bx (.cells #[.int .i64 nm, .int .i64 kd, .int .i64 tt, .int .i64 ad] 31), blkR br (.cells #[.string n1, .int .i64 2, .int .i64 n2, .int .i64 0, .string ⟨#[]⟩] 28), blkR bf (.cells #[.string n1, .int .i64 2, .int .i64 n2, .int .i64 0, .string n5] 28)] from hO)
    clear hO
    have k1_4_46 : x45.cell? ⟨br, 4, none⟩ = some (.string ⟨#[]⟩) := HO.out.cell 1 rfl 4 rfl
    have lk1_4_46 : x45.frozen? ⟨br, 4, none⟩ = false := HO.out.frz 1 rfl 4
    obtain ⟨x47, hx47⟩ : ∃ y, x45.setCell ⟨br, 4, none⟩ (.string n5) = y := ⟨_, rfl⟩
    have hO := HO.out.setCell 1 rfl 4 (.string n5)
    rw [hx47] at hO
    replace HO := Lib.hid (show Own w none0 x47 [blkR bx (.cells #[.int .i64 nm, .int .i64 kd, .int .i64 tt, .int .i64 ad] 31), blkR br (.cells #[.string n1, .int .i64 2, .int .i64 n2, .int .i64 0, .string n5] 28), blkR bf (.cells #[.string n1, .int .i64 2, .int .i64 n2, .int .i64 0, .string n5] 28)] from hO)
    clear hO
    have r0 : x47.cell? ⟨br, 0, none⟩ = some (.string n1) := HO.out.cell 1 rfl 0 rfl
    have r1 : x47.cell? ⟨br, 1, none⟩ = some (.int .i64 2) := HO.out.cell 1 rfl 1 rfl
    have r2 : x47.cell? ⟨br, 2, none⟩ = some (.int .i64 n2) := HO.out.cell 1 rfl 2 rfl
    have r3 : x47.cell? ⟨br, 3, none⟩ = some (.int .i64 0) := HO.out.cell 1 rfl 3 rfl
    have r4 : x47.cell? ⟨br, 4, none⟩ = some (.string n5) := HO.out.cell 1 rfl 4 rfl
    go_wp2
    exact bodyPost_ret (v := .agg #[.string n1, .int .i64 2, .int .i64 n2, .int .i64 0, .string n5]) (by simp [results, Tryz.results5, go_sem, r0, r1, r2, r3, r4]) rfl ⟨by rw [HV.out], HO.out.below⟩
  · have e4 : (n4 == 0) = false := by simpa using h4
    have HV := Lib.hid (show recF ⟨nm, kd, tt, ad⟩ = ⟨n1, 1, n2, 1 + n3, ⟨#[]⟩⟩ by rw [HF.out, if_neg h4])
    clear HF h4
    have z2_0 : x23.cell? ⟨bf, 0, none⟩ = some (.string n1) := HO.out.cell 2 rfl 0 rfl
    have z2_1 : x23.cell? ⟨bf, 1, none⟩ = some (.int .i64 1) := HO.out.cell 2 rfl 1 rfl
    have z2_2 : x23.cell? ⟨bf, 2, none⟩ = some (.int .i64 n2) := HO.out.cell 2 rfl 2 rfl
    have z2_3 : x23.cell? ⟨bf, 3, none⟩ = some (.int .i64 (1 + n3)) := HO.out.cell 2 rfl 3 rfl
    have z2_4 : x23.cell? ⟨bf, 4, none⟩ = some (.string ⟨#[]⟩) := HO.out.cell 2 rfl 4 rfl
    have k1_0_24 : x23.cell? ⟨br, 0, none⟩ = some (.string ⟨#[]⟩) := HO.out.cell 1 rfl 0 rfl
    have lk1_0_24 : x23.frozen? ⟨br, 0, none⟩ = false := HO.out.frz 1 rfl 0
    have k1_1_25 : x23.cell? ⟨br, 1, none⟩ = some (.int .i64 0) := HO.out.cell 1 rfl 1 rfl
    have lk1_1_25 : x23.frozen? ⟨br, 1, none⟩ = false := HO.out.frz 1 rfl 1
    have k1_2_26 : x23.cell? ⟨br, 2, none⟩ = some (.int .i64 0) := HO.out.cell 1 rfl 2 rfl
    have lk1_2_26 : x23.frozen? ⟨br, 2, none⟩ = false := HO.out.frz 1 rfl 2
    have k1_3_27 : x23.cell? ⟨br, 3, none⟩ = some (.int .i64 0) := HO.out.cell 1 rfl 3 rfl
    have lk1_3_27 : x23.frozen? ⟨br, 3, none⟩ = false := HO.out.frz 1 rfl 3
    have k1_4_28 : x23.cell? ⟨br, 4, none⟩ = some (.string ⟨#[]⟩) := HO.out.cell 1 rfl 4 rfl
    have lk1_4_28 : x23.frozen? ⟨br, 4, none⟩ = false := HO.out.frz 1 rfl 4
    obtain ⟨x29, hx29⟩ : ∃ y, x23.setCell ⟨br, 0, none⟩ (.string n1) = y := ⟨_, rfl⟩
    have hO := HO.out.setCell 1 rfl 0 (.string n1)
    rw [hx29] at hO
    replace HO := Lib.hid (show Own w none0 x29 [blkR bx (.cells #[.int .i64 nm, .int .i64 kd, .int .i64 tt, .int .i64 ad] 31), blkR br (.cells #[.string n1, .int .i64 0, .int .i64 0, .int .i64 0, .string ⟨#[]⟩] 28), blkR bf (.cells #[.string n1, .int .i64 1, .int .i64 n2, .int .i64 (1 + n3), .string ⟨#[]⟩] 28)] from hO)
    clear hO
    have k1_1_30 : x29.cell? ⟨br, 1, none⟩ = some (.int .i64 0) := HO.out.cell 1 rfl 1 rfl
    have lk1_1_30 : x29.frozen? ⟨br, 1, none⟩ = false := HO.out.frz 1 rfl 1
    have k1_2_31 : x29.cell? ⟨br, 2, none⟩ = some (.int .i64 0) := HO.out.cell 1 rfl 2 rfl
    have lk1_2_31 : x29.frozen? ⟨br, 2, none⟩ = false := HO.out.frz 1 rfl 2
    have k1_3_32 : x29.cell? ⟨br, 3, none⟩ = some (.int .i64 0) := HO.out.cell 1 rfl 3 rfl
    have lk1_3_32 : x29.frozen? ⟨br, 3, none⟩ = false := HO.out.frz 1 rfl 3
    have k1_4_33 : x29.cell? ⟨br, 4, none⟩ = some (.string ⟨#[]⟩) := HO.out.cell 1 rfl 4 rfl
    have lk1_4_33 : x29.frozen? ⟨br, 4, none⟩ = false := HO.out.frz 1 rfl 4
    obtain ⟨x34, hx34⟩ : ∃ y, x29.setCell ⟨br, 1, none⟩ (.int .i64 1) = y := ⟨_, rfl⟩
    have hO := HO.out.setCell 1 rfl 1 (.int .i64 1)
    rw [hx34] at hO
    replace HO := Lib.hid (show Own w none0 x34 [blkR bx (.cells #[.int .i64 nm, .int .i64 kd, .int .i64 tt, .int .i64 ad] 31), blkR br (.cells #[.string n1, .int .i64 1, .int .i64 0, .int .i64 0, .string ⟨#[]⟩] 28), blkR bf (.cells #[.string n1, .int .i64 1, .int .i64 n2, .int .i64 (1 + n3), .string ⟨#[]⟩] 28)] from hO)
    clear hO
    have k1_2_35 : x34.cell? ⟨br, 2, none⟩ = some (.int .i64 0) := HO.out.cell 1 rfl 2 rfl
    have lk1_2_35 : x34.frozen? ⟨br, 2, none⟩ = false := HO.out.frz 1 rfl 2
    have k1_3_36 : x34.cell? ⟨br, 3, none⟩ = some (.int .i64 0) := HO.out.cell 1 rfl 3 rfl
    have lk1_3_36 : x34.frozen? ⟨br, 3, none⟩ = false := HO.out.frz 1 rfl 3
    have k1_4_37 : x34.cell? ⟨br, 4, none⟩ = some (.string ⟨#[]⟩) := HO.out.cell 1 rfl 4 rfl
    have lk1_4_37 : x34.frozen? ⟨br, 4, none⟩ = false := HO.out.frz 1 rfl 4
    obtain ⟨x38, hx38⟩ : ∃ y, x34.setCell ⟨br, 2, none⟩ (.int .i64 n2) = y := ⟨_, rfl⟩
    have hO := HO.out.setCell 1 rfl 2 (.int .i64 n2)
    rw [hx38] at hO
    replace HO := Lib.hid (show Own w none0 x38 [blkR bx (.cells #[.int .i64 nm, .int .i64 kd, .int .i64 tt, .int .i64 ad] 31), blkR br (.cells #[.string n1, .int .i64 1, .int .i64 n2, .int .i64 0, .string ⟨#[]⟩] 28), blkR bf (.cells #[.string n1, .int .i64 1, .int .i64 n2, .int .i64 (1 + n3), .string ⟨#[]⟩] 28)] from hO)
    clear hO
    have k1_3_39 : x38.cell? ⟨br, 3, none⟩ = some (.int .i64 0) := HO.out.cell 1 rfl 3 rfl
    have lk1_3_39 : x38.frozen? ⟨br, 3, none⟩ = false := HO.out.frz 1 rfl 3
    have k1_4_40 : x38.cell? ⟨br, 4, none⟩ = some (.string ⟨#[]⟩) := HO.out.cell 1 rfl 4 rfl
    have lk1_4_40 : x38.frozen? ⟨br, 4, none⟩ = false := HO.out.frz 1 rfl 4
    obtain ⟨x41, hx41⟩ : ∃ y, x38.setCell ⟨br, 3, none⟩ (.int .i64 (1 + n3)) = y := ⟨_, rfl⟩
    have hO := HO.out.setCell 1 rfl 3 (.int .i64 (1 + n3))
    rw [hx41] at hO
    replace HO := Lib.hid (show Own w none0 x41 [blkR bx (.cells #[.int .i64 nm, .int .i64 kd, .int .i64 tt, .int .i64 ad] 31), blkR br (.cells #[.string n1, .int .i64 1, .int .i64 n2, .int .i64 (1 + n3), .string ⟨#[]⟩] 28), blkR bf (.cells #[.string n1, .int .i64 1, .int .i64 n2, .int .i64 (1 + n3), .string ⟨#[]⟩] 28)] from hO)
    clear hO
    have k1_4_42 : x41.cell? ⟨br, 4, none⟩ = some (.string ⟨#[]⟩) := HO.out.cell 1 rfl 4 rfl
    have lk1_4_42 : x41.frozen? ⟨br, 4, none⟩ = false := HO.out.frz 1 rfl 4
    obtain ⟨x43, hx43⟩ : ∃ y, x41.setCell ⟨br, 4, none⟩ (.string ⟨#[]⟩) = y := ⟨_, rfl⟩
    have hO := HO.out.setCell 1 rfl 4 (.string ⟨#[]⟩)
    rw [hx43] at hO
    replace HO := Lib.hid (show Own w none0 x43 [blkR bx (.cells #[.int .i64 nm, .int .i64 kd, .int .i64 tt, .int .i64 ad] 31), blkR br (.cells #[.string n1, .int .i64 1, .int .i64 n2, .int .i64 (1 + n3), .string ⟨#[]⟩] 28), blkR bf (.cells #[.string n1, .int .i64 1, .int .i64 n2, .int .i64 (1 + n3), .string ⟨#[]⟩] 28)] from hO)
    clear hO
    have r0 : x43.cell? ⟨br, 0, none⟩ = some (.string n1) := HO.out.cell 1 rfl 0 rfl
    have r1 : x43.cell? ⟨br, 1, none⟩ = some (.int .i64 1) := HO.out.cell 1 rfl 1 rfl
    have r2 : x43.cell? ⟨br, 2, none⟩ = some (.int .i64 n2) := HO.out.cell 1 rfl 2 rfl
    have r3 : x43.cell? ⟨br, 3, none⟩ = some (.int .i64 (1 + n3)) := HO.out.cell 1 rfl 3 rfl
    have r4 : x43.cell? ⟨br, 4, none⟩ = some (.string ⟨#[]⟩) := HO.out.cell 1 rfl 4 rfl
    go_wp2
    exact bodyPost_ret (v := .agg #[.string n1, .int .i64 1, .int .i64 n2, .int .i64 (1 + n3), .string ⟨#[]⟩]) (by simp [results, Tryz.results5, go_sem, r0, r1, r2, r3, r4]) rfl ⟨by rw [HV.out], HO.out.below⟩
theorem rec_r {x : Rw} {r : Rc} (h : recF x = r) (hx : RwOk x) (w : World) : Calls Tryz.prog 5 #[.agg (rwA x)] w fun e w' => e = .returned (rcV r) ∧ Below w.heap.size w w' := h ▸ rec_any x hx w

end Go.Proofs.YtapeljiopbkjlaaGreatDoor
