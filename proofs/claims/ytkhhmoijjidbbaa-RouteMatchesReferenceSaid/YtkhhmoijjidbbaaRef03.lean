/- Contracts of the reference of package addr: Valid, size, ValidPrefix, Contains return what the same plain functions say. -/
import Derived.Test.YtkhhmoijjidbbaaAddr
namespace Go.Proofs.Ytkhhmoijjidbbaa
open Go.RowKit Go.Sort
set_option linter.unusedVariables false

theorem rvalid_any (a : Int) (w : World) :
    Calls Try.prog 38 #[.int .i64 a] w fun e w' => e = .returned (.bool (validB a)) ∧ Below w.heap.size w w' := by
  go_enter Try.func38, Try.ntmps38
  go_wp2
  all_goals go_ret
  all_goals exact ⟨by simp [validB]; omega, Below.refl _ _⟩

theorem pow_step (j b : Int) (h : b ≤ j) : (2:Int) ^ (j + 1 - b).toNat = 2 * (2:Int) ^ (j - b).toNat := by
  rw [show (j + 1 - b).toNat = (j - b).toNat + 1 from by omega, Int.pow_succ]; omega
theorem pow_le (n : Nat) (h : n ≤ 32) : 1 ≤ (2:Int) ^ n ∧ (2:Int) ^ n ≤ 4294967296 := by
  have := pow_bd (32 - n) (by omega) (by omega)
  rwa [show ((32 : Int) - (32 - (n : Int))).toNat = n from by omega] at this

set_option maxHeartbeats 400000 in
theorem rsize_any (b : Int) (w : World) (h0 : 0 ≤ b) (h1 : b ≤ 32) :
    Calls Try.prog 39 #[.int .i64 b] w fun e w' => e = .returned (.int .i64 ((2:Int) ^ (32 - b).toNat)) ∧ Below w.heap.size w w' := by
  go_enter Try.func39, Try.ntmps39
  go_wp2
  go_loop [3, 4] (fun n i => ∃ j : Int, b ≤ j ∧ j ≤ 32 ∧ i = .int .i64 j ∧ n = .int .i64 ((2:Int) ^ (j - b).toNat)) (fun _ i => (32 - intOf i).toNat)
  case atStart => exact ⟨b, by omega, h1, rfl, by simp⟩
  case round =>
    obtain ⟨j, hj1, hj2, rfl, rfl⟩ := hrel
    have hp := pow_le (j - b).toNat (by omega)
    have HS := Lib.hid (pow_step j b hj1)
    by_cases hlt : j < 32
    · generalize (2:Int) ^ (j - b).toNat = m at *
      go_wp2
      go_round
      case rel => exact ⟨j + 1, by omega, by omega, by go_num, by rw [HS.out]⟩
      case measure => simp [intOf]; omega
    · obtain rfl : j = 32 := by omega
      go_wp2
      go_ret
      exact ⟨rfl, Below.refl _ _⟩

theorem rvalid_r {a : Int} {r : Bool} (h : validB a = r) (w : World) :
    Calls Try.prog 38 #[.int .i64 a] w fun e w' => e = .returned (.bool r) ∧ Below w.heap.size w w' := h ▸ rvalid_any a w

theorem rvp_rem (a b : Int) (hv : validB a = true) (h0 : 0 ≤ b) (h1 : b ≤ 32) : (a.tmod ((2:Int) ^ (32 - b).toNat) == 0) = vpB a b := by
  have ha := hv
  simp only [validB, decide_eq_true_eq] at ha
  rw [Int.tmod_eq_emod_of_nonneg ha.1]
  simp [vpB, hv, h0, h1]
  rw [Bool.eq_iff_iff]; simp

set_option maxHeartbeats 1000000 in
theorem rvalidPrefix_any (a b : Int) (w : World) :
    Calls Try.prog 34 #[.agg #[.int .i64 a, .int .i64 b]] w fun e w' => e = .returned (.bool (vpB a b)) ∧ Below w.heap.size w w' := by
  have k0 := cell_regrown (w := w.alloc (.cells #[.int .i64 a, .int .i64 b] 25)) (a := ⟨w.heap.size, 0, none⟩) (v := .int .i64 a) (by simp)
  have k1 := cell_regrown (w := w.alloc (.cells #[.int .i64 a, .int .i64 b] 25)) (a := ⟨w.heap.size, 1, none⟩) (v := .int .i64 b) (by simp)
  have hB0 := (Below.refl w.heap.size w).alloc (Nat.le_refl _) (.cells #[.int .i64 a, .int .i64 b] 25)
  cases hv : validB a
  case false =>
    have HR := Lib.hid (show vpB a b = false by simp [vpB, hv])
    go_enter Try.func34, Try.ntmps34
    go_wp2_with fail
    refine wp_region_B (by kernel_rfl) (by kernel_rfl) ?_
    repeat (go_big_quiet_step ((go_at_call 38; exact Calls.regrown_of (rvalid_r hv _))))
    refine wpQuiet_nil ?_
    intro w3 hb3
    have hB3 := below_mid hB0 hb3
    clear k0 k1
    go_wp2
    go_ret
    exact ⟨by rw [HR.out]; rfl, hB3⟩
  case true =>
    by_cases h0 : 0 ≤ b
    · by_cases h1 : b ≤ 32
      · have HR := Lib.hid (rvp_rem a b hv h0 h1)
        have hp := pow_bd b h0 h1
        have hpz : ((2:Int) ^ (32 - b).toNat == 0) = false := by simp; omega
        go_enter Try.func34, Try.ntmps34
        go_wp2_with fail
        refine wp_region_B (by kernel_rfl) (by kernel_rfl) ?_
        repeat (go_big_quiet_step (first | (go_at_call 38; exact Calls.regrown_of (rvalid_r hv _)) | (go_at_call 39; exact Calls.regrown_of (rsize_any _ _ h0 h1))))
        refine wpQuiet_nil ?_
        intro w3 hb3
        have hB3 := below_mid hB0 hb3
        clear k0 k1
        go_wp2
        go_ret
        exact ⟨by rw [← HR.out]; rfl, hB3⟩
      · have HR := Lib.hid (show vpB a b = false by simp [vpB, h1])
        have d1 : decide (b ≤ 32) = false := by simpa using h1
        go_enter Try.func34, Try.ntmps34
        go_wp2_with fail
        refine wp_region_B (by kernel_rfl) (by kernel_rfl) ?_
        repeat (go_big_quiet_step ((go_at_call 38; exact Calls.regrown_of (rvalid_r hv _))))
        refine wpQuiet_nil ?_
        intro w3 hb3
        have hB3 := below_mid hB0 hb3
        clear k0 k1
        go_wp2
        go_ret
        exact ⟨by rw [HR.out]; rfl, hB3⟩
    · have HR := Lib.hid (show vpB a b = false by simp [vpB, h0])
      have d0 : decide (0 ≤ b) = false := by simpa using h0
      go_enter Try.func34, Try.ntmps34
      go_wp2_with fail
      refine wp_region_B (by kernel_rfl) (by kernel_rfl) ?_
      repeat (go_big_quiet_step ((go_at_call 38; exact Calls.regrown_of (rvalid_r hv _))))
      refine wpQuiet_nil ?_
      intro w3 hb3
      have hB3 := below_mid hB0 hb3
      clear k0 k1
      go_wp2
      go_ret
      exact ⟨by rw [HR.out]; rfl, hB3⟩

theorem rvalidPrefix_r {a b : Int} {r : Bool} (h : vpB a b = r) (w : World) :
    Calls Try.prog 34 #[.agg #[.int .i64 a, .int .i64 b]] w fun e w' => e = .returned (.bool r) ∧ Below w.heap.size w w' := h ▸ rvalidPrefix_any a b w

theorem rcon_quo (a b x : Int) (hv : vpB a b = true) (hx : validB x = true) : (x / ((2:Int) ^ (32 - b).toNat) == a / ((2:Int) ^ (32 - b).toNat)) = conB a b x := by
  simp only [conB, hv, hx, Bool.true_and]
  rw [Bool.eq_iff_iff]; simp

set_option maxHeartbeats 1000000 in
theorem rcontains_any (a b x : Int) (w : World) :
    Calls Try.prog 32 #[.agg #[.int .i64 a, .int .i64 b], .int .i64 x] w fun e w' => e = .returned (.bool (conB a b x)) ∧ Below w.heap.size w w' := by
  have k0 := cell_regrown (w := w.alloc (.cells #[.int .i64 a, .int .i64 b] 25)) (a := ⟨w.heap.size, 0, none⟩) (v := .int .i64 a) (by simp)
  have k1 := cell_regrown (w := w.alloc (.cells #[.int .i64 a, .int .i64 b] 25)) (a := ⟨w.heap.size, 1, none⟩) (v := .int .i64 b) (by simp)
  have hB0 := (Below.refl w.heap.size w).alloc (Nat.le_refl _) (.cells #[.int .i64 a, .int .i64 b] 25)
  cases hv : vpB a b
  case false =>
    have HR := Lib.hid (show conB a b x = false by simp [conB, hv])
    go_enter Try.func32, Try.ntmps32
    go_wp2_with fail
    refine wp_region_B (by kernel_rfl) (by kernel_rfl) ?_
    repeat (go_big_quiet_step ((go_at_call 34; exact Calls.regrown_of (rvalidPrefix_r hv _))))
    refine wpQuiet_nil ?_
    intro w3 hb3
    have hB3 := below_mid hB0 hb3
    clear k0 k1
    go_wp2
    go_ret
    exact ⟨by rw [HR.out]; rfl, hB3⟩
  case true =>
    cases hx : validB x
    case false =>
      have HR := Lib.hid (show conB a b x = false by simp [conB, hx])
      go_enter Try.func32, Try.ntmps32
      go_wp2_with fail
      refine wp_region_B (by kernel_rfl) (by kernel_rfl) ?_
      repeat (go_big_quiet_step (first | (go_at_call 34; exact Calls.regrown_of (rvalidPrefix_r hv _)) | (go_at_call 38; exact Calls.regrown_of (rvalid_r hx _))))
      refine wpQuiet_nil ?_
      intro w3 hb3
      have hB3 := below_mid hB0 hb3
      clear k0 k1
      go_wp2
      go_ret
      exact ⟨by rw [HR.out]; rfl, hB3⟩
    case true =>
      have HR := Lib.hid (rcon_quo a b x hv hx)
      obtain ⟨_, _, h0, h1, _⟩ := vpB_parts hv
      have hx1 : 0 ≤ x ∧ x ≤ 4294967295 := by simpa [validB] using hx
      have hp := pow_bd b h0 h1
      have hpz : ((2:Int) ^ (32 - b).toNat == 0) = false := by simp; omega
      go_enter Try.func32, Try.ntmps32
      go_wp2_with fail
      refine wp_region_B (by kernel_rfl) (by kernel_rfl) ?_
      repeat (go_big_quiet_step (first | (go_at_call 34; exact Calls.regrown_of (rvalidPrefix_r hv _)) | (go_at_call 38; exact Calls.regrown_of (rvalid_r hx _)) | (go_at_call 39; exact Calls.regrown_of (rsize_any _ _ h0 h1))))
      refine wpQuiet_nil ?_
      intro w3 hb3
      have hB3 := below_mid hB0 hb3
      clear k0 k1
      go_wp2
      go_ret
      exact ⟨by rw [← HR.out]; rfl, hB3⟩

end Go.Proofs.Ytkhhmoijjidbbaa
