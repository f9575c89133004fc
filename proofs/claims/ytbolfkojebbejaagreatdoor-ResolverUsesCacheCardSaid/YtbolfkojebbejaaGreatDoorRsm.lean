/- The resolver's small functions: current, id, port, due, named of nothing; slices.Contains of integers. Printed by wip/tools/gen21b.py. -/
import Derived.Test.YtbolfkojebbejaaGreatDoorBm
import Derived.Test.YtbolfkojebbejaaGreatDoorBc
set_option linter.unusedVariables false
set_option maxRecDepth 100000
set_option maxHeartbeats 32000000
namespace Go.Proofs.YtbolfkojebbejaaGreatDoor
open Go.RowKit Go.Sort
attribute [local go_sem] Oper.semAt_some

theorem current_r {b : Nat} {a : Option Addr} {n i cap : Nat} {xs : List Value} {s : ByteArray} (w : World) (hc : w.cell? ⟨b, 1, none⟩ = some (.slice a n cap)) (hr : w.ownsRow 0 9 1 (.slice a n cap) n xs) (hi : i + 1 = n) (hl : n ≤ 1000) (hs : xs[i]? = some (.string s)) : Calls Tryz.prog 72 #[.pointer (some ⟨b, 0, none⟩)] w fun e w' => e = .returned (.string s) ∧ Below w.heap.size w w' := by
 obtain ⟨g, rfl⟩ := row_some hr (by omega)
 have hcl : w.cell? ⟨g, i, none⟩ = some (.string s) := (row_cells hr).1 i _ hs
 have e1 : (n : Int) - 1 = (i : Int) := by omega
 have e2 : (i : Int) < (n : Int) := by omega
 have e3 : (0 : Int) ≤ (i : Int) := by omega
 have e4 : (i : Int) ≤ 1000 := by omega
 have g1 := cell_regrown hc
 have g2 := cell_regrown hcl
 clear hr hs hc hcl hi hl
 go_enter Tryz.func72, Tryz.ntmps72
 go_wp2
 refine wp_region_B (by kernel_rfl) (by kernel_rfl) ?_
 repeat (go_big_quiet_step (fail))
 refine wpQuiet_nil ?_
 intro y1 hbw
 go_wp2
 go_ret
 exact ⟨rfl, hbw⟩
theorem id_r {a : Nat} {sd k : Int} (w : World) (hc : w.cell? ⟨a, 1, none⟩ = some (.int .i64 sd)) (s0 : 0 ≤ sd) (s1 : sd ≤ 4294967295) (k0 : 0 ≤ k) (k1 : k ≤ 1000000) : Calls Tryz.prog 71 #[.pointer (some ⟨a, 0, none⟩), .int .i64 k] w fun e w' => e = .returned (.int .i64 ((sd + 7919 * k) % 65536)) ∧ w = w' := by
 have hn : 0 ≤ sd + 7919 * k := by omega
 go_enter Tryz.func71, Tryz.ntmps71
 go_wp2
 go_ret
 exact ⟨rfl, rfl⟩
theorem rport_r {a : Nat} {sd k : Int} (w : World) (hc : w.cell? ⟨a, 1, none⟩ = some (.int .i64 sd)) (s0 : 0 ≤ sd) (s1 : sd ≤ 4294967295) (k0 : 0 ≤ k) (k1 : k ≤ 1000000) : Calls Tryz.prog 70 #[.pointer (some ⟨a, 0, none⟩), .int .i64 k] w fun e w' => e = .returned (.int .i64 (20000 + (sd + 101 * k) % 10000)) ∧ w = w' := by
 have hn : 0 ≤ sd + 101 * k := by omega
 go_enter Tryz.func70, Tryz.ntmps70
 go_wp2
 go_ret
 exact ⟨rfl, rfl⟩
theorem indexI_no {g n cap : Nat} {f : Nat → Int} {x : Int} (w : World) (hcell : ∀ j, j < n → w.cell? ⟨g, j, none⟩ = some (.int .i64 (f j))) (hne : ∀ j, j < n → f j ≠ x) (hn : n ≤ 1000) : Calls Tryz.prog 108 #[.slice (some ⟨g, 0, none⟩) n cap, .int .i64 x] w fun e w' => e = .returned (.int .i64 (-1)) ∧ w = w' := by
 have HC := Hi hcell
 have HN := Hi hne
 clear hcell hne
 go_enter Tryz.func108, Tryz.ntmps108
 go_wp2
 go_loopw [5, 8] (fun _ iv wr => ∃ k : Nat, k ≤ n ∧ iv = .int .i64 k ∧ w = wr) (fun _ iv _ => n - (intOf iv).toNat)
 case atStart => exact ⟨0, Nat.zero_le _, rfl, rfl⟩
 case round =>
  obtain ⟨k, hk, rfl, rfl⟩ := hrel
  by_cases hlt : k < n
  ·
   have c0 := HC.out k hlt
   have h0 := HN.out k hlt
   generalize f k = y at *
   have h1 : (x == y) = false := by simpa using Ne.symm h0
   have h2 : (x = y) = False := eq_false (Ne.symm h0)
   have hd : decide ((k : Int) < (n : Int)) = true := decide_eq_true (by omega)
   clear h0
   go_wp2
   go_roundw
   case rel => exact ⟨k + 1, by omega, by go_num, trivial⟩
   case measure => simp [intOf]; omega
  ·
   obtain rfl : k = n := by omega
   have hd : decide ((k : Int) < (k : Int)) = false := decide_eq_false (by omega)
   go_wp2
   go_ret
   exact ⟨rfl, rfl⟩
theorem containsI_no {g n cap : Nat} {f : Nat → Int} {x : Int} (w : World) (hcell : ∀ j, j < n → w.cell? ⟨g, j, none⟩ = some (.int .i64 (f j))) (hne : ∀ j, j < n → f j ≠ x) (hn : n ≤ 1000) : Calls Tryz.prog 53 #[.slice (some ⟨g, 0, none⟩) n cap, .int .i64 x] w fun e w' => e = .returned (.bool false) ∧ w = w' := by
 have HI := Hi (indexI_no w (cap := cap) hcell hne hn)
 clear hcell hne
 go_enter Tryz.func53, Tryz.ntmps53
 go_wp2_with fail
 refine HI.out.mono ?_
 rintro e xp ⟨rfl, rfl⟩
 go_wp2
 go_ret
 exact ⟨rfl, rfl⟩
end Go.Proofs.YtbolfkojebbejaaGreatDoor
