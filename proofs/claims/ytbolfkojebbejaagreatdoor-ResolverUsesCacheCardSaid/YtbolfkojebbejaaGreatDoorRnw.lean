/- resolver.New. Printed by wip/tools/gen21c.py. -/
import Derived.Test.YtbolfkojebbejaaGreatDoorRsm
import Derived.Test.YtbolfkojebbejaaGreatDoorBm
import Derived.Test.YtbolfkojebbejaaGreatDoorBe
set_option linter.unusedVariables false
set_option maxRecDepth 100000
set_option maxHeartbeats 32000000
namespace Go.Proofs.YtbolfkojebbejaaGreatDoor
open Go.RowKit Go.Sort
attribute [local go_sem] Oper.semAt_some

theorem run_bdV (a : Option Addr) (n c : Nat) (sd : Int) (p : Nat) (w : World) : (Instr.build 128 #[(0, .slice a n c), (1, .int .i64 sd), (2, .pointer (some ⟨p, 0, none⟩))]).run Tryz.prog w = .ok (.agg #[.slice a n c, .int .i64 sd, .pointer (some ⟨p, 0, none⟩), .int .i64 0, .int .i64 0, .slice none 0 0, .slice none 0 0]) w := by kernel_rfl
theorem cIn_one (l : List Int) : ∀ u ∈ l.map cIn, u.oneCell' = true := by
 intro u hu
 obtain ⟨r, _, hr⟩ := List.mem_map.1 hu
 rw [← hr]; rfl
def RNewO (w0 : World) (D : Nat → Prop) (L : List Res) (xs : List Int) (sd : Int) (w : World) (e : Ending) (w' : World) : Prop := ∃ a, e = .returned (.tuple #[.pointer (some ⟨a, 0, none⟩), .int .i64 0]) ∧ Own w0 D w' (L ++ [resV a ⟨xs, sd, [], 0, 0, [], 0, []⟩]) ∧ w.heap.size ≤ w'.heap.size
theorem shutV_end {w0 w : World} {D : Nat → Prop} {L : List Res} {a c : Nat} {v : Value} {xs : List Int} {sd : Int} (h : Own w0 D w (L ++ [rowVs v xs, resC c [], blkV a v c (.slice none 0 0) (.slice none 0 0) sd 0 0])) : Own w0 D w (L ++ [resV a ⟨xs, sd, [], 0, 0, [], 0, []⟩]) := by
 have h1 := (h.rowNew 129 1).rowNew 63 3
 rw [List.append_assoc, List.append_assoc] at h1
 have h2 : Own w0 D w (L ++ [blkV a v c (.slice none 0 0) (.slice none 0 0) sd 0 0, rowVs v xs, resC c [], rowVw (.slice none 0 0) [], rowVd (.slice none 0 0) 0 []]) := h1.perm (List.Perm.append_left L (List.perm_middle (l₁ := [rowVs v xs, resC c []])))
 exact Own.rot (L := [resV a ⟨xs, sd, [], 0, 0, [], 0, []⟩]) (shutV (x := ⟨v, c, .slice none 0 0, .slice none 0 0⟩) (st := ⟨xs, sd, [], 0, 0, [], 0, []⟩) h2.rot)
theorem rnew_o {w0 w : World} {D : Nat → Prop} {L : List Res} {v : Value} {xs : List Int} {n : Nat} {sd : Int} (h : Own w0 D w L) (i : Nat) (hi : L[i]? = some (rowVs v xs)) (hn : xs.length = n) (h4 : n ≤ 4) (hv : ∀ j (hj : j < xs.length), 1 ≤ xs[j] ∧ xs[j] < 4294967295) (hd : ∀ j k (hj : j < xs.length) (hk : k < xs.length), j < k → xs[j] ≠ xs[k]) (s0 : 0 ≤ sd) (s1 : sd ≤ 4294967295) :
  Calls Tryz.prog 13 #[v, .int .i64 sd] w (RNewO w0 D L xs sd w) := by
 have hr := h.row i hi
 have HO := Hi h
 have HI := Hi hi
 have HV := Hi hv
 have HD := Hi hd
 have HN := Hi hn
 obtain ⟨a, cap, rfl⟩ := row_shape hr
 rw [hn] at hr
 have HR := Hi hr
 have HS := Hi (show 0 ≤ sd ∧ sd ≤ 4294967295 from ⟨s0, s1⟩)
 have m0 : decide ((n : Int) > 4) = false := decide_eq_false (by omega)
 have m1 : decide ((4 : Int) < (n : Int)) = false := decide_eq_false (by omega)
 have m2 : decide (sd > 4294967295) = false := decide_eq_false (by omega)
 have m3 : decide ((4294967295 : Int) < sd) = false := decide_eq_false (by omega)
 have m4 : decide (sd < 0) = false := decide_eq_false (by omega)
 rw [hn]
 clear h hi hv hd hr hn
 have rb := run_bdV
 go_enter Tryz.func13, Tryz.ntmps13
 go_wp2
 go_loopw [6, 7, 21] (fun _ _ iv wr => ∃ k : Nat, k ≤ n ∧ iv = .int .i64 k ∧ w = wr) (fun _ _ iv _ => n - (intOf iv).toNat)
 case atStart => exact ⟨0, Nat.zero_le _, rfl, rfl⟩
 case round =>
  obtain ⟨k, hk, rfl, rfl⟩ := hrel
  by_cases hlt : k < n
  ·
   obtain ⟨g, rfl⟩ := row_some HR.out (by omega)
   have hcc := (row_cells HR.out).1
   have hkl : k < xs.length := by rw [HN.out]; exact hlt
   have c0 : w.cell? ⟨g, k, none⟩ = some (.int .i64 xs[k]) := hcc k _ (by simp [hkl])
   have h0 := HV.out k hkl
   have hf : ∀ j (hj : j < k), xs.getD j 0 = xs[j] := fun j hj => by
    have hjl : j < xs.length := by omega
    simp [hjl]
   have hcl : ∀ j, j < k → w.cell? ⟨g, j, none⟩ = some (.int .i64 (xs.getD j 0)) := fun j hj => by
    have hjl : j < xs.length := by omega
    rw [hf j hj]
    exact hcc j _ (by simp [hjl])
   have hnx : ∀ j, j < k → xs.getD j 0 ≠ xs[k] := fun j hj => by
    rw [hf j hj]
    exact HD.out j k (by omega) hkl hj
   have HC := Hi (containsI_no w (g := g) (n := k) (cap := cap) (f := fun j => xs.getD j 0) (x := xs[k]) hcl hnx (by omega))
   clear hf hcl hnx
   generalize xs[k] = y at *
   obtain ⟨h1, h2⟩ := h0
   have d1 : decide (y < 1) = false := decide_eq_false (by omega)
   have d2 : decide (y ≥ 4294967295) = false := decide_eq_false (by omega)
   have d3 : decide (4294967295 ≤ y) = false := decide_eq_false (by omega)
   have hd : decide ((k : Int) < (n : Int)) = true := decide_eq_true (by omega)
   have hkc : k ≤ cap := by
    obtain ⟨_, ⟨e, _⟩ | ⟨g', cp, cur, e, _, _, hcp, _⟩⟩ := HR.out
    ·
     cases e
    ·
     cases e; omega
   clear hcc hkl
   go_wp2_with fail
   refine HC.out.mono ?_
   rintro e xp ⟨rfl, rfl⟩
   go_wp2
   go_roundw
   case rel => exact ⟨k + 1, by omega, by go_num, trivial⟩
   case measure => simp [intOf]; omega
  ·
   obtain rfl : k = n := by omega
   have hd : decide ((k : Int) < (k : Int)) = false := decide_eq_false (by omega)
   have HI2 := Hi (show L[i]? = some (rowR (.slice a k cap) 3 1 k (xs.map cIn)) by rw [← HN.out]; exact HI.out)
   go_wp2_with fail
   refine (clone_I HO.out i HI2.out (by omega) (cIn_one xs)).mono ?_
   rintro e x1 ⟨u, rfl, hO, hs1⟩
   have HS1 := Hi hs1
   clear hs1
   have hro : x1.ownsRow 0 3 1 u k (xs.map cIn) := hO.row L.length (by simp)
   obtain ⟨ua, uc, rfl⟩ := row_shape hro
   have HO1 := Hi hO
   clear hO hro
   go_wp2_with fail
   refine (cnew_o HO1.out).mono ?_
   rintro e x2 ⟨c, rfl, hO, hs2⟩
   have HO2 := Hi hO
   have HS2 := Hi (Nat.le_trans HS1.out hs2)
   clear hO hs2
   obtain ⟨x3, hx3⟩ : ∃ z, x2.alloc (.cells #[.slice ua k uc, .int .i64 sd, .pointer (some ⟨c, 0, none⟩), .int .i64 0, .int .i64 0, .slice none 0 0, .slice none 0 0] 128) = z := ⟨_, rfl⟩
   obtain ⟨p, hp⟩ : ∃ z, x2.heap.size = z := ⟨_, rfl⟩
   have hO := HO2.out.alloc (.cells #[.slice ua k uc, .int .i64 sd, .pointer (some ⟨c, 0, none⟩), .int .i64 0, .int .i64 0, .slice none 0 0, .slice none 0 0] 128)
   rw [hx3, hp] at hO
   rw [List.append_assoc, List.append_assoc] at hO
   have HO3 := Hi (show Own w0 D x3 (L ++ [rowVs (.slice ua k uc) xs, resC c [], blkV p (.slice ua k uc) c (.slice none 0 0) (.slice none 0 0) sd 0 0]) by
    rw [← HN.out]; rw [← HN.out] at hO; exact hO)
   have HSZ := Hi (show w.heap.size ≤ x3.heap.size from Nat.le_trans HS2.out (by rw [← hx3]; simp))
   clear hO
   go_wp2
   go_ret2
   exact ⟨p, rfl, shutV_end HO3.out, HSZ.out⟩
end Go.Proofs.YtbolfkojebbejaaGreatDoor
