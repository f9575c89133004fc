/- The resolver's Resolve and New where they refuse; the example of the laws of chapter 21. Printed by wip/tools/gen21s.py. -/
import Derived.Test.YtbolfkojebbejaaGreatDoorLr1
import Derived.Test.YtbolfkojebbejaaGreatDoorRrs
set_option linter.unusedVariables false
set_option maxRecDepth 100000
set_option maxHeartbeats 32000000
namespace Go.Proofs.YtbolfkojebbejaaGreatDoor
open Go.RowKit Go.Sort
variable {w0 w : World} {D : Nat → Prop} {L : List Res} {s : ByteArray}
attribute [local go_sem] Oper.semAt_some

theorem newZ {a : Nat} {xs : List Int} {sd : Int} (h : Own w0 D w (L ++ [resV a ⟨xs, sd, [], 0, 0, [], 0, []⟩])) : Own w0 D w (L ++ [resZ a ⟨xs, sd, [], 0, 0, [], []⟩]) := by
 have h1 : Own w0 D w (resV a ⟨xs, sd, [], 0, 0, [], 0, []⟩ :: L) := h.perm List.perm_append_comm
 have h2 : Own w0 D w (sepR [] :: resV a ⟨xs, sd, [], 0, 0, [], 0, []⟩ :: L) := Own.shutC (Rs := []) h1
 have h3 : Own w0 D w (resKs [] :: sepR [] :: resV a ⟨xs, sd, [], 0, 0, [], 0, []⟩ :: L) := Own.shutC (Rs := []) h2
 have h4 : Own w0 D w ([resKs [], sepR []] ++ resV a ⟨xs, sd, [], 0, 0, [], 0, []⟩ :: L) := h3
 have h5 := h4.perm List.perm_middle
 have h6 := shutZ (avs := []) (z := ⟨xs, sd, [], 0, 0, [], []⟩) rfl h5
 have h7 : Own w0 D w ([resZ a ⟨xs, sd, [], 0, 0, [], []⟩] ++ L) := h6
 exact h7.perm List.perm_append_comm
theorem resolve_name {a : Nat} (now : Int) (w : World) (hv : vname s = false) (hs : s.size ≤ maxLen) : Calls Tryz.prog 15 #[.pointer (some ⟨a, 0, none⟩), .int .i64 now, .string s] w fun e w' => e = .returned (.tuple #[.int .i64 0, .slice none 0 0, .int .i64 190]) ∧ Below w.heap.size w w' := by
 have HV := Hi (fun w => vname_r hv hs w)
 clear hv hs
 go_enter Tryz.func15, Tryz.ntmps15
 go_wp2_with fail
 refine (HV.out w).mono ?_
 rintro e w1 ⟨rfl, hb⟩
 go_wp2
 go_ret3
 exact ⟨rfl, hb⟩
theorem resolve_srv {a : Nat} {z : Rz} (now : Int) (h : Own w0 D w (resZ a z :: L)) (hv : vname s = true) (hs : s.size ≤ maxLen) (hn : z.sv = []) : Calls Tryz.prog 15 #[.pointer (some ⟨a, 0, none⟩), .int .i64 now, .string s] w fun e w' => e = .returned (.tuple #[.int .i64 0, .slice none 0 0, .int .i64 213]) ∧ Below w.heap.size w w' := by
 have HV := Hi (fun w => vname_r hv hs w)
 obtain ⟨avs, ⟨vs, c, vw, vd⟩, hl, hO⟩ := openZV h
 obtain ⟨sa, sc, hvs⟩ := row_shape (hO.row 1 rfl)
 obtain ⟨wa, wc, hvw⟩ := row_shape (hO.row 3 rfl)
 rw [List.length_map] at hvw
 have hs0 : z.sv.length = 0 := by rw [hn]; rfl
 rw [hs0] at hvs
 subst hvs hvw
 have HO := Hi hO
 clear hv hs hO h hl
 go_enter Tryz.func15, Tryz.ntmps15
 go_wp2_with fail
 refine (HV.out w).mono ?_
 rintro e w1 ⟨rfl, hb⟩
 have c0 := keep hb (show w.cell? ⟨a, 0, none⟩ = some (.slice sa 0 sc) from HO.out.cell 0 rfl 0 rfl)
 have HB := Hi hb
 clear hb HO
 go_wp2
 go_ret3
 exact ⟨rfl, HB.out⟩
theorem new_bad {v : Value} (w : World) (h : w.ownsRow 0 3 1 v 1 [.int .i64 0]) : Calls Tryz.prog 13 #[v, .int .i64 0] w fun e w' => e = .returned (.tuple #[.pointer none, .int .i64 210]) ∧ w = w' := by
 obtain ⟨p, c, rfl⟩ := row_shape h
 obtain ⟨g, rfl⟩ := row_some h (by decide)
 have c0 : w.cell? ⟨g, 0, none⟩ = some (.int .i64 0) := (row_cells h).1 0 _ rfl
 clear h
 go_enter Tryz.func13, Tryz.ntmps13
 go_wp2
 go_loopw [21] (fun iv wr => iv = .int .i64 0 ∧ w = wr) (fun _ _ => 0)
 case atStart => exact ⟨rfl, rfl⟩
 case round =>
  obtain ⟨rfl, rfl⟩ := hrel
  go_wp2
  go_ret2
  exact ⟨rfl, rfl⟩
def exRs : List Rc := [⟨⟨#[97, 46, 98]⟩, 2, 9, 0, ⟨#[99]⟩⟩, ⟨⟨#[99]⟩, 1, 9, 9, ⟨#[]⟩⟩]
theorem run_ex1 (w : World) : (Instr.build 49 #[(0, .string ⟨#[97, 46, 98]⟩), (1, .int .i64 2), (2, .int .i64 9), (4, .string ⟨#[99]⟩)]).run Tryz.prog w = .ok (.agg #[.string ⟨#[97, 46, 98]⟩, .int .i64 2, .int .i64 9, .int .i64 0, .string ⟨#[99]⟩]) w := by kernel_rfl
theorem run_ex2 (w : World) : (Instr.build 49 #[(0, .string ⟨#[99]⟩), (1, .int .i64 1), (2, .int .i64 9), (3, .int .i64 9)]).run Tryz.prog w = .ok (.agg #[.string ⟨#[99]⟩, .int .i64 1, .int .i64 9, .int .i64 9, .string ⟨#[]⟩]) w := by kernel_rfl
theorem run_ex3 (w : World) : (Instr.buildSlice 50 2 #[(0, .agg #[.string ⟨#[97, 46, 98]⟩, .int .i64 2, .int .i64 9, .int .i64 0, .string ⟨#[99]⟩]), (1, .agg #[.string ⟨#[99]⟩, .int .i64 1, .int .i64 9, .int .i64 9, .string ⟨#[]⟩])]).run Tryz.prog w = .ok (.slice (some ⟨w.heap.size, 0, none⟩) 2 2) (w.alloc (.cells #[.string ⟨#[97, 46, 98]⟩, .int .i64 2, .int .i64 9, .int .i64 0, .string ⟨#[99]⟩, .string ⟨#[99]⟩, .int .i64 1, .int .i64 9, .int .i64 9, .string ⟨#[]⟩] 49)) := by kernel_rfl
theorem example_r (w : World) : Calls Tryz.prog 64 #[] w fun e w' => ∃ g, e = .returned (.slice (some ⟨g, 0, none⟩) 2 2) ∧ Own w none0 w' [rowR (.slice (some ⟨g, 0, none⟩) 2 2) 49 5 2 (exRs.flatMap cRc)] := by
 have r1 := run_ex1
 have r2 := run_ex2
 have r3 := run_ex3
 have HO := Hi (Own.nil w none0)
 obtain ⟨x11, hx11, g, hg, hO⟩ := HO.out.allocE (.cells #[.string ⟨#[97, 46, 98]⟩, .int .i64 2, .int .i64 9, .int .i64 0, .string ⟨#[99]⟩, .string ⟨#[99]⟩, .int .i64 1, .int .i64 9, .int .i64 9, .string ⟨#[]⟩] 49)
 replace HO := Hi (show Own w none0 x11 [blkR g (.cells #[.string ⟨#[97, 46, 98]⟩, .int .i64 2, .int .i64 9, .int .i64 0, .string ⟨#[99]⟩, .string ⟨#[99]⟩, .int .i64 1, .int .i64 9, .int .i64 9, .string ⟨#[]⟩] 49)] from hO)
 clear hO
 have HQ := Hi (HO.out.toRowQ 0 2 5 rfl rfl (by decide))
 go_enter Tryz.func64, Tryz.ntmps64
 go_wp2
 go_ret
 exact ⟨_, rfl, HQ.out⟩
end Go.Proofs.YtbolfkojebbejaaGreatDoor
