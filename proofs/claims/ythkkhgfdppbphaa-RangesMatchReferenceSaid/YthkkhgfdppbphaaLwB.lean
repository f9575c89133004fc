/- Contract of the law's function sane. -/
import Derived.Test.YthkkhgfdppbphaaLwA
namespace Go.Proofs.Ythkkhgfdppbphaa
open Go.RowKit Go.Sort Go.Shelf
set_option linter.unusedVariables false

theorem run_bsS3 (x0 x1 y0 y1 z0 z1 : Int) (w : World) : (Instr.buildSlice 22 3 #[(0, .agg #[.int .i64 x0, .int .i64 x1]), (1, .agg #[.int .i64 y0, .int .i64 y1]), (2, .agg #[.int .i64 z0, .int .i64 z1])]).run Try.prog w = .ok (.slice (some ⟨w.heap.size, 0, none⟩) 3 3) (w.alloc (.cells #[.int .i64 x0, .int .i64 x1, .int .i64 y0, .int .i64 y1, .int .i64 z0, .int .i64 z1] 24)) := by kernel_rfl
theorem new_block (w : World) (o : Obj) : (w.alloc o).heap[w.heap.size]? = some o := by
  show (w.heap.push o)[w.heap.size]? = some o
  simp
theorem RdS_two (w : World) (x0 x1 y0 y1 : Int) (t : TypeId) : RdS (w.alloc (.cells #[.int .i64 x0, .int .i64 x1, .int .i64 y0, .int .i64 y1] t)) (.slice (some ⟨w.heap.size, 0, none⟩) 2 2) [⟨x0, x1⟩, ⟨y0, y1⟩] :=
  RdS_block (t := t) (l := [⟨x0, x1⟩, ⟨y0, y1⟩]) (new_block _ _) (by simp)
theorem RdS_three (w : World) (x0 x1 y0 y1 z0 z1 : Int) (t : TypeId) : RdS (w.alloc (.cells #[.int .i64 x0, .int .i64 x1, .int .i64 y0, .int .i64 y1, .int .i64 z0, .int .i64 z1] t)) (.slice (some ⟨w.heap.size, 0, none⟩) 3 3) [⟨x0, x1⟩, ⟨y0, y1⟩, ⟨z0, z1⟩] :=
  RdS_block (t := t) (l := [⟨x0, x1⟩, ⟨y0, y1⟩, ⟨z0, z1⟩]) (new_block _ _) (by simp)
theorem RdS_one' (w : World) (x0 x1 : Int) : RdS (w.alloc (.cells #[.int .i64 x0, .int .i64 x1] 24)) (.slice (some ⟨w.heap.size, 0, none⟩) 1 1) [⟨x0, x1⟩] := RdS_one w ⟨x0, x1⟩
theorem bal (w : World) (o : Obj) : Below w.heap.size w (w.alloc o) := (Below.refl _ _).alloc (Nat.le_refl _) o

theorem add_r {l r : List Sp} {s : Sp} (he : addF l s = r) (v : Value) (w : World) (h : RdS w v l) (hl : l.length ≤ 1000) : Calls Try.prog 17 #[v, spV s] w (ListPost w r) := he ▸ add_any l s v w h hl
theorem remove_r {l r : List Sp} {s : Sp} (he : remF l s = r) (v : Value) (w : World) (h : RdS w v l) (hl : l.length ≤ 1000) : Calls Try.prog 19 #[v, spV s] w (ListPost w r) := he ▸ remove_any l s v w h hl
theorem gaps_r {l r : List Sp} {s : Sp} (he : gapF l s = r) (v : Value) (w : World) (h : RdS w v l) (hl : l.length ≤ 1000) : Calls Try.prog 23 #[v, spV s] w (ListPost w r) := he ▸ gaps_any l s v w h hl
theorem count_r {l : List Sp} {r : Int} (he : cntF l = r) (v : Value) (w : World) (h : RdS w v l) : Calls Try.prog 25 #[v] w fun e w' => e = .returned (.int .i64 r) ∧ Below w.heap.size w w' := he ▸ count_any l v w h
theorem contains_r {l : List Sp} {s : Sp} {r : Bool} (he : conF l s = r) (v : Value) (w : World) (h : RdS w v l) : Calls Try.prog 21 #[v, spV s] w fun e w' => e = .returned (.bool r) ∧ Below w.heap.size w w' := he ▸ contains_any l s v w h
theorem valid_r {l : List Sp} {r : Bool} (he : canF (-1) l = r) (v : Value) (w : World) (h : RdS w v l) : Calls Try.prog 13 #[v] w fun e w' => e = .returned (.bool r) ∧ Below w.heap.size w w' := he ▸ valid_any l v w h
theorem same_r {l m : List Sp} {r : Bool} (he : decide (l = m) = r) (v u : Value) (w : World) (h : RdS w v l) (h2 : RdS w u m) : Calls Try.prog 15 #[v, u] w fun e w' => e = .returned (.bool r) ∧ Below w.heap.size w w' := he ▸ same_any l m v u w h h2

set_option maxHeartbeats 4000000 in
theorem sane_any (w : World) : Calls Try.prog 10 #[] w fun e w' => e = .returned (.bool true) ∧ Below w.heap.size w w' := by
  have r1 := run_bsS1
  have r2 := run_bsS2
  have r3 := run_bsS3
  go_enter Try.func10, Try.ntmps10
  have R1 := Lib.hid (RdS_two w 0 3 5 8 24)
  have B := Lib.hid (bal w (.cells #[.int .i64 0, .int .i64 3, .int .i64 5, .int .i64 8] 24))
  go_wp2_with fail
  refine (add_r (l := [⟨0, 3⟩, ⟨5, 8⟩]) (s := ⟨3, 5⟩) (r := [⟨0, 8⟩]) (by decide) _ _ R1.out (by decide)).mono ?_
  rintro e w1 ⟨va, rfl, ra, hb⟩
  replace R1 := Lib.hid (R1.out.stay hb)
  replace B := Lib.hid (below_mid B.out hb)
  have Ra := Lib.hid ra
  clear hb ra
  go_wp2_with fail
  refine (remove_r (l := [⟨0, 8⟩]) (s := ⟨2, 3⟩) (r := [⟨0, 2⟩, ⟨3, 8⟩]) (by decide) _ _ Ra.out (by decide)).mono ?_
  rintro e w2 ⟨vb, rfl, rb, hb⟩
  replace R1 := Lib.hid (R1.out.stay hb)
  replace Ra := Lib.hid (Ra.out.stay hb)
  replace B := Lib.hid (below_mid B.out hb)
  have Rb := Lib.hid rb
  clear hb rb
  have R2 := Lib.hid (RdS_two w2 2 3 5 6 24)
  replace R1 := Lib.hid (R1.out.stay (bal w2 (.cells #[.int .i64 2, .int .i64 3, .int .i64 5, .int .i64 6] 24)))
  replace Ra := Lib.hid (Ra.out.stay (bal w2 (.cells #[.int .i64 2, .int .i64 3, .int .i64 5, .int .i64 6] 24)))
  replace Rb := Lib.hid (Rb.out.stay (bal w2 (.cells #[.int .i64 2, .int .i64 3, .int .i64 5, .int .i64 6] 24)))
  replace B := Lib.hid (below_mid B.out (bal w2 (.cells #[.int .i64 2, .int .i64 3, .int .i64 5, .int .i64 6] 24)))
  go_wp2_with fail
  refine (gaps_r (l := [⟨2, 3⟩, ⟨5, 6⟩]) (s := ⟨0, 7⟩) (r := [⟨0, 2⟩, ⟨3, 5⟩, ⟨6, 7⟩]) (by decide) _ _ R2.out (by decide)).mono ?_
  rintro e w3 ⟨vc, rfl, rc, hb⟩
  replace R1 := Lib.hid (R1.out.stay hb)
  replace Ra := Lib.hid (Ra.out.stay hb)
  replace Rb := Lib.hid (Rb.out.stay hb)
  replace B := Lib.hid (below_mid B.out hb)
  have Rc := Lib.hid rc
  clear hb rc R2
  have R2 := Lib.hid (RdS_one' w3 3 3)
  have hb := bal w3 (.cells #[.int .i64 3, .int .i64 3] 24)
  replace R1 := Lib.hid (R1.out.stay hb)
  replace Ra := Lib.hid (Ra.out.stay hb)
  replace Rb := Lib.hid (Rb.out.stay hb)
  replace Rc := Lib.hid (Rc.out.stay hb)
  replace B := Lib.hid (below_mid B.out hb)
  clear hb
  go_wp2_with fail
  refine (add_r (l := [⟨3, 3⟩]) (s := ⟨0, 1⟩) (r := []) (by decide) _ _ R2.out (by decide)).mono ?_
  rintro e w4 ⟨vd, rfl, rd, hb⟩
  replace R1 := Lib.hid (R1.out.stay hb)
  replace Ra := Lib.hid (Ra.out.stay hb)
  replace Rb := Lib.hid (Rb.out.stay hb)
  replace Rc := Lib.hid (Rc.out.stay hb)
  replace B := Lib.hid (below_mid B.out hb)
  obtain ⟨ad, cd, rfl, hcd, hd⟩ := rd
  clear hd hb R2
  have R2 := Lib.hid (RdS_one' w4 0 8)
  have hb := bal w4 (.cells #[.int .i64 0, .int .i64 8] 24)
  replace R1 := Lib.hid (R1.out.stay hb)
  replace Ra := Lib.hid (Ra.out.stay hb)
  replace Rb := Lib.hid (Rb.out.stay hb)
  replace Rc := Lib.hid (Rc.out.stay hb)
  replace B := Lib.hid (below_mid B.out hb)
  clear hb
  go_wp2_with fail
  refine (rsame_r (l := [⟨0, 8⟩]) (r := [⟨0, 8⟩]) (b := true) (by decide) _ _ _ Ra.out R2.out).mono ?_
  rintro e w5 ⟨rfl, hb⟩
  replace R1 := Lib.hid (R1.out.stay hb)
  replace Ra := Lib.hid (Ra.out.stay hb)
  replace Rb := Lib.hid (Rb.out.stay hb)
  replace Rc := Lib.hid (Rc.out.stay hb)
  replace B := Lib.hid (below_mid B.out hb)
  clear hb R2
  have R2 := Lib.hid (RdS_two w5 0 2 3 8 24)
  have hb := bal w5 (.cells #[.int .i64 0, .int .i64 2, .int .i64 3, .int .i64 8] 24)
  replace R1 := Lib.hid (R1.out.stay hb)
  replace Ra := Lib.hid (Ra.out.stay hb)
  replace Rb := Lib.hid (Rb.out.stay hb)
  replace Rc := Lib.hid (Rc.out.stay hb)
  replace B := Lib.hid (below_mid B.out hb)
  clear hb
  go_wp2_with fail
  refine (rsame_r (l := [⟨0, 2⟩, ⟨3, 8⟩]) (r := [⟨0, 2⟩, ⟨3, 8⟩]) (b := true) (by decide) _ _ _ Rb.out R2.out).mono ?_
  rintro e w6 ⟨rfl, hb⟩
  replace R1 := Lib.hid (R1.out.stay hb)
  replace Ra := Lib.hid (Ra.out.stay hb)
  replace Rc := Lib.hid (Rc.out.stay hb)
  replace B := Lib.hid (below_mid B.out hb)
  clear hb R2 Rb
  have R2 := Lib.hid (RdS_three w6 0 2 3 5 6 7 24)
  have hb := bal w6 (.cells #[.int .i64 0, .int .i64 2, .int .i64 3, .int .i64 5, .int .i64 6, .int .i64 7] 24)
  replace R1 := Lib.hid (R1.out.stay hb)
  replace Ra := Lib.hid (Ra.out.stay hb)
  replace Rc := Lib.hid (Rc.out.stay hb)
  replace B := Lib.hid (below_mid B.out hb)
  clear hb
  go_wp2_with fail
  refine (rsame_r (l := [⟨0, 2⟩, ⟨3, 5⟩, ⟨6, 7⟩]) (r := [⟨0, 2⟩, ⟨3, 5⟩, ⟨6, 7⟩]) (b := true) (by decide) _ _ _ Rc.out R2.out).mono ?_
  rintro e w7 ⟨rfl, hb⟩
  replace R1 := Lib.hid (R1.out.stay hb)
  replace Ra := Lib.hid (Ra.out.stay hb)
  replace B := Lib.hid (below_mid B.out hb)
  clear hb R2 Rc
  go_wp2_with fail
  refine (count_r (l := [⟨0, 3⟩, ⟨5, 8⟩]) (r := 6) (by decide) _ _ R1.out).mono ?_
  rintro e w8 ⟨rfl, hb⟩
  replace R1 := Lib.hid (R1.out.stay hb)
  replace Ra := Lib.hid (Ra.out.stay hb)
  replace B := Lib.hid (below_mid B.out hb)
  clear hb
  go_wp2_with fail
  refine (contains_r (l := [⟨0, 3⟩, ⟨5, 8⟩]) (s := ⟨5, 7⟩) (r := true) (by decide) _ _ R1.out).mono ?_
  rintro e w9 ⟨rfl, hb⟩
  replace R1 := Lib.hid (R1.out.stay hb)
  replace Ra := Lib.hid (Ra.out.stay hb)
  replace B := Lib.hid (below_mid B.out hb)
  clear hb
  go_wp2_with fail
  refine (contains_r (l := [⟨0, 3⟩, ⟨5, 8⟩]) (s := ⟨2, 4⟩) (r := false) (by decide) _ _ R1.out).mono ?_
  rintro e w10 ⟨rfl, hb⟩
  replace R1 := Lib.hid (R1.out.stay hb)
  replace Ra := Lib.hid (Ra.out.stay hb)
  replace B := Lib.hid (below_mid B.out hb)
  clear hb
  go_wp2_with fail
  refine (valid_r (l := [⟨0, 3⟩, ⟨5, 8⟩]) (r := true) (by decide) _ _ R1.out).mono ?_
  rintro e w11 ⟨rfl, hb⟩
  replace R1 := Lib.hid (R1.out.stay hb)
  replace Ra := Lib.hid (Ra.out.stay hb)
  replace B := Lib.hid (below_mid B.out hb)
  clear hb
  have R2 := Lib.hid (RdS_one' w11 3 3)
  have hb := bal w11 (.cells #[.int .i64 3, .int .i64 3] 24)
  replace R1 := Lib.hid (R1.out.stay hb)
  replace Ra := Lib.hid (Ra.out.stay hb)
  replace B := Lib.hid (below_mid B.out hb)
  clear hb
  go_wp2_with fail
  refine (valid_r (l := [⟨3, 3⟩]) (r := false) (by decide) _ _ R2.out).mono ?_
  rintro e w12 ⟨rfl, hb⟩
  replace R1 := Lib.hid (R1.out.stay hb)
  replace Ra := Lib.hid (Ra.out.stay hb)
  replace B := Lib.hid (below_mid B.out hb)
  clear hb R2
  go_wp2_with fail
  refine (same_r (l := [⟨0, 3⟩, ⟨5, 8⟩]) (m := [⟨0, 3⟩, ⟨5, 8⟩]) (r := true) (by decide) _ _ _ R1.out R1.out).mono ?_
  rintro e w13 ⟨rfl, hb⟩
  replace R1 := Lib.hid (R1.out.stay hb)
  replace Ra := Lib.hid (Ra.out.stay hb)
  replace B := Lib.hid (below_mid B.out hb)
  clear hb
  go_wp2_with fail
  refine (same_r (l := [⟨0, 3⟩, ⟨5, 8⟩]) (m := [⟨0, 8⟩]) (r := false) (by decide) _ _ _ R1.out Ra.out).mono ?_
  rintro e w14 ⟨rfl, hb⟩
  replace B := Lib.hid (below_mid B.out hb)
  clear hb
  go_wp2
  go_ret
  exact ⟨rfl, B.out⟩

end Go.Proofs.Ythkkhgfdppbphaa
