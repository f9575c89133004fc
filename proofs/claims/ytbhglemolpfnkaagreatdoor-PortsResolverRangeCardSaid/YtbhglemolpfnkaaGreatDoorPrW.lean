/- The walk of PortsResolverRange. Printed by wip/tools/gen23J.py. -/
import Derived.Test.YtbhglemolpfnkaaGreatDoorRrs
import Derived.Test.YtbhglemolpfnkaaGreatDoorBu
import Derived.Test.YtbhglemolpfnkaaGreatDoorPexP
import Derived.Test.YtbhglemolpfnkaaGreatDoorPown
import Derived.Test.YtbhglemolpfnkaaGreatDoorBi
set_option linter.unusedVariables false
set_option maxRecDepth 100000
set_option maxHeartbeats 32000000
namespace Go.Proofs.YtbhglemolpfnkaaGreatDoor
open Go.RowKit Go.Sort
attribute [local go_sem] Oper.semAt_some

theorem wf_u8 {n : Int} (h : (Lit.int .u8 n).wf = true) : 0 ≤ n ∧ n ≤ 255 := by
 simpa [Lit.wf, IntKind.min, IntKind.max, IntKind.signed, IntKind.bits] using h
def abN : ByteArray := ⟨#[97, 46, 98]⟩
theorem abN_ok : vname abN = true := by decide
def xS : ByteArray := ⟨#[120]⟩
def prZ (sd : Int) (b : Nat) : Rz := ⟨[9], sd, [], 1, 1, [(b, ⟨1, [abN], 1, 1, 0, 9⟩)], []⟩
def pr0 (sd : Int) : Rz := ⟨[9], sd, [], 0, 0, [], []⟩
def prQ (sd : Int) : Qy := qyZ sd 0 9 abN
theorem pr_start (sd : Int) (b : Nat) : startZ 0 (pr0 sd) b abN = (prZ sd b, [prQ sd]) := by
 have h1 : rslF 0 [] [] 5 [abN] = ([abN], .ask) := by
  simp [rslF, foundF, knownF, ofN, lookD, recs, srtR, knwD, adF, nxF]
 show (match rslF 0 [] [] 5 [abN] with
  | (ch', .ask) => askZ 0 (pushZ (pr0 sd) b abN) 0 b ⟨1, ch', 0, 0, 0, 0⟩
  | (_, .addrs l) => (finZ (pushZ (pr0 sd) b abN) 0 1 0 l, [])
  | (_, .fail n) => (finZ (pushZ (pr0 sd) b abN) 0 1 n [], [])) = _
 rw [h1]
 rfl
theorem pr0_ok {sd : Int} (h0 : 0 ≤ sd) (h1 : sd ≤ 4294967295) : ZI (pr0 sd) :=
 ⟨by show 0 < 1; decide, by show 1 ≤ 4; decide, h0, h1, by show (0 : Int) ≤ 0; decide, by show 0 ≤ 100; decide, fun p hp => (by cases hp), by show 0 ≤ 1000; decide, by show 0 ≤ 32; decide, List.Pairwise.nil, fun e he => (by cases he)⟩
theorem prNew {w0 w : World} {D : Nat → Prop} {L : List Res} {a : Nat} {sd : Int} {xs : List Int} (h : Own w0 D w (L ++ [resV a ⟨xs, sd, [], 0, 0, [], 0, []⟩])) : Own w0 D w (L ++ [resZ a ⟨xs, sd, [], 0, 0, [], []⟩]) := by
 have h1 : Own w0 D w (resV a ⟨xs, sd, [], 0, 0, [], 0, []⟩ :: L) := h.perm List.perm_append_comm
 have h2 : Own w0 D w (sepR [] :: resV a ⟨xs, sd, [], 0, 0, [], 0, []⟩ :: L) := Own.shutC (Rs := []) h1
 have h3 : Own w0 D w (resKs [] :: sepR [] :: resV a ⟨xs, sd, [], 0, 0, [], 0, []⟩ :: L) := Own.shutC (Rs := []) h2
 have h4 : Own w0 D w (resV a ⟨xs, sd, [], 0, 0, [], 0, []⟩ :: resKs [] :: sepR [] :: L) := h3.perm (List.perm_middle (l₁ := [resKs [], sepR []]))
 have h5 : Own w0 D w (resZ a ⟨xs, sd, [], 0, 0, [], []⟩ :: L) := shutZ (avs := []) (z := ⟨xs, sd, [], 0, 0, [], []⟩) rfl h4
 exact h5.perm (List.perm_append_comm (l₁ := [resZ a ⟨xs, sd, [], 0, 0, [], []⟩]))
theorem pr_bd : ∀ j (hj : j < ([9] : List Int).length), 1 ≤ ([9] : List Int)[j] ∧ ([9] : List Int)[j] < 4294967295 := by decide
theorem pr_ne : ∀ j k (hj : j < ([9] : List Int).length) (hk : k < ([9] : List Int).length), j < k → ([9] : List Int)[j] ≠ ([9] : List Int)[k] := by
 intro j k hj hk h
 have hj' : j < 1 := hj
 have hk' : k < 1 := hk
 omega
theorem run_bs1q (a : Int) (w : World) : (Instr.buildSlice 31 1 #[(0, .int .i64 a)]).run Tryz.prog w = .ok (.slice (some ⟨w.heap.size, 0, none⟩) 1 1) (w.alloc (.cells #[.int .i64 a] 3)) := by kernel_rfl
theorem run_bdUd (p : Int) (w : World) : (Instr.build 41 #[(0, .int .i64 53), (1, .int .i64 p), (2, .string ⟨#[120]⟩)]).run Tryz.prog w = .ok (.agg #[.int .i64 53, .int .i64 p, .string ⟨#[120]⟩]) w := by kernel_rfl
section
variable {w0 w : World} {D : Nat → Prop} {L : List Res} {p : Nat} {st : PSt}
theorem lookP_o {pr po th tp n : Int} {b : Bool} (h : Own w0 D w L) (i : Nat) (hi : L[i]? = some (resP p st)) (he : lookF st pr po th tp = (n, b)) (hlen : st.J.length ≤ 1000000) :
  Calls Tryz.prog 13 #[.pointer (some ⟨p, 0, none⟩), .int .i64 pr, .int .i64 po, .int .i64 th, .int .i64 tp] w (OPost w0 D L (.tuple #[.int .i64 n, .bool b]) w) := by
 obtain ⟨F, h1, _⟩ := h.step hi
 exact o_still h (look_l he w h1 hlen)
end
def prB (sd : Int) (m : Nat) (pt : Int) : PSt := ⟨sd, m, exB sd 17 m ++ [(⟨17, pt⟩, 1000)], []⟩
theorem pr_none {sd pt : Int} {m : Nat} (h : pt < 30000) : look ⟨17, pt⟩ (exB sd 17 m) = none := exB_look (fun i _ e => by have := exP_bd sd i; omega)
theorem pr_look {sd pt : Int} {m : Nat} (h : pt < 30000) : lookF (exSt sd 17 m) 17 pt 9 53 = (0, false) := by
 unfold lookF
 rw [if_neg (by decide)]
 show (match look ⟨17, pt⟩ (exB sd 17 m) with
  | none => ((0 : Int), false)
  | some s => if heldOf (exSt sd 17 m).J s = [] then (s, true) else (0, false)) = _
 rw [pr_none h]
theorem pr_bindE {sd pt : Int} {m : Nat} (h0 : 1 ≤ pt) (h : pt < 30000) (hm : m ≤ 64) : bindE (exSt sd 17 m) 17 pt 1000 = 0 := by
 have hv : (vpr 17 && vpo pt) = true := by
  have : vpo pt = true := by simp [vpo]; omega
  rw [this]; decide
 have hb : bindOf (exSt sd 17 m).B 1000 = ⟨0, 0⟩ := by
  unfold bindOf exSt; simp only
  rw [exB_held (fun i hi => by omega)]; rfl
 unfold bindE
 rw [if_pos hv, hb]
 show (if ((look ⟨17, pt⟩ (exB sd 17 m)).isSome || _) = true then (231 : Int) else 0) = 0
 rw [pr_none h]
 rfl
theorem pr_bindS {sd pt : Int} {m : Nat} (h0 : 1 ≤ pt) (h : pt < 30000) (hm : m ≤ 64) : bindS (exSt sd 17 m) 17 pt 1000 = prB sd m pt := by
 unfold bindS
 rw [if_pos (pr_bindE h0 h hm)]
 rfl
theorem pr_last {k : Bk} {s : Int} : ∀ {l : List (Bk × Int)}, look k l = none → look k (l ++ [(k, s)]) = some s
 | [], _ => by simp [look]
 | x :: l, h => by
  simp only [look] at h
  split at h
  ·
   cases h
  ·
   rename_i hne
   show (if k = x.1 then some x.2 else look k (l ++ [(k, s)])) = some s
   rw [if_neg hne]
   exact pr_last h
theorem pr_look2 {sd pt : Int} {m : Nat} (h : pt < 30000) : lookF (prB sd m pt) 17 pt 9 53 = (1000, true) := by
 unfold lookF
 rw [if_neg (by decide)]
 show (match look ⟨17, pt⟩ (exB sd 17 m ++ [(⟨17, pt⟩, 1000)]) with
  | none => ((0 : Int), false)
  | some s => if heldOf ([] : List (Ck × Int)) s = [] then (s, true) else (0, false)) = _
 rw [pr_last (pr_none h)]
 rfl
theorem presolver_w (seed k mn : Int) (w : World) (hs : i64B seed) (hk : i64B k) (hm : 0 ≤ mn ∧ mn ≤ 255) (g : Glo) (hO : Own w glD w [glR g]) (k1 : w.heap[errG]? = some g.o1) (k2 : w.heap[ertG]? = some g.o2) :
  Calls Tryz.prog 3 #[.int .i64 seed, .int .i64 k, .int .u8 mn] w fun e w' => e = .returned (.bool true) ∧ Below w.heap.size w w' := by
 have HK := Hi (And.intro k1 k2)
 obtain ⟨sd, hsd⟩ : ∃ sd, pk k 4294967296 = sd := ⟨_, rfl⟩
 have HP1 := Hi (fun w => hsd ▸ pick_any k 4294967296 w hk (by decide))
 have HS := Hi (show 0 ≤ sd ∧ sd ≤ 4294967295 by rw [← hsd]; have := pk_bd k 4294967296 (by decide); omega)
 obtain ⟨mm, hmm⟩ : ∃ mm : Nat, (mm : Int) = mn % 60 := ⟨(mn % 60).toNat, by omega⟩
 have HM := Hi hmm
 have HML := Hi (show mm ≤ 59 by omega)
 obtain ⟨m0, m1⟩ := hm
 have HO := Hi hO
 have rb := run_bs1q
 clear hsd hmm hs hk hO k1 k2
 go_enter Tryz.func3, Tryz.ntmps3
 go_wp2_with fail
 refine (examples_o HO.out).mono ?_
 rintro e x1 ⟨rfl, hO, -⟩
 replace HO := Hi (show Own w glD x1 [glR g] from hO)
 clear hO
 go_wp2_with fail
 refine (new_o seed HO.out).mono ?_
 rintro e x2 ⟨p, rfl, hO, -⟩
 replace HO := Hi (show Own _ _ _ [_, resP p (exSt seed 17 0)] from hO)
 clear hO
 go_wp2
 go_loopw [9] (fun iv wr => ∃ j : Nat, j ≤ mm ∧ iv = .int .i64 j ∧ Own w glD wr [glR g, resP p (exSt seed 17 j)]) (fun iv _ => 60 - (intOf iv).toNat)
 case atStart => exact ⟨0, Nat.zero_le _, rfl, HO.out⟩
 case round =>
  obtain ⟨j, hj, rfl, hO⟩ := hrel
  replace HO := Hi hO
  clear hO
  have hml := HML.out
  have hme := HM.out
  by_cases hlt : (j : Int) < mn % 60
  ·
   have hd : decide ((j : Int) < mn % 60) = true := decide_eq_true hlt
   have HJ := Hi (show j < mm by omega)
   clear hlt
   go_wp2_with fail
   refine (any_o HO.out 1 rfl (ex_step (by have := HJ.out; omega) (by decide)) (by show (exB seed 17 j).length ≤ 1000000; rw [exB_len]; omega) (by show 0 ≤ 1000000; omega) (show (0 : Int) ≤ j by omega) (show (j : Int) ≤ 1000000 by omega)).mono ?_
   rintro e x101 ⟨rfl, hO, -⟩
   replace HO := Hi (show Own w glD x101 [glR g, resP p (exSt seed 17 (j + 1))] from hO)
   clear hO
   go_wp2
   go_roundw
   case rel => exact ⟨j + 1, HJ.out, by go_num, HO.out⟩
   case measure => have := HJ.out; simp [intOf]; omega
  ·
   have hjm : j = mm := by omega
   have hd : decide ((j : Int) < mn % 60) = false := decide_eq_false hlt
   clear hlt
   subst hjm
   obtain ⟨x201, hx201, bs, hbs, hO⟩ := HO.out.allocE (.cells #[.int .i64 9] 3)
   replace HO := Hi (show Own w glD x201 [glR g, resP p (exSt seed 17 j), blkR bs (.cells #[.int .i64 9] 3)] from hO)
   clear hO
   have hQ := HO.out.toRowQ 2 1 1 rfl rfl (by decide)
   replace HO := Hi (show Own w glD x201 [_, _, rowVs (.slice (some ⟨bs, 0, none⟩) 1 1) [9]] from hQ)
   clear hQ
   go_wp2_with fail
   refine (HP1.out _).mono ?_
   rintro e xp ⟨rfl, rfl⟩
   go_wp2_with fail
   refine (rnew_o (xs := [9]) (n := 1) HO.out 2 rfl rfl (by decide) pr_bd pr_ne HS.out.1 HS.out.2).mono ?_
   rintro e x202 ⟨a, rfl, hO, -⟩
   replace hO := prNew hO
   replace HO := Hi (show Own w glD x202 [resP p (exSt seed 17 j), resZ a (pr0 sd), glR g] from Own.toEnd hO 4 [1, 3, 0] rfl rfl)
   clear hO rb
   go_wp2_with fail
   refine (o_frame (A := [resP p (exSt seed 17 j)]) (B := [resZ a (pr0 sd), glR g]) (Q := fun e B' => ∃ b u, e = .returned (.tuple #[.int .i64 1, u, .int .i64 0]) ∧ B' = [resZ a (prZ sd b), glR g, rowQs u [prQ sd]]) HO.out (fun D' hD => (resolve_z (now := 0) hD (pr0_ok HS.out.1 HS.out.2) abN_ok (show (0 : Nat) < 8 by decide) (show (0 : Int) ≤ 100000 by decide) (show (0 : Int) ≤ 0 by decide) (show (0 : Int) ≤ 100000 by decide)).mono fun e w' ⟨b, u, h1, h2, h3⟩ => ⟨_, ⟨b, u, h1, rfl⟩, by rw [pr_start] at h2; exact h2, h3⟩)).mono ?_
   rintro e x203 ⟨B', ⟨b, u, rfl, rfl⟩, hO, -⟩
   obtain ⟨pt, hpt⟩ : ∃ y, 20000 + (sd + 101 * (0 + 1)) % 10000 = y := ⟨_, rfl⟩
   have HPT := Hi (show 20000 ≤ pt ∧ pt < 30000 by omega)
   obtain ⟨qs, hqs⟩ : ∃ y, (prQ sd).s = y := ⟨_, rfl⟩
   have HQC := Hi (show (([prQ sd] : List Qy).flatMap cQy) = [.int .i64 9, .int .i64 pt, .string qs] by rw [← hpt, ← hqs]; rfl)
   clear hpt hqs
   replace HO := Hi (show Own w glD x203 [resP p (exSt seed 17 j), resZ a (prZ sd b), glR g, rowR u 39 3 1 [.int .i64 9, .int .i64 pt, .string qs]] from by rw [← HQC.out]; exact hO)
   obtain ⟨ua, uc, rfl⟩ := row_shape (HO.out.row 3 rfl)
   obtain ⟨gq, rfl⟩ := row_some (HO.out.row 3 rfl) Nat.one_pos
   clear hO
   have c1 : x203.cell? ⟨gq, 1, none⟩ = some (.int .i64 pt) := (row_cells (HO.out.row 3 rfl)).1 1 _ rfl
   have rbu := run_bdUd pt
   have HE := Hi (fun w => uEncode_r 9 8 53 pt xS w (by decide) (by decide) (by decide) (by decide) (by decide) (by decide) (by have := HPT.out; omega) (by have := HPT.out; omega) (by decide))
   have HD := Hi (fun w => uDecode_r 9 8 53 pt xS w (by decide) (by decide) (by decide) (by decide) (by decide) (by decide) (by have := HPT.out; omega) (by have := HPT.out; omega) (by decide))
   generalize encU 9 8 53 pt xS = en at *
   go_wp2_with fail
   refine (o_still HO.out (HE.out _)).mono ?_
   rintro e x204 ⟨rfl, hO, -⟩
   replace HO := Hi (show Own _ _ _ [_, _, _, rowR (.slice (some ⟨gq, 0, none⟩) 1 uc) 39 3 1 [.int .i64 9, .int .i64 pt, .string qs]] from hO)
   clear hO
   clear hx201 hbs
   clear c1 rbu
   go_wp2_with fail
   refine (o_still HO.out (HD.out _)).mono ?_
   rintro e x205 ⟨rfl, hO, -⟩
   replace HO := Hi hO
   clear hO
   obtain ⟨x206, hx206, bu, hbu, hO⟩ := HO.out.allocE (.cells #[.int .i64 0, .int .i64 0, .string ⟨#[]⟩] 41)
   replace HO := Hi (show Own _ _ _ [_, _, _, _, blkR bu (.cells #[.int .i64 0, .int .i64 0, .string ⟨#[]⟩] 41)] from hO)
   clear hO
   obtain ⟨z4_0, z4_1, z4_2⟩ := HO.out.c3 4 rfl
   obtain ⟨x210, x213, x215, hx210, hx213, hx215, k4_0_207, lk4_0_207, k4_1_211, lk4_1_211, k4_2_214, lk4_2_214, hO⟩ := HO.out.steps3 4 rfl (.int .i64 53) (.int .i64 pt) (.string xS)
   replace HO := Hi (show Own _ _ _ [_, _, _, _, blkR bu (.cells #[.int .i64 53, .int .i64 pt, .string xS] 41)] from hO)
   clear hO
   have z4_1t : x215.cell? _ = some (.int .i64 pt) := HO.out.cell 4 rfl 1 rfl
   go_wp2_with fail
   refine (lookP_o HO.out 0 rfl (pr_look HPT.out.2) (by show 0 ≤ 1000000; omega)).mono ?_
   rintro e x216 ⟨rfl, hO, -⟩
   replace HO := Hi hO
   clear hO
   clear hx206 hbu z4_0 z4_1 z4_2 k4_0_207 lk4_0_207 hx210 k4_1_211 lk4_1_211 hx213 k4_2_214 lk4_2_214 hx215 z4_1t
   have z4_1 : x216.cell? _ = some (.int .i64 pt) := HO.out.cell 4 rfl 1 rfl
   go_wp2_with fail
   refine (bind_o HO.out 0 rfl (pr_bindE (by have := HPT.out; omega) HPT.out.2 (by omega)) (pr_bindS (by have := HPT.out; omega) HPT.out.2 (by omega)) (by show (exB seed 17 j).length ≤ 1000000; rw [exB_len]; omega)).mono ?_
   rintro e x217 ⟨rfl, hO, -⟩
   replace HO := Hi (show Own _ _ _ [resP p (prB seed j pt), _, _, _, _] from hO)
   clear hO
   clear z4_1
   have z4_1 : x217.cell? _ = some (.int .i64 pt) := HO.out.cell 4 rfl 1 rfl
   go_wp2_with fail
   refine (lookP_o HO.out 0 rfl (pr_look2 HPT.out.2) (by show 0 ≤ 1000000; omega)).mono ?_
   rintro e x218 ⟨rfl, hO, -⟩
   replace HO := Hi hO
   clear hO
   clear z4_1
   have HB := Hi (glo_below (Own.pick HO.out [2] (by decide) (L' := [glR g]) (fun k R h => by cases k with | zero => cases h; exact ⟨2, rfl, rfl⟩ | succ k => cases h)) HK.out.1 HK.out.2)
   go_wp2
   go_ret
   exact ⟨by simp, HB.out⟩
theorem presolver_card (seed k mn : Int) (w : World) (hs : i64B seed) (hk : i64B k) (hm : 0 ≤ mn ∧ mn ≤ 255) (h2 : w.cell? ⟨ertG, 0, none⟩ = some ertV) : Calls Tryz.prog 3 #[.int .i64 seed, .int .i64 k, .int .u8 mn] w fun e w' => e = .returned (.bool true) ∧ Below w.heap.size w w' := by
 obtain ⟨g, _, hO, k1, k2⟩ := glo_start w ⟨0, 0, none⟩ false (fun h => by cases h) h2
 exact presolver_w seed k mn w hs hk hm g hO k1 k2

end Go.Proofs.YtbhglemolpfnkaaGreatDoor
