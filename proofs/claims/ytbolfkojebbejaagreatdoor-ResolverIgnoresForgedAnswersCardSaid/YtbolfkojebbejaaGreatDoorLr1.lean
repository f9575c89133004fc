/- The laws of chapter 21: pick, Name, datagram; SameQuestions and SameFound at lists that are the same. Printed by wip/tools/gen21r.py. -/
import Derived.Test.YtbolfkojebbejaaGreatDoorDe
import Derived.Test.YtbolfkojebbejaaGreatDoorRcv
import Derived.Test.YtbolfkojebbejaaGreatDoorBh
set_option linter.unusedVariables false
set_option maxRecDepth 100000
set_option maxHeartbeats 32000000
namespace Go.Proofs.YtbolfkojebbejaaGreatDoor
open Go.RowKit Go.Sort
variable {s : ByteArray}
attribute [local go_sem] Oper.semAt_some

theorem pick21_any (c n : Int) (w : World) (hc : i64B c) (hn : 0 < n) :
  Calls Tryz.prog 21 #[.int .i64 c, .int .i64 n] w fun e w' => e = .returned (.int .i64 (pk c n)) ∧ w = w' := by
 obtain ⟨hc1, hc2⟩ := hc
 have hz : (n == 0) = false := by simp; omega
 by_cases h : c < 0
 ·
  have HP := Hi (show pk c n = (-(c + 1)) % n by simp [pk, h])
  go_enter Tryz.func21, Tryz.ntmps21
  go_wp2
  all_goals go_ret
  all_goals exact ⟨ret_i64' (by rw [HP.out, ← Int.neg_tmod, Int.tmod_eq_emod_of_nonneg (by omega)]), rfl⟩
 ·
  have HP := Hi (show pk c n = c % n by simp [pk, h])
  go_enter Tryz.func21, Tryz.ntmps21
  go_wp2
  all_goals go_ret
  all_goals exact ⟨ret_i64' (by rw [HP.out]), rfl⟩
theorem pick21_b (c n : Int) (w : World) (hc : i64B c) (hn : 0 < n) :
  Calls Tryz.prog 21 #[.int .i64 c, .int .i64 n] w fun e w' => e = .returned (.int .i64 (pk c n)) ∧ Below w.heap.size w w' := (pick21_any c n w hc hn).mono fun e w' ⟨h1, h2⟩ => ⟨h1, h2 ▸ Below.refl _ _⟩
def nm8 : Nat → ByteArray
 | 0 => ⟨#[97]⟩
 | 1 => ⟨#[98, 46, 99]⟩
 | 2 => ⟨#[119, 119, 119, 46, 120]⟩
 | 3 => ⟨#[100]⟩
 | 4 => ⟨#[101, 45, 49]⟩
 | 5 => ⟨#[102, 46, 103, 46, 104]⟩
 | 6 => ⟨#[120]⟩
 | _ => ⟨#[121, 57]⟩
def nmL (n : Int) : ByteArray := nm8 (pk n 8).toNat
theorem nm8_v (k : Nat) : vname (nm8 k) = true := by
 unfold nm8
 split <;> decide +kernel
theorem nmL_v (n : Int) : vname (nmL n) = true := nm8_v _
theorem pk8 (n : Int) : pk n 8 = 0 ∨ pk n 8 = 1 ∨ pk n 8 = 2 ∨ pk n 8 = 3 ∨ pk n 8 = 4 ∨ pk n 8 = 5 ∨ pk n 8 = 6 ∨ pk n 8 = 7 := by have := pk_bd n 8 (by decide); omega
theorem run_bsN8 (w : World) : (Instr.buildSlice 99 8 #[(0, .string ⟨#[97]⟩), (1, .string ⟨#[98, 46, 99]⟩), (2, .string ⟨#[119, 119, 119, 46, 120]⟩), (3, .string ⟨#[100]⟩), (4, .string ⟨#[101, 45, 49]⟩), (5, .string ⟨#[102, 46, 103, 46, 104]⟩), (6, .string ⟨#[120]⟩), (7, .string ⟨#[121, 57]⟩)]).run Tryz.prog w = .ok (.slice (some ⟨w.heap.size, 0, none⟩) 8 8) (w.alloc (.cells #[.string ⟨#[97]⟩, .string ⟨#[98, 46, 99]⟩, .string ⟨#[119, 119, 119, 46, 120]⟩, .string ⟨#[100]⟩, .string ⟨#[101, 45, 49]⟩, .string ⟨#[102, 46, 103, 46, 104]⟩, .string ⟨#[120]⟩, .string ⟨#[121, 57]⟩] 9)) := by kernel_rfl
theorem name21_any (n : Int) (w : World) (hn : i64B n) : Calls Tryz.prog 20 #[.int .i64 n] w fun e w' => e = .returned (.string (nmL n)) ∧ Below w.heap.size w w' := by
 have P := Hi (fun w => pick21_b n 8 w hn (by decide))
 have rb := run_bsN8
 have HF := Hi (show nmL n = nm8 (pk n 8).toNat from rfl)
 have h8 := pk8 n
 generalize pk n 8 = q at *
 clear hn
 have HO := Hi (Own.nil w none0)
 obtain ⟨x1, hx1, b, hb, hO⟩ := HO.out.allocE (.cells #[.string ⟨#[97]⟩, .string ⟨#[98, 46, 99]⟩, .string ⟨#[119, 119, 119, 46, 120]⟩, .string ⟨#[100]⟩, .string ⟨#[101, 45, 49]⟩, .string ⟨#[102, 46, 103, 46, 104]⟩, .string ⟨#[120]⟩, .string ⟨#[121, 57]⟩] 9)
 replace HO := Hi (show Own w none0 x1 [blkR b (.cells #[.string ⟨#[97]⟩, .string ⟨#[98, 46, 99]⟩, .string ⟨#[119, 119, 119, 46, 120]⟩, .string ⟨#[100]⟩, .string ⟨#[101, 45, 49]⟩, .string ⟨#[102, 46, 103, 46, 104]⟩, .string ⟨#[120]⟩, .string ⟨#[121, 57]⟩] 9)] from hO)
 clear hO
 rcases h8 with rfl | rfl | rfl | rfl | rfl | rfl | rfl | rfl
 ·
  go_enter Tryz.func20, Tryz.ntmps20
  go_wp2_with fail
  refine (o_still HO.out (P.out _)).mono ?_
  rintro e x2 ⟨rfl, hO, -⟩
  replace HO := Hi hO
  clear hO
  clear rb hx1
  have z0_0 : x2.cell? _ = some (.string ⟨#[97]⟩) := HO.out.cell 0 rfl 0 rfl
  go_wp2
  go_ret
  exact ⟨by rw [HF.out]; rfl, HO.out.below⟩
 ·
  go_enter Tryz.func20, Tryz.ntmps20
  go_wp2_with fail
  refine (o_still HO.out (P.out _)).mono ?_
  rintro e x2 ⟨rfl, hO, -⟩
  replace HO := Hi hO
  clear hO
  clear rb hx1
  have z0_1 : x2.cell? _ = some (.string ⟨#[98, 46, 99]⟩) := HO.out.cell 0 rfl 1 rfl
  go_wp2
  go_ret
  exact ⟨by rw [HF.out]; rfl, HO.out.below⟩
 ·
  go_enter Tryz.func20, Tryz.ntmps20
  go_wp2_with fail
  refine (o_still HO.out (P.out _)).mono ?_
  rintro e x2 ⟨rfl, hO, -⟩
  replace HO := Hi hO
  clear hO
  clear rb hx1
  have z0_2 : x2.cell? _ = some (.string ⟨#[119, 119, 119, 46, 120]⟩) := HO.out.cell 0 rfl 2 rfl
  go_wp2
  go_ret
  exact ⟨by rw [HF.out]; rfl, HO.out.below⟩
 ·
  go_enter Tryz.func20, Tryz.ntmps20
  go_wp2_with fail
  refine (o_still HO.out (P.out _)).mono ?_
  rintro e x2 ⟨rfl, hO, -⟩
  replace HO := Hi hO
  clear hO
  clear rb hx1
  have z0_3 : x2.cell? _ = some (.string ⟨#[100]⟩) := HO.out.cell 0 rfl 3 rfl
  go_wp2
  go_ret
  exact ⟨by rw [HF.out]; rfl, HO.out.below⟩
 ·
  go_enter Tryz.func20, Tryz.ntmps20
  go_wp2_with fail
  refine (o_still HO.out (P.out _)).mono ?_
  rintro e x2 ⟨rfl, hO, -⟩
  replace HO := Hi hO
  clear hO
  clear rb hx1
  have z0_4 : x2.cell? _ = some (.string ⟨#[101, 45, 49]⟩) := HO.out.cell 0 rfl 4 rfl
  go_wp2
  go_ret
  exact ⟨by rw [HF.out]; rfl, HO.out.below⟩
 ·
  go_enter Tryz.func20, Tryz.ntmps20
  go_wp2_with fail
  refine (o_still HO.out (P.out _)).mono ?_
  rintro e x2 ⟨rfl, hO, -⟩
  replace HO := Hi hO
  clear hO
  clear rb hx1
  have z0_5 : x2.cell? _ = some (.string ⟨#[102, 46, 103, 46, 104]⟩) := HO.out.cell 0 rfl 5 rfl
  go_wp2
  go_ret
  exact ⟨by rw [HF.out]; rfl, HO.out.below⟩
 ·
  go_enter Tryz.func20, Tryz.ntmps20
  go_wp2_with fail
  refine (o_still HO.out (P.out _)).mono ?_
  rintro e x2 ⟨rfl, hO, -⟩
  replace HO := Hi hO
  clear hO
  clear rb hx1
  have z0_6 : x2.cell? _ = some (.string ⟨#[120]⟩) := HO.out.cell 0 rfl 6 rfl
  go_wp2
  go_ret
  exact ⟨by rw [HF.out]; rfl, HO.out.below⟩
 ·
  go_enter Tryz.func20, Tryz.ntmps20
  go_wp2_with fail
  refine (o_still HO.out (P.out _)).mono ?_
  rintro e x2 ⟨rfl, hO, -⟩
  replace HO := Hi hO
  clear hO
  clear rb hx1
  have z0_7 : x2.cell? _ = some (.string ⟨#[121, 57]⟩) := HO.out.cell 0 rfl 7 rfl
  go_wp2
  go_ret
  exact ⟨by rw [HF.out]; rfl, HO.out.below⟩
theorem name21_r {n : Int} (h : nmL n = s) (hn : i64B n) (w : World) : Calls Tryz.prog 20 #[.int .i64 n] w fun e w' => e = .returned (.string s) ∧ Below w.heap.size w w' := h ▸ name21_any n w hn
theorem infoUd : (Tryz.prog.info? 56).map (·.size) = some 3 := by kernel_rfl
theorem run_bdUd (p : Int) (s : ByteArray) (w : World) : (Instr.build 56 #[(0, .int .i64 53), (1, .int .i64 p), (2, .string s)]).run Tryz.prog w = .ok (.agg #[.int .i64 53, .int .i64 p, .string s]) w := by kernel_rfl
theorem datagram_r {id cd port : Int} {an : Bool} {nm : ByteArray} {kd : Int} {a : Option Addr} {n cap : Nat} {rs : List Rc} (w : World) (hr : w.ownsRow 0 49 5 (.slice a n cap) n (rs.flatMap cRc)) (hn : rs.length = n) (hd : DmV ⟨id, an, cd, nm, kd, rs⟩) (hs : ⟨(encM ⟨id, an, cd, nm, kd, rs⟩).toArray⟩ = s) :
  Calls Tryz.prog 63 #[.int .i64 port, .agg #[.int .i64 id, .bool an, .int .i64 cd, .string nm, .int .i64 kd, .slice a n cap]] w fun e w' => e = .returned (.agg #[.int .i64 53, .int .i64 port, .string s]) ∧ Below w.heap.size w w' := by
 have HE := Hi (fun w' hb => encode19_r w' (row_stayB hr hb) hn hd)
 rw [hs] at HE
 have rb := run_bdUd port s
 have HO := Hi (Own.nil w none0)
 clear hr hn hd hs
 obtain ⟨x11, hx11, bx, hbx, hO⟩ := HO.out.allocE (.cells #[.int .i64 id, .bool an, .int .i64 cd, .string nm, .int .i64 kd, .slice a n cap] 86)
 replace HO := Hi (show Own w none0 x11 [blkR bx (.cells #[.int .i64 id, .bool an, .int .i64 cd, .string nm, .int .i64 kd, .slice a n cap] 86)] from hO)
 clear hO
 obtain ⟨x12, hx12, bu, hbu, hO⟩ := HO.out.allocE (.cells #[.int .i64 0, .int .i64 0, .string ⟨#[]⟩] 56)
 replace HO := Hi (show Own _ _ _ [_, blkR bu (.cells #[.int .i64 0, .int .i64 0, .string ⟨#[]⟩] 56)] from hO)
 clear hO
 obtain ⟨z0_0, z0_1, z0_2, z0_3, z0_4, z0_5⟩ := HO.out.c6 0 rfl
 go_enter Tryz.func63, Tryz.ntmps63
 go_wp2_with fail
 refine (o_still HO.out (HE.out _ HO.out.below)).mono ?_
 rintro e x13 ⟨rfl, hO, -⟩
 replace HO := Hi hO
 clear hO
 clear hx11 hbx hx12 hbu z0_0 z0_1 z0_2 z0_3 z0_4 z0_5
 obtain ⟨x17, x20, x22, hx17, hx20, hx22, k1_0_14, lk1_0_14, k1_1_18, lk1_1_18, k1_2_21, lk1_2_21, hO⟩ := HO.out.steps3 1 rfl (.int .i64 53) (.int .i64 port) (.string s)
 replace HO := Hi (show Own _ _ _ [_, blkR bu (.cells #[.int .i64 53, .int .i64 port, .string s] 56)] from hO)
 clear hO
 go_wp2
 refine bodyPost_ret (results_cell_row (P := Tryz.prog) rfl _ _ bu 56 _ _ _ rfl (HO.out.blk 1 rfl) Tryz.underlying56 rfl infoUd) rfl ?_
 exact ⟨rfl, HO.out.below⟩
theorem neq_qy (a b : Int) (s : ByteArray) (w : World) : (binOp .neq 37 (.agg #[.int .i64 a, .int .i64 b, .string s]) (.agg #[.int .i64 a, .int .i64 b, .string s])).run Tryz.prog w = .ok (.bool false) w := by
 simp [go_sem]
theorem sameQ_r {v u : Value} {n : Nat} {q : List Qy} (w : World) (h1 : w.ownsRow 0 37 3 v n (q.flatMap cQy)) (h2 : w.ownsRow 0 37 3 u n (q.flatMap cQy)) (hn : q.length = n) (hl : n ≤ 1000) :
  Calls Tryz.prog 45 #[v, u] w fun e w' => e = .returned (.bool true) ∧ Below w.heap.size w w' := by
 have H1 := Hi h1
 have H2 := Hi h2
 have HN := Hi hn
 obtain ⟨va, vc, rfl⟩ := row_shape h1
 obtain ⟨ua, uc, rfl⟩ := row_shape h2
 have HO := Hi (Own.nil w none0)
 clear h1 h2 hn
 go_enter Tryz.func45, Tryz.ntmps45
 go_wp2
 go_loopw [5] (fun iv wr => ∃ i : Nat, i ≤ n ∧ iv = .int .i64 i ∧ Own w none0 wr []) (fun iv _ => n - (intOf iv).toNat)
 case atStart => exact ⟨0, Nat.zero_le _, rfl, HO.out⟩
 case round =>
  obtain ⟨i, hi, rfl, hO⟩ := hrel
  clear HO
  have HO := Hi hO
  clear hO
  have hb : (n : Int) ≤ 1000 := by omega
  by_cases hlt : i < n
  ·
   have hd : decide ((i : Int) < (n : Int)) = true := decide_eq_true (by omega)
   have hkl : i < q.length := by rw [HN.out]; exact hlt
   have r1 := row_stayB H1.out HO.out.below
   have r2 := row_stayB H2.out HO.out.below
   obtain ⟨g1, rfl⟩ := row_some r1 (by omega)
   obtain ⟨g2, rfl⟩ := row_some r2 (by omega)
   have y1 : ∀ j u, j < 3 → (cQy q[i])[j]? = some u → wr.cell? ⟨g1, i * 3 + j, none⟩ = some u := fun j u hj hu => (row_cells r1).1 _ _ (by rw [flat_getR cQy 3 (fun _ => rfl) q i hkl j hj]; exact hu)
   have y2 : ∀ j u, j < 3 → (cQy q[i])[j]? = some u → wr.cell? ⟨g2, i * 3 + j, none⟩ = some u := fun j u hj hu => (row_cells r2).1 _ _ (by rw [flat_getR cQy 3 (fun _ => rfl) q i hkl j hj]; exact hu)
   generalize q[i] = x at *
   obtain ⟨xs, xp, xb⟩ := x
   have a0 := cell_regrown (show wr.cell? ⟨g1, i * 3, none⟩ = some (.int .i64 xs) from y1 0 _ (by decide) rfl)
   have a1 := cell_regrown (show wr.cell? ⟨g1, i * 3 + 1, none⟩ = some (.int .i64 xp) from y1 1 _ (by decide) rfl)
   have a2 := cell_regrown (show wr.cell? ⟨g1, i * 3 + 2, none⟩ = some (.string xb) from y1 2 _ (by decide) rfl)
   have b0 := cell_regrown (show wr.cell? ⟨g2, i * 3, none⟩ = some (.int .i64 xs) from y2 0 _ (by decide) rfl)
   have b1 := cell_regrown (show wr.cell? ⟨g2, i * 3 + 1, none⟩ = some (.int .i64 xp) from y2 1 _ (by decide) rfl)
   have b2 := cell_regrown (show wr.cell? ⟨g2, i * 3 + 2, none⟩ = some (.string xb) from y2 2 _ (by decide) rfl)
   have hq := neq_qy xs xp xb
   clear y1 y2 r1 r2 hkl
   go_wp2
   refine wp_region_B (by kernel_rfl) (by kernel_rfl) ?_
   iterate 9 (go_big_quiet_step (fail))
   refine wpQuiet_nil ?_
   intro y1 hbw
   have hO := HO.out.stay hbw
   replace HO := Hi hO
   clear hO hbw a0 a1 a2 b0 b1 b2 hq
   go_wp2
   go_roundw
   case rel => exact ⟨i + 1, by omega, by go_num, HO.out⟩
   case measure => simp [intOf]; omega
  ·
   obtain rfl : i = n := by omega
   have hd : decide ((i : Int) < (i : Int)) = false := decide_eq_false (by omega)
   go_wp2
   go_ret
   exact ⟨rfl, HO.out.below⟩
def RdRn (w : World) (v : Value) (dn : List Rn) (n : Nat) : Prop := dn.length = n ∧ ∃ p c, v = .slice p n c ∧ ∀ k, k < n → ∃ g q m d, p = some ⟨g, 0, none⟩ ∧ (dn.getD k ⟨0, 0, []⟩).ad.length = m ∧ m ≤ 1000 ∧ w.cell? ⟨g, k * 3, none⟩ = some (.int .i64 (dn.getD k ⟨0, 0, []⟩).tk) ∧ w.cell? ⟨g, k * 3 + 1, none⟩ = some (.int .i64 (dn.getD k ⟨0, 0, []⟩).er) ∧ w.cell? ⟨g, k * 3 + 2, none⟩ = some (.slice q m d) ∧
 ∀ j, j < m → ∃ h, q = some ⟨h, 0, none⟩ ∧ w.cell? ⟨h, j, none⟩ = some (.int .i64 ((dn.getD k ⟨0, 0, []⟩).ad.getD j 0))
theorem sameF_r {v u : Value} {n : Nat} {dn : List Rn} (w : World) (h1 : RdRn w v dn n) (h2 : RdRn w u dn n) (hl : n ≤ 1000) :
  Calls Tryz.prog 28 #[v, u] w fun e w' => e = .returned (.bool true) ∧ Below w.heap.size w w' := by
 obtain ⟨hn, va, vc, rfl, H1⟩ := h1
 obtain ⟨-, ua, uc, rfl, H2⟩ := h2
 have HA := Hi H1
 have HB := Hi H2
 have HO := Hi (Own.nil w none0)
 clear H1 H2 hn
 go_enter Tryz.func28, Tryz.ntmps28
 go_wp2
 go_loopw [5] (fun iv wr => ∃ i : Nat, i ≤ n ∧ iv = .int .i64 i ∧ Own w none0 wr []) (fun iv _ => n - (intOf iv).toNat)
 case atStart => exact ⟨0, Nat.zero_le _, rfl, HO.out⟩
 case round =>
  obtain ⟨i, hi, rfl, hO⟩ := hrel
  clear HO
  have HO := Hi hO
  clear hO
  have hb : (n : Int) ≤ 1000 := by omega
  by_cases hlt : i < n
  ·
   have hd : decide ((i : Int) < (n : Int)) = true := decide_eq_true (by omega)
   obtain ⟨g1, q1, m, d1, rfl, hm, hml, a0, a1, a2, ha⟩ := HA.out i hlt
   obtain ⟨g2, q2, m2, d2, rfl, hm2, -, b0, b1, b2, hb2⟩ := HB.out i hlt
   obtain rfl : m2 = m := by rw [← hm2, ← hm]
   generalize dn.getD i ⟨0, 0, []⟩ = x at *
   obtain ⟨xt, xe, xa⟩ := x
   simp only at a0 a1 b0 b1 hm ha hb2
   have HAA := Hi ha
   have HBB := Hi hb2
   have HC := Hi (And.intro a0 (And.intro a1 (And.intro a2 (And.intro b0 (And.intro b1 b2)))))
   have k0 := cell_regrown (keep HO.out.below a0)
   have k1 := cell_regrown (keep HO.out.below a1)
   have k2 := cell_regrown (keep HO.out.below a2)
   have l0 := cell_regrown (keep HO.out.below b0)
   have l1 := cell_regrown (keep HO.out.below b1)
   have l2 := cell_regrown (keep HO.out.below b2)
   clear a0 a1 a2 b0 b1 b2 ha hb2 hm2 hm
   go_wp2
   refine wp_region_B (by kernel_rfl) (by kernel_rfl) ?_
   iterate 39 (go_big_quiet_step (fail))
   refine wpQuiet_nil ?_
   intro y1 hbw
   have hO := HO.out.stay hbw
   replace HO := Hi hO
   clear hO hbw k0 k1 k2 l0 l1 l2
   go_wp2
   go_loopw [6] (fun iv wr => ∃ j : Nat, j ≤ m2 ∧ iv = .int .i64 j ∧ Own w none0 wr []) (fun iv _ => m2 - (intOf iv).toNat)
   case atStart => exact ⟨0, Nat.zero_le _, rfl, HO.out⟩
   case round =>
    obtain ⟨j, hj, rfl, hO⟩ := hrel
    clear HO
    have HO := Hi hO
    clear hO
    have hb3 : (m2 : Int) ≤ 1000 := by omega
    have a2 := keep HO.out.below HC.out.2.2.1
    have b2 := keep HO.out.below HC.out.2.2.2.2.2
    by_cases hlj : j < m2
    ·
     have hdj : decide ((j : Int) < (m2 : Int)) = true := decide_eq_true (by omega)
     obtain ⟨h1, rfl, e1⟩ := HAA.out j hlj
     obtain ⟨h2, rfl, e2⟩ := HBB.out j hlj
     have f1 := keep HO.out.below e1
     have f2 := keep HO.out.below e2
     generalize xa.getD j 0 = z at *
     clear e1 e2
     go_wp2
     have k2 := cell_regrown a2
     have l2 := cell_regrown b2
     have k3 := cell_regrown f1
     have l3 := cell_regrown f2
     refine wp_region_B (by kernel_rfl) (by kernel_rfl) ?_
     iterate 17 (go_big_quiet_step (fail))
     refine wpQuiet_nil ?_
     intro y2 hbw
     have hO := HO.out.stay hbw
     replace HO := Hi hO
     clear hO hbw k2 l2 k3 l3 a2 b2 f1 f2
     go_wp2
     go_roundw
     case rel => exact ⟨j + 1, by omega, by go_num, HO.out⟩
     case measure => simp [intOf]; omega
    ·
     obtain rfl : j = m2 := by omega
     have hdj : decide ((j : Int) < (j : Int)) = false := decide_eq_false (by omega)
     go_wp2
     go_roundw
     case rel => exact ⟨i + 1, by omega, by go_num, HO.out⟩
     case measure => simp [intOf]; omega
  ·
   obtain rfl : i = n := by omega
   have hd : decide ((i : Int) < (i : Int)) = false := decide_eq_false (by omega)
   go_wp2
   go_ret
   exact ⟨rfl, HO.out.below⟩
end Go.Proofs.YtbolfkojebbejaaGreatDoor
