/- The resolver's again, where it asks the next server. Printed by wip/tools/gen21e.py. -/
import Derived.Test.YtbolfkojebbejaaGreatDoorRsm
import Derived.Test.YtbolfkojebbejaaGreatDoorDx
import Derived.Test.YtbolfkojebbejaaGreatDoorBc
import Derived.Test.YtbolfkojebbejaaGreatDoorBb
set_option linter.unusedVariables false
set_option maxRecDepth 100000
set_option maxHeartbeats 32000000
namespace Go.Proofs.YtbolfkojebbejaaGreatDoor
open Go.RowKit Go.Sort
attribute [local go_sem] Oper.semAt_some

theorem Own.toRowQ {w0 w : World} {D : Nat → Prop} {L : List Res} (h : Own w0 D w L) (i : Nat) {b : Nat} {cs : List Value} {E : TypeId} (n sz : Nat) (hi : L[i]? = some (blkR b (.cells cs.toArray E))) (hl : cs.length = n * sz) (hn : n ≤ 1000) : Own w0 D w (L.set i (rowR (.slice (some ⟨b, 0, none⟩) n n) E sz n cs)) := by
 obtain ⟨F, h1, _, h3⟩ := h.step hi
 refine h3 (R' := rowR (.slice (some ⟨b, 0, none⟩) n n) E sz n cs) (F' := F) ⟨fun x => ?_, hl, .inr ⟨b, n, cs.toArray, rfl, Nat.zero_le _, h1.2, Nat.le_refl _, by unfold maxLen; omega, by simpa using hl, by simp [← hl]⟩⟩ (fun _ h => .inl h) (Upd.refl _ _)
 rw [h1.1 x]
 exact ⟨fun e => by rw [e]; rfl, fun e => by injection e with e; exact e.symm⟩
theorem run_bsQ (a b : Int) (s : ByteArray) (w : World) : (Instr.buildSlice 32 1 #[(0, .agg #[.int .i64 a, .int .i64 b, .string s])]).run Tryz.prog w = .ok (.slice (some ⟨w.heap.size, 0, none⟩) 1 1) (w.alloc (.cells #[.int .i64 a, .int .i64 b, .string s] 37)) := by kernel_rfl
def qryS (sd qn : Int) (nm : ByteArray) : ByteArray := ⟨(encM ⟨(sd + 7919 * (qn + 1)) % 65536, false, 0, nm, 1, []⟩).toArray⟩
def qryC (sd qn vy : Int) (nm : ByteArray) : List Value := [.int .i64 vy, .int .i64 (20000 + (sd + 101 * (qn + 1)) % 10000), .string (qryS sd qn nm)]
abbrev rowQ (v : Value) (n : Nat) (xs : List Value) : Res := rowR v 37 3 n xs
theorem pick3 {w0 w : World} {D : Nat → Prop} {a b c d : Res} (h : Own w0 D w [a, b, c, d]) : Own w0 D w [a, d, c] :=
 h.pick [0, 3, 2] (by decide) (fun k R hk => by
  match k, hk with
  | 0, hk => exact ⟨0, rfl, hk⟩
  | 1, hk => exact ⟨3, rfl, hk⟩
  | 2, hk => exact ⟨2, rfl, hk⟩)
theorem again_close {w0 w : World} {D : Nat → Prop} {a b q : Nat} {x : RvX} {st : Rv} {v : Value} {k : Lk} {m : Res} {cs : List Value} (h : Own w0 D w (blkK b v k :: rowK v k.ch :: (partsV a x st ++ [m, blkR q (.cells cs.toArray 37)]))) (hl : cs.length = 3) : Own w0 D w [resV a st, resK b k, rowQ (.slice (some ⟨q, 0, none⟩) 1 1) 1 cs] := by
 have h1 := (shutK h)
 have h2 : Own w0 D w (partsV a x st ++ [m, blkR q (.cells cs.toArray 37), resK b k]) := by
  have := Own.rot (L := [resK b k]) h1
  simpa [List.append_assoc] using this
 have h3 := shutV h2
 have h4 := h3.toRowQ 2 1 3 rfl (by omega) (by decide)
 exact pick3 h4
def AgPost (w : World) (D : Nat → Prop) (a b : Nat) (st : Rv) (k : Lk) (xs : List Value) (e : Ending) (w' : World) : Prop := ∃ v, e = .returned v ∧ Own w D w' [resV a st, resK b k, rowQ v 1 xs] ∧ w.heap.size ≤ w'.heap.size
theorem again_q {w : World} {D : Nat → Prop} {a b n t j : Nat} {sv : List Int} {sd : Int} {es : List En} {tk qn : Int} {wt : List Nat} {dl : Nat} {dn : List Value} {lt nu se s0 now vy : Int} {nm : ByteArray} {ch : List ByteArray} {m mi : Nat} (h : Own w D w [resV a ⟨sv, sd, es, tk, qn, wt, dl, dn⟩, resK b ⟨lt, ch, (t : Nat), nu, se, s0⟩])
  (hm : ch.length = m) (hmi : mi + 1 = m) (hml : m ≤ 100) (hnm : ch[mi]? = some nm) (hn : sv.length = n) (hn0 : 0 < n) (hn4 : n ≤ 4) (ht : t < 3 * n) (hj : t % n = j) (hy : sv[j]? = some vy) (hv : vname nm = true) (d0 : 0 ≤ sd) (d1 : sd ≤ 4294967295) (q0 : 0 ≤ qn) (q1 : qn ≤ 100000) :
  Calls Tryz.prog 61 #[.pointer (some ⟨a, 0, none⟩), .int .i64 now, .pointer (some ⟨b, 0, none⟩)] w (AgPost w D a b ⟨sv, sd, es, tk, qn + 1, wt, dl, dn⟩ ⟨lt, ch, ((t + 1 : Nat) : Int), qn + 1, now, vy⟩ (qryC sd qn vy nm)) := by
 obtain ⟨⟨vs, c, vw, vd⟩, hO⟩ := openV h
 have hO := Own.rot (L' := [resK b ⟨lt, ch, (t : Nat), nu, se, s0⟩]) hO
 obtain ⟨vk, hO⟩ := openK hO
 have hrk := hO.row 1 rfl
 have hrs := hO.row 3 rfl
 obtain ⟨ka, kc, rfl⟩ := row_shape hrk
 have HCM := Hi hm
 rw [hm] at hrk
 obtain ⟨gk, rfl⟩ := row_some hrk (by omega)
 have HMI := Hi (show (ch.map cSt)[mi]? = some (Value.string nm) by simp [hnm])
 have HML := Hi (show mi + 1 = m ∧ m ≤ 100 from ⟨hmi, hml⟩)
 obtain ⟨sa, sc, rfl⟩ := row_shape hrs
 rw [hn] at hrs
 obtain ⟨gs, rfl⟩ := row_some hrs hn0
 have hjn : j < n := by rw [← hj]; exact Nat.mod_lt _ hn0
 have hcs := (row_cells hrs).1 j (.int .i64 vy) (by simp [hy])
 have HCS := Hi hcs
 have HSV := Hi hn
 have e1 : (t : Int).tmod (n : Int) = (j : Int) := by rw [← hj]; simp [Int.tmod_eq_emod_of_nonneg]
 have e2 : (t : Int) % (n : Int) = (j : Int) := by rw [← hj]; simp
 have e3 : ((n : Int) == 0) = false := by simp; omega
 have e4 : ((n : Int) = 0) = False := eq_false (by omega)
 have e5 : decide ((t : Int) ≥ 3 * (n : Int)) = false := decide_eq_false (by omega)
 have e6 : decide (3 * (n : Int) ≤ (t : Int)) = false := decide_eq_false (by omega)
 have HE7 := Hi (show ((t : Int) + 1) = ((t + 1 : Nat) : Int) by omega)
 have b1 : (n : Int) ≤ 4 := by omega
 have b2 : (t : Int) ≤ 12 := by omega
 have HB := Hi (show t ≤ 12 ∧ n ≤ 4 ∧ j < n by omega)
 have HQ := Hi (show (0 ≤ sd ∧ sd ≤ 4294967295) ∧ 0 ≤ qn ∧ qn ≤ 100000 from ⟨⟨d0, d1⟩, q0, q1⟩)
 have HDM := Hi (show DmV ⟨(sd + 7919 * (qn + 1)) % 65536, false, 0, nm, 1, []⟩ from ⟨⟨by show 0 ≤ (sd + 7919 * (qn + 1)) % 65536; omega, by show (sd + 7919 * (qn + 1)) % 65536 ≤ 65535; omega⟩, ⟨by show (0 : Int) ≤ 0; decide, by show (0 : Int) ≤ 2; decide⟩, hv, .inl rfl, Nat.zero_le _, (fun r hr => by cases hr), fun _ => ⟨rfl, rfl⟩⟩)
 have HEN := Hi (fun w => encode_ok (id := (sd + 7919 * (qn + 1)) % 65536) (cd := 0) (an := false) (nm := nm) (kd := 1) (a := none) (n := 0) (cap := 0) (rs := []) w ⟨rfl, .inl ⟨rfl, rfl⟩⟩ rfl HDM.out)
 have HQS := Hi (show qryC sd qn vy nm = [.int .i64 vy, .int .i64 (20000 + (sd + 101 * (qn + 1)) % 10000), .string ⟨(encM ⟨(sd + 7919 * (qn + 1)) % 65536, false, 0, nm, 1, []⟩).toArray⟩] from rfl)
 generalize (⟨(encM ⟨(sd + 7919 * (qn + 1)) % 65536, false, 0, nm, 1, []⟩).toArray⟩ : ByteArray) = sm at *
 have HSY := Hi (show (sv.map cIn)[j]? = some (Value.int .i64 vy) by simp [hy])
 clear hm hmi hml hnm HDM hcs hn hj hy hrk hrs h hn0 hn4 ht hv d0 d1 hjn
 have HO := Hi (show Own w D w [blkR b (.cells #[.int .i64 lt, .slice (some ⟨gk, 0, none⟩) m kc, .int .i64 (t : Int), .int .i64 nu, .int .i64 se, .int .i64 s0] 131), rowR (.slice (some ⟨gk, 0, none⟩) m kc) 9 1 m (ch.map cSt), blkR a (.cells #[.slice (some ⟨gs, 0, none⟩) n sc, .int .i64 sd, .pointer (some ⟨c, 0, none⟩), .int .i64 tk, .int .i64 qn, vw, vd] 128), rowR (.slice (some ⟨gs, 0, none⟩) n sc) 3 1 n (sv.map cIn), resC c es, rowVw vw wt, rowVd vd dl dn] by rw [← HSV.out, ← HCM.out]; exact hO)
 clear hO
 go_enter Tryz.func61, Tryz.ntmps61
 go_wp2
 have g0_2 := cell_regrown (show w.cell? _ = some (.int .i64 (t : Int)) from HO.out.cell 0 rfl 2 rfl)
 have g2_0 := cell_regrown (show w.cell? _ = some (.slice (some ⟨gs, 0, none⟩) n sc) from HO.out.cell 2 rfl 0 rfl)
 refine wp_region_B (by kernel_rfl) (by kernel_rfl) ?_
 repeat (go_big_quiet_step (fail))
 refine wpQuiet_nil ?_
 intro y1 hbw
 have hO := HO.out.stay hbw
 replace HO := Hi (show Own w D y1 [blkR b (.cells #[.int .i64 lt, .slice (some ⟨gk, 0, none⟩) m kc, .int .i64 (t : Int), .int .i64 nu, .int .i64 se, .int .i64 s0] 131), rowR (.slice (some ⟨gk, 0, none⟩) m kc) 9 1 m (ch.map cSt), blkR a (.cells #[.slice (some ⟨gs, 0, none⟩) n sc, .int .i64 sd, .pointer (some ⟨c, 0, none⟩), .int .i64 tk, .int .i64 qn, vw, vd] 128), rowR (.slice (some ⟨gs, 0, none⟩) n sc) 3 1 n (sv.map cIn), resC c es, rowVw vw wt, rowVd vd dl dn] from hO)
 clear hO hbw g0_2 g2_0
 go_wp2
 have g0_2 := cell_regrown (show y1.cell? _ = some (.int .i64 (t : Int)) from HO.out.cell 0 rfl 2 rfl)
 have g2_0 := cell_regrown (show y1.cell? _ = some (.slice (some ⟨gs, 0, none⟩) n sc) from HO.out.cell 2 rfl 0 rfl)
 have gsv := cell_regrown (show y1.cell? ⟨gs, j, none⟩ = some (.int .i64 vy) from (row_cells (HO.out.row 3 rfl)).1 j _ HSY.out)
 have hjn := HB.out.2.2
 have hj0 : (0 : Int) ≤ (j : Int) := by omega
 have hjl : (j : Int) < (n : Int) := by omega
 refine wp_region_R 19 (by kernel_rfl) (by kernel_rfl) ?_
 simp only [List.take, List.drop]
 iterate 19 (first | (refine wpR_want (by kernel_rfl) rfl rfl ?_; intro K hK; go_big_quiet_op; go_big_quiet_on) | (refine wpR_is (by kernel_rfl) rfl _ (fun w _ => rfl) ?_; simp only [Act.put, l_T, l_S, l_Z]))
 refine wpR_nil (by kernel_rfl) (by simp) ?_
 rintro y2 hbw
 simp only [exAll]
 simp only [List.drop]
 have hO := HO.out.stay hbw
 replace HO := Hi hO
 clear hO hbw g0_2 g2_0 gsv hjn hj0 hjl
 have y0_5 := HO.out.frz 0 rfl 5
 have z0_5 : y2.cell? _ = some (.int .i64 s0) := HO.out.cell 0 rfl 5 rfl
 obtain ⟨x1, hx1, hO⟩ := HO.out.setE 0 rfl 5 (.int .i64 vy)
 replace HO := Hi (show Own _ _ _ [blkR b (.cells #[.int .i64 lt, .slice (some ⟨gk, 0, none⟩) m kc, .int .i64 (t : Int), .int .i64 nu, .int .i64 se, .int .i64 vy] 131), _, _, _, _, _, _] from hO)
 clear hO
 have y0_2 := HO.out.frz 0 rfl 2
 have z0_2 : x1.cell? _ = some (.int .i64 (t : Int)) := HO.out.cell 0 rfl 2 rfl
 obtain ⟨x2, hx2, hO⟩ := HO.out.setE 0 rfl 2 (.int .i64 ((t : Int) + 1))
 replace HO := Hi (show Own _ _ _ [blkR b (.cells #[.int .i64 lt, .slice (some ⟨gk, 0, none⟩) m kc, .int .i64 ((t : Int) + 1), .int .i64 nu, .int .i64 se, .int .i64 vy] 131), _, _, _, _, _, _] from hO)
 clear hO
 have y2_4 := HO.out.frz 2 rfl 4
 have z2_4 : x2.cell? _ = some (.int .i64 qn) := HO.out.cell 2 rfl 4 rfl
 obtain ⟨x3, hx3, hO⟩ := HO.out.setE 2 rfl 4 (.int .i64 (qn + 1))
 replace HO := Hi (show Own _ _ _ [_, _, blkR a (.cells #[.slice (some ⟨gs, 0, none⟩) n sc, .int .i64 sd, .pointer (some ⟨c, 0, none⟩), .int .i64 tk, .int .i64 (qn + 1), vw, vd] 128), _, _, _, _] from hO)
 clear hO
 have z2_4t : x3.cell? _ = some (.int .i64 (qn + 1)) := HO.out.cell 2 rfl 4 rfl
 have y0_3 := HO.out.frz 0 rfl 3
 have z0_3 : x3.cell? _ = some (.int .i64 nu) := HO.out.cell 0 rfl 3 rfl
 obtain ⟨x4, hx4, hO⟩ := HO.out.setE 0 rfl 3 (.int .i64 (qn + 1))
 replace HO := Hi (show Own _ _ _ [blkR b (.cells #[.int .i64 lt, .slice (some ⟨gk, 0, none⟩) m kc, .int .i64 ((t : Int) + 1), .int .i64 (qn + 1), .int .i64 se, .int .i64 vy] 131), _, _, _, _, _, _] from hO)
 clear hO
 have y0_4 := HO.out.frz 0 rfl 4
 have z0_4 : x4.cell? _ = some (.int .i64 se) := HO.out.cell 0 rfl 4 rfl
 obtain ⟨x5, hx5, hO⟩ := HO.out.setE 0 rfl 4 (.int .i64 now)
 replace HO := Hi (show Own _ _ _ [blkR b (.cells #[.int .i64 lt, .slice (some ⟨gk, 0, none⟩) m kc, .int .i64 ((t : Int) + 1), .int .i64 (qn + 1), .int .i64 now, .int .i64 vy] 131), _, _, _, _, _, _] from hO)
 clear hO
 have z0_3t : x5.cell? _ = some (.int .i64 (qn + 1)) := HO.out.cell 0 rfl 3 rfl
 have z0_1 : x5.cell? _ = some (.slice (some ⟨gk, 0, none⟩) m kc) := HO.out.cell 0 rfl 1 rfl
 go_wp2_with fail
 refine (id_r (k := qn + 1) _ (HO.out.cell 2 rfl 1 rfl) HQ.out.1.1 HQ.out.1.2 (by have := HQ.out; omega) (by have := HQ.out; omega)).mono ?_
 rintro e xp ⟨rfl, rfl⟩
 go_wp2_with fail
 refine (o_still HO.out (current_r (i := mi) _ (HO.out.cell 0 rfl 1 rfl) (HO.out.row 1 rfl) HML.out.1 (by have := HML.out; omega) HMI.out)).mono ?_
 rintro e x6 ⟨rfl, hO, -⟩
 replace HO := Hi hO
 clear hO
 clear y0_5 z0_5 hx1 y0_2 z0_2 hx2 y2_4 z2_4 hx3 z2_4t y0_3 z0_3 hx4 y0_4 z0_4 hx5 z0_3t z0_1
 obtain ⟨x7, hx7, bm, hbm, hO⟩ := HO.out.allocE (.cells #[.int .i64 0, .bool false, .int .i64 0, .string ⟨#[]⟩, .int .i64 0, .slice none 0 0] 86)
 replace HO := Hi (show Own _ _ _ [_, _, _, _, _, _, _, blkR bm (.cells #[.int .i64 0, .bool false, .int .i64 0, .string ⟨#[]⟩, .int .i64 0, .slice none 0 0] 86)] from hO)
 clear hO
 obtain ⟨x14, x20, x25, x29, x32, x34, hx14, hx20, hx25, hx29, hx32, hx34, k7_0_8, lk7_0_8, k7_1_15, lk7_1_15, k7_2_21, lk7_2_21, k7_3_26, lk7_3_26, k7_4_30, lk7_4_30, k7_5_33, lk7_5_33, hO⟩ := HO.out.steps6 7 rfl (.int .i64 ((sd + 7919 * (qn + 1)) % 65536)) (.bool false) (.int .i64 0) (.string nm) (.int .i64 1) (.slice none 0 0)
 replace HO := Hi (show Own _ _ _ [_, _, _, _, _, _, _, blkR bm (.cells #[.int .i64 ((sd + 7919 * (qn + 1)) % 65536), .bool false, .int .i64 0, .string nm, .int .i64 1, .slice none 0 0] 86)] from hO)
 clear hO
 obtain ⟨z7_0, z7_1, z7_2, z7_3, z7_4, z7_5⟩ := HO.out.c6 7 rfl
 go_wp2_with fail
 refine (o_still HO.out (HEN.out _)).mono ?_
 rintro e x35 ⟨rfl, hO, -⟩
 replace HO := Hi hO
 clear hO
 clear hx7 hbm k7_0_8 lk7_0_8 hx14 k7_1_15 lk7_1_15 hx20 k7_2_21 lk7_2_21 hx25 k7_3_26 lk7_3_26 hx29 k7_4_30 lk7_4_30 hx32 k7_5_33 lk7_5_33 hx34 z7_0 z7_1 z7_2 z7_3 z7_4 z7_5
 go_wp2
 have g0_5 := cell_regrown (show x35.cell? _ = some (.int .i64 vy) from HO.out.cell 0 rfl 5 rfl)
 have g0_3 := cell_regrown (show x35.cell? _ = some (.int .i64 (qn + 1)) from HO.out.cell 0 rfl 3 rfl)
 refine wp_region_R 13 (by kernel_rfl) (by kernel_rfl) ?_
 simp only [List.take, List.drop]
 iterate 9 (first | (refine wpR_want (by kernel_rfl) rfl rfl ?_; intro K hK; go_big_quiet_op; go_big_quiet_on) | (refine wpR_is (by kernel_rfl) rfl _ (fun w _ => rfl) ?_; simp only [Act.put, l_T, l_S, l_Z]))
 refine wpR_call (by kernel_rfl) rfl 70 #[.pointer (some ⟨a, 0, none⟩), .int .i64 (qn + 1)] (.int .i64 (20000 + (sd + 101 * (qn + 1)) % 10000)) (fun w => by simp [go_sem]) (fun w hb => ghO_quiet (rport_r (k := qn + 1) w (keep hb (HO.out.cell 2 rfl 1 rfl)) HQ.out.1.1 HQ.out.1.2 (by omega) (by omega))) ?_
 simp only [Act.put, l_T, l_S, l_Z]
 iterate 2 (first | (refine wpR_want (by kernel_rfl) rfl rfl ?_; intro K hK; go_big_quiet_op; go_big_quiet_on) | (refine wpR_is (by kernel_rfl) rfl _ (fun w _ => rfl) ?_; simp only [Act.put, l_T, l_S, l_Z]))
 refine wpR_ex (sblk x35.heap.size (.cells #[.int .i64 vy, .int .i64 (20000 + (sd + 101 * (qn + 1)) % 10000), .string sm] 37)) (sblk_lasts _ _) (by kernel_rfl) (fun a' w' hw' he => ?_) (fun d hd => ?_)
 ·
  have hs := hw'.size
  obtain ⟨hag, _⟩ := he
  have hag' : a'.eval (.tmp 95) = .agg #[.int .i64 vy, .int .i64 (20000 + (sd + 101 * (qn + 1)) % 10000), .string sm] := hag
  refine wp_of_value (v := .slice (some ⟨w'.heap.size, 0, none⟩) 1 1) (w' := w'.alloc (.cells #[.int .i64 vy, .int .i64 (20000 + (sd + 101 * (qn + 1)) % 10000), .string sm] 37)) (run_v_ok ?_) ⟨_, rfl, (Below.refl _ _).alloc (Nat.le_refl _) _, ⟨w'.heap.size, rfl, hs, new_block _ _⟩⟩
  simp only [List.map_toArray, List.map_cons, List.map_nil, hag']
  exact run_bsQ _ _ _ _
 cases hd
 simp only [List.nil_append]
 refine wpR_nil (by kernel_rfl) (by simp) ?_
 rintro y3 hbw
 simp only [exAll]
 rintro u96 ⟨bq, rfl, hgebq, hbbbq⟩
 simp only [Act.put, l_T, l_S, l_Z, List.drop]
 have hO := HO.out.push (R := blkR bq (.cells #[.int .i64 vy, .int .i64 (20000 + (sd + 101 * (qn + 1)) % 10000), .string sm] 37)) (F := fun z => z = bq) ⟨fun _ => Iff.rfl, hbbbq⟩ (fun z hz => hz ▸ hgebq) hbw
 clear hgebq hbbbq
 replace HO := Hi (show Own _ _ _ [_, _, _, _, _, _, _, _, blkR bq (.cells #[.int .i64 vy, .int .i64 (20000 + (sd + 101 * (qn + 1)) % 10000), .string sm] 37)] from hO)
 clear hO hbw g0_5 g0_3 
 go_wp2
 go_ret
 exact ⟨_, rfl, again_close (x := ⟨.slice (some ⟨gs, 0, none⟩) sv.length sc, c, vw, vd⟩) (v := .slice (some ⟨gk, 0, none⟩) m kc) (cs := qryC sd qn vy nm) (by rw [HQS.out]; have := HO.out; rw [← HSV.out, HE7.out, ← HCM.out] at this; rw [← HCM.out]; exact this) rfl, HO.out.size⟩
end Go.Proofs.YtbolfkojebbejaaGreatDoor
