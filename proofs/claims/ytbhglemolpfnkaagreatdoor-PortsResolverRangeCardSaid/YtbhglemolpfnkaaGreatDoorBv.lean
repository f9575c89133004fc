/- The resolver's again, where it asks the next server. -/
import Derived.Test.YtbhglemolpfnkaaGreatDoorBu
import Derived.Test.YtbhglemolpfnkaaGreatDoorDx
import Derived.Test.YtbhglemolpfnkaaGreatDoorBc
import Derived.Test.YtbhglemolpfnkaaGreatDoorBb
import Derived.Test.YtbhglemolpfnkaaGreatDoorBn
import Derived.Test.YtbhglemolpfnkaaGreatDoorClk
import Derived.Shelf.Small.Bits
import Derived.Shelf.Sort.Plain
import Derived.Shelf.Slices.CompactI
import Derived.Ground.NamesProg
import Derived.Ground.Names2Prog
import Derived.Test.YtbhglemolpfnkaaGreatDoorProg
import Derived.Test.YtbhglemolpfnkaaGreatDoorBm
import Derived.Test.YtbhglemolpfnkaaGreatDoorBg
import Derived.Lib.RowBridge
set_option linter.unusedVariables false
set_option maxRecDepth 100000
set_option maxHeartbeats 32000000
namespace Go.Proofs.YtbhglemolpfnkaaGreatDoor
variable {w0 w : World} {D : Nat → Prop} {L : List Res} {v : Value}
section
open Go.RowKit Go.Sort
attribute [local go_sem] Oper.semAt_some

theorem Own.toRowQ (h : Own w0 D w L) (i : Nat) {b : Nat} {cs : List Value} {E : TypeId} (n sz : Nat) (hi : L[i]? = some (blkR b (.cells cs.toArray E))) (hl : cs.length = n * sz) (hn : n ≤ 1000) : Own w0 D w (L.set i (rowR (.slice (some ⟨b, 0, none⟩) n n) E sz n cs)) := by
 obtain ⟨F, h1, _, h3⟩ := h.step hi
 refine h3 (R' := rowR (.slice (some ⟨b, 0, none⟩) n n) E sz n cs) (F' := F) ⟨fun x => ?_, hl, .inr ⟨b, n, cs.toArray, rfl, Nat.zero_le _, h1.2, Nat.le_refl _, by unfold maxLen; omega, by simpa using hl, by simp [← hl]⟩⟩ (fun _ h => .inl h) (Upd.refl _ _)
 rw [h1.1 x]
 exact ⟨fun e => by rw [e]; rfl, fun e => by injection e with e; exact e.symm⟩
theorem run_bsQ (a b : Int) (s : ByteArray) (w : World) : (Instr.buildSlice 33 1 #[(0, .agg #[.int .i64 a, .int .i64 b, .string s])]).run Tryz.prog w = .ok (.slice (some ⟨w.heap.size, 0, none⟩) 1 1) (w.alloc (.cells #[.int .i64 a, .int .i64 b, .string s] 39)) := by kernel_rfl
def qryS (sd qn : Int) (nm : ByteArray) : ByteArray := ⟨(encM ⟨(sd + 7919 * (qn + 1)) % 65536, false, 0, nm, 1, []⟩).toArray⟩
def qryC (sd qn vy : Int) (nm : ByteArray) : List Value := [.int .i64 vy, .int .i64 (20000 + (sd + 101 * (qn + 1)) % 10000), .string (qryS sd qn nm)]
abbrev rowQ (v : Value) (n : Nat) (xs : List Value) : Res := rowR v 39 3 n xs
theorem pick3 {a b c d : Res} (h : Own w0 D w [a, b, c, d]) : Own w0 D w [a, d, c] :=
 h.pick [0, 3, 2] (by decide) (fun k R hk => by
  match k, hk with
  | 0, hk => exact ⟨0, rfl, hk⟩
  | 1, hk => exact ⟨3, rfl, hk⟩
  | 2, hk => exact ⟨2, rfl, hk⟩)
theorem again_close {a b q : Nat} {x : RvX} {st : Rv} {k : Lk} {m : Res} {cs : List Value} (h : Own w0 D w (blkK b v k :: rowK v k.ch :: (partsV a x st ++ [m, blkR q (.cells cs.toArray 39)]))) (hl : cs.length = 3) : Own w0 D w [resV a st, resK b k, rowQ (.slice (some ⟨q, 0, none⟩) 1 1) 1 cs] := by
 have h1 := (shutK h)
 have h2 : Own w0 D w (partsV a x st ++ [m, blkR q (.cells cs.toArray 39), resK b k]) := by
  have := Own.rot (L := [resK b k]) h1
  simpa [List.append_assoc] using this
 have h3 := shutV h2
 have h4 := h3.toRowQ 2 1 3 rfl (by omega) (by decide)
 exact pick3 h4
def AgPost (w : World) (D : Nat → Prop) (a b : Nat) (st : Rv) (k : Lk) (xs : List Value) (e : Ending) (w' : World) : Prop := ∃ v, e = .returned v ∧ Own w D w' [resV a st, resK b k, rowQ v 1 xs] ∧ w.heap.size ≤ w'.heap.size
theorem again_q {a b n t j : Nat} {sv : List Int} {sd : Int} {es : List En} {tk qn : Int} {wt : List Nat} {dl : Nat} {dn : List Value} {lt nu se s0 now vy : Int} {nm : ByteArray} {ch : List ByteArray} {m mi : Nat} (h : Own w D w [resV a ⟨sv, sd, es, tk, qn, wt, dl, dn⟩, resK b ⟨lt, ch, (t : Nat), nu, se, s0⟩])
  (hm : ch.length = m) (hmi : mi + 1 = m) (hml : m ≤ 100) (hnm : ch[mi]? = some nm) (hn : sv.length = n) (hn0 : 0 < n) (hn4 : n ≤ 4) (ht : t < 3 * n) (hj : t % n = j) (hy : sv[j]? = some vy) (hv : vname nm = true) (d0 : 0 ≤ sd) (d1 : sd ≤ 4294967295) (q0 : 0 ≤ qn) (q1 : qn ≤ 100000) :
  Calls Tryz.prog 71 #[.pointer (some ⟨a, 0, none⟩), .int .i64 now, .pointer (some ⟨b, 0, none⟩)] w (AgPost w D a b ⟨sv, sd, es, tk, qn + 1, wt, dl, dn⟩ ⟨lt, ch, ((t + 1 : Nat) : Int), qn + 1, now, vy⟩ (qryC sd qn vy nm)) := by
 obtain ⟨⟨vs, c, vw, vd⟩, hO⟩ := openV h
 have hO := Own.rot (L' := [resK b ⟨lt, ch, (t : Nat), nu, se, s0⟩]) hO
 obtain ⟨vk, hO⟩ := openK hO
 have hrk := hO.row 1 rfl
 have hrs := hO.row 3 rfl
 obtain ⟨ka, kc, rfl⟩ := row_shape hrk
 have HCM := Hi hm
 rw [hm] at hrk
 obtain ⟨gk, rfl⟩ := row_some hrk (by omega)
 have HMI := Hi (show (ch.map cSt)[mi]? = some (Value.string nm) by simp [hnm])
 have HML := Hi (show mi + 1 = m ∧ m ≤ 100 from ⟨hmi, hml⟩)
 obtain ⟨sa, sc, rfl⟩ := row_shape hrs
 rw [hn] at hrs
 obtain ⟨gs, rfl⟩ := row_some hrs hn0
 have hjn : j < n := by rw [← hj]; exact Nat.mod_lt _ hn0
 have hcs := (row_cells hrs).1 j (.int .i64 vy) (by simp [hy])
 have HCS := Hi hcs
 have HSV := Hi hn
 have e1 : (t : Int).tmod (n : Int) = (j : Int) := by rw [← hj]; simp [Int.tmod_eq_emod_of_nonneg]
 have e2 : (t : Int) % (n : Int) = (j : Int) := by rw [← hj]; simp
 have e3 : ((n : Int) == 0) = false := by simp; omega
 have e4 : ((n : Int) = 0) = False := eq_false (by omega)
 have e5 : decide ((t : Int) ≥ 3 * (n : Int)) = false := decide_eq_false (by omega)
 have e6 : decide (3 * (n : Int) ≤ (t : Int)) = false := decide_eq_false (by omega)
 have HE7 := Hi (show ((t : Int) + 1) = ((t + 1 : Nat) : Int) by omega)
 have b1 : (n : Int) ≤ 4 := by omega
 have b2 : (t : Int) ≤ 12 := by omega
 have HB := Hi (show t ≤ 12 ∧ n ≤ 4 ∧ j < n by omega)
 have HQ := Hi (show (0 ≤ sd ∧ sd ≤ 4294967295) ∧ 0 ≤ qn ∧ qn ≤ 100000 from ⟨⟨d0, d1⟩, q0, q1⟩)
 have HDM := Hi (show DmV ⟨(sd + 7919 * (qn + 1)) % 65536, false, 0, nm, 1, []⟩ from ⟨⟨by show 0 ≤ (sd + 7919 * (qn + 1)) % 65536; omega, by show (sd + 7919 * (qn + 1)) % 65536 ≤ 65535; omega⟩, ⟨by show (0 : Int) ≤ 0; decide, by show (0 : Int) ≤ 2; decide⟩, hv, .inl rfl, Nat.zero_le _, (fun r hr => by cases hr), fun _ => ⟨rfl, rfl⟩⟩)
 have HEN := Hi (fun w => encode_ok (id := (sd + 7919 * (qn + 1)) % 65536) (cd := 0) (an := false) (nm := nm) (kd := 1) (a := none) (n := 0) (cap := 0) (rs := []) w ⟨rfl, .inl ⟨rfl, rfl⟩⟩ rfl HDM.out)
 have HQS := Hi (show qryC sd qn vy nm = [.int .i64 vy, .int .i64 (20000 + (sd + 101 * (qn + 1)) % 10000), .string ⟨(encM ⟨(sd + 7919 * (qn + 1)) % 65536, false, 0, nm, 1, []⟩).toArray⟩] from rfl)
 generalize (⟨(encM ⟨(sd + 7919 * (qn + 1)) % 65536, false, 0, nm, 1, []⟩).toArray⟩ : ByteArray) = sm at *
 have HSY := Hi (show (sv.map cIn)[j]? = some (Value.int .i64 vy) by simp [hy])
 clear hm hmi hml hnm HDM hcs hn hj hy hrk hrs h hn0 hn4 ht hv d0 d1 hjn
 have HO := Hi (show Own w D w [blkR b (.cells #[.int .i64 lt, .slice (some ⟨gk, 0, none⟩) m kc, .int .i64 (t : Int), .int .i64 nu, .int .i64 se, .int .i64 s0] 107), rowR (.slice (some ⟨gk, 0, none⟩) m kc) 9 1 m (ch.map cSt), blkR a (.cells #[.slice (some ⟨gs, 0, none⟩) n sc, .int .i64 sd, .pointer (some ⟨c, 0, none⟩), .int .i64 tk, .int .i64 qn, vw, vd] 103), rowR (.slice (some ⟨gs, 0, none⟩) n sc) 3 1 n (sv.map cIn), resC c es, rowVw vw wt, rowVd vd dl dn] by rw [← HSV.out, ← HCM.out]; exact hO)
 clear hO
 go_enter Tryz.func71, Tryz.ntmps71
 go_wp2
 have g0_2 := cell_regrown (show w.cell? _ = some (.int .i64 (t : Int)) from HO.out.cell 0 rfl 2 rfl)
 have g2_0 := cell_regrown (show w.cell? _ = some (.slice (some ⟨gs, 0, none⟩) n sc) from HO.out.cell 2 rfl 0 rfl)
 refine wp_region_B (by kernel_rfl) (by kernel_rfl) ?_
 repeat (go_big_quiet_step (fail))
 refine wpQuiet_nil ?_
 intro y1 hbw
 have hO := HO.out.stay hbw
 replace HO := Hi hO
 clear hO hbw g0_2 g2_0
 go_wp2
 obtain ⟨-, -, g0_2, -, -, -⟩ := HO.out.g6 0 rfl
 obtain ⟨g2_0, -, -, -, -, -, -⟩ := HO.out.g7 2 rfl
 have gsv := cell_regrown (show y1.cell? ⟨gs, j, none⟩ = some (.int .i64 vy) from (row_cells (HO.out.row 3 rfl)).1 j _ HSY.out)
 have hjn := HB.out.2.2
 have hj0 : (0 : Int) ≤ (j : Int) := by omega
 have hjl : (j : Int) < (n : Int) := by omega
 refine wp_region_R 19 (by kernel_rfl) (by kernel_rfl) ?_
 simp only [List.take, List.drop]
 iterate 19 (first | (refine wpR_want (by kernel_rfl) rfl rfl ?_; intro K hK; go_big_quiet_op; go_big_quiet_on) | (refine wpR_is (by kernel_rfl) rfl _ (fun w _ => rfl) ?_; simp only [Act.put, l_T, l_S, l_Z]))
 refine wpR_nil (by kernel_rfl) (by simp) ?_
 rintro y2 hbw
 simp only [exAll]
 simp only [List.drop]
 have hO := HO.out.stay hbw
 replace HO := Hi hO
 clear hO hbw g0_2 g2_0 gsv hjn hj0 hjl
 have y0_5 := HO.out.frz 0 rfl 5
 have z0_5 : y2.cell? _ = some (.int .i64 s0) := HO.out.cell 0 rfl 5 rfl
 obtain ⟨x1, hx1, hO⟩ := HO.out.setE 0 rfl 5 (.int .i64 vy)
 replace HO := Hi (show Own _ _ _ [blkR b (.cells #[.int .i64 lt, .slice (some ⟨gk, 0, none⟩) m kc, .int .i64 (t : Int), .int .i64 nu, .int .i64 se, .int .i64 vy] 107), _, _, _, _, _, _] from hO)
 clear hO
 have y0_2 := HO.out.frz 0 rfl 2
 have z0_2 : x1.cell? _ = some (.int .i64 (t : Int)) := HO.out.cell 0 rfl 2 rfl
 obtain ⟨x2, hx2, hO⟩ := HO.out.setE 0 rfl 2 (.int .i64 ((t : Int) + 1))
 replace HO := Hi (show Own _ _ _ [blkR b (.cells #[.int .i64 lt, .slice (some ⟨gk, 0, none⟩) m kc, .int .i64 ((t : Int) + 1), .int .i64 nu, .int .i64 se, .int .i64 vy] 107), _, _, _, _, _, _] from hO)
 clear hO
 have y2_4 := HO.out.frz 2 rfl 4
 have z2_4 : x2.cell? _ = some (.int .i64 qn) := HO.out.cell 2 rfl 4 rfl
 obtain ⟨x3, hx3, hO⟩ := HO.out.setE 2 rfl 4 (.int .i64 (qn + 1))
 replace HO := Hi (show Own _ _ _ [_, _, blkR a (.cells #[.slice (some ⟨gs, 0, none⟩) n sc, .int .i64 sd, .pointer (some ⟨c, 0, none⟩), .int .i64 tk, .int .i64 (qn + 1), vw, vd] 103), _, _, _, _] from hO)
 clear hO
 have z2_4t : x3.cell? _ = some (.int .i64 (qn + 1)) := HO.out.cell 2 rfl 4 rfl
 have y0_3 := HO.out.frz 0 rfl 3
 have z0_3 : x3.cell? _ = some (.int .i64 nu) := HO.out.cell 0 rfl 3 rfl
 obtain ⟨x4, hx4, hO⟩ := HO.out.setE 0 rfl 3 (.int .i64 (qn + 1))
 replace HO := Hi (show Own _ _ _ [blkR b (.cells #[.int .i64 lt, .slice (some ⟨gk, 0, none⟩) m kc, .int .i64 ((t : Int) + 1), .int .i64 (qn + 1), .int .i64 se, .int .i64 vy] 107), _, _, _, _, _, _] from hO)
 clear hO
 have y0_4 := HO.out.frz 0 rfl 4
 have z0_4 : x4.cell? _ = some (.int .i64 se) := HO.out.cell 0 rfl 4 rfl
 obtain ⟨x5, hx5, hO⟩ := HO.out.setE 0 rfl 4 (.int .i64 now)
 replace HO := Hi (show Own _ _ _ [blkR b (.cells #[.int .i64 lt, .slice (some ⟨gk, 0, none⟩) m kc, .int .i64 ((t : Int) + 1), .int .i64 (qn + 1), .int .i64 now, .int .i64 vy] 107), _, _, _, _, _, _] from hO)
 clear hO
 have z0_3t : x5.cell? _ = some (.int .i64 (qn + 1)) := HO.out.cell 0 rfl 3 rfl
 have z0_1 : x5.cell? _ = some (.slice (some ⟨gk, 0, none⟩) m kc) := HO.out.cell 0 rfl 1 rfl
 go_wp2_with fail
 refine (id_r (k := qn + 1) _ (HO.out.cell 2 rfl 1 rfl) HQ.out.1.1 HQ.out.1.2 (by have := HQ.out; omega) (by have := HQ.out; omega)).mono ?_
 rintro e xp ⟨rfl, rfl⟩
 go_wp2_with fail
 refine (o_still HO.out (current_r (i := mi) _ (HO.out.cell 0 rfl 1 rfl) (HO.out.row 1 rfl) HML.out.1 (by have := HML.out; omega) HMI.out)).mono ?_
 rintro e x6 ⟨rfl, hO, -⟩
 replace HO := Hi hO
 clear hO
 clear y0_5 z0_5 hx1 y0_2 z0_2 hx2 y2_4 z2_4 hx3 z2_4t y0_3 z0_3 hx4 y0_4 z0_4 hx5 z0_3t z0_1
 obtain ⟨x7, hx7, bm, hbm, hO⟩ := HO.out.allocE (.cells #[.int .i64 0, .bool false, .int .i64 0, .string ⟨#[]⟩, .int .i64 0, .slice none 0 0] 116)
 replace HO := Hi (show Own _ _ _ [_, _, _, _, _, _, _, blkR bm (.cells #[.int .i64 0, .bool false, .int .i64 0, .string ⟨#[]⟩, .int .i64 0, .slice none 0 0] 116)] from hO)
 clear hO
 obtain ⟨x14, x20, x25, x29, x32, x34, hx14, hx20, hx25, hx29, hx32, hx34, k7_0_8, lk7_0_8, k7_1_15, lk7_1_15, k7_2_21, lk7_2_21, k7_3_26, lk7_3_26, k7_4_30, lk7_4_30, k7_5_33, lk7_5_33, hO⟩ := HO.out.steps6 7 rfl (.int .i64 ((sd + 7919 * (qn + 1)) % 65536)) (.bool false) (.int .i64 0) (.string nm) (.int .i64 1) (.slice none 0 0)
 replace HO := Hi (show Own _ _ _ [_, _, _, _, _, _, _, blkR bm (.cells #[.int .i64 ((sd + 7919 * (qn + 1)) % 65536), .bool false, .int .i64 0, .string nm, .int .i64 1, .slice none 0 0] 116)] from hO)
 clear hO
 obtain ⟨z7_0, z7_1, z7_2, z7_3, z7_4, z7_5⟩ := HO.out.c6 7 rfl
 go_wp2_with fail
 refine (o_still HO.out (HEN.out _)).mono ?_
 rintro e x35 ⟨rfl, hO, -⟩
 replace HO := Hi hO
 clear hO
 clear hx7 hbm k7_0_8 lk7_0_8 hx14 k7_1_15 lk7_1_15 hx20 k7_2_21 lk7_2_21 hx25 k7_3_26 lk7_3_26 hx29 k7_4_30 lk7_4_30 hx32 k7_5_33 lk7_5_33 hx34 z7_0 z7_1 z7_2 z7_3 z7_4 z7_5
 go_wp2
 obtain ⟨-, -, -, g0_3, -, g0_5⟩ := HO.out.g6 0 rfl
 refine wp_region_R 13 (by kernel_rfl) (by kernel_rfl) ?_
 simp only [List.take, List.drop]
 iterate 9 (first | (refine wpR_want (by kernel_rfl) rfl rfl ?_; intro K hK; go_big_quiet_op; go_big_quiet_on) | (refine wpR_is (by kernel_rfl) rfl _ (fun w _ => rfl) ?_; simp only [Act.put, l_T, l_S, l_Z]))
 refine wpR_call (by kernel_rfl) rfl 56 #[.pointer (some ⟨a, 0, none⟩), .int .i64 (qn + 1)] (.int .i64 (20000 + (sd + 101 * (qn + 1)) % 10000)) (fun w => by simp [go_sem]) (fun w hb => ghO_quiet (rport_r (k := qn + 1) w (keep hb (HO.out.cell 2 rfl 1 rfl)) HQ.out.1.1 HQ.out.1.2 (by omega) (by omega))) ?_
 simp only [Act.put, l_T, l_S, l_Z]
 iterate 2 (first | (refine wpR_want (by kernel_rfl) rfl rfl ?_; intro K hK; go_big_quiet_op; go_big_quiet_on) | (refine wpR_is (by kernel_rfl) rfl _ (fun w _ => rfl) ?_; simp only [Act.put, l_T, l_S, l_Z]))
 refine wpR_ex (sblk x35.heap.size (.cells #[.int .i64 vy, .int .i64 (20000 + (sd + 101 * (qn + 1)) % 10000), .string sm] 39)) (sblk_lasts _ _) (by kernel_rfl) (fun a' w' hw' he => ?_) (fun d hd => ?_)
 ·
  have hs := hw'.size
  obtain ⟨hag, _⟩ := he
  have hag' : a'.eval (.tmp 95) = .agg #[.int .i64 vy, .int .i64 (20000 + (sd + 101 * (qn + 1)) % 10000), .string sm] := hag
  refine wp_of_value (v := .slice (some ⟨w'.heap.size, 0, none⟩) 1 1) (w' := w'.alloc (.cells #[.int .i64 vy, .int .i64 (20000 + (sd + 101 * (qn + 1)) % 10000), .string sm] 39)) (run_v_ok ?_) ⟨_, rfl, (Below.refl _ _).alloc (Nat.le_refl _) _, ⟨w'.heap.size, rfl, hs, new_block _ _⟩⟩
  simp only [List.map_toArray, List.map_cons, List.map_nil, hag']
  exact run_bsQ _ _ _ _
 cases hd
 simp only [List.nil_append]
 refine wpR_nil (by kernel_rfl) (by simp) ?_
 rintro y3 hbw
 simp only [exAll]
 rintro u96 ⟨bq, rfl, hgebq, hbbbq⟩
 simp only [Act.put, l_T, l_S, l_Z, List.drop]
 have hO := HO.out.push (R := blkR bq (.cells #[.int .i64 vy, .int .i64 (20000 + (sd + 101 * (qn + 1)) % 10000), .string sm] 39)) (F := fun z => z = bq) ⟨fun _ => Iff.rfl, hbbbq⟩ (fun z hz => hz ▸ hgebq) hbw
 clear hgebq hbbbq
 replace HO := Hi (show Own _ _ _ [_, _, _, _, _, _, _, _, blkR bq (.cells #[.int .i64 vy, .int .i64 (20000 + (sd + 101 * (qn + 1)) % 10000), .string sm] 39)] from hO)
 clear hO hbw g0_5 g0_3 
 go_wp2
 go_ret
 exact ⟨_, rfl, again_close (x := ⟨.slice (some ⟨gs, 0, none⟩) sv.length sc, c, vw, vd⟩) (v := .slice (some ⟨gk, 0, none⟩) m kc) (cs := qryC sd qn vy nm) (by rw [HQS.out]; have := HO.out; rw [← HSV.out, HE7.out, ← HCM.out] at this; rw [← HCM.out]; exact this) rfl, HO.out.size⟩
end
open Go.RowKit Go.Sort

abbrev rowRc (v : Value) (rs : List Rc) : Res := rowR v 131 5 rs.length (rs.flatMap cRc)
def ofN (s : ByteArray) (rs : List Rc) : List Rc := rs.filter fun r => r.nm.toList == s.toList
theorem oneRc (a : ByteArray) (b c d : Int) (e : ByteArray) : ∀ u ∈ [Value.string a, .int .i64 b, .int .i64 c, .int .i64 d, .string e], u.oneCell' = true := fun u hu => by
 simp at hu
 rcases hu with rfl | rfl | rfl | rfl | rfl <;> rfl
theorem len_filter_take {α : Type} (p : α → Bool) (l : List α) (k : Nat) : ((l.take k).filter p).length ≤ k := Nat.le_trans (List.length_filter_le _ _) (List.length_take_le _ _)
theorem named_o {rs : List Rc} (s : ByteArray) (h : Own w D w [rowRc v rs]) (hl : rs.length ≤ 1000) :
  Calls Tryz.prog 100 #[v, .string s] w (VPost w D w fun u => [rowRc v rs, rowRc u (ofN s rs)]) := by
 have HO := Hi h
 have HL := Hi hl
 have hr := h.row 0 rfl
 obtain ⟨ra, rc, rfl⟩ := row_shape hr
 obtain ⟨n, hn⟩ : ∃ n, rs.length = n := ⟨_, rfl⟩
 have HN := Hi hn
 rw [hn] at HO hl ⊢
 clear hr hn h
 have rb := run_bsRc
 go_enter Tryz.func100, Tryz.ntmps100
 go_wp2
 go_loopw [5, 10] (fun u iv wr => ∃ k : Nat, k ≤ n ∧ iv = .int .i64 k ∧ Own w D wr [rowRc (.slice ra n rc) rs, rowRc u (ofN s (rs.take k))]) (fun _ iv _ => n - (intOf iv).toNat)
 case atStart => exact ⟨0, Nat.zero_le _, rfl, HO.out.rowNew _ _⟩
 case round =>
  obtain ⟨k, hk, rfl, hO⟩ := hrel
  replace HO := Hi hO
  obtain ⟨ua, uc, rfl⟩ := row_shape (hO.row 1 rfl)
  clear hO
  have hb1 : (n : Int) ≤ 1000 := by omega
  by_cases hlt : k < n
  ·
   have hkl : k < rs.length := by rw [HN.out]; exact hlt
   have hrw := HO.out.row 0 rfl
   rw [HN.out] at hrw
   obtain ⟨g, rfl⟩ := row_some hrw (by omega)
   have yc : ∀ q u, q < 5 → (cRc rs[k])[q]? = some u → wr.cell? ⟨g, k * 5 + q, none⟩ = some u := fun q u hq hu => (row_cells hrw).1 _ _ (by rw [flat_getR cRc 5 (fun _ => rfl) rs k hkl q hq]; exact hu)
   have HFS := Hi (filter_step (p := fun r : Rc => r.nm.toList == s.toList) hkl)
   have HKN := Hi (show (ofN s (rs.take k)).length ≤ k from len_filter_take _ rs k)
   obtain ⟨m, hm⟩ : ∃ m, (ofN s (rs.take k)).length = m := ⟨_, rfl⟩
   have HM := Hi hm
   rw [hm] at HO HKN ⊢
   clear hm
   generalize rs[k] = r at *
   obtain ⟨nm, kd, tt, ad, to⟩ := r
   have y0 : wr.cell? ⟨g, k * 5, none⟩ = some (.string nm) := yc 0 _ (by decide) rfl
   have y1 : wr.cell? ⟨g, k * 5 + 1, none⟩ = some (.int .i64 kd) := yc 1 _ (by decide) rfl
   have y2 : wr.cell? ⟨g, k * 5 + 2, none⟩ = some (.int .i64 tt) := yc 2 _ (by decide) rfl
   have y3 : wr.cell? ⟨g, k * 5 + 3, none⟩ = some (.int .i64 ad) := yc 3 _ (by decide) rfl
   have y4 : wr.cell? ⟨g, k * 5 + 4, none⟩ = some (.string to) := yc 4 _ (by decide) rfl
   clear yc hrw hkl
   replace HO := Hi (show Own w D wr [rowRc (.slice (some ⟨g, 0, none⟩) n rc) rs, rowR (.slice ua m uc) 131 5 m ((ofN s (rs.take k)).flatMap cRc)] from by rw [← HM.out]; have := HO.out; rw [← HM.out] at this; exact this)
   obtain ⟨x21, hx21, bx, hbx, hO⟩ := HO.out.allocE (.cells #[.string ⟨#[]⟩, .int .i64 0, .int .i64 0, .int .i64 0, .string ⟨#[]⟩] 131)
   replace HO := Hi (show Own _ _ _ [_, _, blkR bx (.cells #[.string ⟨#[]⟩, .int .i64 0, .int .i64 0, .int .i64 0, .string ⟨#[]⟩] 131)] from hO)
   clear hO
   obtain ⟨x27, x32, x36, x39, x41, hx27, hx32, hx36, hx39, hx41, k2_0_22, lk2_0_22, k2_1_28, lk2_1_28, k2_2_33, lk2_2_33, k2_3_37, lk2_3_37, k2_4_40, lk2_4_40, hO⟩ := HO.out.steps5 2 rfl (.string nm) (.int .i64 kd) (.int .i64 tt) (.int .i64 ad) (.string to)
   replace HO := Hi (show Own _ _ _ [_, _, blkR bx (.cells #[.string nm, .int .i64 kd, .int .i64 tt, .int .i64 ad, .string to] 131)] from hO)
   clear hO
   obtain ⟨z2_0, z2_1, z2_2, z2_3, z2_4⟩ := HO.out.c5 2 rfl
   cases he : (nm.toList == s.toList) with
   | false =>
    have HRT := Hi (show ofN s (rs.take (k + 1)) = ofN s (rs.take k) by
     show (rs.take (k + 1)).filter _ = (rs.take k).filter _
     rw [HFS.out]; simp [he])
    clear HFS
    go_wp2
    go_roundw
    case rel => exact ⟨k + 1, by omega, by go_num, by rw [HRT.out, ← HM.out]; have := HO.out.take 2; rw [← HM.out] at this; exact this⟩
    case measure => simp [intOf]; omega
   | true =>
    have HRT := Hi (show ofN s (rs.take (k + 1)) = ofN s (rs.take k) ++ [⟨nm, kd, tt, ad, to⟩] by
     show (rs.take (k + 1)).filter _ = (rs.take k).filter _ ++ _
     rw [HFS.out]; simp [he])
    clear HFS
    obtain ⟨x42, hx42, bn, hbn, hO⟩ := HO.out.allocE (.cells #[.string nm, .int .i64 kd, .int .i64 tt, .int .i64 ad, .string to] 131)
    replace HO := Hi (show Own _ _ _ [_, _, _, blkR bn (.cells #[.string nm, .int .i64 kd, .int .i64 tt, .int .i64 ad, .string to] 131)] from hO)
    clear hO
    go_wp2_with ((at_builtin; refine (show _ = True → _ from fun h => of_eq_true h) ?_))
    refine eq_true ?_
    refine wpList_appO rfl (.tmp 18) (.tmp 20) 66 rfl Tryz.underlying66 infoRc rfl (by decide) HO.out 1 rfl rfl 3 1 1 [.string nm, .int .i64 kd, .int .i64 tt, .int .i64 ad, .string to] rfl rfl rfl (oneRc _ _ _ _ _) (by have := HKN.out; unfold maxLen; omega) (by have := HKN.out; omega) ?_
    intro v9 x9 hO
    clear hx21 hbx k2_0_22 lk2_0_22 hx27 k2_1_28 lk2_1_28 hx32 k2_2_33 lk2_2_33 hx36 k2_3_37 lk2_3_37 hx39 k2_4_40 lk2_4_40 hx41 z2_0 z2_1 z2_2 z2_3 z2_4 hx42 hbn
    clear rb y0 y1 y2 y3 y4 he
    have e1 : rowR v9 131 5 (m + 1) ((ofN s (rs.take k)).flatMap cRc ++ [.string nm, .int .i64 kd, .int .i64 tt, .int .i64 ad, .string to]) = rowRc v9 (ofN s (rs.take (k + 1))) := by
     rw [HRT.out]
     show _ = rowR _ _ _ _ _
     rw [List.length_append, List.flatMap_append, HM.out]; rfl
    simp only [l_S, l_Z, e1] at hO
    replace HO := Hi (show Own w D x9 [_, rowRc v9 (ofN s (rs.take (k + 1)))] from Own.take hO 2)
    clear hO e1
    go_wp2
    go_roundw
    case rel => exact ⟨k + 1, by omega, by go_num, HO.out⟩
    case measure => simp [intOf]; omega
  ·
   obtain rfl : k = n := by omega
   have hd : decide ((k : Int) < (k : Int)) = false := decide_eq_false (by omega)
   have HT := Hi (show rs.take k = rs by rw [← HN.out]; exact List.take_length)
   rw [HT.out] at HO ⊢
   go_wp2
   go_ret
   exact ⟨_, rfl, HO.out, HO.out.size⟩
open Go.Shelf
def sortInt_ren : Go.Shelf.Ren := ⟨fun | 189 => 115 | 125 => 152 | 257 => 151 | 128 => 185 | 129 => 186 | 294 => 176 | 295 => 177 | 296 => 178 | 297 => 179 | 298 => 180 | 299 => 181 | 216 => 182 | 300 => 183 | 301 => 184 | 328 => 207 | 329 => 208 | 330 => 209 | 331 => 210 | 332 => 211 | 215 => 205 | 343 => 219 | n => n, fun | 28 => 31 | 3 => 3 | 46 => 240 | 0 => 0 | 51 => 278 | 53 => 203 | 4 => 4 | 183 => 272 | 182 => 271 | 131 => 44 | 5 => 5 | 9 => 9 | 218 => 303 | 222 => 307 | 228 => 315 | 229 => 70 | n => n, fun | n => n⟩
theorem sortInt : Go.Proofs.Lays.n189 Tryz.prog sortInt_ren := {
 mixed := by kernel_rfl
 f125 := Tryz.func152.trans (congrArg some (by kernel_rfl))
 f128 := Tryz.func185.trans (congrArg some (by kernel_rfl))
 f129 := Tryz.func186.trans (congrArg some (by kernel_rfl))
 f189 := Tryz.func115.trans (congrArg some (by kernel_rfl))
 f215 := Tryz.func205.trans (congrArg some (by kernel_rfl))
 f216 := Tryz.func182.trans (congrArg some (by kernel_rfl))
 f257 := Tryz.func151.trans (congrArg some (by kernel_rfl))
 f294 := Tryz.func176.trans (congrArg some (by kernel_rfl))
 f295 := Tryz.func177.trans (congrArg some (by kernel_rfl))
 f296 := Tryz.func178.trans (congrArg some (by kernel_rfl))
 f297 := Tryz.func179.trans (congrArg some (by kernel_rfl))
 f298 := Tryz.func180.trans (congrArg some (by kernel_rfl))
 f299 := Tryz.func181.trans (congrArg some (by kernel_rfl))
 f300 := Tryz.func183.trans (congrArg some (by kernel_rfl))
 f301 := Tryz.func184.trans (congrArg some (by kernel_rfl))
 f328 := Tryz.func207.trans (congrArg some (by kernel_rfl))
 f329 := Tryz.func208.trans (congrArg some (by kernel_rfl))
 f330 := Tryz.func209.trans (congrArg some (by kernel_rfl))
 f331 := Tryz.func210.trans (congrArg some (by kernel_rfl))
 f332 := Tryz.func211.trans (congrArg some (by kernel_rfl))
 f343 := Tryz.func219.trans (congrArg some (by kernel_rfl))
 t0 := Tryz.underlying0
 a0 := Tryz.isAgg0
 z0 := Tryz.sizeOf0
 v0 := Tryz.zeroValue0
 t3 := Tryz.underlying3
 a3 := Tryz.isAgg3
 z3 := Tryz.sizeOf3
 v3 := Tryz.zeroValue3
 t4 := Tryz.underlying4
 a4 := Tryz.isAgg4
 z4 := Tryz.sizeOf4
 v4 := Tryz.zeroValue4
 t5 := Tryz.underlying5
 a5 := Tryz.isAgg5
 z5 := Tryz.sizeOf5
 v5 := Tryz.zeroValue5
 t9 := Tryz.underlying9
 a9 := Tryz.isAgg9
 z9 := Tryz.sizeOf9
 v9 := Tryz.zeroValue9
 t28 := Tryz.underlying31
 a28 := Tryz.isAgg31
 z28 := Tryz.sizeOf31
 v28 := Tryz.zeroValue31
 t46 := Tryz.underlying240
 a46 := Tryz.isAgg240
 z46 := Tryz.sizeOf240
 v46 := Tryz.zeroValue240
 t51 := Tryz.underlying278
 a51 := Tryz.isAgg278
 z51 := Tryz.sizeOf278
 v51 := Tryz.zeroValue278
 t53 := Tryz.underlying203
 a53 := Tryz.isAgg203
 z53 := Tryz.sizeOf203
 v53 := Tryz.zeroValue203
 t131 := Tryz.underlying44
 a131 := Tryz.isAgg44
 z131 := Tryz.sizeOf44
 v131 := Tryz.zeroValue44
 t182 := Tryz.underlying271
 a182 := Tryz.isAgg271
 z182 := Tryz.sizeOf271
 v182 := Tryz.zeroValue271
 t183 := Tryz.underlying272
 a183 := Tryz.isAgg272
 z183 := Tryz.sizeOf272
 v183 := Tryz.zeroValue272
 t218 := Tryz.underlying303
 a218 := Tryz.isAgg303
 z218 := Tryz.sizeOf303
 v218 := Tryz.zeroValue303
 t222 := Tryz.underlying307
 a222 := Tryz.isAgg307
 z222 := Tryz.sizeOf307
 v222 := Tryz.zeroValue307
 t228 := Tryz.underlying315
 a228 := Tryz.isAgg315
 z228 := Tryz.sizeOf315
 v228 := Tryz.zeroValue315
 t229 := Tryz.underlying70
 a229 := Tryz.isAgg70
 z229 := Tryz.sizeOf70
 v229 := Tryz.zeroValue70 }
def compInt_ren : Go.Shelf.Ren := ⟨fun | 20 => 116 | n => n, fun | 22 => 31 | 3 => 3 | 4 => 4 | 0 => 0 | n => n, fun | n => n⟩
theorem compInt : Go.Proofs.Lays2.n20 Tryz.prog compInt_ren := {
 mixed := by kernel_rfl
 f20 := Tryz.func116.trans (congrArg some (by kernel_rfl))
 t0 := Tryz.underlying0
 a0 := Tryz.isAgg0
 z0 := Tryz.sizeOf0
 v0 := Tryz.zeroValue0
 t3 := Tryz.underlying3
 a3 := Tryz.isAgg3
 z3 := Tryz.sizeOf3
 v3 := Tryz.zeroValue3
 t4 := Tryz.underlying4
 a4 := Tryz.isAgg4
 z4 := Tryz.sizeOf4
 v4 := Tryz.zeroValue4
 t22 := Tryz.underlying31
 a22 := Tryz.isAgg31
 z22 := Tryz.sizeOf31
 v22 := Tryz.zeroValue31
 i3 := by kernel_rfl }
open Go.Lib

theorem putRow_map {α : Type} [Inhabited α] (enc : α → Value) (w : World) (b o : Nat) (d : Array α) : putRow enc w b o d = putRow id w b o (d.map enc) := by
 unfold putRow
 congr 1
 funext cs
 unfold putCells
 apply Array.ext (by simp)
 intro i h1 h2
 simp only [Array.getElem_mapIdx, Array.size_map]
 split
 ·
  rename_i h
  rw [getElem!_pos d (i - o) (by omega), getElem!_pos (d.map enc) (i - o) (by simp; omega)]
  simp
 ·
  rfl
def sortZ (l : List Int) : List Int := l.mergeSort fun x y => decide (x ≤ y)
theorem sortI_o {n : Nat} {xs : List Int} (h : Own w0 D w L) (i : Nat) (hi : L[i]? = some (rowR v 3 1 n (xs.map cIn))) (hn : xs.length = n) (h0 : 0 < n) (hl : n ≤ 1000) :
  Calls Tryz.prog 115 #[v] w (OPost w0 D (L.set i (rowR v 3 1 n ((sortZ xs).map cIn))) (.tuple #[]) w) := by
 have hrow := h.row i hi
 obtain ⟨a, cap, hv⟩ := row_shape hrow
 subst hv
 obtain ⟨g, rfl⟩ := row_some hrow h0
 have hlt : g < w.heap.size := by
  obtain ⟨_, ⟨e, _⟩ | ⟨g', cp, cur, e, _, hh, _⟩⟩ := hrow
  ·
   cases e
  ·
   cases e; exact (Array.getElem?_eq_some_iff.1 hh).1
 obtain ⟨hc, hf⟩ := row_cells hrow
 have hH := holds_of_ints (w := w) (b := g) (off := 0) (n := n) (zs := xs) (by omega) (fun j hj => by
  rw [Nat.zero_add]
  exact hc j _ (by simp [List.getD_eq_getElem?_getD, hj])) (fun j hj => hf _)
 rw [← hn, List.take_length] at hH
 have hcon := Any.slices_Sort_int sortInt g 0 cap xs w hH hlt (by omega)
 rw [hn] at hcon
 refine hcon.mono ?_
 rintro e w' ⟨rfl, m, os, hw⟩
 rw [putRow_map, List.map_toArray] at hw
 have hrp := row_put hrow (ys := (sortZ xs).map cIn) (by rw [List.length_map, sortZ, List.length_mergeSort, Nat.mul_one]; exact hn) m os
 have hwe : w' = grow (putRow id (Go.Sort.ahead w m) g 0 ((sortZ xs).map cIn).toArray) os := hw
 rw [← hwe] at hrp
 exact ⟨rfl, h.rowTo i hi hrp.1 (hrp.2.mono fun b _ e => by cases e; rfl) (fun g' hg' => .inl hg'), hrp.2.size⟩
def compZ (l : List Int) : List Int := Lib.compact l
theorem grow_none (w : World) : grow w #[] = w := by
 unfold grow; simp
theorem compI_o {n m : Nat} {xs : List Int} (h : Own w0 D w L) (i : Nat) (hi : L[i]? = some (rowR v 3 1 n (xs.map cIn))) (hn : xs.length = n) (h0 : 0 < n) (hl : n ≤ 1000) (hm : (compZ xs).length = m) (hmn : m ≤ n) :
  Calls Tryz.prog 116 #[v] w fun e w' => ∃ u, e = .returned u ∧ Own w0 D w' (L.set i (rowR u 3 1 m ((compZ xs).map cIn))) ∧ w.heap.size ≤ w'.heap.size := by
 have hrow := h.row i hi
 obtain ⟨a, cap, hv⟩ := row_shape hrow
 subst hv
 obtain ⟨g, rfl⟩ := row_some hrow h0
 have hlt : g < w.heap.size := by
  obtain ⟨_, ⟨e, _⟩ | ⟨g', cp, cur, e, _, hh, _⟩⟩ := hrow
  ·
   cases e
  ·
   cases e; exact (Array.getElem?_eq_some_iff.1 hh).1
 obtain ⟨hc, hf⟩ := row_cells hrow
 have hH := holds_of_ints (w := w) (b := g) (off := 0) (n := n) (zs := xs) (by omega) (fun j hj => by
  rw [Nat.zero_add]
  exact hc j _ (by simp [List.getD_eq_getElem?_getD, hj])) (fun j hj => hf _)
 rw [← hn, List.take_length] at hH
 have hcap : n ≤ cap := row_cap hrow
 have hcon := Any.slices_Compact_int compInt g 0 cap xs w hH (by omega) (by omega)
 rw [hn] at hcon
 refine hcon.mono ?_
 rintro e w' ⟨rfl, q, hw⟩
 rw [putRow_map, List.map_toArray] at hw
 have hys : ((compZ xs ++ List.replicate (n - m) 0).map cIn).length = n * 1 := by
  rw [List.length_map, List.length_append, List.length_replicate, hm]; omega
 have hrp := row_put hrow (ys := (compZ xs ++ List.replicate (n - m) 0).map cIn) hys q #[]
 have hwe : w' = grow (putRow id (Go.Sort.ahead w q) g 0 ((compZ xs ++ List.replicate (n - m) 0).map cIn).toArray) #[] := by
  rw [grow_none, hw, ← hm]; rfl
 rw [← hwe] at hrp
 have hO := h.rowTo i hi hrp.1 (hrp.2.mono fun b _ e => by cases e; rfl) (fun g' hg' => .inl hg')
 have hil := get_len hi
 have hO2 := Own.rowCut hO i (List.getElem?_set_self hil) m hmn
 have e1 : ((compZ xs ++ List.replicate (n - m) 0).map cIn).take (m * 1) = (compZ xs).map cIn := by
  rw [Nat.mul_one, List.map_append, List.take_left' (by rw [List.length_map, hm])]
 rw [e1, List.set_set] at hO2
 refine ⟨_, rfl, ?_, hrp.2.size⟩
 rw [show (Lib.compact xs).length = m from hm]
 exact hO2
theorem indexS_any {g n cap : Nat} {f : Nat → ByteArray} {x : ByteArray} {r : Int} (w : World) (hcell : ∀ j, j < n → w.cell? ⟨g, j, none⟩ = some (.string (f j))) (hr : ixC (fun y : ByteArray => y.toList == x.toList) ((List.range n).map f) = r) (hn : n ≤ 1000) : Calls Tryz.prog 153 #[.slice (some ⟨g, 0, none⟩) n cap, .string x] w fun e w' => e = .returned (.int .i64 r) ∧ w = w' := by
 have HC := Hi hcell
 have HR := Hi hr
 clear hcell hr
 go_enter Tryz.func153, Tryz.ntmps153
 go_wp2
 go_loopw [5, 8] (fun _ iv wr => ∃ k : Nat, k ≤ n ∧ iv = .int .i64 k ∧ (((List.range n).map f).take k).any (fun y : ByteArray => y.toList == x.toList) = false ∧ w = wr) (fun _ iv _ => n - (intOf iv).toNat)
 case atStart => exact ⟨0, Nat.zero_le _, rfl, rfl, rfl⟩
 case round =>
  obtain ⟨k, hk, rfl, hnone, rfl⟩ := hrel
  have HU := Hi hnone
  clear hnone
  by_cases hlt : k < n
  ·
   have hkl : k < ((List.range n).map f).length := by simpa using hlt
   have hgk : ((List.range n).map f)[k] = f k := by simp
   have c0 := HC.out k hlt
   have HT := Hi (any_take (p := fun y : ByteArray => y.toList == x.toList) hkl HU.out)
   have HY := Hi (ixC_hit (p := fun y : ByteArray => y.toList == x.toList) hkl HU.out)
   rw [hgk] at HT HY
   generalize f k = y at *
   have hd : decide ((k : Int) < (n : Int)) = true := decide_eq_true (by omega)
   clear hgk hkl
   cases he : (y.toList == x.toList) with
   | true =>
    have HE := Hi (HY.out he)
    have hsym : (x.toList == y.toList) = true := by rw [beq_iff_eq] at he ⊢; exact he.symm
    clear HT HY HU
    go_wp2
    go_ret
    exact ⟨by rw [← HR.out, HE.out]; rfl, rfl⟩
   | false =>
    have HT2 := Hi (HT.out.trans he)
    have hsym : (x.toList == y.toList) = false := by rw [beq_eq_false_iff_ne] at he ⊢; exact he.symm
    clear HT HY HU
    go_wp2
    go_roundw
    case rel => exact ⟨k + 1, by omega, by go_num, HT2.out, trivial⟩
    case measure => simp [intOf]; omega
  ·
   obtain rfl : k = n := by omega
   have hd : decide ((k : Int) < (k : Int)) = false := decide_eq_false (by omega)
   have HE := Hi (ixC_none (p := fun y : ByteArray => y.toList == x.toList) (l := (List.range k).map f) (by have := HU.out; rwa [List.take_of_length_le (by simp)] at this))
   clear HU
   go_wp2
   go_ret
   exact ⟨by rw [← HR.out, HE.out]; rfl, rfl⟩
def hasS (x : ByteArray) (l : List ByteArray) : Bool := l.any fun y => y.toList == x.toList
theorem containsS_r {n : Nat} {ch : List ByteArray} {x : ByteArray} {b : Bool} (w : World) (hrow : w.ownsRow 0 9 1 v n (ch.map cSt)) (h0 : 0 < n) (hn : n ≤ 1000) (hb : hasS x ch = b) : Calls Tryz.prog 117 #[v, .string x] w fun e w' => e = .returned (.bool b) ∧ w = w' := by
 obtain ⟨a, cap, rfl⟩ := row_shape hrow
 obtain ⟨g, rfl⟩ := row_some hrow h0
 have hln : ch.length = n := by have := hrow.1; simpa using this
 have hmap : (List.range n).map (fun j => ch.getD j ⟨#[]⟩) = ch := by
  apply List.ext_getElem (by simp [hln])
  intro i h1 h2
  simp [List.getD_eq_getElem?_getD, h2]
 cases hi : ch.any (fun y => y.toList == x.toList) with
 | true =>
  obtain ⟨i, hil, h1, h2⟩ := any_first hi
  have HI := Hi (indexS_any (g := g) (cap := cap) (f := fun j => ch.getD j ⟨#[]⟩) (x := x) (r := (i : Int)) w (fun j hj => (row_cells hrow).1 j _ (by simp [List.getD_eq_getElem?_getD, show j < ch.length by omega])) (by rw [hmap]; exact ixC_hit hil h1 h2) hn)
  obtain rfl : b = true := by rw [← hb]; exact hi
  have hbi : (i : Int) ≤ 1000 := by omega
  clear hrow hmap hi h1 h2 hb
  go_enter Tryz.func117, Tryz.ntmps117
  go_wp2_with fail
  refine HI.out.mono ?_
  rintro e xp ⟨rfl, rfl⟩
  go_wp2
  go_ret
  exact ⟨by simp, rfl⟩
 | false =>
  have HI := Hi (indexS_any (g := g) (cap := cap) (f := fun j => ch.getD j ⟨#[]⟩) (x := x) (r := -1) w (fun j hj => (row_cells hrow).1 j _ (by simp [List.getD_eq_getElem?_getD, show j < ch.length by omega])) (by rw [hmap]; exact ixC_none hi) hn)
  obtain rfl : b = false := by rw [← hb]; exact hi
  clear hrow hmap hi hb
  go_enter Tryz.func117, Tryz.ntmps117
  go_wp2_with fail
  refine HI.out.mono ?_
  rintro e xp ⟨rfl, rfl⟩
  go_wp2
  go_ret
  exact ⟨rfl, rfl⟩
end Go.Proofs.YtbhglemolpfnkaaGreatDoor
