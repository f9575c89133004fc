/- The walk of ResolverRetries. Printed by wip/tools/gen21u.py. -/
import Derived.Test.YtbolfkojebbejaaGreatDoorRtP
namespace Go.Proofs.YtbolfkojebbejaaGreatDoor
open Go.RowKit Go.Sort
set_option linter.unusedVariables false
set_option maxRecDepth 100000
attribute [local go_sem] Oper.semAt_some

theorem Own.toRowP {w0 w : World} {D : Nat → Prop} {L : List Res} (h : Own w0 D w L) (i : Nat) {b : Nat} {cs : List Value} {E : TypeId} (n m sz : Nat) (hi : L[i]? = some (blkR b (.cells cs.toArray E))) (hl : cs.length = m * sz) (hnm : n ≤ m) (hm : m ≤ 1000) : Own w0 D w (L.set i (rowR (.slice (some ⟨b, 0, none⟩) n m) E sz n (cs.take (n * sz)))) := by
 obtain ⟨F, h1, _, h3⟩ := h.step hi
 have hle : n * sz ≤ m * sz := Nat.mul_le_mul_right _ hnm
 refine h3 (R' := rowR (.slice (some ⟨b, 0, none⟩) n m) E sz n (cs.take (n * sz))) (F' := F) ⟨fun x => ?_, by rw [List.length_take]; omega, .inr ⟨b, m, cs.toArray, rfl, Nat.zero_le _, h1.2, hnm, by unfold maxLen; omega, by simpa using hl, by simp⟩⟩ (fun _ h => .inl h) (Upd.refl _ _)
 rw [h1.1 x]
 exact ⟨fun e => by rw [e]; rfl, fun e => by injection e with e; exact e.symm⟩
theorem dn_shape {w0 w : World} {D : Nat → Prop} {L : List Res} {v : Value} {dn : List Rn} (h : Own w0 D w L) (i : Nat) (hi : L[i]? = some (resDn v dn)) : ∃ p c, v = .slice p dn.length c := by
 obtain ⟨F, hF, _, _⟩ := h.step hi
 obtain ⟨avs, h1⟩ := Own.openExC (Own.one hF)
 obtain ⟨h2, h3⟩ := Own.openFC h1
 exact row_shape ((Own.openC h3).row 0 rfl)
theorem run_bdR213 (w : World) : (Instr.build 63 #[(0, .int .i64 1), (1, .int .i64 213)]).run Tryz.prog w = .ok (.agg #[.int .i64 1, .int .i64 213, .slice none 0 0]) w := by kernel_rfl
theorem run_bsR213 (w : World) : (Instr.buildSlice 58 1 #[(0, .agg #[.int .i64 1, .int .i64 213, .slice none 0 0])]).run Tryz.prog w = .ok (.slice (some ⟨w.heap.size, 0, none⟩) 1 1) (w.alloc (.cells #[.int .i64 1, .int .i64 213, .slice none 0 0] 63)) := by kernel_rfl
def svs (n : Nat) : List Int := ([3, 5, 8, 9] : List Int).take n
theorem svs_len {n : Nat} (h : n ≤ 4) : (svs n).length = n := by unfold svs; rw [List.length_take]; simp; omega
theorem svs_bd {n : Nat} (h : n ≤ 4) : ∀ j (hj : j < (svs n).length), 1 ≤ (svs n)[j] ∧ (svs n)[j] < 4294967295 := by
 have h4 : n = 0 ∨ n = 1 ∨ n = 2 ∨ n = 3 ∨ n = 4 := by omega
 rcases h4 with rfl | rfl | rfl | rfl | rfl <;> decide
theorem svs_ne {n : Nat} (h : n ≤ 4) : ∀ j k (hj : j < (svs n).length) (hk : k < (svs n).length), j < k → (svs n)[j] ≠ (svs n)[k] := by
 have h4 : n = 0 ∨ n = 1 ∨ n = 2 ∨ n = 3 ∨ n = 4 := by omega
 have key : ∀ l : List Int, l.Nodup → ∀ j k (hj : j < l.length) (hk : k < l.length), j < k → l[j] ≠ l[k] := fun l hl j k hj hk hjk => List.pairwise_iff_getElem.1 hl j k hj hk hjk
 refine key _ ?_
 rcases h4 with rfl | rfl | rfl | rfl | rfl <;> decide
theorem run_bsI4 (w : World) : (Instr.buildSlice 30 4 #[(0, .int .i64 3), (1, .int .i64 5), (2, .int .i64 8), (3, .int .i64 9)]).run Tryz.prog w = .ok (.slice (some ⟨w.heap.size, 0, none⟩) 4 4) (w.alloc (.cells #[.int .i64 3, .int .i64 5, .int .i64 8, .int .i64 9] 3)) := by kernel_rfl
set_option maxRecDepth 100000 in
set_option maxHeartbeats 16000000 in
theorem retries_w (a0 a1 a2 a3 : Int) (w : World) (D : Nat → Prop) (g : Glo) (h : Own w D w [glR g]) (hg : g.ok = true) (h0 : i64B a0) (h1 : i64B a1) (h2 : i64B a2) (h3 : i64B a3) :
  Calls Tryz.prog 7 #[.int .i64 a0, .int .i64 a1, .int .i64 a2, .int .i64 a3] w (OPost w D [glR g] (.bool true) w) := by
 have HO := Lib.hid h
 have HG := Lib.hid hg
 obtain ⟨n0, hn0⟩ : ∃ n0, pk a0 4 = n0 := ⟨_, rfl⟩
 obtain ⟨sd, hsd⟩ : ∃ sd, pk a1 4294967296 = sd := ⟨_, rfl⟩
 obtain ⟨nm, hnm⟩ : ∃ nm, nmL a2 = nm := ⟨_, rfl⟩
 obtain ⟨la, hla⟩ : ∃ la, pk a3 5 = la := ⟨_, rfl⟩
 have HP0 := Lib.hid (fun w => hn0 ▸ pick21_b a0 4 w h0 (by decide))
 have HP1 := Lib.hid (fun w => hsd ▸ pick21_b a1 4294967296 w h1 (by decide))
 have HP2 := Lib.hid (fun w => name21_r hnm h2 w)
 have HP3 := Lib.hid (fun w => hla ▸ pick21_b a3 5 w h3 (by decide))
 have b0 := pk_bd a0 4 (by decide)
 have b1 := pk_bd a1 4294967296 (by decide)
 have b3 := pk_bd a3 5 (by decide)
 have HV := Lib.hid (hnm ▸ nmL_v a2)
 rw [hn0] at b0
 rw [hsd] at b1
 rw [hla] at b3
 clear hn0 hsd hnm hla h0 h1 h2 h3 h hg
 obtain ⟨n, hn⟩ : ∃ n : Nat, 1 + n0 = (n : Int) := ⟨(1 + n0).toNat, by omega⟩
 have hn1 : 1 ≤ n := by omega
 have hn4 : n ≤ 4 := by omega
 have HN := Lib.hid (And.intro hn1 hn4)
 have HS := Lib.hid (And.intro b1.1 (show sd ≤ 4294967295 by omega))
 have HL := Lib.hid b3
 have r4 := run_bsI4
 have hnc : (n : Int) ≤ 4 := by omega
 have hnp : 0 ≤ (n : Int) := by omega
 obtain ⟨hn01, hn02⟩ := b0
 clear b1 b3
 go_enter Tryz.func7, Tryz.ntmps7
 go_wp2_with fail
 refine (sanity_o HO.out HG.out).mono ?_
 rintro e x1 ⟨rfl, hO, -⟩
 replace HO := Lib.hid (show Own w D x1 [glR g] from hO)
 clear hO
 obtain ⟨x2, hx2, gs, hgs, hO⟩ := HO.out.allocE (.cells #[.int .i64 3, .int .i64 5, .int .i64 8, .int .i64 9] 3)
 replace HO := Lib.hid (show Own _ _ _ [_, blkR gs (.cells #[.int .i64 3, .int .i64 5, .int .i64 8, .int .i64 9] 3)] from hO)
 clear hO
 go_wp2_with fail
 refine (o_still HO.out (HP0.out _)).mono ?_
 rintro e x3 ⟨rfl, hO, -⟩
 replace HO := Lib.hid hO
 clear hO
 clear hx2 hgs
 have hQ := HO.out.toRowP 1 n 4 1 rfl rfl HN.out.2 (by decide)
 rw [show ([.int .i64 3, .int .i64 5, .int .i64 8, .int .i64 9] : List Value).take (n * 1) = (svs n).map cIn by rw [Nat.mul_one]; unfold svs; rw [List.map_take]; rfl] at hQ
 replace HO := Lib.hid (show Own w D x3 [glR g, rowR (.slice (some ⟨gs, 0, none⟩) n 4) 3 1 n ((svs n).map cIn)] from hQ)
 clear hQ
 go_wp2_with fail
 refine (o_still HO.out (HP1.out _)).mono ?_
 rintro e x4 ⟨rfl, hO, -⟩
 replace HO := Lib.hid hO
 clear hO r4
 have HX := Lib.hid (svs_len HN.out.2)
 go_wp2_with fail
 refine (rnew_o (xs := svs n) (n := n) (sd := sd) HO.out 1 (show some (rowR (.slice (some ⟨gs, 0, none⟩) n 4) 3 1 n ((svs n).map cIn)) = some (rowVs (.slice (some ⟨gs, 0, none⟩) n 4) (svs n)) by show _ = some (rowR _ _ _ _ _); rw [HX.out]) HX.out HN.out.2 (svs_bd HN.out.2) (svs_ne HN.out.2) HS.out.1 HS.out.2).mono ?_
 rintro e x5 ⟨a, rfl, hO, -⟩
 replace hO := newZ hO
 replace HO := Lib.hid (show Own _ _ _ [_, _, resZ a (rt0 (svs n) sd)] from hO)
 clear hO
 have hO := HO.out.toEnd 3 [1, 2, 0] rfl rfl
 replace HO := Lib.hid (show Own _ _ _ [rowR (.slice (some ⟨gs, 0, none⟩) n 4) 3 1 n ((svs n).map cIn), resZ a (rt0 (svs n) sd), glR g] from hO)
 clear hO
 go_wp2_with fail
 refine (o_still HO.out (HP2.out _)).mono ?_
 rintro e x6 ⟨rfl, hO, -⟩
 replace HO := Lib.hid hO
 clear hO
 go_wp2_with fail
 have hsl : 0 < (svs n).length := by rw [HX.out]; exact HN.out.1
 refine (o_frame (A := [rowR (.slice (some ⟨gs, 0, none⟩) n 4) 3 1 n ((svs n).map cIn)]) (B := [resZ a (rt0 (svs n) sd), glR g]) (Q := fun e B' => ∃ b u, e = .returned (.tuple #[.int .i64 1, u, .int .i64 0]) ∧ B' = [resZ a (rtZ (svs n) sd nm b 0 0), glR g, rowQs u [rtQ (svs n) sd nm 0]]) HO.out (fun D' hD => (resolve_z (now := 0) (nm := nm) hD (rt0_ok hsl (by rw [HX.out]; exact HN.out.2) HS.out.1 HS.out.2) HV.out (show (0 : Nat) < 8 by decide) (show (0 : Int) ≤ 100000 by decide) (show (0 : Int) ≤ 0 by decide) (show (0 : Int) ≤ 100000 by decide)).mono fun e w' ⟨b, u, h1, h2, h3⟩ => ⟨_, ⟨b, u, h1, rfl⟩, by rw [rt_start hsl] at h2; exact h2, h3⟩)).mono ?_
 rintro e x7 ⟨B', ⟨b, u, rfl, rfl⟩, hO, -⟩
 replace HO := Lib.hid (show Own _ _ _ [_, resZ a (rtZ (svs n) sd nm b 0 0), _, rowQs u [rtQ (svs n) sd nm 0]] from hO)
 clear hO
 obtain ⟨ua, uc, rfl⟩ := row_shape (HO.out.row 3 rfl)
 replace HO := Lib.hid (show Own w D x7 [rowR (.slice (some ⟨gs, 0, none⟩) n 4) 3 1 n ((svs n).map cIn), resZ a (rtZ (svs n) sd nm b 0 0), glR g, rowQs (.slice ua 1 uc) [rtQ (svs n) sd nm 0]] from HO.out)
 go_wp2
 have HO0 := HO
 clear HO
 go_loopw [15, 17, 18] (fun qv tv kv wr => ∃ (j : Nat) (t : Int), 0 ≤ t ∧ t ≤ 15 * (j : Int) ∧ tv = .int .i64 t ∧ kv = .int .i64 ((j + 1 : Nat) : Int) ∧ ((j < 3 * n ∧ Own w D wr [rowR (.slice (some ⟨gs, 0, none⟩) n 4) 3 1 n ((svs n).map cIn), resZ a (rtZ (svs n) sd nm b j t), glR g, rowQs qv [rtQ (svs n) sd nm j]]) ∨ (j = 3 * n ∧ Own w D wr [rowR (.slice (some ⟨gs, 0, none⟩) n 4) 3 1 n ((svs n).map cIn), resZ a (rtE (svs n) sd), glR g, rowQs qv []]))) (fun _ _ kv _ => 20 - (intOf kv).toNat)
 case atStart => exact ⟨0, 0, by decide, by decide, rfl, rfl, .inl ⟨by omega, HO0.out⟩⟩
 case round =>
  obtain ⟨j, t, ht0, ht1, rfl, rfl, hc⟩ := hrel
  rcases hc with ⟨hj, hO⟩ | ⟨hj, hO⟩
  ·
   have HO := Lib.hid hO
   clear hO HO0
   have HJ := Lib.hid hj
   obtain ⟨ua2, uc2, hu⟩ := row_shape (HO.out.row 3 rfl)
   have hd : decide (((j + 1 : Nat) : Int) ≤ 3 * (n : Int)) = true := decide_eq_true (by omega)
   have hu1 : u15 = .slice ua2 1 uc2 := hu
   subst hu1
   obtain ⟨gq, rfl⟩ := row_some (HO.out.row 3 rfl) Nat.one_pos
   obtain ⟨vs, hvs⟩ : ∃ v, srvZ (svs n) j = v := ⟨_, rfl⟩
   obtain ⟨pt, hpt⟩ : ∃ v, 20000 + (sd + 101 * ((j : Int) + 1)) % 10000 = v := ⟨_, rfl⟩
   obtain ⟨qs, hqs⟩ : ∃ v, qryS sd j nm = v := ⟨_, rfl⟩
   have HQC := Lib.hid (show ([rtQ (svs n) sd nm j] : List Qy).flatMap cQy = [.int .i64 vs, .int .i64 pt, .string qs] by rw [← hvs, ← hpt, ← hqs]; rfl)
   have k0 : wr.cell? ⟨gq, 0, none⟩ = some (.int .i64 vs) := (row_cells (HO.out.row 3 rfl)).1 0 _ (by rw [HQC.out]; rfl)
   have k1 : wr.cell? ⟨gq, 1, none⟩ = some (.int .i64 pt) := (row_cells (HO.out.row 3 rfl)).1 1 _ (by rw [HQC.out]; rfl)
   have k2 : wr.cell? ⟨gq, 2, none⟩ = some (.string qs) := (row_cells (HO.out.row 3 rfl)).1 2 _ (by rw [HQC.out]; rfl)
   obtain ⟨r, hr⟩ : ∃ r : Nat, j % n = r := ⟨_, rfl⟩
   have c0 : wr.cell? ⟨gs, r, none⟩ = some (.int .i64 vs) := (row_cells (HO.out.row 0 rfl)).1 r _ (by
    rw [← hr]
    have hlt : j % n < (svs n).length := by rw [HX.out]; exact Nat.mod_lt _ HN.out.1
    rw [List.getElem?_map, List.getElem?_eq_getElem hlt, ← hvs]
    unfold srvZ
    rw [HX.out]
    simp [List.getD_eq_getElem?_getD, List.getElem?_eq_getElem hlt])
   have e0 := cell_regrown k0
   have e1 := cell_regrown k1
   have e2 := cell_regrown c0
   have hd2 : decide ((j : Int) + 1 ≤ 3 * (n : Int)) = true := decide_eq_true (by omega)
   have hjn : ((j : Int) % (n : Int)) = (r : Int) := by rw [← hr]; omega
   have hjt : ((j : Int).tmod (n : Int)) = (r : Int) := by rw [Int.tmod_eq_emod_of_nonneg (by omega)]; exact hjn
   have hjm : ((r : Int) < (n : Int)) := by have := Nat.mod_lt j HN.out.1; omega
   clear hr
   have hnz : ((n : Int) == 0) = false := by simp; omega
   go_wp2
   refine wp_region_B (by kernel_rfl) (by kernel_rfl) ?_
   have hs0 := HS.out.1
   have hs1 := HS.out.2
   have hj12 : (j : Int) ≤ 12 := by omega
   iterate 31 (go_big_quiet_step (fail))
   refine wpQuiet_nil ?_
   intro x61 hbw
   have hO := HO.out.stay hbw
   have k3 := keep hbw k2
   replace HO := Lib.hid hO
   clear hO hbw e0 e1 e2 k0 k1 k2 c0 hjn hjt hjm
   obtain ⟨ix, hix⟩ : ∃ v, (sd + 7919 * ((j : Int) + 1)) % 65536 = v := ⟨_, rfl⟩
   have hix0 : 0 ≤ ix ∧ ix ≤ 65535 := by rw [← hix]; omega
   have HQS := Lib.hid (show qs = ⟨(encM (qryD ix nm)).toArray⟩ by rw [← hqs, ← hix]; rfl)
   go_wp2_with fail
   refine (o_still HO.out (decode19_q _ hix0.1 hix0.2 HV.out HQS.out)).mono ?_
   rintro e x62 ⟨rfl, hO, -⟩
   replace HO := Lib.hid (show Own w D x62 [rowR (.slice (some ⟨gs, 0, none⟩) n 4) 3 1 n ((svs n).map cIn), resZ a (rtZ (svs n) sd nm b j t), glR g, rowQs (.slice (some ⟨gq, 0, none⟩) 1 uc2) [rtQ (svs n) sd nm j]] from hO)
   clear hO k3
   obtain ⟨x71, hx71, bd, hbd, hO⟩ := HO.out.allocE (.cells #[.int .i64 0, .bool false, .int .i64 0, .string ⟨#[]⟩, .int .i64 0, .slice none 0 0] 86)
   replace HO := Lib.hid (show Own _ _ _ [_, _, _, _, blkR bd (.cells #[.int .i64 0, .bool false, .int .i64 0, .string ⟨#[]⟩, .int .i64 0, .slice none 0 0] 86)] from hO)
   clear hO
   obtain ⟨x78, x84, x89, x93, x96, x98, hx78, hx84, hx89, hx93, hx96, hx98, k4_0_72, lk4_0_72, k4_1_79, lk4_1_79, k4_2_85, lk4_2_85, k4_3_90, lk4_3_90, k4_4_94, lk4_4_94, k4_5_97, lk4_5_97, hO⟩ := HO.out.steps6 4 rfl (.int .i64 ix) (.bool false) (.int .i64 0) (.string nm) (.int .i64 1) (.slice none 0 0)
   replace HO := Lib.hid (show Own _ _ _ [_, _, _, _, blkR bd (.cells #[.int .i64 ix, .bool false, .int .i64 0, .string nm, .int .i64 1, .slice none 0 0] 86)] from hO)
   clear hO
   have z4_0 : x98.cell? _ = some (.int .i64 ix) := HO.out.cell 4 rfl 0 rfl
   have z4_1 : x98.cell? _ = some (.bool false) := HO.out.cell 4 rfl 1 rfl
   have z4_2 : x98.cell? _ = some (.int .i64 0) := HO.out.cell 4 rfl 2 rfl
   have z4_3 : x98.cell? _ = some (.string nm) := HO.out.cell 4 rfl 3 rfl
   have z4_4 : x98.cell? _ = some (.int .i64 1) := HO.out.cell 4 rfl 4 rfl
   have z4_5 : x98.cell? _ = some (.slice none 0 0) := HO.out.cell 4 rfl 5 rfl
   go_wp2
   clear hx71 hbd k4_0_72 lk4_0_72 hx78 k4_1_79 lk4_1_79 hx84 k4_2_85 lk4_2_85 hx89 k4_3_90 lk4_3_90 hx93 k4_4_94 lk4_4_94 hx96 k4_5_97 lk4_5_97 hx98 z4_0 z4_1 z4_2 z4_3 z4_4 z4_5
   have g4_0 := cell_regrown (show x98.cell? ⟨bd, 0, none⟩ = some (.int .i64 ix) from HO.out.cell 4 rfl 0 rfl)
   have g4_1 := cell_regrown (show x98.cell? ⟨bd, 1, none⟩ = some (.bool false) from HO.out.cell 4 rfl 1 rfl)
   have g4_3 := cell_regrown (show x98.cell? ⟨bd, 3, none⟩ = some (.string nm) from HO.out.cell 4 rfl 3 rfl)
   have g4_4 := cell_regrown (show x98.cell? ⟨bd, 4, none⟩ = some (.int .i64 1) from HO.out.cell 4 rfl 4 rfl)
   have hss : (nm.toList != nm.toList) = false := by simp
   refine wp_region_B (by kernel_rfl) (by kernel_rfl) ?_
   iterate 16 (go_big_quiet_step (fail))
   go_big_quiet_step ((go_at_call 20; exact Calls.regrown_of (HP2.out _)))
   iterate 11 (go_big_quiet_step (fail))
   refine wpQuiet_nil ?_
   intro x120 hbw
   have hO := HO.out.stay hbw
   replace HO := Lib.hid hO
   clear hO hbw g4_0 g4_1 g4_3 g4_4
   go_wp2_with fail
   refine (o_frameV [rowR (.slice (some ⟨gs, 0, none⟩) n 4) 3 1 n ((svs n).map cIn), rowQs (.slice (some ⟨gq, 0, none⟩) 1 uc2) [rtQ (svs n) sd nm j], blkR bd (.cells #[.int .i64 ix, .bool false, .int .i64 0, .string nm, .int .i64 1, .slice none 0 0] 86)] [resZ a (rtZ (svs n) sd nm b j t), glR g] (fun u => [resZ a (rtZ (svs n) sd nm b j t), glR g, rowQs u []]) (HO.out.toEnd 5 [0, 3, 4, 1, 2] rfl rfl) (fun D' hD => (tick_z (now := t + 9) hD (rtZ_ok hsl (by rw [HX.out]; exact HN.out.2) HS.out.1 HS.out.2 (by omega) HV.out) (by show 1 ≤ 8; decide) (by show (j : Int) + 1 + 1 ≤ 100000; omega) (by show 0 + 1 ≤ 900; decide) (fun p hp => by obtain rfl := List.mem_singleton.1 hp; exact ⟨by show 0 ≤ t; omega, by show t ≤ t + 9; omega⟩) (by omega)).mono fun e w' ⟨u, h1, h2, h3⟩ => ⟨u, h1, by rw [rt_no (by omega)] at h2; exact h2, h3⟩)).mono ?_
   rintro e x99 ⟨vx99, rfl, hO, -⟩
   replace HO := Lib.hid (show Own _ _ _ [_, rowQs (.slice (some ⟨gq, 0, none⟩) 1 uc2) [rtQ (svs n) sd nm j], blkR bd (.cells #[.int .i64 ix, .bool false, .int .i64 0, .string nm, .int .i64 1, .slice none 0 0] 86), resZ a (rtZ (svs n) sd nm b j t), glR g, rowQs vx99 []] from hO)
   clear hO
   have hO := HO.out.toEnd 6 [0, 3, 4, 1, 2, 5] rfl rfl
   replace HO := Lib.hid (show Own _ _ _ [_, resZ a (rtZ (svs n) sd nm b j t), glR g, rowQs (.slice (some ⟨gq, 0, none⟩) 1 uc2) [rtQ (svs n) sd nm j], blkR bd (.cells #[.int .i64 ix, .bool false, .int .i64 0, .string nm, .int .i64 1, .slice none 0 0] 86), _] from hO)
   clear hO
   obtain ⟨va1, vc1, rfl⟩ := row_shape (HO.out.row 5 rfl)
   replace HO := Lib.hid (show Own w D x99 [rowR (.slice (some ⟨gs, 0, none⟩) n 4) 3 1 n ((svs n).map cIn), resZ a (rtZ (svs n) sd nm b j t), glR g, rowQs (.slice (some ⟨gq, 0, none⟩) 1 uc2) [rtQ (svs n) sd nm j], blkR bd (.cells #[.int .i64 ix, .bool false, .int .i64 0, .string nm, .int .i64 1, .slice none 0 0] 86), rowQs (.slice va1 0 vc1) []] from HO.out)
   go_wp2_with fail
   refine (o_frameV [rowR (.slice (some ⟨gs, 0, none⟩) n 4) 3 1 n ((svs n).map cIn), glR g, rowQs (.slice (some ⟨gq, 0, none⟩) 1 uc2) [rtQ (svs n) sd nm j], blkR bd (.cells #[.int .i64 ix, .bool false, .int .i64 0, .string nm, .int .i64 1, .slice none 0 0] 86), rowQs (.slice va1 0 vc1) []] [resZ a (rtZ (svs n) sd nm b j t)] (fun u => [resZ a (rtZ (svs n) sd nm b j t), resDn u []]) (HO.out.toEnd 6 [0, 2, 3, 4, 5, 1] rfl rfl) (fun D' hD => results_z hD)).mono ?_
   rintro e x100 ⟨wx100, rfl, hO, -⟩
   replace HO := Lib.hid (show Own _ _ _ [_, glR g, rowQs (.slice (some ⟨gq, 0, none⟩) 1 uc2) [rtQ (svs n) sd nm j], blkR bd (.cells #[.int .i64 ix, .bool false, .int .i64 0, .string nm, .int .i64 1, .slice none 0 0] 86), rowQs (.slice va1 0 vc1) [], resZ a (rtZ (svs n) sd nm b j t), resDn wx100 []] from hO)
   clear hO
   obtain ⟨wa1, wc1, rfl⟩ := dn_shape HO.out 6 rfl
   have hO := HO.out.toEnd 7 [0, 5, 1, 2, 3, 4] rfl rfl
   replace HO := Lib.hid (show Own _ _ _ [_, resZ a (rtZ (svs n) sd nm b j t), glR g, rowQs (.slice (some ⟨gq, 0, none⟩) 1 uc2) [rtQ (svs n) sd nm j], blkR bd (.cells #[.int .i64 ix, .bool false, .int .i64 0, .string nm, .int .i64 1, .slice none 0 0] 86), rowQs (.slice va1 0 vc1) []] from hO)
   clear hO
   go_wp2_with fail
   refine (o_still HO.out (HP3.out _)).mono ?_
   rintro e x101 ⟨rfl, hO, -⟩
   replace HO := Lib.hid hO
   clear hO
   have hla0 := HL.out.1
   have hla1 := HL.out.2
   by_cases hjn : j + 1 < 3 * n
   ·
    go_wp2_with fail
    refine (o_frameV [rowR (.slice (some ⟨gs, 0, none⟩) n 4) 3 1 n ((svs n).map cIn), rowQs (.slice (some ⟨gq, 0, none⟩) 1 uc2) [rtQ (svs n) sd nm j], blkR bd (.cells #[.int .i64 ix, .bool false, .int .i64 0, .string nm, .int .i64 1, .slice none 0 0] 86), rowQs (.slice va1 0 vc1) []] [resZ a (rtZ (svs n) sd nm b j t), glR g] (fun u => [resZ a (rtZ (svs n) sd nm b (j + 1) (t + 10 + la)), glR g, rowQs u [rtQ (svs n) sd nm (j + 1)]]) (HO.out.toEnd 6 [0, 3, 4, 5, 1, 2] rfl rfl) (fun D' hD => (tick_z (now := t + 10 + la) hD (rtZ_ok hsl (by rw [HX.out]; exact HN.out.2) HS.out.1 HS.out.2 (by omega) HV.out) (by show 1 ≤ 8; decide) (by show (j : Int) + 1 + 1 ≤ 100000; omega) (by show 0 + 1 ≤ 900; decide) (fun p hp => by obtain rfl := List.mem_singleton.1 hp; exact ⟨by show 0 ≤ t; omega, by show t ≤ t + 10 + la; omega⟩) (by omega)).mono fun e w' ⟨u, h1, h2, h3⟩ => ⟨u, h1, by rw [rt_yes (by omega) (by rw [HX.out]; exact hjn)] at h2; exact h2, h3⟩)).mono ?_
    rintro e x102 ⟨vx102, rfl, hO, -⟩
    replace HO := Lib.hid (show Own _ _ _ [_, rowQs (.slice (some ⟨gq, 0, none⟩) 1 uc2) [rtQ (svs n) sd nm j], blkR bd (.cells #[.int .i64 ix, .bool false, .int .i64 0, .string nm, .int .i64 1, .slice none 0 0] 86), rowQs (.slice va1 0 vc1) [], resZ a (rtZ (svs n) sd nm b (j + 1) (t + 10 + la)), glR g, rowQs vx102 [rtQ (svs n) sd nm (j + 1)]] from hO)
    clear hO
    have hO := HO.out.toEnd 7 [0, 4, 5, 1, 2, 3, 6] rfl rfl
    replace HO := Lib.hid (show Own _ _ _ [_, resZ a (rtZ (svs n) sd nm b (j + 1) (t + 10 + la)), glR g, rowQs (.slice (some ⟨gq, 0, none⟩) 1 uc2) [rtQ (svs n) sd nm j], blkR bd (.cells #[.int .i64 ix, .bool false, .int .i64 0, .string nm, .int .i64 1, .slice none 0 0] 86), rowQs (.slice va1 0 vc1) [], _] from hO)
    clear hO
    go_wp2
    go_roundw
    case rel => exact ⟨j + 1, t + 10 + la, by omega, by omega, rfl, by go_num, .inl ⟨hjn, HO.out.toEnd 7 [0, 1, 2, 6] rfl rfl⟩⟩
    case measure => simp [intOf]; omega
   ·
    go_wp2_with fail
    refine (o_frameV [rowR (.slice (some ⟨gs, 0, none⟩) n 4) 3 1 n ((svs n).map cIn), rowQs (.slice (some ⟨gq, 0, none⟩) 1 uc2) [rtQ (svs n) sd nm j], blkR bd (.cells #[.int .i64 ix, .bool false, .int .i64 0, .string nm, .int .i64 1, .slice none 0 0] 86), rowQs (.slice va1 0 vc1) []] [resZ a (rtZ (svs n) sd nm b j t), glR g] (fun u => [resZ a (rtE (svs n) sd), glR g, rowQs u []]) (HO.out.toEnd 6 [0, 3, 4, 5, 1, 2] rfl rfl) (fun D' hD => (tick_z (now := t + 10 + la) hD (rtZ_ok hsl (by rw [HX.out]; exact HN.out.2) HS.out.1 HS.out.2 (by omega) HV.out) (by show 1 ≤ 8; decide) (by show (j : Int) + 1 + 1 ≤ 100000; omega) (by show 0 + 1 ≤ 900; decide) (fun p hp => by obtain rfl := List.mem_singleton.1 hp; exact ⟨by show 0 ≤ t; omega, by show t ≤ t + 10 + la; omega⟩) (by omega)).mono fun e w' ⟨u, h1, h2, h3⟩ => ⟨u, h1, by rw [rt_end (by omega) (by rw [HX.out]; omega)] at h2; exact h2, h3⟩)).mono ?_
    rintro e x102 ⟨vx102, rfl, hO, -⟩
    replace HO := Lib.hid (show Own _ _ _ [_, rowQs (.slice (some ⟨gq, 0, none⟩) 1 uc2) [rtQ (svs n) sd nm j], blkR bd (.cells #[.int .i64 ix, .bool false, .int .i64 0, .string nm, .int .i64 1, .slice none 0 0] 86), rowQs (.slice va1 0 vc1) [], resZ a (rtE (svs n) sd), glR g, rowQs vx102 []] from hO)
    clear hO
    have hO := HO.out.toEnd 7 [0, 4, 5, 1, 2, 3, 6] rfl rfl
    replace HO := Lib.hid (show Own _ _ _ [_, resZ a (rtE (svs n) sd), glR g, rowQs (.slice (some ⟨gq, 0, none⟩) 1 uc2) [rtQ (svs n) sd nm j], blkR bd (.cells #[.int .i64 ix, .bool false, .int .i64 0, .string nm, .int .i64 1, .slice none 0 0] 86), rowQs (.slice va1 0 vc1) [], _] from hO)
    clear hO
    go_wp2
    go_roundw
    case rel => exact ⟨j + 1, t + 10 + la, by omega, by omega, rfl, by go_num, .inr ⟨by omega, HO.out.toEnd 7 [0, 1, 2, 6] rfl rfl⟩⟩
    case measure => simp [intOf]; omega
  ·
   have HO := Lib.hid hO
   clear hO HO0
   obtain ⟨ua2, uc2, rfl⟩ := row_shape (HO.out.row 3 rfl)
   have hd : decide (((j + 1 : Nat) : Int) ≤ 3 * (n : Int)) = false := decide_eq_false (by omega)
   have hd2 : decide ((j : Int) + 1 ≤ 3 * (n : Int)) = false := decide_eq_false (by omega)
   have r8 := run_bdR213
   have r9 := run_bsR213
   replace HO := Lib.hid (show Own w D wr [rowR (.slice (some ⟨gs, 0, none⟩) n 4) 3 1 n ((svs n).map cIn), resZ a (rtE (svs n) sd), glR g, rowQs (.slice ua2 0 uc2) []] from HO.out)
   go_wp2_with fail
   refine (o_frameV [rowR (.slice (some ⟨gs, 0, none⟩) n 4) 3 1 n ((svs n).map cIn), glR g, rowQs (.slice ua2 0 uc2) []] [resZ a (rtE (svs n) sd)] (fun u => [resZ a ⟨svs n, sd, [], 1, 3 * ((svs n).length : Int), [], []⟩, resDn u [⟨1, 213, []⟩]]) (HO.out.toEnd 4 [0, 2, 3, 1] rfl rfl) (fun D' hD => results_z hD)).mono ?_
   rintro e x301 ⟨wv, rfl, hO, -⟩
   replace HO := Lib.hid (show Own _ _ _ [_, glR g, rowQs (.slice ua2 0 uc2) [], resZ a ⟨svs n, sd, [], 1, 3 * ((svs n).length : Int), [], []⟩, resDn wv [⟨1, 213, []⟩]] from hO)
   clear hO
   obtain ⟨x401, hx401, gr, hgr, hO⟩ := HO.out.allocE (.cells #[.int .i64 1, .int .i64 213, .slice none 0 0] 63)
   replace HO := Lib.hid (show Own _ _ _ [_, _, _, _, _, blkR gr (.cells #[.int .i64 1, .int .i64 213, .slice none 0 0] 63)] from hO)
   clear hO
   have HLT := Lib.hid (rdrn_one (w := x401) (g := gr) (c := 1) (d := ⟨1, 213, []⟩) (HO.out.cell 5 rfl 0 rfl) (HO.out.cell 5 rfl 1 rfl) (HO.out.cell 5 rfl 2 rfl) rfl (by decide) (fun j hj => absurd hj (by omega)))
   go_wp2_with fail
   refine (o_still HO.out (sameF_r _ (rdrn_own HO.out 4 rfl (by show 0 ≤ 1000; decide)) HLT.out (by decide))).mono ?_
   rintro e x310 ⟨rfl, hO, -⟩
   replace HO := Lib.hid hO
   clear hO HLT r8 r9
   clear hx401 hgr
   go_wp2
   go_ret
   exact ⟨rfl, HO.out.toEnd 6 [1] rfl rfl, HO.out.size⟩
end Go.Proofs.YtbolfkojebbejaaGreatDoor
