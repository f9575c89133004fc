/- Contract of the law's Routes: the walk. -/
import Derived.Deep.Cut
import Derived.Test.YtkhhmoijjidbbaaLawF
namespace Go.Proofs.Ytkhhmoijjidbbaa
open Go.RowKit Go.Sort
set_option linter.unusedVariables false
attribute [local go_sem ↓] run_mn

def tab8 : Pred := rowOf 8 #[.int .i64 0, .int .i64 7, .int .i64 8, .int .i64 13, .int .i64 16, .int .i64 23, .int .i64 24, .int .i64 32] 3
theorem run_bsR1 (x0 x1 x2 x3 : Int) (w : World) : (Instr.buildSlice 33 1 #[(0, .agg #[.int .i64 x0, .int .i64 x1, .int .i64 x2, .int .i64 x3])]).run Try.prog w = .ok (.slice (some ⟨w.heap.size, 0, none⟩) 1 1) (w.alloc (.cells #[.int .i64 x0, .int .i64 x1, .int .i64 x2, .int .i64 x3] 29)) := by kernel_rfl
theorem infoR : (Try.prog.info? 29).map (fun i => (i.zero, i.size, i.bytes)) = some (some (.agg #[.int .i64 0, .int .i64 0, .int .i64 0, .int .i64 0]), 4, 32) := by kernel_rfl

/-- A new block of four zero cells, not before block B. -/
def new4 (B : Nat) : Pred := fun v w => ∃ b, v = .pointer (some ⟨b, 0, none⟩) ∧ B ≤ b ∧ w.heap[b]? = some (.cells #[.int .i64 0, .int .i64 0, .int .i64 0, .int .i64 0] 29)
theorem new4_lasts (B : Nat) : Lasts (new4 B) := by
  rintro v w w' ⟨b, rfl, hB, hb⟩ hbl
  exact ⟨b, rfl, hB, (hbl.block b (Array.getElem?_eq_some_iff.1 hb).1).trans hb⟩
theorem set4 {w : World} {b : Nat} {t : TypeId} {z0 z1 z2 z3 : Value} (h : w.heap[b]? = some (.cells #[z0, z1, z2, z3] t)) (v0 v1 v2 v3 : Value) :
    ((((w.setCell ⟨b, 0, none⟩ v0).setCell ⟨b, 1, none⟩ v1).setCell ⟨b, 2, none⟩ v2).setCell ⟨b, 3, none⟩ v3).heap[b]? = some (.cells #[v0, v1, v2, v3] t) := by
  have hlt := (Array.getElem?_eq_some_iff.1 h).1
  simp [World.setCell, Array.getElem?_modify, h]
theorem below_set4 {B : Nat} {w : World} {b : Nat} (hB : B ≤ b) (v0 v1 v2 v3 : Value) : Below B w ((((w.setCell ⟨b, 0, none⟩ v0).setCell ⟨b, 1, none⟩ v1).setCell ⟨b, 2, none⟩ v2).setCell ⟨b, 3, none⟩ v3) :=
  ((((Below.refl B w).setCell (p := ⟨b, 0, none⟩) hB _).setCell (p := ⟨b, 1, none⟩) hB _).setCell (p := ⟨b, 2, none⟩) hB _).setCell (p := ⟨b, 3, none⟩) hB _

theorem set1of4 {w : World} {b : Nat} {t : TypeId} {z0 z1 z2 z3 : Value} (h : w.heap[b]? = some (.cells #[z0, z1, z2, z3] t)) (v : Value) : (w.setCell ⟨b, 2, none⟩ v).heap[b]? = some (.cells #[z0, z1, v, z3] t) := by
  simp [World.setCell, Array.getElem?_modify, h]

set_option maxRecDepth 100000 in
set_option maxHeartbeats 4000000 in
theorem routes_any (fs : List If) (n : Nat) (x : Nat → Rr) (v u : Value) (w : World) (hI : RdI w v fs) (hF : RdW w u n x) (hl1 : 1 ≤ fs.length) (hl4 : fs.length ≤ 4)
    (hbd : ∀ i, i < fs.length → 8 ≤ (ifAt fs i).nb ∧ (ifAt fs i).nb ≤ 28 ∧ 150000000 ≤ (ifAt fs i).na ∧ (ifAt fs i).na ≤ 167972160) :
    Calls Try.prog 10 #[v, u] w fun e w' => ∃ r, e = .returned r ∧ RdR w' r (routesF fs n x) ∧ Below w.heap.size w w' := by
  have HI := Lib.hid hI
  obtain ⟨a, cap, rfl, hcap, hlen, hok, hp⟩ := hF
  obtain ⟨aI, capI, rfl, hcapI, hlenI, hpI⟩ := hI
  obtain ⟨bI, oI, rfl, hcI⟩ := hpI (by omega)
  have HCI := Lib.hid hcI
  have HP := Lib.hid hp
  have HO := Lib.hid hok
  have HBD := Lib.hid hbd
  clear hp hok hpI hcI hbd
  go_enter Try.func10, Try.ntmps10
  go_wp2
  go_loopw [5, 6] (fun out i wr => ∃ k : Nat, k ≤ min n 8 ∧ i = .int .i64 k ∧ wr.ownsRow w.heap.size 29 4 out k (rtcs (routesTo fs x k)) ∧ Below w.heap.size w wr) (fun _ i _ => 8 - (intOf i).toNat)
  case atStart => exact ⟨0, Nat.zero_le _, rfl, World.ownsRow_nil _ _ _ _, Below.refl _ _⟩
  case round =>
    obtain ⟨k, hk, rfl, hown, hb⟩ := hrel
    have HW := Lib.hid hown
    have HWG := Lib.hid (show ∀ g c', u5 = .slice (some ⟨g, 0, none⟩) k c' → g < wr.heap.size from fun g c' e => by
      rcases hown.2 with ⟨h, _⟩ | ⟨g', c'', cu, h, _, h3, _⟩
      · rw [h] at e; cases e
      · rw [h] at e; cases e; exact (Array.getElem?_eq_some_iff.1 h3).1)
    clear hown
    by_cases hlt : k < n ∧ k < 8
    · obtain ⟨hk1, hk2⟩ := hlt
      obtain ⟨b, o, rfl, hc⟩ := HP.out (by omega)
      obtain ⟨hx1, hx2, hx3, hx4⟩ := HO.out k hk1
      obtain ⟨c0, c1, c2, c3⟩ := hc k hk1
      replace c0 := keep hb c0
      replace c1 := keep hb c1
      replace c2 := keep hb c2
      replace c3 := keep hb c3
      clear hc
      generalize hxk : x k = xk at *
      have HXK := Lib.hid hxk
      clear hxk
      obtain ⟨ad, bt, vi, fx⟩ := xk
      simp only at c0 c1 c2 c3 hx1 hx2 hx3 hx4
      have HX := Lib.hid (show mkRoute fs ⟨ad, bt, vi, fx⟩ = ⟨nt (rtA ⟨ad, bt, vi, fx⟩) (rbF (pk bt 8)), rbF (pk bt 8), rtVia fs ⟨ad, bt, vi, fx⟩, pk fx fs.length⟩ from rfl)
      have hra := rtA_bd ⟨ad, bt, vi, fx⟩
      have HRA := Lib.hid (show rtA ⟨ad, bt, vi, fx⟩ = 167772160 + pk (ad.tdiv 16) 8 * 65536 + pk ad 16 * 256 from rfl)
      have HV := Lib.hid (show rtVia fs ⟨ad, bt, vi, fx⟩ = if vi.tmod 3 ≠ 0 ∧ locB fs (viaN fs ⟨ad, bt, vi, fx⟩) = false then viaN fs ⟨ad, bt, vi, fx⟩ else 0 from rfl)
      have hfb := pk_bd fx fs.length (by omega)
      have HVN := Lib.hid (show viaN fs ⟨ad, bt, vi, fx⟩ = (ifAt fs (pk fx fs.length).toNat).na + pk vi ((2:Int) ^ (mnF 8 (32 - (ifAt fs (pk fx fs.length).toNat).nb)).toNat) from rfl)
      have P4 := Lib.hid (fun w => pick_any fx fs.length w hx4 (by omega))
      obtain ⟨fc, hfc⟩ := Int.eq_ofNat_of_zero_le hfb.1
      rw [hfc] at HX HVN P4 hfb
      rw [Int.toNat_natCast] at HVN
      have hfcl : fc < fs.length := by omega
      obtain ⟨bd1, bd2, bd3, bd4⟩ := HBD.out fc hfcl
      have q1 := pk_bd (ad.tdiv 16) 8 (by omega)
      have q2 := pk_bd ad 16 (by omega)
      have q3 := pk_bd bt 8 (by omega)
      have P1 := Lib.hid (fun w => pick_any (ad.tdiv 16) 8 w (tdiv_bd _ _ (by decide) hx1) (by decide))
      have P2 := Lib.hid (fun w => pick_any ad 16 w hx1 (by decide))
      have P3 := Lib.hid (fun w => pick_any bt 8 w hx2 (by decide))
      have hrb := rbF_bd (pk bt 8)
      have a1 : -9223372036854775808 ≤ ad := hx1.1
      have a2 : ad ≤ 9223372036854775807 := hx1.2
      have v1 : -9223372036854775808 ≤ vi := hx3.1
      have v2 : vi ≤ 9223372036854775807 := hx3.2
      have H3 := Lib.hid hx3
      clear hx1 hx2 hx3 hx4 hfc hfb
      generalize rtVia fs ⟨ad, bt, vi, fx⟩ = vv at *
      generalize viaN fs ⟨ad, bt, vi, fx⟩ = vn at *
      generalize rtA ⟨ad, bt, vi, fx⟩ = ra at *
      generalize pk (ad.tdiv 16) 8 = y1 at *
      generalize pk ad 16 = y2 at *
      generalize pk bt 8 = y3 at *
      go_wp2
      have g0 := cell_regrown (w := wr.alloc (.cells #[.int .i64 ad, .int .i64 bt, .int .i64 vi, .int .i64 fx] 59)) (a := ⟨wr.heap.size, 0, none⟩) (v := .int .i64 ad) (by simp)
      have g1 := cell_regrown (w := wr.alloc (.cells #[.int .i64 ad, .int .i64 bt, .int .i64 vi, .int .i64 fx] 59)) (a := ⟨wr.heap.size, 1, none⟩) (v := .int .i64 bt) (by simp)
      have g3 := cell_regrown (w := wr.alloc (.cells #[.int .i64 ad, .int .i64 bt, .int .i64 vi, .int .i64 fx] 59)) (a := ⟨wr.heap.size, 3, none⟩) (v := .int .i64 fx) (by simp)
      refine wp_region_R 25 (by kernel_rfl) (by kernel_rfl) ?_
      simp only [List.take, List.drop]
      iterate 3 (refine wpR_want (by kernel_rfl) rfl rfl ?_; intro K hK; go_big_quiet_op; go_big_quiet_on)
      refine wpR_call (by kernel_rfl) rfl 11 #[.int .i64 (ad.tdiv 16), .int .i64 8] (.int .i64 y1) (fun w => by simp [go_sem]) (fun w _ => P1.out w) ?_
      simp only [Act.put, List.setIfInBounds_toArray, List.set_cons_succ, List.set_cons_zero]
      iterate 4 (refine wpR_want (by kernel_rfl) rfl rfl ?_; intro K hK; go_big_quiet_op; go_big_quiet_on)
      refine wpR_call (by kernel_rfl) rfl 11 #[.int .i64 ad, .int .i64 16] (.int .i64 y2) (fun w => by simp [go_sem]) (fun w _ => P2.out w) ?_
      simp only [Act.put, List.setIfInBounds_toArray, List.set_cons_succ, List.set_cons_zero]
      iterate 2 (refine wpR_want (by kernel_rfl) rfl rfl ?_; intro K hK; go_big_quiet_op; go_big_quiet_on)
      rw [show (167772160 + y1 * 65536 + y2 * 256) = ra from HRA.out.symm]
      refine wpR_ex tab8 (rowOf_lasts _ _ _) (by kernel_rfl) (fun a' w' hw' he => ?_) (fun d hd => ?_)
      · simp [go_sem]
        exact ⟨_, rfl, (Below.refl _ _).alloc (Nat.le_refl _) _, ⟨w'.heap.size, rfl, new_block _ _⟩⟩
      cases hd
      simp only [List.nil_append]
      iterate 2 (refine wpR_want (by kernel_rfl) rfl rfl ?_; intro K hK; go_big_quiet_op; go_big_quiet_on)
      refine wpR_call (by kernel_rfl) rfl 11 #[.int .i64 bt, .int .i64 8] (.int .i64 y3) (fun w => by simp [go_sem]) (fun w _ => P3.out w) ?_
      simp only [Act.put, List.setIfInBounds_toArray, List.set_cons_succ, List.set_cons_zero]
      refine wpR_ex (ptrTo (.int .i64 (rbF y3))) (ptrTo_lasts _) (by kernel_rfl) (fun a' w' hw' he => ?_) (fun d hd => ?_)
      · obtain ⟨⟨tb, h37, htb⟩, h40, _⟩ := he
        have hcell := table8_cell htb y3 q3.1 q3.2
        have htl : y3.toNat < 8 := by omega
        have h37' : a'.tmps.getD 37 undef = .slice (some ⟨tb, 0, none⟩) 8 8 := h37
        have h40' : a'.tmps.getD 40 undef = .int .i64 y3 := h40
        clear h37 h40 g0 g1 g3
        simp only [go_sem, h37', h40']
        obtain ⟨q31, q32⟩ := q3
        simp [go_sem, ↓IntWalk.iteOmega]
        exact ⟨_, rfl, Below.refl _ _, ⟨tb, _, rfl, hcell⟩⟩
      cases hd
      simp only [List.cons_append, List.nil_append]
      refine wpR_known (.int .i64 (rbF y3)) (by kernel_rfl) (fun a' w' hw' he => ?_) ?_
      · obtain ⟨⟨tb, to, h41, hcell⟩, _⟩ := he
        have h41' : a'.tmps.getD 41 undef = .pointer (some ⟨tb, to, none⟩) := h41
        clear h41 g0 g1 g3
        simp only [go_sem, h41']
        simp [go_sem, hcell]
        exact Below.refl _ _
      simp only [Act.put, List.setIfInBounds_toArray, List.set_cons_succ, List.set_cons_zero]
      refine wpR_call (by kernel_rfl) rfl 23 #[.int .i64 ra, .int .i64 (rbF y3)] (.agg #[.int .i64 (nt ra (rbF y3)), .int .i64 (rbF y3)]) (fun w => by simp [go_sem]) (fun w _ => lnet_any ra (rbF y3) w (by omega) (by omega)) ?_
      simp only [Act.put, List.setIfInBounds_toArray, List.set_cons_succ, List.set_cons_zero]
      iterate 4 (refine wpR_want (by kernel_rfl) rfl rfl ?_; intro K hK; go_big_quiet_op; go_big_quiet_on)
      refine wpR_call (by kernel_rfl) rfl 11 #[.int .i64 fx, .int .i64 fs.length] (.int .i64 fc) (fun w => by simp [go_sem]) (fun w _ => P4.out w) ?_
      simp only [Act.put, List.setIfInBounds_toArray, List.set_cons_succ, List.set_cons_zero]
      iterate 1 (refine wpR_want (by kernel_rfl) rfl rfl ?_; intro K hK; go_big_quiet_op; go_big_quiet_on)
      refine wpR_ex (new4 (wr.heap.size + 1)) (new4_lasts _) (by kernel_rfl) (fun a' w' hw' he => ?_) (fun d hd => ?_)
      · have hs := hw'.size
        simp at hs
        simp [go_sem]
        exact ⟨_, rfl, (Below.refl _ _).alloc (Nat.le_refl _) _, ⟨w'.heap.size, rfl, by omega, new_block _ _⟩⟩
      cases hd
      simp only [List.cons_append, List.nil_append]
      refine wpR_nil (by kernel_rfl) (by simp) ?_
      rintro w6 hb6
      simp only [exAll]
      rintro u37 - u41 - u8' ⟨nb, rfl, hnb, hblk⟩
      simp only [Act.put, List.setIfInBounds_toArray, List.set_cons_succ, List.set_cons_zero]
      have f2 := keep hb6 (a := ⟨wr.heap.size, 2, none⟩) (v := .int .i64 vi) (by simp)
      have hB6 := below_mid (hb.alloc hb.size _) hb6
      have hb06 := below_mid ((Below.refl _ _).alloc (Nat.le_refl _) _) hb6
      have z0 : w6.cell? ⟨nb, 0, none⟩ = some (.int .i64 0) := by simp [World.cell?, hblk]
      have z1 : w6.cell? ⟨nb, 1, none⟩ = some (.int .i64 0) := by simp [World.cell?, hblk]
      have z2 : w6.cell? ⟨nb, 2, none⟩ = some (.int .i64 0) := by simp [World.cell?, hblk]
      have z3 : w6.cell? ⟨nb, 3, none⟩ = some (.int .i64 0) := by simp [World.cell?, hblk]
      have y0 : w6.frozen? ⟨nb, 0, none⟩ = false := by simp [World.frozen?, hblk]
      have y1' : w6.frozen? ⟨nb, 1, none⟩ = false := by simp [World.frozen?, hblk]
      have y2' : w6.frozen? ⟨nb, 2, none⟩ = false := by simp [World.frozen?, hblk]
      have y3' : w6.frozen? ⟨nb, 3, none⟩ = false := by simp [World.frozen?, hblk]
      have HBK := Lib.hid hblk
      clear g0 g1 g3 hb6 c0 c1 c2 c3 P1 P2 P3 P4 q1 q2 q3 hblk
      go_wp2
      have hblk7 := set4 HBK.out (.int .i64 (nt ra (rbF y3))) (.int .i64 (rbF y3)) (.int .i64 0) (.int .i64 fc)
      have h67 := below_set4 (B := wr.heap.size + 1) (w := w6) hnb (.int .i64 (nt ra (rbF y3))) (.int .i64 (rbF y3)) (.int .i64 0) (.int .i64 fc)
      clear z0 z1 z2 z3 y0 y1' y2' y3' HBK
      generalize ((((w6.setCell ⟨nb, 0, none⟩ (.int .i64 (nt ra (rbF y3)))).setCell ⟨nb, 1, none⟩ (.int .i64 (rbF y3))).setCell ⟨nb, 2, none⟩ (.int .i64 0)).setCell ⟨nb, 3, none⟩ (.int .i64 fc)) = w7 at *
      have hsz := hb.size
      have hB7 : Below w.heap.size w w7 := hB6.trans (h67.mono (by omega))
      have HW7 := Lib.hid (ownsRow_stay (hb06.trans (h67.mono (by omega))) HW.out)
      replace f2 : w7.cell? ⟨wr.heap.size, 2, none⟩ = some (.int .i64 vi) := (h67.cell (p := ⟨wr.heap.size, 2, none⟩) (by simp)).trans f2
      obtain ⟨_, _, e2, e3, _⟩ := (HCI.out fc hfcl).stay hB7
      have n3 : w7.cell? ⟨nb, 3, none⟩ = some (.int .i64 fc) := by simp [World.cell?, hblk7]
      have HBK7 := Lib.hid hblk7
      have hnw : w.heap.size ≤ nb := by omega
      clear hblk7 h67 hB6 hb06 HW
      have g2 := cell_regrown f2
      have g3 := cell_regrown n3
      have g4 := cell_regrown e2
      have g5 := cell_regrown e3
      have PV := Lib.hid (mn_call (ifAt fs fc).nb vi H3.out bd1 bd2)
      have hm := mn_bd (ifAt fs fc).nb bd1 bd2
      have hwr := mn_wrap (ifAt fs fc).nb bd1 bd2
      obtain ⟨hp1, hp2⟩ := mn_pick (ifAt fs fc).nb vi bd1 bd2
      generalize pk vi ((2:Int) ^ (mnF 8 (32 - (ifAt fs fc).nb)).toNat) = pv at *
      refine wp_region_B (by kernel_rfl) (by kernel_rfl) ?_
      repeat (go_big_quiet_step ((go_at_call 11; exact Calls.regrown_of (PV.out _))))
      refine wpQuiet_nil ?_
      intro w8 hb8
      rw [show (ifAt fs fc).na + pv = vn from HVN.out.symm]
      replace f2 := keep hb8 f2
      have HBK8 : Hid (w8.heap[nb]? = some (.cells #[.int .i64 (nt ra (rbF y3)), .int .i64 (rbF y3), .int .i64 0, .int .i64 fc] 29)) := (hb8.block nb (Array.getElem?_eq_some_iff.1 HBK7.out).1).trans HBK7.out
      have HW8 := Lib.hid (ownsRow_stay hb8 HW7.out)
      have hB8 := below_mid hB7 hb8
      clear g2 g3 g4 g5 hp1 hp2 PV hm hwr hb8 HBK7 HW7 hB7 e2 e3 n3
      go_wp2_with fail
      cases hlo : locB fs vn
      all_goals
        refine (rlocal_r (rfl : locI fs vn = locI fs vn) hlo _ _ (HI.out.stay hB8)).mono ?_
        rintro e w9 ⟨rfl, hb9⟩
        replace f2 := keep hb9 f2
        have HBK9 : Hid (w9.heap[nb]? = some (.cells #[.int .i64 (nt ra (rbF y3)), .int .i64 (rbF y3), .int .i64 0, .int .i64 fc] 29)) := (hb9.block nb (Array.getElem?_eq_some_iff.1 HBK8.out).1).trans HBK8.out
        have HW9 := Lib.hid (ownsRow_stay hb9 HW8.out)
        have hB9 := below_mid hB8 hb9
        clear hb9 HBK8 HW8 hB8
        have n2 : w9.cell? ⟨nb, 2, none⟩ = some (.int .i64 0) := by simp [World.cell?, HBK9.out]
        have n2f : w9.frozen? ⟨nb, 2, none⟩ = false := by simp [World.frozen?, HBK9.out]
      case false =>
        by_cases h3 : vi.tmod 3 = 0
        · have h3' : (vi.tmod 3 != 0) = false := by simp [h3]
          have HVV := Lib.hid (show vv = 0 by rw [HV.out]; simp [h3])
          have H33 := Lib.hid h3
          clear h3 n2 n2f
          have rb1 := fun w => run_bsR1 (nt ra (rbF y3)) (rbF y3) 0 fc w
          have m0 : w9.cell? ⟨nb, 0, none⟩ = some (.int .i64 (nt ra (rbF y3))) := by simp [World.cell?, HBK9.out]
          have m1 : w9.cell? ⟨nb, 1, none⟩ = some (.int .i64 (rbF y3)) := by simp [World.cell?, HBK9.out]
          have m2 : w9.cell? ⟨nb, 2, none⟩ = some (.int .i64 0) := by simp [World.cell?, HBK9.out]
          have m3 : w9.cell? ⟨nb, 3, none⟩ = some (.int .i64 fc) := by simp [World.cell?, HBK9.out]
          have hmax : k + 1 ≤ maxLen := by unfold maxLen; omega
          have hbytes : (k + 1) * 32 ≤ 140737488355328 := by omega
          have hszz := hB9.size
          have hwz : w.heap.size ≤ (w9.alloc (.cells #[.int .i64 (nt ra (rbF y3)), .int .i64 (rbF y3), .int .i64 0, .int .i64 fc] 29)).heap.size := by simp; omega
          obtain ⟨i0, hi, hz0, hz1, hz2⟩ := info_parts infoR
          have HAP := Lib.hid (ownsRow_stay ((Below.refl _ w9).alloc (Nat.le_refl _) (.cells #[.int .i64 (nt ra (rbF y3)), .int .i64 (rbF y3), .int .i64 0, .int .i64 fc] 29)) HW9.out)
          have HI0 := Lib.hid hi
          have HZ0 := Lib.hid hz0
          have HZ1 := Lib.hid hz1
          have HZ2 := Lib.hid hz2
          clear hi hz0 hz1 hz2
          go_wp2_with ((at_builtin; refine wpList_append_own _ rfl (.tmp 87) (.tmp 89) 33 rfl w.heap.size 29 i0 _ 4 32 Try.underlying33 HI0.out HZ0.out HZ1.out HZ2.out rfl (by decide) u5 k _ rfl HAP.out ⟨w9.heap.size, 0, none⟩ 1 1 (rtc ⟨nt ra (rbF y3), rbF y3, 0, fc⟩) rfl rfl (news4 _ _ _) (rtc_one _) hmax hbytes hwz ?_; intro v' w7' hown7 hgrow7 _; clear rb1 m0 m1 m2 m3 hmax hbytes hszz hwz; have HW7' := Lib.hid hown7; have HG7 := Lib.hid hgrow7; clear hown7 hgrow7))
          go_roundw
          case rel =>
            have hrow : rtcs (routesTo fs x k) ++ rtc ⟨nt ra (rbF y3), rbF y3, 0, fc⟩ = rtcs (routesTo fs x (k + 1)) := by
              rw [routesTo_succ, rtcs_snoc, HXK.out, HX.out, HVV.out]
            have h7 := HW7'.out
            rw [hrow] at h7
            refine ⟨k + 1, by omega, by go_num, h7, ?_⟩
            have hBa := hB9.alloc hB9.size (.cells #[.int .i64 (nt ra (rbF y3)), .int .i64 (rbF y3), .int .i64 0, .int .i64 fc] 29)
            exact hBa.grown HG7.out hBa.size (fun g e => by
              rcases HAP.out.2 with ⟨h, _⟩ | ⟨g', c', cu', h, hg', _⟩
              · rw [h] at e; cases e
              · rw [h] at e; simp [Value.ownBlock] at e; omega)
          case measure => simp [intOf]; omega
        · have h3' : (vi.tmod 3 != 0) = true := by simpa using h3
          have HVV := Lib.hid (show vv = vn by rw [HV.out]; simp [h3, hlo])
          have H33 := Lib.hid h3
          clear h3
          go_upto_region 11 with (fail)
          have HBKA := Lib.hid (set1of4 HBK9.out (.int .i64 vn))
          have hBA : Below w.heap.size w (w9.setCell ⟨nb, 2, none⟩ (.int .i64 vn)) := hB9.setCell (p := ⟨nb, 2, none⟩) hnw _
          have hWA : (w9.setCell ⟨nb, 2, none⟩ (.int .i64 vn)).ownsRow w.heap.size 29 4 u5 k (rtcs (routesTo fs x k)) := by
            obtain ⟨p1, p2⟩ := HW9.out
            refine ⟨p1, p2.imp id ?_⟩
            rintro ⟨g, c', cu, e1, e2, e3, e4⟩
            have hgl := HWG.out g c' e1
            refine ⟨g, c', cu, e1, e2, ?_, e4⟩
            rw [← e3]
            exact Below.heap_setCell w9 ⟨nb, 2, none⟩ _ g (by simp; omega)
          have HWA := Lib.hid hWA
          clear hWA HBK9 hB9 HW9 n2 n2f f2
          generalize w9.setCell ⟨nb, 2, none⟩ (.int .i64 vn) = wa at *
          have rb1 := fun w => run_bsR1 (nt ra (rbF y3)) (rbF y3) vn fc w
          have m0 : wa.cell? ⟨nb, 0, none⟩ = some (.int .i64 (nt ra (rbF y3))) := by simp [World.cell?, HBKA.out]
          have m1 : wa.cell? ⟨nb, 1, none⟩ = some (.int .i64 (rbF y3)) := by simp [World.cell?, HBKA.out]
          have m2 : wa.cell? ⟨nb, 2, none⟩ = some (.int .i64 vn) := by simp [World.cell?, HBKA.out]
          have m3 : wa.cell? ⟨nb, 3, none⟩ = some (.int .i64 fc) := by simp [World.cell?, HBKA.out]
          have hmax : k + 1 ≤ maxLen := by unfold maxLen; omega
          have hbytes : (k + 1) * 32 ≤ 140737488355328 := by omega
          have hszz := hBA.size
          have hwz : w.heap.size ≤ (wa.alloc (.cells #[.int .i64 (nt ra (rbF y3)), .int .i64 (rbF y3), .int .i64 vn, .int .i64 fc] 29)).heap.size := by simp; omega
          obtain ⟨i0, hi, hz0, hz1, hz2⟩ := info_parts infoR
          have HAP := Lib.hid (ownsRow_stay ((Below.refl _ wa).alloc (Nat.le_refl _) (.cells #[.int .i64 (nt ra (rbF y3)), .int .i64 (rbF y3), .int .i64 vn, .int .i64 fc] 29)) HWA.out)
          have HI0 := Lib.hid hi
          have HZ0 := Lib.hid hz0
          have HZ1 := Lib.hid hz1
          have HZ2 := Lib.hid hz2
          clear hi hz0 hz1 hz2
          go_wp2_with ((at_builtin; refine wpList_append_own _ rfl (.tmp 87) (.tmp 89) 33 rfl w.heap.size 29 i0 _ 4 32 Try.underlying33 HI0.out HZ0.out HZ1.out HZ2.out rfl (by decide) u5 k _ rfl HAP.out ⟨wa.heap.size, 0, none⟩ 1 1 (rtc ⟨nt ra (rbF y3), rbF y3, vn, fc⟩) rfl rfl (news4 _ _ _) (rtc_one _) hmax hbytes hwz ?_; intro v' w7' hown7 hgrow7 _; clear rb1 m0 m1 m2 m3 hmax hbytes hszz hwz; have HW7' := Lib.hid hown7; have HG7 := Lib.hid hgrow7; clear hown7 hgrow7))
          go_roundw
          case rel =>
            have hrow : rtcs (routesTo fs x k) ++ rtc ⟨nt ra (rbF y3), rbF y3, vn, fc⟩ = rtcs (routesTo fs x (k + 1)) := by
              rw [routesTo_succ, rtcs_snoc, HXK.out, HX.out, HVV.out]
            have h7 := HW7'.out
            rw [hrow] at h7
            refine ⟨k + 1, by omega, by go_num, h7, ?_⟩
            have hBa := hBA.alloc hBA.size (.cells #[.int .i64 (nt ra (rbF y3)), .int .i64 (rbF y3), .int .i64 vn, .int .i64 fc] 29)
            exact hBa.grown HG7.out hBa.size (fun g e => by
              rcases HAP.out.2 with ⟨h, _⟩ | ⟨g', c', cu', h, hg', _⟩
              · rw [h] at e; cases e
              · rw [h] at e; simp [Value.ownBlock] at e; omega)
          case measure => simp [intOf]; omega
      case true =>
        have HVV := Lib.hid (show vv = 0 by rw [HV.out]; simp [hlo])
        clear n2 n2f
        by_cases h3 : vi.tmod 3 = 0
        · have h3' : (vi.tmod 3 != 0) = false := by simp [h3]
          have H33 := Lib.hid h3
          clear h3
          have rb1 := fun w => run_bsR1 (nt ra (rbF y3)) (rbF y3) 0 fc w
          have m0 : w9.cell? ⟨nb, 0, none⟩ = some (.int .i64 (nt ra (rbF y3))) := by simp [World.cell?, HBK9.out]
          have m1 : w9.cell? ⟨nb, 1, none⟩ = some (.int .i64 (rbF y3)) := by simp [World.cell?, HBK9.out]
          have m2 : w9.cell? ⟨nb, 2, none⟩ = some (.int .i64 0) := by simp [World.cell?, HBK9.out]
          have m3 : w9.cell? ⟨nb, 3, none⟩ = some (.int .i64 fc) := by simp [World.cell?, HBK9.out]
          have hmax : k + 1 ≤ maxLen := by unfold maxLen; omega
          have hbytes : (k + 1) * 32 ≤ 140737488355328 := by omega
          have hszz := hB9.size
          have hwz : w.heap.size ≤ (w9.alloc (.cells #[.int .i64 (nt ra (rbF y3)), .int .i64 (rbF y3), .int .i64 0, .int .i64 fc] 29)).heap.size := by simp; omega
          obtain ⟨i0, hi, hz0, hz1, hz2⟩ := info_parts infoR
          have HAP := Lib.hid (ownsRow_stay ((Below.refl _ w9).alloc (Nat.le_refl _) (.cells #[.int .i64 (nt ra (rbF y3)), .int .i64 (rbF y3), .int .i64 0, .int .i64 fc] 29)) HW9.out)
          have HI0 := Lib.hid hi
          have HZ0 := Lib.hid hz0
          have HZ1 := Lib.hid hz1
          have HZ2 := Lib.hid hz2
          clear hi hz0 hz1 hz2
          go_wp2_with ((at_builtin; refine wpList_append_own _ rfl (.tmp 87) (.tmp 89) 33 rfl w.heap.size 29 i0 _ 4 32 Try.underlying33 HI0.out HZ0.out HZ1.out HZ2.out rfl (by decide) u5 k _ rfl HAP.out ⟨w9.heap.size, 0, none⟩ 1 1 (rtc ⟨nt ra (rbF y3), rbF y3, 0, fc⟩) rfl rfl (news4 _ _ _) (rtc_one _) hmax hbytes hwz ?_; intro v' w7' hown7 hgrow7 _; clear rb1 m0 m1 m2 m3 hmax hbytes hszz hwz; have HW7' := Lib.hid hown7; have HG7 := Lib.hid hgrow7; clear hown7 hgrow7))
          go_roundw
          case rel =>
            have hrow : rtcs (routesTo fs x k) ++ rtc ⟨nt ra (rbF y3), rbF y3, 0, fc⟩ = rtcs (routesTo fs x (k + 1)) := by
              rw [routesTo_succ, rtcs_snoc, HXK.out, HX.out, HVV.out]
            have h7 := HW7'.out
            rw [hrow] at h7
            refine ⟨k + 1, by omega, by go_num, h7, ?_⟩
            have hBa := hB9.alloc hB9.size (.cells #[.int .i64 (nt ra (rbF y3)), .int .i64 (rbF y3), .int .i64 0, .int .i64 fc] 29)
            exact hBa.grown HG7.out hBa.size (fun g e => by
              rcases HAP.out.2 with ⟨h, _⟩ | ⟨g', c', cu', h, hg', _⟩
              · rw [h] at e; cases e
              · rw [h] at e; simp [Value.ownBlock] at e; omega)
          case measure => simp [intOf]; omega
        · have h3' : (vi.tmod 3 != 0) = true := by simpa using h3
          have H33 := Lib.hid h3
          clear h3
          have rb1 := fun w => run_bsR1 (nt ra (rbF y3)) (rbF y3) 0 fc w
          have m0 : w9.cell? ⟨nb, 0, none⟩ = some (.int .i64 (nt ra (rbF y3))) := by simp [World.cell?, HBK9.out]
          have m1 : w9.cell? ⟨nb, 1, none⟩ = some (.int .i64 (rbF y3)) := by simp [World.cell?, HBK9.out]
          have m2 : w9.cell? ⟨nb, 2, none⟩ = some (.int .i64 0) := by simp [World.cell?, HBK9.out]
          have m3 : w9.cell? ⟨nb, 3, none⟩ = some (.int .i64 fc) := by simp [World.cell?, HBK9.out]
          have hmax : k + 1 ≤ maxLen := by unfold maxLen; omega
          have hbytes : (k + 1) * 32 ≤ 140737488355328 := by omega
          have hszz := hB9.size
          have hwz : w.heap.size ≤ (w9.alloc (.cells #[.int .i64 (nt ra (rbF y3)), .int .i64 (rbF y3), .int .i64 0, .int .i64 fc] 29)).heap.size := by simp; omega
          obtain ⟨i0, hi, hz0, hz1, hz2⟩ := info_parts infoR
          have HAP := Lib.hid (ownsRow_stay ((Below.refl _ w9).alloc (Nat.le_refl _) (.cells #[.int .i64 (nt ra (rbF y3)), .int .i64 (rbF y3), .int .i64 0, .int .i64 fc] 29)) HW9.out)
          have HI0 := Lib.hid hi
          have HZ0 := Lib.hid hz0
          have HZ1 := Lib.hid hz1
          have HZ2 := Lib.hid hz2
          clear hi hz0 hz1 hz2
          go_wp2_with ((at_builtin; refine wpList_append_own _ rfl (.tmp 87) (.tmp 89) 33 rfl w.heap.size 29 i0 _ 4 32 Try.underlying33 HI0.out HZ0.out HZ1.out HZ2.out rfl (by decide) u5 k _ rfl HAP.out ⟨w9.heap.size, 0, none⟩ 1 1 (rtc ⟨nt ra (rbF y3), rbF y3, 0, fc⟩) rfl rfl (news4 _ _ _) (rtc_one _) hmax hbytes hwz ?_; intro v' w7' hown7 hgrow7 _; clear rb1 m0 m1 m2 m3 hmax hbytes hszz hwz; have HW7' := Lib.hid hown7; have HG7 := Lib.hid hgrow7; clear hown7 hgrow7))
          go_roundw
          case rel =>
            have hrow : rtcs (routesTo fs x k) ++ rtc ⟨nt ra (rbF y3), rbF y3, 0, fc⟩ = rtcs (routesTo fs x (k + 1)) := by
              rw [routesTo_succ, rtcs_snoc, HXK.out, HX.out, HVV.out]
            have h7 := HW7'.out
            rw [hrow] at h7
            refine ⟨k + 1, by omega, by go_num, h7, ?_⟩
            have hBa := hB9.alloc hB9.size (.cells #[.int .i64 (nt ra (rbF y3)), .int .i64 (rbF y3), .int .i64 0, .int .i64 fc] 29)
            exact hBa.grown HG7.out hBa.size (fun g e => by
              rcases HAP.out.2 with ⟨h, _⟩ | ⟨g', c', cu', h, hg', _⟩
              · rw [h] at e; cases e
              · rw [h] at e; simp [Value.ownBlock] at e; omega)
          case measure => simp [intOf]; omega
    · have hke : k = min n 8 := by omega
      have HE := Lib.hid (show routesF fs n x = routesTo fs x k by rw [hke]; rfl)
      clear hke
      have hsl : ∃ a' c', u5 = .slice a' k c' := by
        rcases HW.out.2 with ⟨rfl, h⟩ | ⟨g, c, cu, rfl, _⟩
        · exact ⟨_, _, by rw [h]⟩
        · exact ⟨_, _, rfl⟩
      obtain ⟨a', c', rfl⟩ := hsl
      by_cases hkn : k < n
      · have hk4 : ¬ k < 8 := by omega
        clear hlt
        go_wp2
        go_ret
        exact ⟨_, rfl, by rw [HE.out]; exact RdR_of_owns (by rw [routesTo_len]; exact HW.out) (by rw [routesTo_len]; omega), hb⟩
      · clear hlt
        go_wp2
        go_ret
        exact ⟨_, rfl, by rw [HE.out]; exact RdR_of_owns (by rw [routesTo_len]; exact HW.out) (by rw [routesTo_len]; omega), hb⟩

end Go.Proofs.Ytkhhmoijjidbbaa
