/- Contracts of the two functions that release hands to the tables. -/
import Derived.Test.YtbhglemolpfnkaaGreatDoorPadd
set_option linter.unusedVariables false
set_option maxRecDepth 100000
set_option maxHeartbeats 32000000
namespace Go.Proofs.YtbhglemolpfnkaaGreatDoor
open Go.RowKit Go.Sort

theorem gone1_any (k : Bk) (w : World) : Calls Tryz.prog 75 #[encB k] w fun e w' => e = .returned (.tuple #[]) ∧ Below w.heap.size w w' := by
 go_enter Tryz.func75, Tryz.ntmps75
 go_wp2
 go_end0
 exact ⟨rfl, (Below.refl _ _).alloc (Nat.le_refl _) _⟩

def less (c : Int → Int) (x : Int) : Int → Int := fun y => if y = x then c y - 1 else c y
def LocR (lm : List (Int × Value)) (c : Int → Int) : Prop := (lm.map (·.1)).Nodup ∧ ∀ p, asc p lm = if c p = 0 then none else some (.int .i64 (c p))
theorem LocR.one {lm : List (Int × Value)} {c : Int → Int} (h : LocR lm c) (x : Int) (h1 : c x = 1) : LocR (mdel x (mset x (.int .i64 0) lm)) (less c x) := by
 refine ⟨mdel_nodup (mset_nodup h.1), fun p => ?_⟩
 rw [asc_mdel (mset_nodup h.1), asc_mset, h.2 p]
 unfold less
 by_cases hp : p = x
 ·
  subst hp; simp [h1]
 ·
  simp [hp]
theorem LocR.more {lm : List (Int × Value)} {c : Int → Int} (h : LocR lm c) (x : Int) (h1 : 1 < c x) : LocR (mset x (.int .i64 (c x - 1)) lm) (less c x) := by
 refine ⟨mset_nodup h.1, fun p => ?_⟩
 rw [asc_mset, h.2 p]
 unfold less
 by_cases hp : p = x
 ·
  subst hp; rw [if_pos rfl, if_pos rfl, if_neg (by omega)]
 ·
  simp [hp]

def Gone2Post (w : World) (lo : Nat) (c : Int → Int) (x : Int) (e : Ending) (w' : World) : Prop :=
 e = .returned (.tuple #[]) ∧ (∃ lm, MapB encI w' lo lm ∧ LocR lm (less c x)) ∧ Upd (fun b => b = lo) w w'

theorem gone2_any (k : Ck) (p b2 lo : Nat) (s0 s1 s2 s3 s4 s5 : Value) (lm : List (Int × Value)) (c : Int → Int) (w : World) (hp : w.heap[p]? = some (.cells #[s0, s1, s2, s3, s4, s5, .map (some lo)] 90))
  (hb2 : w.heap[b2]? = some (.cells #[.pointer (some ⟨p, 0, none⟩)] 23)) (hm : MapB encI w lo lm) (hl : LocR lm c) (h1 : 1 ≤ c k.po) (h2 : c k.po ≤ 1000000) :
  Calls Tryz.prog 77 #[encC k, .pointer (some ⟨b2, 0, none⟩)] w (Gone2Post w lo c k.po) := by
 obtain ⟨k0, k1, k2⟩ := k
 simp only at h1 h2
 have hb := below_one w (.cells #[.int .i64 k0, .int .i64 k1, .int .i64 k2] 112)
 have HX := Hi (show (w.alloc (.cells #[.int .i64 k0, .int .i64 k1, .int .i64 k2] 112)).heap[w.heap.size]? = some (.cells #[.int .i64 k0, .int .i64 k1, .int .i64 k2] 112) by show (w.heap.push _)[w.heap.size]? = _; simp)
 have HP := Hi (blk_stay hb hp)
 have H2 := Hi (blk_stay hb hb2)
 have HM := Hi (hm.stay hb)
 have HU := Hi (Upd.of_below (F := fun b => b = lo) hb)
 have HL := Hi hl
 have hne : ∀ {b : Nat} {cs : Array Value} {t : TypeId}, w.heap[b]? = some (.cells cs t) → b ≠ lo := fun {b cs t} h e => by
  subst e
  obtain ⟨es, clk, h', _⟩ := hm
  rw [h] at h'; cases h'
 have NP := Hi (hne hp)
 have N2 := Hi (hne hb2)
 have NX := Hi (show w.heap.size ≠ lo from fun e => by have := hm.lt; omega)
 obtain ⟨n, hn⟩ : ∃ n, c k0 = n := ⟨_, rfl⟩
 rw [hn] at h1 h2
 have HN := Hi hn
 clear hb hp hb2 hm hl hne hn
 go_enter Tryz.func77, Tryz.ntmps77
 generalize hW : w.alloc (.cells #[.int .i64 k0, .int .i64 k1, .int .i64 k2] 112) = W at HX HP H2 HM HU
 obtain ⟨bx, hbx⟩ : ∃ bx, w.heap.size = bx := ⟨_, rfl⟩
 rw [hbx] at HX NX
 go_wp2
 have c0 := cell_regrown (show W.cell? ⟨b2, 0, none⟩ = some (.pointer (some ⟨p, 0, none⟩)) from blk_cell H2.out 0)
 have c1 := cell_regrown (show W.cell? ⟨p, 6, none⟩ = some (.map (some lo)) from blk_cell HP.out 6)
 have c2 := cell_regrown (show W.cell? ⟨bx, 0, none⟩ = some (.int .i64 k0) from blk_cell HX.out 0)
 have hl : ∀ q : Regrown, (Instr.lookup 88 (.map (some lo)) (.int .i64 k0) false).run Tryz.prog (grow (redrawn W q.d) q.os) = .ok (.int .i64 n) (grow (redrawn W q.d) q.os) := fun q => by
  have := keyN.lookup Tryz.underlying88 (zeroN _) (HM.out.stay (below_regrown W q.d q.os)) k0 false
  rw [HL.out.2 k0, HN.out, if_neg (by omega)] at this
  exact this
 refine wp_region_R 8 (by kernel_rfl) (by kernel_rfl) ?_
 simp only [List.take, List.drop]
 iterate 8 (first | (refine wpR_want (by kernel_rfl) rfl rfl ?_; intro K hK; go_big_quiet_op; go_big_quiet_on) | (refine wpR_is (by kernel_rfl) rfl _ (fun w _ => rfl) ?_; simp only [Act.put, l_T, l_S, l_Z]))
 refine wpR_nil (by kernel_rfl) (by simp) ?_
 rintro w5 hb5
 simp only [exAll, List.drop]
 clear c0 c1 c2 hl
 obtain ⟨w6, hrun, hM6, hu6⟩ := keyN.update Tryz.underlying88 (HM.out.stay hb5) k0 (.int .i64 (n - 1))
 replace HM := Hi hM6
 replace HP := Hi (blk_upd hu6 NP.out (blk_stay hb5 HP.out))
 replace H2 := Hi (blk_upd hu6 N2.out (blk_stay hb5 H2.out))
 replace HX := Hi (blk_upd hu6 NX.out (blk_stay hb5 HX.out))
 replace HU := Hi ((HU.out.thenB hb5).then hu6 (fun _ _ h => h))
 clear hM6 hu6 hb5
 go_wp2
 clear hrun
 have c0 := cell_regrown (show w6.cell? ⟨b2, 0, none⟩ = some (.pointer (some ⟨p, 0, none⟩)) from blk_cell H2.out 0)
 have c1 := cell_regrown (show w6.cell? ⟨p, 6, none⟩ = some (.map (some lo)) from blk_cell HP.out 6)
 have c2 := cell_regrown (show w6.cell? ⟨bx, 0, none⟩ = some (.int .i64 k0) from blk_cell HX.out 0)
 have hl : ∀ q : Regrown, (Instr.lookup 88 (.map (some lo)) (.int .i64 k0) false).run Tryz.prog (grow (redrawn w6 q.d) q.os) = .ok (.int .i64 (n - 1)) (grow (redrawn w6 q.d) q.os) := fun q => by
  have := keyN.lookup Tryz.underlying88 (zeroN _) (HM.out.stay (below_regrown w6 q.d q.os)) k0 false
  rw [asc_mset, if_pos rfl] at this
  exact this
 have HQ : ∀ w7, Below w6.heap.size w6 w7 → True := fun _ _ => trivial
 by_cases hn1 : n = 1
 ·
  have e1 : (n - 1 == 0) = true := by simp [hn1]
  refine wp_region_R 8 (by kernel_rfl) (by kernel_rfl) ?_
  simp only [List.take, List.drop]
  iterate 8 (first | (refine wpR_want (by kernel_rfl) rfl rfl ?_; intro K hK; go_big_quiet_op; go_big_quiet_on) | (refine wpR_is (by kernel_rfl) rfl _ (fun w _ => rfl) ?_; simp only [Act.put, l_T, l_S, l_Z]))
  refine wpR_nil (by kernel_rfl) (by simp) ?_
  rintro w7 hb7
  simp only [exAll, List.drop]
  clear c0 c1 c2 hl
  replace HM := Hi (HM.out.stay hb7)
  replace HP := Hi (blk_stay hb7 HP.out)
  replace H2 := Hi (blk_stay hb7 H2.out)
  replace HX := Hi (blk_stay hb7 HX.out)
  replace HU := Hi (HU.out.thenB hb7)
  clear hb7 HQ
  go_wp2
  have c0 := cell_regrown (show w7.cell? ⟨b2, 0, none⟩ = some (.pointer (some ⟨p, 0, none⟩)) from blk_cell H2.out 0)
  have c1 := cell_regrown (show w7.cell? ⟨p, 6, none⟩ = some (.map (some lo)) from blk_cell HP.out 6)
  have c2 := cell_regrown (show w7.cell? ⟨bx, 0, none⟩ = some (.int .i64 k0) from blk_cell HX.out 0)
  refine wp_region_R 6 (by kernel_rfl) (by kernel_rfl) ?_
  simp only [List.take, List.drop]
  iterate 6 (first | (refine wpR_want (by kernel_rfl) rfl rfl ?_; intro K hK; go_big_quiet_op; go_big_quiet_on) | (refine wpR_is (by kernel_rfl) rfl _ (fun w _ => rfl) ?_; simp only [Act.put, l_T, l_S, l_Z]))
  refine wpR_nil (by kernel_rfl) (by simp) ?_
  rintro w8 hb8
  simp only [exAll, List.drop]
  clear c0 c1 c2
  obtain ⟨w9, hrun, hM9, hu9⟩ := keyN.delete Tryz.underlying88 (HM.out.stay hb8) k0 0 3
  have HU9 := Hi ((HU.out.thenB hb8).then hu9 (fun _ _ h => h))
  have HM9 := Hi hM9
  clear hM9 hu9 hb8
  go_wp2
  go_end0
  refine ⟨rfl, ⟨_, HM9.out, ?_⟩, HU9.out⟩
  have := HL.out.one k0 (by rw [HN.out]; exact hn1)
  rw [hn1]
  exact this
 ·
  have e1 : (n - 1 == 0) = false := by rw [beq_eq_false_iff_ne]; omega
  refine wp_region_R 8 (by kernel_rfl) (by kernel_rfl) ?_
  simp only [List.take, List.drop]
  iterate 8 (first | (refine wpR_want (by kernel_rfl) rfl rfl ?_; intro K hK; go_big_quiet_op; go_big_quiet_on) | (refine wpR_is (by kernel_rfl) rfl _ (fun w _ => rfl) ?_; simp only [Act.put, l_T, l_S, l_Z]))
  refine wpR_nil (by kernel_rfl) (by simp) ?_
  rintro w7 hb7
  simp only [exAll, List.drop]
  clear c0 c1 c2 hl
  have HM9 := Hi (HM.out.stay hb7)
  have HU9 := Hi (HU.out.thenB hb7)
  clear hb7 HQ
  go_wp2
  go_end0
  refine ⟨rfl, ⟨_, HM9.out, ?_⟩, HU9.out⟩
  have := HL.out.more k0 (by rw [HN.out]; omega)
  rw [HN.out] at this
  exact this

end Go.Proofs.YtbhglemolpfnkaaGreatDoor
