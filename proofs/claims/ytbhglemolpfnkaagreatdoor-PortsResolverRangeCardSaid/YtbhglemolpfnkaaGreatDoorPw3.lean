/- Contracts of package ports, third part: New, Release, Connect. -/
import Derived.Test.YtbhglemolpfnkaaGreatDoorPw2
set_option linter.unusedVariables false
set_option maxRecDepth 100000
set_option maxHeartbeats 32000000
namespace Go.Proofs.YtbhglemolpfnkaaGreatDoor
open Go.RowKit Go.Sort

def NewPost (w : World) (seed : Int) (e : Ending) (w' : World) : Prop :=
 ∃ p, e = .returned (.pointer (some ⟨p, 0, none⟩)) ∧ PAt w' p ⟨seed, 0, [], []⟩ (fun b => b = p) ∧ w.heap.size ≤ p ∧ Below w.heap.size w w'
theorem new_any (seed : Int) (w : World) : Calls Tryz.prog 6 #[.int .i64 seed] w (NewPost w seed) := by
 have r1 : ∀ (w : World) (x : Int), (Instr.build 90 #[(0, .int .i64 x)]).run Tryz.prog w = .ok (.agg #[.int .i64 x, .int .i64 0, .map none, .map none, .map none, .map none, .map none]) w := fun w x => by kernel_rfl
 go_enter Tryz.func6, Tryz.ntmps6
 go_wp2
 go_ret
 refine ⟨w.heap.size, rfl, ⟨_, _, _, _, _, fun _ => False, fun _ => False, fun _ => False, by show (w.heap.push _)[w.heap.size]? = _; simp, tab_nil _ _ _ _ _, tab_nil _ _ _ _ _, ⟨fun _ h => h.elim, .inl ⟨rfl, fun p => rfl⟩⟩, fun b => ?_, fun _ h => h.elim, fun _ h => h.elim, fun _ h => h.elim⟩, Nat.le_refl _, (Below.refl _ _).alloc (Nat.le_refl _) _⟩
 constructor
 ·
  intro h; exact .inl h
 ·
  rintro (h | h | h | h)
  ·
   exact h
  all_goals exact h.elim

def relS (st : PSt) (s : Int) : PSt := { st with B := rel s st.B, J := rel s st.J }
theorem release_nil (s : Int) (w : World) : Calls Tryz.prog 29 #[.pointer none, .int .i64 s] w fun e w' => e = .returned (.tuple #[]) ∧ Below w.heap.size w w' := by
 go_enter Tryz.func29, Tryz.ntmps29
 go_wp2
 exact bodyPost_ret (v := .tuple #[]) (by simp [results, Tryz.results29, go_sem]) rfl ⟨rfl, (Below.refl _ _).alloc (Nat.le_refl _) _⟩
theorem release_any (s : Int) (p : Nat) (st : PSt) (F : Nat → Prop) (w : World) (h : PAt w p st F) (hl1 : st.B.length ≤ 1000000) (hl2 : st.J.length ≤ 1000000) :
  Calls Tryz.prog 29 #[.pointer (some ⟨p, 0, none⟩), .int .i64 s] w (PPost w p (relS st s) F (.tuple #[])) := by
 have hb := below_one w (.cells #[.pointer (some ⟨p, 0, none⟩)] 23)
 have HX := Hi (show (w.alloc (.cells #[.pointer (some ⟨p, 0, none⟩)] 23)).heap[w.heap.size]? = some (.cells #[.pointer (some ⟨p, 0, none⟩)] 23) by show (w.heap.push _)[w.heap.size]? = _; simp)
 have h' := h.stay hb
 obtain ⟨o2, o3, o4, o5, o6, FB, FC, FL, hp, hTB, hTC, hTL, hF, g1, g2, g3⟩ := h'.is
 have G1 := Hi g1
 have G2 := Hi g2
 have G3 := Hi g3
 have HF := Hi hF
 have HP := Hi hp
 have HTB := Hi hTB
 have HTC := Hi hTC
 have HTL := Hi hTL
 have HB := Hi hb
 have HBD := Hi h.bound
 have HL2 := Hi hl2
 have HA := Hi (relB_any s p _ _ _ _ _ _ _ st.B FB _ hp hTB (fun h => (g1 p h).1 rfl) hl1)
 clear hb h h' hp hTB hTC hTL hF g1 g2 g3 hl1 hl2
 go_enter Tryz.func29, Tryz.ntmps29
 generalize hW : w.alloc (.cells #[.pointer (some ⟨p, 0, none⟩)] 23) = W at HX HP HTB HTC HTL HB HA
 obtain ⟨bx, hbx⟩ : ∃ bx, w.heap.size = bx := ⟨_, rfl⟩
 have HBX := Hi hbx
 rw [hbx] at HX
 have x0 : W.cell? ⟨bx, 0, none⟩ = some (.pointer (some ⟨p, 0, none⟩)) := blk_cell HX.out 0
 go_wp2_with fail
 refine HA.out.mono ?_
 rintro e w6 ⟨rfl, ht6, hu6⟩
 have nF : ∀ b, F b → b ≠ bx := fun b hb e => by have := HBD.out b hb; rw [e] at this; have := HBX.out; omega
 have nB : ¬ FB bx := fun h => nF bx ((HF.out bx).2 (.inr (.inl h))) rfl
 have nC : ¬ FC bx := fun h => nF bx ((HF.out bx).2 (.inr (.inr (.inl h)))) rfl
 have nL : ¬ FL bx := fun h => nF bx ((HF.out bx).2 (.inr (.inr (.inr h)))) rfl
 replace HX := Hi (blk_upd hu6 nB HX.out)
 have hP6 := blk_upd hu6 (fun h => (G1.out p h).1 rfl) HP.out
 have hC6 := HTC.out.upd hu6 (fun b hb h => (G1.out b h).2.1 hb)
 have hL6 := HTL.out.upd hu6 (fun b hb h => (G1.out b h).2.2 hb)
 have HA2 := Hi (relC_any s p bx FL _ _ _ _ _ _ _ st.J FC _ hP6 hC6 (fun h => (G2.out p h).1 rfl) HL2.out HX.out hL6 (fun b hb => (G2.out b hb).2) (fun h => G3.out p h rfl) nL)
 have HT6 := Hi ht6
 have HU6 := Hi hu6
 have HP6 := Hi hP6
 clear ht6 hu6 nF nB nC nL hP6 hC6 hL6 x0 HA
 have x0 : w6.cell? ⟨bx, 0, none⟩ = some (.pointer (some ⟨p, 0, none⟩)) := blk_cell HX.out 0
 go_wp2_with fail
 refine HA2.out.mono ?_
 rintro e w7 ⟨rfl, ht7, hl7, hu7⟩
 have hT7 := HT6.out.upd hu7 (fun b hb h => h.elim (G1.out b hb).2.1 (G1.out b hb).2.2)
 have hP7 := blk_upd hu7 (fun h => h.elim (fun h => (G2.out p h).1 rfl) (fun h => G3.out p h rfl)) HP6.out
 have HFIN := Hi (show PPost w p (relS st s) F (.tuple #[]) (.returned (.tuple #[])) w7 from ⟨rfl, F, ⟨_, _, _, _, _, FB, FC, FL, hP7, hT7, ht7, hl7, HF.out, G1.out, G2.out, G3.out⟩, fun b hb => .inl hb,
  ((Upd.of_below HB.out).then HU6.out (fun x _ h => (HF.out x).2 (.inr (.inl h)))).then hu7 (fun x _ h => (HF.out x).2 (.inr (.inr h)))⟩)
 clear ht7 hl7 hu7 hT7 hP7 x0 HA2
 go_wp2
 go_end0
 exact HFIN.out

def mor (c : Int → Int) (x : Int) : Int → Int := fun y => if y = x then c y + 1 else c y
theorem LocR.add {lm : List (Int × Value)} {c : Int → Int} (h : LocR lm c) (x : Int) (h1 : 0 ≤ c x) : LocR (mset x (.int .i64 (c x + 1)) lm) (mor c x) := by
 refine ⟨mset_nodup h.1, fun p => ?_⟩
 rw [asc_mset, h.2 p]
 unfold mor
 by_cases hp : p = x
 ·
  subst hp; rw [if_pos rfl, if_pos rfl, if_neg (by omega)]
 ·
  simp [hp]
theorem cnt_app (J : List (Ck × Int)) (k : Ck) (s : Int) : cntP (J ++ [(k, s)]) = mor (cntP J) k.po := by
 funext y
 unfold mor cntP
 rw [List.filter_append, List.length_append]
 by_cases h : y = k.po
 ·
  rw [if_pos h, List.filter_cons_of_pos (by simp [h])]; simp
 ·
  rw [if_neg h, List.filter_cons_of_neg (by simpa using fun e => h e.symm)]; simp

def connE (st : PSt) (s po th tp : Int) : Int :=
 if vpo po && vpo tp && vad th then (if (look ⟨po, th, tp⟩ st.J).isSome then 231 else 0) else 230
def connS (st : PSt) (s po th tp : Int) : PSt := if connE st s po th tp = 0 then addJ st ⟨po, th, tp⟩ s else st

theorem connect_nil (s po th tp : Int) (w : World) : Calls Tryz.prog 27 #[.pointer none, .int .i64 s, .int .i64 po, .int .i64 th, .int .i64 tp] w fun e w' => e = .returned (.int .i64 1) ∧ Below w.heap.size w w' := by
 go_enter Tryz.func27, Tryz.ntmps27
 go_wp2
 go_ret
 exact ⟨rfl, Below.refl _ _⟩
theorem conn_no {s po th tp : Int} {p : Nat} {st : PSt} {F : Nat → Prop} {w : World} (h : PAt w p st F) (hv : (vpo po && vpo tp && vad th) = false) :
  Calls Tryz.prog 27 #[.pointer (some ⟨p, 0, none⟩), .int .i64 s, .int .i64 po, .int .i64 th, .int .i64 tp] w fun e w' => e = .returned (.int .i64 230) ∧ Below w.heap.size w w' := by
 cases h1 : vpo po with
 | false =>
  have H1 := Hi h1
  clear hv h1
  go_enter Tryz.func27, Tryz.ntmps27
  go_wp2_with fail
  refine (vpo_r H1.out _).mono ?_
  rintro e w1 ⟨rfl, rfl⟩
  go_wp2
  go_ret
  exact ⟨rfl, Below.refl _ _⟩
 | true =>
  cases h2 : vpo tp with
  | false =>
   have H1 := Hi h1
   have H2 := Hi h2
   clear hv h1 h2
   go_enter Tryz.func27, Tryz.ntmps27
   go_wp2_with fail
   refine (vpo_r H1.out _).mono ?_
   rintro e w1 ⟨rfl, rfl⟩
   go_wp2_with fail
   refine (vpo_r H2.out _).mono ?_
   rintro e w1 ⟨rfl, rfl⟩
   go_wp2
   go_ret
   exact ⟨rfl, Below.refl _ _⟩
  | true =>
   have h3 : vad th = false := by simpa [h1, h2] using hv
   have H1 := Hi h1
   have H2 := Hi h2
   have H3 := Hi h3
   clear hv h1 h2 h3
   go_enter Tryz.func27, Tryz.ntmps27
   go_wp2_with fail
   refine (vpo_r H1.out _).mono ?_
   rintro e w1 ⟨rfl, rfl⟩
   go_wp2_with fail
   refine (vpo_r H2.out _).mono ?_
   rintro e w1 ⟨rfl, rfl⟩
   go_wp2_with fail
   refine (vad_r H3.out _).mono ?_
   rintro e w1 ⟨rfl, rfl⟩
   go_wp2
   go_ret
   exact ⟨rfl, Below.refl _ _⟩

theorem conn_yes {s po th tp : Int} {p : Nat} {st : PSt} {F : Nat → Prop} {w : World} (h : PAt w p st F) (hlen : st.J.length ≤ 1000000) (h1 : vpo po = true) (h2 : vpo tp = true) (h3 : vad th = true) :
  Calls Tryz.prog 27 #[.pointer (some ⟨p, 0, none⟩), .int .i64 s, .int .i64 po, .int .i64 th, .int .i64 tp] w (fun e w' =>
   ((look ⟨po, th, tp⟩ st.J).isSome = true → PPost w p st F (.int .i64 231) e w') ∧ ((look ⟨po, th, tp⟩ st.J).isSome = false → PPost w p (addJ st ⟨po, th, tp⟩ s) F (.int .i64 0) e w')) := by
 have H1 := Hi h1
 have H2 := Hi h2
 have H3 := Hi h3
 have hb := below_one w (.cells #[.int .i64 po, .int .i64 th, .int .i64 tp] 112)
 have HX := Hi (show (w.alloc (.cells #[.int .i64 po, .int .i64 th, .int .i64 tp] 112)).heap[w.heap.size]? = some (.cells #[.int .i64 po, .int .i64 th, .int .i64 tp] 112) by show (w.heap.push _)[w.heap.size]? = _; simp)
 have HPP := Hi (h.stay hb)
 have HP0 := Hi h
 have HB := Hi hb
 have HLE := Hi hlen
 clear h1 h2 h3 hb h
 cases hlk : (look ⟨po, th, tp⟩ st.J).isSome with
 | true =>
  have HLK := Hi hlk
  clear hlk
  go_enter Tryz.func27, Tryz.ntmps27
  go_wp2_with fail
  refine (vpo_r H1.out _).mono ?_
  rintro e w1 ⟨rfl, rfl⟩
  go_wp2_with fail
  refine (vpo_r H2.out _).mono ?_
  rintro e w1 ⟨rfl, rfl⟩
  go_wp2_with fail
  refine (vad_r H3.out _).mono ?_
  rintro e w1 ⟨rfl, rfl⟩
  go_wp2
  generalize hW : w.alloc (.cells #[.int .i64 po, .int .i64 th, .int .i64 tp] 112) = W at *
  obtain ⟨bx, hbx⟩ : ∃ bx, w.heap.size = bx := ⟨_, rfl⟩
  rw [hbx] at HX ⊢
  obtain ⟨o2, o3, o4, o5, o6, FB, FC, FL, hp, hTB, hTC, hTL, hF, g1, g2, g3⟩ := HPP.out.is
  have c4 := cell_regrown (show W.cell? ⟨p, 4, none⟩ = some o4 from blk_cell hp 4)
  have x0 := cell_regrown (show W.cell? ⟨bx, 0, none⟩ = some (.int .i64 po) from blk_cell HX.out 0)
  have x1 := cell_regrown (show W.cell? ⟨bx, 1, none⟩ = some (.int .i64 th) from blk_cell HX.out 1)
  have x2 := cell_regrown (show W.cell? ⟨bx, 2, none⟩ = some (.int .i64 tp) from blk_cell HX.out 2)
  have hl := fun q : Regrown => TabC.look (hTC.stay (below_regrown W q.d q.os)) ⟨po, th, tp⟩
  rw [HLK.out] at hl
  generalize (look ⟨po, th, tp⟩ st.J).getD 0 = lv at hl
  clear hp hTB hTC hTL hF g1 g2 g3
  refine wp_region_R 12 (by kernel_rfl) (by kernel_rfl) ?_
  simp only [List.take, List.drop]
  iterate 12 (first | (refine wpR_want (by kernel_rfl) rfl rfl ?_; intro K hK; go_big_quiet_op; go_big_quiet_on) | (refine wpR_is (by kernel_rfl) rfl _ (fun w _ => rfl) ?_; simp only [Act.put, l_T, l_S, l_Z]))
  refine wpR_nil (by kernel_rfl) (by simp) ?_
  rintro w5 hb5
  simp only [exAll, List.drop]
  clear c4 x0 x1 x2 hl
  replace HB := Hi (below_mid HB.out hb5)
  clear hb5
  go_wp2
  go_ret
  exact ⟨fun _ => PPost.still HP0.out HB.out, fun e => by cases e⟩
 | false =>
  have HLK := Hi hlk
  clear hlk
  go_enter Tryz.func27, Tryz.ntmps27
  go_wp2_with fail
  refine (vpo_r H1.out _).mono ?_
  rintro e w1 ⟨rfl, rfl⟩
  go_wp2_with fail
  refine (vpo_r H2.out _).mono ?_
  rintro e w1 ⟨rfl, rfl⟩
  go_wp2_with fail
  refine (vad_r H3.out _).mono ?_
  rintro e w1 ⟨rfl, rfl⟩
  go_wp2
  generalize hW : w.alloc (.cells #[.int .i64 po, .int .i64 th, .int .i64 tp] 112) = W at *
  obtain ⟨bx, hbx⟩ : ∃ bx, w.heap.size = bx := ⟨_, rfl⟩
  rw [hbx] at HX ⊢
  obtain ⟨o2, o3, o4, o5, o6, FB, FC, FL, hp, hTB, hTC, hTL, hF, g1, g2, g3⟩ := HPP.out.is
  have c4 := cell_regrown (show W.cell? ⟨p, 4, none⟩ = some o4 from blk_cell hp 4)
  have x0 := cell_regrown (show W.cell? ⟨bx, 0, none⟩ = some (.int .i64 po) from blk_cell HX.out 0)
  have x1 := cell_regrown (show W.cell? ⟨bx, 1, none⟩ = some (.int .i64 th) from blk_cell HX.out 1)
  have x2 := cell_regrown (show W.cell? ⟨bx, 2, none⟩ = some (.int .i64 tp) from blk_cell HX.out 2)
  have hl := fun q : Regrown => TabC.look (hTC.stay (below_regrown W q.d q.os)) ⟨po, th, tp⟩
  rw [HLK.out] at hl
  generalize (look ⟨po, th, tp⟩ st.J).getD 0 = lv at hl
  clear hp hTB hTC hTL hF g1 g2 g3
  refine wp_region_R 12 (by kernel_rfl) (by kernel_rfl) ?_
  simp only [List.take, List.drop]
  iterate 12 (first | (refine wpR_want (by kernel_rfl) rfl rfl ?_; intro K hK; go_big_quiet_op; go_big_quiet_on) | (refine wpR_is (by kernel_rfl) rfl _ (fun w _ => rfl) ?_; simp only [Act.put, l_T, l_S, l_Z]))
  refine wpR_nil (by kernel_rfl) (by simp) ?_
  rintro w5 hb5
  simp only [exAll, List.drop]
  clear c4 x0 x1 x2 hl
  replace HB := Hi (below_mid HB.out hb5)
  replace HPP := Hi (HPP.out.stay hb5)
  replace HX := Hi (blk_stay hb5 HX.out)
  clear hb5
  go_wp2
  have x0 := cell_regrown (show w5.cell? ⟨bx, 0, none⟩ = some (.int .i64 po) from blk_cell HX.out 0)
  have x1 := cell_regrown (show w5.cell? ⟨bx, 1, none⟩ = some (.int .i64 th) from blk_cell HX.out 1)
  have x2 := cell_regrown (show w5.cell? ⟨bx, 2, none⟩ = some (.int .i64 tp) from blk_cell HX.out 2)
  refine wp_region_R 5 (by kernel_rfl) (by kernel_rfl) ?_
  simp only [List.take, List.drop]
  iterate 5 (first | (refine wpR_want (by kernel_rfl) rfl rfl ?_; intro K hK; go_big_quiet_op; go_big_quiet_on) | (refine wpR_is (by kernel_rfl) rfl _ (fun w _ => rfl) ?_; simp only [Act.put, l_T, l_S, l_Z]))
  refine wpR_nil (by kernel_rfl) (by simp) ?_
  rintro w6 hb6
  simp only [exAll, List.drop]
  clear x0 x1 x2
  replace HB := Hi (below_mid HB.out hb6)
  replace HPP := Hi (HPP.out.stay hb6)
  clear hb6 HX
  obtain ⟨o2, o3, o4, o5, o6, FB, FC, FL, hp, hTB, hTC, hTL, hF, g1, g2, g3⟩ := HPP.out.is
  have G1 := Hi g1
  have G2 := Hi g2
  have G3 := Hi g3
  have HF := Hi hF
  have HTB := Hi hTB
  have HTL := Hi hTL
  have HPL := Hi (blk_lt hp)
  have HA := Hi (addC_any ⟨po, th, tp⟩ s p _ _ _ _ _ _ _ st.J FC w6 hp hTC (fun h => (g2 p h).1 rfl) (look_none.1 (by simpa using HLK.out)) HLE.out)
  have HBC := Hi hTC.bound
  clear hp hTB hTC hTL hF g1 g2 g3
  go_wp2_with fail
  refine HA.out.mono ?_
  rintro e w7 ⟨rfl, o, h', F', hp7, ht7, hF7, hu7⟩
  have hB7 := HTB.out.upd hu7 (fun b hb h => h.elim (fun h => (G1.out b hb).2.1 h) (fun h => (G1.out b hb).1 h))
  have hL7 := HTL.out.upd hu7 (fun b hb h => h.elim (fun h => (G2.out b h).2 hb) (fun h => G3.out b hb h))
  have hnew : ∀ b, F' b → b ≠ p ∧ ¬ FL b ∧ ¬ FB b := fun b hb => by
   rcases hF7 b hb with h | h
   ·
    exact ⟨(G2.out b h).1, (G2.out b h).2, fun e => (G1.out b e).2.1 h⟩
   ·
    refine ⟨fun e => ?_, fun e => ?_, fun e => ?_⟩
    ·
     have := HPL.out; omega
    ·
     have := HTL.out.bound b e; omega
    ·
     have := HTB.out.bound b e; omega
  have HP7 := Hi hp7
  have HT7 := Hi ht7
  have HB7 := Hi hB7
  have HF7 := Hi hF7
  have HNW := Hi hnew
  have HU7 := Hi (show Upd F w w7 from (Upd.of_below HB.out).then hu7 (fun x _ h => (HF.out x).2 (by rcases h with h | h; exact .inr (.inr (.inl h)); exact .inl h)))
  have HSZ := Hi (show w.heap.size ≤ w6.heap.size from HB.out.size)
  have HS7 := Hi hu7.size
  have hcp : 0 ≤ cntP st.J po := cntP_nonneg _ _
  have hcl : cntP st.J po ≤ 1000000 := by have := cntP_le st.J po; have := HLE.out; omega
  clear hp7 ht7 hF7 hu7 hB7 hnew HA
  rcases hL7.is with ⟨rfl, hz⟩ | ⟨lo, lm, rfl, hlo, hm, hnd, hc⟩
  ·
   have HZ := Hi hz
   have HLB := Hi hL7.bound
   clear hL7 hz
   have c6 : w7.cell? ⟨p, 6, none⟩ = some (.map none) := blk_cell HP7.out 6
   have e0 : (binOp .eql 88 (.map none) (.map none)).run Tryz.prog w7 = .ok (.bool true) w7 := by kernel_rfl
   have hmk := @run_makeMap Tryz.prog
   obtain ⟨W2, hW2⟩ : ∃ y, w7.alloc (.map #[] 0) = y := ⟨_, rfl⟩
   have HB2 := Hi (show Below w7.heap.size w7 W2 by rw [← hW2]; exact below_one _ _)
   have HP2 := Hi (blk_stay HB2.out HP7.out)
   have HM2 := Hi (show MapB encI W2 w7.heap.size [] by rw [← hW2]; exact mapB_new encI w7)
   have q0 : W2.cell? ⟨p, 6, none⟩ = some (.map none) := blk_cell HP2.out 6
   have z0 : W2.frozen? ⟨p, 6, none⟩ = false := blk_frz HP2.out 6
   have hpl : p < w7.heap.size := blk_lt HP7.out
   have hu3 : Upd (fun b => b = p) W2 (W2.setCell ⟨p, 6, none⟩ (.map (some w7.heap.size))) := Upd.setCell (p := ⟨p, 6, none⟩) (Upd.refl (fun b => b = p) W2) (fun _ => rfl) _
   have HP3 := Hi (show (W2.setCell ⟨p, 6, none⟩ (.map (some w7.heap.size))).heap[p]? = some (.cells #[.int .i64 st.seed, .int .i64 st.given, o2, o3, o, h', .map (some w7.heap.size)] 90) from blk_set HP2.out 6 _)
   have c7 : (W2.setCell ⟨p, 6, none⟩ (.map (some w7.heap.size))).cell? ⟨p, 6, none⟩ = some (.map (some w7.heap.size)) := blk_cell HP3.out 6
   have hM3 := HM2.out.upd hu3 (show ¬ w7.heap.size = p by omega)
   have hl := keyN.lookup Tryz.underlying88 (zeroN _) hM3 po false
   have hl' : (Instr.lookup 88 (.map (some w7.heap.size)) (.int .i64 po) false).run Tryz.prog (W2.setCell ⟨p, 6, none⟩ (.map (some w7.heap.size))) = .ok (.int .i64 0) (W2.setCell ⟨p, 6, none⟩ (.map (some w7.heap.size))) := hl
   obtain ⟨w8, hrun, hM8, hu8⟩ := keyN.update Tryz.underlying88 hM3 po (.int .i64 1)
   have hrun' : (Instr.mapUpdate 88 (.map (some w7.heap.size)) (.int .i64 po) (.int .i64 1)).run Tryz.prog (W2.setCell ⟨p, 6, none⟩ (.map (some w7.heap.size))) = .ok () w8 := hrun
   have HFIN := Hi (show PPost w p (addJ st ⟨po, th, tp⟩ s) F (.int .i64 0) (.returned (.int .i64 0)) w8 from by
    have u1 : Upd (fun b => b = p ∨ w7.heap.size ≤ b) w7 w8 := ((Upd.of_below HB2.out).then hu3 (fun _ _ h => .inl h)).then hu8 (fun x hx h => .inr (by omega))
    have hlow : ∀ b, b ≠ p → b < w7.heap.size → ¬ (b = p ∨ w7.heap.size ≤ b) := fun b h1 h2 h => by omega
    refine ⟨rfl, fun b => b = p ∨ FB b ∨ F' b ∨ b = w7.heap.size, ⟨o2, o3, o, h', .map (some w7.heap.size), FB, F', fun b => b = w7.heap.size, blk_upd hu8 (by omega) HP3.out, HB7.out.upd u1 (fun b hb => hlow b (G1.out b hb).1 (HB7.out.bound b hb)), HT7.out.upd u1 (fun b hb => hlow b (HNW.out b hb).1 (HT7.out.bound b hb)), ⟨fun b hb => by rw [hb]; exact hM8.lt, .inr ⟨_, _, rfl, rfl, hM8, ?_⟩⟩, fun b => Iff.rfl, fun b hb => ⟨(G1.out b hb).1, fun e => (HNW.out b e).2.2 hb, fun e => by have := HB7.out.bound b hb; omega⟩, fun b hb => ⟨(HNW.out b hb).1, fun e => by have := HT7.out.bound b hb; omega⟩, fun b hb e => by omega⟩, fun b hb => ?_, ?_⟩
    ·
     have := LocR.add (lm := []) (c := cntP st.J) ⟨by simp, fun p => by rw [if_pos (HZ.out p)]; rfl⟩ po hcp
     rw [HZ.out po] at this
     show LocR _ _
     rw [show (addJ st ⟨po, th, tp⟩ s).J = st.J ++ [(⟨po, th, tp⟩, s)] from rfl, cnt_app]
     exact this
    ·
     rcases hb with h | h | h | h
     ·
      exact .inl ((HF.out b).2 (.inl h))
     ·
      exact .inl ((HF.out b).2 (.inr (.inl h)))
     ·
      rcases HF7.out b h with h | h
      ·
       exact .inl ((HF.out b).2 (.inr (.inr (.inl h))))
      ·
       exact .inr (Nat.le_trans HSZ.out h)
     ·
      exact .inr (by rw [h]; exact Nat.le_trans HSZ.out HS7.out)
    ·
     exact HU7.out.then u1 (fun x hx h => by
      rcases h with h | h
      ·
       exact (HF.out x).2 (.inl h)
      ·
       have := HSZ.out; have := HS7.out; omega))
   clear hM3 hl hrun hM8 hu8 hu3 hpl
   go_wp2
   go_ret
   exact ⟨fun e => (by cases e), fun _ => HFIN.out⟩
  ·
   have HLO := Hi hlo
   have HLB := Hi hL7.bound
   have HM := Hi hm
   have HC := Hi (show LocR lm (cntP st.J) from ⟨hnd, hc⟩)
   have HL := Hi (hL7.look po)
   clear hL7 hlo hm hnd hc
   have c6 : w7.cell? ⟨p, 6, none⟩ = some (.map (some lo)) := blk_cell HP7.out 6
   have e0 : (binOp .eql 88 (.map (some lo)) (.map none)).run Tryz.prog w7 = .ok (.bool false) w7 := by kernel_rfl
   have hl' := HL.out
   obtain ⟨w8, hrun, hM8, hu8⟩ := keyN.update Tryz.underlying88 HM.out po (.int .i64 (cntP st.J po + 1))
   have HFIN := Hi (show PPost w p (addJ st ⟨po, th, tp⟩ s) F (.int .i64 0) (.returned (.int .i64 0)) w8 from by
    refine ⟨rfl, fun b => b = p ∨ FB b ∨ F' b ∨ FL b, ⟨o2, o3, o, h', .map (some lo), FB, F', FL, blk_upd hu8 (fun e => G3.out lo HLO.out e.symm) HP7.out, HB7.out.upd hu8 (fun b hb e => (G1.out b hb).2.2 (e ▸ HLO.out)), HT7.out.upd hu8 (fun b hb e => (HNW.out b hb).2.1 (e ▸ HLO.out)), ⟨fun b hb => Nat.lt_of_lt_of_le (HLB.out b hb) hu8.size, .inr ⟨_, _, rfl, HLO.out, hM8, ?_⟩⟩, fun b => Iff.rfl, fun b hb => ⟨(G1.out b hb).1, fun e => (HNW.out b e).2.2 hb, (G1.out b hb).2.2⟩, fun b hb => ⟨(HNW.out b hb).1, (HNW.out b hb).2.1⟩, G3.out⟩, fun b hb => ?_, ?_⟩
    ·
     show LocR _ _
     rw [show (addJ st ⟨po, th, tp⟩ s).J = st.J ++ [(⟨po, th, tp⟩, s)] from rfl, cnt_app]
     exact HC.out.add po hcp
    ·
     rcases hb with h | h | h | h
     ·
      exact .inl ((HF.out b).2 (.inl h))
     ·
      exact .inl ((HF.out b).2 (.inr (.inl h)))
     ·
      rcases HF7.out b h with h | h
      ·
       exact .inl ((HF.out b).2 (.inr (.inr (.inl h))))
      ·
       exact .inr (Nat.le_trans HSZ.out h)
     ·
      exact .inl ((HF.out b).2 (.inr (.inr (.inr h))))
    ·
     exact HU7.out.then hu8 (fun x hx h => (HF.out x).2 (.inr (.inr (.inr (h ▸ HLO.out))))))
   clear hM8 hu8
   generalize cntP st.J po = cn at *
   go_wp2
   go_ret
   exact ⟨fun e => (by cases e), fun _ => HFIN.out⟩

theorem connect_any (s po th tp : Int) (p : Nat) (st : PSt) (F : Nat → Prop) (w : World) (h : PAt w p st F) (hlen : st.J.length ≤ 1000000) :
  Calls Tryz.prog 27 #[.pointer (some ⟨p, 0, none⟩), .int .i64 s, .int .i64 po, .int .i64 th, .int .i64 tp] w (PPost w p (connS st s po th tp) F (.int .i64 (connE st s po th tp))) := by
 cases hv : (vpo po && vpo tp && vad th) with
 | false =>
  have e : connE st s po th tp = 230 := by simp [connE, hv]
  unfold connS
  rw [e, if_neg (by decide)]
  exact (conn_no h hv).mono fun e w' ⟨he, hb⟩ => he ▸ PPost.still h hb
 | true =>
  have hv' := hv
  simp only [Bool.and_eq_true] at hv'
  obtain ⟨⟨h1, h2⟩, h3⟩ := hv'
  refine (conn_yes h hlen h1 h2 h3).mono fun e w' ⟨ha, hb⟩ => ?_
  cases hl : (look ⟨po, th, tp⟩ st.J).isSome with
  | true =>
   have e' : connE st s po th tp = 231 := by simp [connE, hv, hl]
   unfold connS
   rw [e', if_neg (by decide)]
   exact ha hl
  | false =>
   have e' : connE st s po th tp = 0 := by simp [connE, hv, hl]
   unfold connS
   rw [e', if_pos rfl]
   exact hb hl

end Go.Proofs.YtbhglemolpfnkaaGreatDoor
