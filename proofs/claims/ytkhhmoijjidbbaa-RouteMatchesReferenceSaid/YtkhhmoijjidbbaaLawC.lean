/- Contract of the law's Faces: the walk. -/
import Derived.Test.YtkhhmoijjidbbaaLawB
namespace Go.Proofs.Ytkhhmoijjidbbaa
open Go.RowKit Go.Sort
set_option linter.unusedVariables false

def mkTable : Pred := fun v w => ∃ b, v = .slice (some ⟨b, 0, none⟩) 5 5 ∧ w.heap[b]? = some (.cells #[.int .i64 8, .int .i64 16, .int .i64 24, .int .i64 24, .int .i64 28] 3)

theorem new_block (w : World) (o : Obj) : (w.alloc o).heap[w.heap.size]? = some o := by
  show (w.heap.push o)[w.heap.size]? = some o
  simp
def ptrTo (c : Value) : Pred := fun v w => ∃ b o, v = .pointer (some ⟨b, o, none⟩) ∧ w.cell? ⟨b, o, none⟩ = some c
theorem ptrTo_lasts (c : Value) : Lasts (ptrTo c) := by
  rintro v w w' ⟨b, o, rfl, hc⟩ hbl
  exact ⟨b, o, rfl, keep hbl hc⟩
def rowOf (n : Nat) (cs : Array Value) (t : TypeId) : Pred := fun v w => ∃ b, v = .slice (some ⟨b, 0, none⟩) n n ∧ w.heap[b]? = some (.cells cs t)
theorem rowOf_lasts (n : Nat) (cs : Array Value) (t : TypeId) : Lasts (rowOf n cs t) := by
  rintro v w w' ⟨b, rfl, hb⟩ hbl
  exact ⟨b, rfl, (hbl.block b (Array.getElem?_eq_some_iff.1 hb).1).trans hb⟩
theorem table_cell {w : World} {b : Nat} (h : w.heap[b]? = some (.cells #[.int .i64 8, .int .i64 16, .int .i64 24, .int .i64 24, .int .i64 28] 3)) (y : Int) (h0 : 0 ≤ y) (h1 : y < 5) : w.cell? ⟨b, y.toNat, none⟩ = some (.int .i64 (bitsF y)) := by
  obtain rfl | rfl | rfl | rfl | rfl : y = 0 ∨ y = 1 ∨ y = 2 ∨ y = 3 ∨ y = 4 := by omega
  all_goals simp [World.cell?, h, bitsF]

theorem mkTable_lasts : Lasts mkTable := by
  rintro v w w' ⟨b, rfl, hb⟩ hbl
  exact ⟨b, rfl, (hbl.block b (Array.getElem?_eq_some_iff.1 hb).1).trans hb⟩

theorem run_bs1 (x0 x1 x2 x3 x4 : Int) (w : World) : (Instr.buildSlice 31 1 #[(0, .agg #[.int .i64 x0, .int .i64 x1, .int .i64 x2, .int .i64 x3, .int .i64 x4])]).run Try.prog w = .ok (.slice (some ⟨w.heap.size, 0, none⟩) 1 1) (w.alloc (.cells #[.int .i64 x0, .int .i64 x1, .int .i64 x2, .int .i64 x3, .int .i64 x4] 27)) := by kernel_rfl
theorem infoI : (Try.prog.info? 27).map (fun i => (i.zero, i.size, i.bytes)) = some (some (.agg #[.int .i64 0, .int .i64 0, .int .i64 0, .int .i64 0, .int .i64 0]), 5, 40) := by kernel_rfl

set_option maxHeartbeats 2000000 in
theorem faces_any (n : Nat) (x : Nat → Fr) (v : Value) (w : World) (hF : RdF w v n x) :
    Calls Try.prog 9 #[v] w fun e w' => ∃ u, e = .returned u ∧ RdI w' u (facesF n x) ∧ Below w.heap.size w w' := by
  obtain ⟨a, cap, rfl, hcap, hlen, hok, hp⟩ := hF
  have HP := Lib.hid hp
  have HO := Lib.hid hok
  clear hp hok
  go_enter Try.func9, Try.ntmps9
  go_wp2
  go_loopw [3, 4] (fun out i wr => ∃ k : Nat, k ≤ min n 4 ∧ i = .int .i64 k ∧ wr.ownsRow w.heap.size 27 5 out k (ifcs (facesTo x k)) ∧ Below w.heap.size w wr) (fun _ i _ => 4 - (intOf i).toNat)
  case atStart => exact ⟨0, Nat.zero_le _, rfl, World.ownsRow_nil _ _ _ _, Below.refl _ _⟩
  case round =>
    obtain ⟨k, hk, rfl, hown, hb⟩ := hrel
    have HW := Lib.hid hown
    clear hown
    by_cases hlt : k < n ∧ k < 4
    · obtain ⟨hk1, hk2⟩ := hlt
      obtain ⟨b, o, rfl, hc⟩ := HP.out (by omega)
      obtain ⟨hx1, hx2, hx3⟩ := HO.out k hk1
      obtain ⟨c0, c1, c2⟩ := hc k hk1
      replace c0 := keep (hb.mono (Nat.le_refl _)) c0
      replace c1 := keep hb c1
      replace c2 := keep hb c2
      clear hc
      generalize hxk : x k = xk at *
      have HX := Lib.hid hxk
      clear hxk
      obtain ⟨ad, bt, mt⟩ := xk
      simp only at c0 c1 c2 hx1 hx2 hx3
      have H1 := Lib.hid hx1
      have H2 := Lib.hid hx2
      have H3 := Lib.hid hx3
      clear hx1 hx2 hx3
      have a1 : -9223372036854775808 ≤ ad := H1.out.1
      have a2 : ad ≤ 9223372036854775807 := H1.out.2
      have q1 := pk_bd (ad.tdiv 64) 4 (by omega)
      have q2 := pk_bd (ad.tdiv 16) 4 (by omega)
      have q3 := pk_bd ad 15 (by omega)
      have q4 := pk_bd ad 100 (by omega)
      have q5 := pk_bd bt 5 (by omega)
      have q6 := pk_bd mt 957 (by omega)
      have p1 := Lib.hid (fun w => pick_any (ad.tdiv 64) 4 w (tdiv_bd _ _ (by decide) H1.out) (by decide))
      have p2 := Lib.hid (fun w => pick_any (ad.tdiv 16) 4 w (tdiv_bd _ _ (by decide) H1.out) (by decide))
      have p3 := Lib.hid (fun w => pick_any ad 15 w H1.out (by decide))
      have p4 := Lib.hid (fun w => pick_any ad 100 w H1.out (by decide))
      have p5 := Lib.hid (fun w => pick_any bt 5 w H2.out (by decide))
      have p6 := Lib.hid (fun w => pick_any mt 957 w H3.out (by decide))
      have HF := Lib.hid (show faceA k ⟨ad, bt, mt⟩ = 167772160 + pk (ad.tdiv 64) 4 * 65536 + pk (ad.tdiv 16) 4 * 256 + 16 * k + 1 + pk ad 15 from rfl)
      have HK := Lib.hid (show mkFace k ⟨ad, bt, mt⟩ = ⟨1 + k + 10 * pk ad 100, faceA k ⟨ad, bt, mt⟩, nt (faceA k ⟨ad, bt, mt⟩) (bitsF (pk bt 5)), bitsF (pk bt 5), 68 + pk mt 957⟩ from rfl)
      have hfb := faceA_bd k hk2 ⟨ad, bt, mt⟩
      generalize pk (ad.tdiv 64) 4 = y1 at *
      generalize pk (ad.tdiv 16) 4 = y2 at *
      generalize pk ad 15 = y3 at *
      generalize pk ad 100 = y4 at *
      generalize pk bt 5 = y5 at *
      generalize pk mt 957 = y6 at *
      go_wp2
      have k0 := cell_regrown (w := wr.alloc (.cells #[.int .i64 ad, .int .i64 bt, .int .i64 mt] 55)) (a := ⟨wr.heap.size, 0, none⟩) (v := .int .i64 ad) (by simp)
      refine wp_region_B (by kernel_rfl) (by kernel_rfl) ?_
      repeat (go_big_quiet_step ((go_at_call 11; with_reducible first | exact Calls.regrown_of (p1.out _) | exact Calls.regrown_of (p2.out _) | exact Calls.regrown_of (p3.out _))))
      refine wpQuiet_nil ?_
      intro w3 hb3
      clear k0
      have f0 := keep hb3 (a := ⟨wr.heap.size, 0, none⟩) (v := .int .i64 ad) (by simp)
      have f1 := keep hb3 (a := ⟨wr.heap.size, 1, none⟩) (v := .int .i64 bt) (by simp)
      have f2 := keep hb3 (a := ⟨wr.heap.size, 2, none⟩) (v := .int .i64 mt) (by simp)
      have hB3 := below_mid (hb.alloc hb.size _) hb3
      have hw3 := ownsRow_stay (below_mid ((Below.refl _ _).alloc (Nat.le_refl _) _) hb3) HW.out
      have HW3 := Lib.hid hw3
      clear hw3 hb3
      rw [show (167772160 + y1 * 65536 + y2 * 256 + 16 * (k : Int) + 1 + y3) = faceA k ⟨ad, bt, mt⟩ from HF.out.symm]
      generalize faceA k ⟨ad, bt, mt⟩ = fa at *
      go_wp2
      have g0 := cell_regrown f0
      have g1 := cell_regrown f1
      have g2 := cell_regrown f2
      refine wp_region_R 23 (by kernel_rfl) (by kernel_rfl) ?_
      simp only [List.take, List.drop]
      iterate 5 (refine wpR_want (by kernel_rfl) rfl rfl ?_; intro K hK; go_big_quiet_op; go_big_quiet_on)
      refine wpR_call (by kernel_rfl) rfl 11 #[.int .i64 ad, .int .i64 100] (.int .i64 y4) (fun w => by simp [go_sem]) (fun w _ => p4.out w) ?_
      simp only [Act.put, List.setIfInBounds_toArray, List.set_cons_succ, List.set_cons_zero]
      iterate 4 (refine wpR_want (by kernel_rfl) rfl rfl ?_; intro K hK; go_big_quiet_op; go_big_quiet_on)
      clear p1 p2 p3 p4 HP HO HW H1 H2 H3 c0 c1 c2
      refine wpR_ex mkTable mkTable_lasts (by kernel_rfl) (fun a' w' hw' he => ?_) (fun d hd => ?_)
      · simp [go_sem]
        exact ⟨_, rfl, (Below.refl _ _).alloc (Nat.le_refl _) _, ⟨w'.heap.size, rfl, new_block _ _⟩⟩
      cases hd
      simp only [List.nil_append]
      iterate 2 (refine wpR_want (by kernel_rfl) rfl rfl ?_; intro K hK; go_big_quiet_op; go_big_quiet_on)
      refine wpR_call (by kernel_rfl) rfl 11 #[.int .i64 bt, .int .i64 5] (.int .i64 y5) (fun w => by simp [go_sem]) (fun w _ => p5.out w) ?_
      simp only [Act.put, List.setIfInBounds_toArray, List.set_cons_succ, List.set_cons_zero]
      refine wpR_ex (ptrTo (.int .i64 (bitsF y5))) (ptrTo_lasts _) (by kernel_rfl) (fun a' w' hw' he => ?_) (fun d hd => ?_)
      · obtain ⟨⟨tb, h51, htb⟩, h54, _⟩ := he
        have h54' : a'.eval (.tmp 54) = .int .i64 y5 := h54
        have hcell := table_cell htb y5 q5.1 q5.2
        have htl : y5.toNat < 5 := by omega
        have h51' : a'.tmps.getD 51 undef = .slice (some ⟨tb, 0, none⟩) 5 5 := h51
        have h54'' : a'.tmps.getD 54 undef = .int .i64 y5 := h54
        clear h51 h54 h54' g0 g1 g2
        simp only [go_sem, h51', h54'']
        obtain ⟨q51, q52⟩ := q5
        simp [go_sem, ↓IntWalk.iteOmega]
        exact ⟨_, rfl, Below.refl _ _, ⟨tb, _, rfl, hcell⟩⟩
      cases hd
      simp only [List.cons_append, List.nil_append]
      refine wpR_known (.int .i64 (bitsF y5)) (by kernel_rfl) (fun a' w' hw' he => ?_) ?_
      · obtain ⟨⟨tb, to, h55, hcell⟩, _⟩ := he
        have h55' : a'.tmps.getD 55 undef = .pointer (some ⟨tb, to, none⟩) := h55
        clear h55 g0 g1 g2
        simp only [go_sem, h55']
        simp [go_sem, hcell]
        exact Below.refl _ _
      simp only [Act.put, List.setIfInBounds_toArray, List.set_cons_succ, List.set_cons_zero]
      have hbb := bitsF_bd y5
      refine wpR_call (by kernel_rfl) rfl 23 #[.int .i64 fa, .int .i64 (bitsF y5)] (.agg #[.int .i64 (nt fa (bitsF y5)), .int .i64 (bitsF y5)]) (fun w => by simp [go_sem]) (fun w _ => lnet_any fa (bitsF y5) w (by omega) (by omega)) ?_
      simp only [Act.put, List.setIfInBounds_toArray, List.set_cons_succ, List.set_cons_zero]
      iterate 2 (refine wpR_want (by kernel_rfl) rfl rfl ?_; intro K hK; go_big_quiet_op; go_big_quiet_on)
      refine wpR_call (by kernel_rfl) rfl 11 #[.int .i64 mt, .int .i64 957] (.int .i64 y6) (fun w => by simp [go_sem]) (fun w _ => p6.out w) ?_
      simp only [Act.put, List.setIfInBounds_toArray, List.set_cons_succ, List.set_cons_zero]
      iterate 2 (refine wpR_want (by kernel_rfl) rfl rfl ?_; intro K hK; go_big_quiet_op; go_big_quiet_on)
      refine wpR_ex (rowOf 1 #[.int .i64 (1 + k + 10 * y4), .int .i64 fa, .int .i64 (nt fa (bitsF y5)), .int .i64 (bitsF y5), .int .i64 (68 + y6)] 27) (rowOf_lasts _ _ _) (by kernel_rfl) (fun a' w' hw' he => ?_) (fun d hd => ?_)
      · obtain ⟨h62, _⟩ := he
        have h62' : a'.eval (.tmp 62) = .agg #[.int .i64 (1 + k + 10 * y4), .int .i64 fa, .int .i64 (nt fa (bitsF y5)), .int .i64 (bitsF y5), .int .i64 (68 + y6)] := h62
        refine wp_of_value (v := .slice (some ⟨w'.heap.size, 0, none⟩) 1 1) (w' := w'.alloc (.cells #[.int .i64 (1 + k + 10 * y4), .int .i64 fa, .int .i64 (nt fa (bitsF y5)), .int .i64 (bitsF y5), .int .i64 (68 + y6)] 27)) (run_v_ok ?_) ⟨_, rfl, (Below.refl _ _).alloc (Nat.le_refl _) _, ⟨w'.heap.size, rfl, new_block _ _⟩⟩
        simp only [List.map_toArray, List.map_cons, List.map_nil, h62']
        exact run_bs1 _ _ _ _ _ _
      cases hd
      simp only [List.cons_append, List.nil_append]
      refine wpR_nil (by kernel_rfl) (by simp) ?_
      rintro w6 hb6
      simp only [exAll]
      rintro u51 - u55 - u63 ⟨nb, rfl, hnb⟩
      simp only [Act.put, List.setIfInBounds_toArray, List.set_cons_succ, List.set_cons_zero]
      obtain ⟨i0, hi, hz0, hz1, hz2⟩ := info_parts infoI
      have hB6 := below_mid hB3 hb6
      have hown := ownsRow_stay hb6 HW3.out
      refine wpList_append_own w6 rfl (.tmp 41) (.tmp 63) 31 rfl w.heap.size 27 i0 _ 5 40 Try.underlying31 hi hz0 hz1 hz2 rfl (by decide) u3 k _ rfl hown ⟨nb, 0, none⟩ 1 1 (ifc (mkFace k ⟨ad, bt, mt⟩)) rfl rfl ?c1 ?c2 ?c3 ?c4 ?c5 ?_
      case c1 =>
        rw [HK.out]
        intro j u hj
        have hj5 : j < 5 := by
          rcases Nat.lt_or_ge j 5 with h | h
          · exact h
          · rw [List.getElem?_eq_none (by simp [ifc]; omega)] at hj; cases hj
        obtain rfl | rfl | rfl | rfl | rfl : j = 0 ∨ j = 1 ∨ j = 2 ∨ j = 3 ∨ j = 4 := by omega
        all_goals (simp [ifc] at hj; subst hj; simp [World.cell?, hnb, Addr.add])
      case c2 => intro u hu; simp [ifc] at hu; rcases hu with h | h | h | h | h <;> (subst h; rfl)
      case c3 => unfold maxLen; omega
      case c4 => omega
      case c5 => exact hB6.size
      intro v' w7 hown7 hgrow7 _
      rw [show ifcs (facesTo x k) ++ ifc (mkFace k ⟨ad, bt, mt⟩) = ifcs (facesTo x (k + 1)) by rw [facesTo_succ, ifcs_snoc, HX.out]] at hown7
      have hB7 : Below w.heap.size w w7 := hB6.grown hgrow7 hB6.size (fun g e => by
        obtain ⟨_, h2⟩ := hown
        rcases h2 with ⟨rfl, _⟩ | ⟨g', c', cu', rfl, hg', _⟩
        · cases e
        · simp [Value.ownBlock] at e; omega)
      have HW7 := Lib.hid hown7
      clear hown hown7 hgrow7 hnb g0 g1 g2 f0 f1 f2 hi hz0 hz1 hz2
      go_wp2
      go_roundw
      case rel => exact ⟨k + 1, by omega, by go_num, HW7.out, hB7⟩
      case measure => simp [intOf]; omega
    · have hke : k = min n 4 := by omega
      have HKE := Lib.hid hke
      clear hke
      by_cases hn0 : n = 0
      · subst hn0
        obtain rfl : k = 0 := by have := HKE.out; omega
        have HE := Lib.hid (show facesF 0 x = [⟨1, 167772161, nt 167772160 24, 24, 500⟩] by simp [facesF])
        have hsl : ∃ a' c', u3 = .slice a' 0 c' := by
          rcases HW.out.2 with ⟨rfl, _⟩ | ⟨g, c, cu, rfl, _⟩
          · exact ⟨_, _, rfl⟩
          · exact ⟨_, _, rfl⟩
        obtain ⟨a', c', rfl⟩ := hsl
        have rb := fun w => run_bs1 1 167772161 (nt 167772160 24) 24 500 w
        go_wp2_with ((go_at_call 23; refine (lnet_any _ _ _ (by decide) (by decide)).mono ?_; rintro e w1 ⟨rfl, hb1⟩))
        all_goals go_ret
        all_goals refine ⟨_, rfl, ?_, (below_mid hb hb1).alloc (below_mid hb hb1).size _⟩
        all_goals
          rw [HE.out]
          refine ⟨some ⟨w1.heap.size, 0, none⟩, 1, rfl, by simp, by simp, fun _ => ⟨w1.heap.size, 0, rfl, fun i hi => ?_⟩⟩
          obtain rfl : i = 0 := by simpa using hi
          exact ⟨by simp [ifAt], by simp [ifAt], by simp [ifAt], by simp [ifAt], by simp [ifAt]⟩
      · have HE := Lib.hid (show facesF n x = facesTo x k by rw [HKE.out]; simp [facesF, hn0])
        have hk0 : 0 < k := by have := HKE.out; omega
        have hsl : ∃ a' c', u3 = .slice (some a') k c' := by
          rcases HW.out.2 with ⟨rfl, h⟩ | ⟨g, c, cu, rfl, _⟩
          · omega
          · exact ⟨_, _, rfl⟩
        obtain ⟨a', c', rfl⟩ := hsl
        by_cases hkn : k < n
        · have hk4 : ¬ k < 4 := by omega
          clear hlt
          go_wp2
          go_ret
          exact ⟨_, rfl, by rw [HE.out]; exact RdI_of_owns (by rw [facesTo_len]; exact HW.out) (by rw [facesTo_len]; omega), hb⟩
        · clear hlt
          go_wp2
          go_ret
          exact ⟨_, rfl, by rw [HE.out]; exact RdI_of_owns (by rw [facesTo_len]; exact HW.out) (by rw [facesTo_len]; omega), hb⟩

end Go.Proofs.Ytkhhmoijjidbbaa
