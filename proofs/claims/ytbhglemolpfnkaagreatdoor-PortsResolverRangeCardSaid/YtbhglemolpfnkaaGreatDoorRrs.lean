/- The resolver's Resolve, Results, Sizes. Printed by wip/tools/gen21j.py. -/
import Derived.Test.YtbhglemolpfnkaaGreatDoorBo
import Derived.Test.YtbhglemolpfnkaaGreatDoorBu
set_option linter.unusedVariables false
set_option maxRecDepth 100000
set_option maxHeartbeats 32000000
namespace Go.Proofs.YtbhglemolpfnkaaGreatDoor
open Go.RowKit Go.Sort
variable {nm : ByteArray}
attribute [local go_sem] Oper.semAt_some

abbrev partsZ (a : Nat) (x : RvX) (z : Rz) (avs : List Value) : List Res := [blkV a x.vs x.c x.vw x.vd z.sd z.tk z.qn, rowVs x.vs z.sv, resC x.c z.es, rowVw x.vw (z.wl.map (·.1)), rowVd x.vd z.dn.length (rnCs avs z.dn), resKs z.wl, sepR (rnRs avs z.dn)]
section
variable {w0 w : World} {D : Nat → Prop} {L : List Res} {a b i : Nat} {z : Rz} {k : Lk} {avs : List Value}
theorem openZV (h : Own w0 D w (resZ a z :: L)) : ∃ (avs : List Value) (x : RvX), avs.length = z.dn.length ∧ Own w0 D w (partsZ a x z avs ++ L) := by
 obtain ⟨avs, h1, h2⟩ := openZ h
 obtain ⟨x, h3⟩ := openV h2
 exact ⟨avs, x, h1, h3⟩
theorem shutZV {x : RvX} (hl : avs.length = z.dn.length) (h : Own w0 D w (partsZ a x z avs ++ L)) : Own w0 D w (resZ a z :: L) :=
 shutZ hl (shutV (x := x) (st := rvZ z avs) h)
end
theorem wp_callG {P : Program} {o : Oper} {a : Act} {w : World} {f : FuncId} {args : Array Value} {N : Act → World → Prop} {Q : Exit → Act → World → Prop} (hrun : (execOp a.eval o).run P w = .ok (.enter f args) w) (hc : Calls P f args w fun e w' => ∃ v, e = .returned v ∧ N (a.put o.dst v) w') : o.wp P a w N Q := by
 unfold Oper.wp
 rw [hrun]
 refine hc.mono fun e w' ⟨v, he, hb⟩ => ?_
 subst he
 exact hb
theorem run_bdL (tk : Int) (b n c : Nat) (w : World) : (Instr.build 107 #[(0, .int .i64 tk), (1, .slice (some ⟨b, 0, none⟩) n c)]).run Tryz.prog w = .ok (.agg #[.int .i64 tk, .slice (some ⟨b, 0, none⟩) n c, .int .i64 0, .int .i64 0, .int .i64 0, .int .i64 0]) w := by kernel_rfl
theorem run_bsPk (b : Nat) (w : World) : (Instr.buildSlice 101 1 #[(0, .pointer (some ⟨b, 0, none⟩))]).run Tryz.prog w = .ok (.slice (some ⟨w.heap.size, 0, none⟩) 1 1) (w.alloc (.cells #[.pointer (some ⟨b, 0, none⟩)] 105)) := by kernel_rfl
def newK (tk : Int) (nm : ByteArray) : Lk := ⟨tk, [nm], 0, 0, 0, 0⟩
def pushZ (z : Rz) (b : Nat) (nm : ByteArray) : Rz := ⟨z.sv, z.sd, z.es, z.tk + 1, z.qn, z.wl ++ [(b, newK (z.tk + 1) nm)], z.dn⟩
def startZ (now : Int) (z : Rz) (b : Nat) (nm : ByteArray) : Rz × List Qy := advZ now (pushZ z b nm) z.wl.length b (newK (z.tk + 1) nm) []
theorem push_ok {z : Rz} {b : Nat} (hz : ZI z) (hv : vname nm = true) (h8 : z.wl.length < 8) : ZI (pushZ z b nm) :=
 ⟨hz.s0, hz.s4, hz.d0, hz.d1, hz.q0, by show (z.wl ++ [_]).length ≤ 100; rw [List.length_append]; show z.wl.length + 1 ≤ 100; omega, fun p hp => by
  rcases List.mem_append.1 hp with hp | hp
  ·
   exact hz.lk p hp
  ·
   obtain rfl := List.mem_singleton.1 hp
   exact ⟨by show 0 < 1; decide, by show 1 ≤ 5; decide, fun s hs => by rw [List.mem_singleton.1 hs]; exact hv, by show (0 : Int) ≤ 0; decide, by show (0 : Int) ≤ 12; decide⟩, hz.dn, hz.es, hz.ap, hz.en⟩
def RslP (w0 : World) (D : Nat → Prop) (w : World) (a : Nat) (z : Rz) (now : Int) (nm : ByteArray) (g : Glo) (e : Ending) (w' : World) : Prop := ∃ b u, e = .returned (.tuple #[.int .i64 (z.tk + 1), u, .int .i64 0]) ∧ Own w0 D w' [resZ a (startZ now z b nm).1, glR g, rowQs u (startZ now z b nm).2] ∧ w.heap.size ≤ w'.heap.size
theorem resolve_z {w : World} {D : Nat → Prop} {a : Nat} {z : Rz} {now : Int} {g : Glo} (h : Own w D w [resZ a z, glR g]) (hz : ZI z) (hv : vname nm = true) (h8 : z.wl.length < 8) (q1 : z.qn ≤ 100000) (t0 : 0 ≤ z.tk) (t1 : z.tk ≤ 100000) :
  Calls Tryz.prog 10 #[.pointer (some ⟨a, 0, none⟩), .int .i64 now, .string nm] w (RslP w D w a z now nm g) := by
 obtain ⟨avs, ⟨vs, c, vw, vd⟩, hl, hO⟩ := openZV h
 obtain ⟨sv, sd, es, tk, qn, wl, dn⟩ := z
 simp only at hO hl hv h8 q1 t0 t1
 have HZ := Hi (fun b => push_ok (b := b) hz hv h8)
 have HQ := Hi q1
 have HAL := Hi hl
 have HVN := Hi (fun w => vname_any nm w (by have := vname_sz hv; unfold maxLen; omega))
 rw [hv] at HVN
 obtain ⟨sa, sc, hvs⟩ := row_shape (hO.row 1 rfl)
 obtain ⟨wa, wc, hvw⟩ := row_shape (hO.row 3 rfl)
 obtain ⟨n, hn⟩ : ∃ n, sv.length = n := ⟨_, rfl⟩
 obtain ⟨m, hm⟩ : ∃ m, wl.length = m := ⟨_, rfl⟩
 rw [List.length_map, hm] at hvw
 have HM := Hi hm
 have hsz : sv.length = (sv.map cIn).length := by rw [List.length_map]
 rw [hn] at hvs
 subst hvs hvw
 have HN := Hi hn
 have hn0 : 0 < n := by rw [← hn]; exact hz.s0
 have hn4 : n ≤ 4 := by rw [← hn]; exact hz.s4
 have hm8 : m < 8 := by rw [← hm]; exact h8
 have e1 : ((n : Int) == 0) = false := by simp; omega
 have e2 : decide ((m : Int) ≥ 8) = false := decide_eq_false (by omega)
 have e3 : decide ((8 : Int) ≤ (m : Int)) = false := decide_eq_false (by omega)
 have HB := Hi (And.intro hm8 hn4)
 have rp := run_bsPk
 have rl := run_bdL
 have rs := run_bs1S nm
 clear hz hv h8 q1 hl h hn hm hsz
 have HO := Hi (show Own w D w [blkR a (.cells #[.slice sa n sc, .int .i64 sd, .pointer (some ⟨c, 0, none⟩), .int .i64 tk, .int .i64 qn, .slice wa m wc, vd] 103), rowVs (.slice sa n sc) sv, resC c es, rowVw (.slice wa m wc) (wl.map (·.1)), rowVd vd dn.length (rnCs avs dn), resKs wl, sepR (rnRs avs dn), glR g] from hO)
 clear hO
 go_enter Tryz.func10, Tryz.ntmps10
 go_wp2_with fail
 refine (o_still HO.out (HVN.out _)).mono ?_
 rintro e x1 ⟨rfl, hO, -⟩
 replace HO := Hi hO
 clear hO
 obtain ⟨z0_0, -, -, -, -, z0_5, -⟩ := HO.out.c7 0 rfl
 have ⟨z0_3, y0_3⟩ : x1.cell? _ = some (.int .i64 tk) ∧ _ := HO.out.cf 0 rfl 3 rfl
 obtain ⟨x2, hx2, hO⟩ := HO.out.setE 0 rfl 3 (.int .i64 (tk + 1))
 replace HO := Hi (show Own _ _ _ [blkR a (.cells #[.slice sa n sc, .int .i64 sd, .pointer (some ⟨c, 0, none⟩), .int .i64 (tk + 1), .int .i64 qn, .slice wa m wc, vd] 103), _, _, _, _, _, _, _] from hO)
 clear hO
 have z0_3t : x2.cell? _ = some (.int .i64 (tk + 1)) := HO.out.cell 0 rfl 3 rfl
 obtain ⟨x3, hx3, bs, hbs, hO⟩ := HO.out.allocE (.cells #[.string nm] 9)
 replace HO := Hi (show Own _ _ _ [_, _, _, _, _, _, _, _, blkR bs (.cells #[.string nm] 9)] from hO)
 clear hO
 obtain ⟨x4, hx4, bl, hbl, hO⟩ := HO.out.allocE (.cells #[.int .i64 (tk + 1), .slice (some ⟨bs, 0, none⟩) 1 1, .int .i64 0, .int .i64 0, .int .i64 0, .int .i64 0] 107)
 replace HO := Hi (show Own _ _ _ [_, _, _, _, _, _, _, _, _, blkR bl (.cells #[.int .i64 (tk + 1), .slice (some ⟨bs, 0, none⟩) 1 1, .int .i64 0, .int .i64 0, .int .i64 0, .int .i64 0] 107)] from hO)
 clear hO
 have z0_5t : x4.cell? _ = some (.slice wa m wc) := HO.out.cell 0 rfl 5 rfl
 obtain ⟨x5, hx5, bp, hbp, hO⟩ := HO.out.allocE (.cells #[.pointer (some ⟨bl, 0, none⟩)] 105)
 replace HO := Hi (show Own _ _ _ [_, _, _, _, _, _, _, _, _, _, blkR bp (.cells #[.pointer (some ⟨bl, 0, none⟩)] 105)] from hO)
 clear hO
 go_wp2_with ((at_builtin; refine (show _ = True → _ from fun h => of_eq_true h) ?_))
 refine eq_true ?_
 have hmm : Own w D x5 ([blkR a (.cells #[.slice sa n sc, .int .i64 sd, .pointer (some ⟨c, 0, none⟩), .int .i64 (tk + 1), .int .i64 qn, .slice wa m wc, vd] 103), rowVs (.slice sa n sc) sv, resC c es, rowR (.slice wa m wc) 105 1 m ((wl.map (·.1)).map cPt), rowVd vd dn.length (rnCs avs dn), resKs wl, sepR (rnRs avs dn), glR g, blkR bs (.cells #[.string nm] 9), blkR bl (.cells #[.int .i64 (tk + 1), .slice (some ⟨bs, 0, none⟩) 1 1, .int .i64 0, .int .i64 0, .int .i64 0, .int .i64 0] 107), blkR bp (.cells #[.pointer (some ⟨bl, 0, none⟩)] 105)]) := by
  have := HO.out
  rw [show rowVw (.slice wa m wc) (wl.map (·.1)) = rowR (.slice wa m wc) 105 1 m ((wl.map (·.1)).map cPt) by show rowR _ _ _ _ _ = _; rw [List.length_map, HM.out]] at this
  exact this
 refine wpList_appO rfl (.tmp 50) (.tmp 52) 101 rfl Tryz.underlying101 info_K rfl (by decide) hmm 3 rfl rfl 10 1 1 [.pointer (some ⟨bl, 0, none⟩)] rfl rfl rfl (fun u hu => by simp at hu; subst hu; rfl) (by have := HB.out; unfold maxLen; omega) (by have := HB.out; omega) ?_
 intro v9 x9 hO
 clear hmm
 clear z0_0 z0_5 z0_3 y0_3 hx2 z0_3t hx3 hbs hx4 hbl z0_5t hx5 hbp
 simp only [l_S, l_Z] at hO
 obtain ⟨va, vc, rfl⟩ := row_shape (hO.row 3 rfl)
 replace HO := Hi (show Own _ _ _ [_, _, _, rowR (.slice va (m + 1) vc) 105 1 (m + 1) ((wl.map (·.1)).map cPt ++ [.pointer (some ⟨bl, 0, none⟩)]), _, _, _, _, _, _, _] from hO)
 clear hO rp rl rs
 have y0_5 := HO.out.frz 0 rfl 5
 have z0_5 : x9.cell? _ = some (.slice wa m wc) := HO.out.cell 0 rfl 5 rfl
 obtain ⟨x6, hx6, hO⟩ := HO.out.setE 0 rfl 5 (.slice va (m + 1) vc)
 replace HO := Hi (show Own _ _ _ [blkR a (.cells #[.slice sa n sc, .int .i64 sd, .pointer (some ⟨c, 0, none⟩), .int .i64 (tk + 1), .int .i64 qn, .slice va (m + 1) vc, vd] 103), _, _, _, _, _, _, _, _, _, _] from hO)
 clear hO
 obtain ⟨z1, hz1⟩ : ∃ z1, pushZ ⟨sv, sd, es, tk, qn, wl, dn⟩ bl nm = z1 := ⟨_, rfl⟩
 have HZ1 := Hi hz1
 have HZS := Hi (show Own w D x6 [resZ a z1, glR g, rowRc (.slice none 0 0) []] by
  rw [← hz1]
  have hO := HO.out
  have k1 := hO.toRowQ 8 1 1 rfl rfl (by decide)
  have k2 := shutK (v := .slice (some ⟨bs, 0, none⟩) 1 1) (k := newK (tk + 1) nm) (k1.toEnd 11 [9, 8, 0, 1, 2, 3, 4, 5, 6, 7] rfl rfl)
  have k3 := pushK (k2.toEnd 9 [6, 0, 1, 2, 3, 4, 5, 7, 8] rfl rfl)
  have k4 := k3.toEnd 8 [1, 2, 3, 4, 5, 0, 6, 7] rfl rfl
  have k5 := (shutZV (x := ⟨.slice sa sv.length sc, c, .slice va (m + 1) vc, vd⟩) (z := pushZ ⟨sv, sd, es, tk, qn, wl, dn⟩ bl nm) (L := [glR g]) HAL.out (by
   have e5 : rowVw (.slice va (m + 1) vc) ((pushZ ⟨sv, sd, es, tk, qn, wl, dn⟩ bl nm).wl.map (·.1)) = rowR (.slice va (m + 1) vc) 105 1 (m + 1) ((wl.map (·.1)).map cPt ++ [.pointer (some ⟨bl, 0, none⟩)]) := by
    show rowR _ _ _ ((wl ++ [_]).map _).length (((wl ++ [_]).map _).map cPt) = _
    rw [List.map_append, List.map_append, List.length_append, List.length_map, HM.out]; rfl
   show Own _ _ _ [blkR _ _, _, _, rowVw (.slice va (m + 1) vc) ((pushZ ⟨sv, sd, es, tk, qn, wl, dn⟩ bl nm).wl.map (·.1)), _, _, _, _]
   rw [e5, HN.out]
   exact k4))
  exact k5.rowNew 131 5)
 have HTK := Hi (show x6.cell? ⟨bl, 0, none⟩ = some (.int .i64 (tk + 1)) from HO.out.cell 9 rfl 0 rfl)
 have HZW := Hi (show z1.wl[m]? = some (bl, newK (tk + 1) nm) by rw [← hz1]; show (wl ++ [_])[m]? = _; rw [← HM.out]; simp)
 have HST := Hi (show ∃ r, advZ now z1 m bl (newK (tk + 1) nm) [] = r ∧ startZ now ⟨sv, sd, es, tk, qn, wl, dn⟩ bl nm = r from ⟨_, rfl, by rw [← hz1, ← HM.out]; rfl⟩)
 have HZI := Hi (show ZI z1 by rw [← hz1]; exact HZ.out bl)
 have HQ1 := Hi (show z1.qn ≤ 100000 by rw [← hz1]; exact HQ.out)
 clear hz1
 go_wp2
 clear y0_5 z0_5 hx6
 obtain ⟨⟨z2, q2⟩, hr1, hr2⟩ := HST.out
 have HR1 := Hi hr1
 have HR2 := Hi hr2
 clear hr1 hr2 HST
 generalize hΓ : ghP (fun vs w' => match vs with
  | [] => Own w D w' [resZ a z1, glR g, rowRc (.slice none 0 0) []] ∧ w'.cell? ⟨bl, 0, none⟩ = some (.int .i64 (tk + 1))
  | [u] => Own w D w' [resZ a z2, glR g, rowRc (.slice none 0 0) [], rowQs u q2] ∧ w'.cell? ⟨bl, 0, none⟩ = some (.int .i64 (tk + 1))
  | _ => False) (fun vs w1 w2 h hb => by
   match vs, h with
   | [], ⟨h1, h2⟩ => exact ⟨h1.stay hb, keep hb h2⟩
   | [u], ⟨h1, h2⟩ => exact ⟨h1.stay hb, keep hb h2⟩) = Γ
 have HGS := Hi (show Γ.inv [] x6 by rw [← hΓ]; exact ⟨HZS.out, HTK.out⟩)
 have q0 : ∀ q : Γ.Wd, q.w.cell? ⟨bl, 0, none⟩ = some (.int .i64 (tk + 1)) := by
  rw [← hΓ]
  rintro ⟨vs, w', hh⟩
  match vs, hh with
  | [], ⟨h1, h2⟩ => exact h2
  | [u], ⟨h1, h2⟩ => exact h2
 have HΓ := Hi hΓ
 clear hΓ
 have ne : Nonempty Γ.Wd := ⟨⟨[], x6, HGS.out⟩⟩
 refine wp_region_H Γ 8 [7] (by kernel_rfl) (by kernel_rfl) (by kernel_rfl) (by kernel_rfl) HGS.out ?_
 simp only [List.take, List.drop]
 iterate 7 (first | (refine wpH_want (by kernel_rfl) (by kernel_rfl) rfl rfl ?_; intro K hK; go_big_quiet_op; go_big_quiet_on) | (refine wpH_is (by kernel_rfl) (by kernel_rfl) rfl _ (fun _ w _ => rfl) ?_; simp only [Act.put, l_T, l_S, l_Z]))
 refine wpH_chainX 0 (gnth 0) (gnth_lasts _ _) (by kernel_rfl) (by kernel_rfl) (fun a' g hg hgl he => ?_) (fun d hd => ?_)
 ·
  obtain ⟨h60, h61, h62, _⟩ := he
  have h60' : a'.tmps.getD 60 undef = .pointer (some ⟨a, 0, none⟩) := h60
  have h61' : a'.tmps.getD 61 undef = .int .i64 now := h61
  have h62' : a'.tmps.getD 62 undef = .pointer (some ⟨bl, 0, none⟩) := h62
  refine wp_callG (f := 38) (args := #[.pointer (some ⟨a, 0, none⟩), .int .i64 now, .pointer (some ⟨bl, 0, none⟩), .slice none 0 0]) (by simp [go_sem, Act.eval, h60', h61', h62']) ?_
  obtain ⟨vs, w'⟩ := g
  obtain rfl : vs = [] := List.eq_nil_of_length_eq_zero hgl
  rw [← HΓ.out] at hg ⊢
  obtain ⟨hg1, hg2⟩ := hg
  obtain ⟨DA, DB, s1, s2, s3, s4, s5, s6⟩ := Own.split (A := []) hg1
  refine (advance_zk s2 HZI.out HQ1.out (by decide) (fun r hr => by cases hr) HZW.out HR1.out).mono ?_
  rintro e w'' ⟨u, rfl, ho, hcell, hs⟩
  exact ⟨u, rfl, _, rfl, ghP_mv ⟨s6 w'' _ ho, hcell⟩ hs, rfl⟩
 cases hd
 simp only [List.nil_append]
 refine wpH_nil (by kernel_rfl) (by simp) ?_
 rintro ⟨vs, x5⟩ hg hgl
 rw [← HΓ.out] at hg
 simp only [gexAll]
 rintro u63 hu63
 obtain ⟨v, rfl⟩ : ∃ v, vs = [v] := List.length_eq_one_iff.1 hgl
 obtain rfl : v = u63 := by simpa [gnth] using hu63
 simp only [List.drop]
 obtain ⟨hg1, -⟩ := hg
 obtain ⟨ua, uc, rfl⟩ := row_shape (hg1.row 3 rfl)
 have HOF := Hi (hg1.toEnd 4 [0, 1, 3] rfl rfl)
 clear hg1 ne HGS hgl HΓ hu63 q0
 go_wp2
 go_ret3
 exact ⟨bl, _, rfl, by rw [HR2.out]; exact HOF.out, HOF.out.size⟩
end Go.Proofs.YtbhglemolpfnkaaGreatDoor
