/- The resolver's finish. Printed by wip/tools/gen21f.py. -/
import Derived.Test.YtbhglemolpfnkaaGreatDoorBn
import Derived.Test.YtbhglemolpfnkaaGreatDoorBu
import Derived.Test.YtbhglemolpfnkaaGreatDoorBb
set_option linter.unusedVariables false
set_option maxRecDepth 100000
set_option maxHeartbeats 32000000
namespace Go.Proofs.YtbhglemolpfnkaaGreatDoor
open Go.RowKit Go.Sort
variable {w0 w : World} {D : Nat → Prop} {L : List Res}
attribute [local go_sem] Oper.semAt_some

theorem as_hit_o {tb : Nat} {old : Int} (n : Int) (h : Own w0 D w L) (i : Nat) (hi : L[i]? = some (blkR tb (.cells #[.int .i64 old] 188))) (hg : w.cell? ⟨ertG, 0, none⟩ = some ertV) :
  Calls Tryz.prog 118 #[.iface 188 (.agg #[.int .i64 n]), .iface 209 (.pointer (some ⟨tb, 0, none⟩))] w (OPost w0 D (L.set i (blkR tb (.cells #[.int .i64 n] 188))) (.bool true) w) := by
 refine (as_hit n old tb w hg (h.cell i hi 0 rfl) (h.frz i hi 0)).mono ?_
 rintro e w' ⟨rfl, rfl⟩
 have b1 := below_one w (.cells #[.pointer (some ⟨tb, 0, none⟩)] 209)
 have h1 := h.stay b1
 have h2 := h1.stay (below_one _ (.cells #[.pointer (some ⟨3, 209, none⟩), .pointer (some ⟨w.heap.size, 0, none⟩), .int .u64 150] 245))
 have h3 := h2.stay (below_one _ (.cells #[.pointer (some ⟨3, 209, none⟩), .pointer (some ⟨w.heap.size, 0, none⟩), .int .u64 150] 245))
 have h4 := h3.stay (below_one _ (.cells #[.int .i64 n] 188))
 have h5 := h4.setCell i hi 0 (.int .i64 n)
 exact ⟨rfl, h5, by simp; omega⟩
theorem as_nil (x : Value) (w : World) : Calls Tryz.prog 118 #[.nilIface, x] w fun e w' => e = .returned (.bool false) ∧ w = w' := by
 go_enter Tryz.func118, Tryz.ntmps118
 go_wp2
 go_ret
 exact ⟨rfl, rfl⟩
theorem infoRn : (Tryz.prog.info? 75).map (fun i => (i.zero, i.size, i.bytes)) = some (some (.agg #[.int .i64 0, .int .i64 0, .slice none 0 0]), 3, 40) := by kernel_rfl
theorem run_bsRn (a b : Int) (x : Option Addr) (n c : Nat) (w : World) : (Instr.buildSlice 58 1 #[(0, .agg #[.int .i64 a, .int .i64 b, .slice x n c])]).run Tryz.prog w = .ok (.slice (some ⟨w.heap.size, 0, none⟩) 1 1) (w.alloc (.cells #[.int .i64 a, .int .i64 b, .slice x n c] 75)) := by kernel_rfl
theorem run_bdRn (a : Int) (x : Option Addr) (n c : Nat) (w : World) : (Instr.build 75 #[(0, .int .i64 a), (2, .slice x n c)]).run Tryz.prog w = .ok (.agg #[.int .i64 a, .int .i64 0, .slice x n c]) w := by kernel_rfl
def rnC (tk er : Int) (v : Value) : List Value := [.int .i64 tk, .int .i64 er, v]
theorem live_of (i : Nat) {b : Nat} {cs : Array Value} {t : TypeId} (h : Own w0 D w L) (hi : L[i]? = some (blkR b (.cells cs t))) : Live w b := ⟨cs, t, h.blk i hi⟩
theorem live_K {b : Nat} {k : Lk} (h : Own w0 D w L) (i : Nat) (hi : L[i]? = some (resK b k)) : Live w b := by
 obtain ⟨F, h1, _⟩ := h.step hi
 obtain ⟨v, ho⟩ := openK (Own.one h1)
 exact live_of 0 ho rfl
theorem live_Ks {os : List (Nat × Lk)} (h : Own w0 D w L) (i : Nat) (hi : L[i]? = some (resKs os)) : ∀ p ∈ os, Live w p.1 := by
 obtain ⟨F, h1, _⟩ := h.step hi
 have h2 := (Own.one h1).open
 intro p hp
 obtain ⟨j, hj, rfl⟩ := List.mem_iff_getElem.1 hp
 exact live_K (k := os[j].2) h2 j (by rw [List.getElem?_map, List.getElem?_eq_getElem hj]; rfl)
theorem fin_close {a b : Nat} {x : RvX} {st : Rv} {v : Value} {k : Lk} {bx o g : Res} (h : Own w0 D w [rowK v k.ch, g, blkV a x.vs x.c x.vw x.vd st.sd st.tk st.qn, rowVs x.vs st.sv, resC x.c st.es, rowVd x.vd st.dl st.dn, rowVw x.vw st.wt, bx, blkK b v k, o]) : Own w0 D w [resV a st, resK b k, o, g] := by
 have h1 : Own w0 D w (blkK b v k :: rowK v k.ch :: [blkV a x.vs x.c x.vw x.vd st.sd st.tk st.qn, rowVs x.vs st.sv, resC x.c st.es, rowVw x.vw st.wt, rowVd x.vd st.dl st.dn, o, g]) := h.toEnd 10 [8, 0, 2, 3, 4, 6, 5, 9, 1] rfl rfl
 have h2 : Own w0 D w (partsV a x st ++ [resK b k, o, g]) := (shutK h1).toEnd 8 [1, 2, 3, 4, 5, 0, 6, 7] rfl rfl
 exact shutV h2
def finV (st : Rv) (b : Nat) (tk er : Int) (v : Value) : Rv := ⟨st.sv, st.sd, st.es, st.tk, st.qn, st.wt.filter (fun c => !(c == b)), st.dl + 1, st.dn ++ rnC tk er v⟩
abbrev LF (a : Nat) (st : Rv) (b : Nat) (k : Lk) (os : List (Nat × Lk)) (g : Glo) : List Res := [resV a st, resK b k, resKs os, glR g]
theorem finish_ok {a b : Nat} {sv : List Int} {sd : Int} {es : List En} {tk qn : Int} {wt : List Nat} {dl : Nat} {dn : List Value} {lt tr nu se s0 er : Int} {ch : List ByteArray} {os : List (Nat × Lk)} {g : Glo} {x : Option Addr} {n cap : Nat} (h : Own w D w (LF a ⟨sv, sd, es, tk, qn, wt, dl, dn⟩ b ⟨lt, ch, tr, nu, se, s0⟩ os g))
  (hb : b ∈ wt) (hw : ∀ c ∈ wt, c = b ∨ ∃ p ∈ os, p.1 = c) (hwl : wt.length ≤ 100) (hdl : dl ≤ 1000) :
  Calls Tryz.prog 82 #[.pointer (some ⟨a, 0, none⟩), .pointer (some ⟨b, 0, none⟩), .slice x n cap, .nilIface] w (OPost w D (LF a (finV ⟨sv, sd, es, tk, qn, wt, dl, dn⟩ b lt 0 (.slice x n cap)) b ⟨lt, ch, tr, nu, se, s0⟩ os g) (.tuple #[]) w) := by
 obtain ⟨⟨vs, c, vw, vd⟩, hO⟩ := openV h
 have hO := Own.rot (L' := [resK b ⟨lt, ch, tr, nu, se, s0⟩, resKs os, glR g]) hO
 obtain ⟨vk, hO⟩ := openK hO
 have hrd := hO.row 8 rfl
 obtain ⟨da, dc, rfl⟩ := row_shape hrd
 have HO := Hi (show Own w D w [blkR b (.cells #[.int .i64 lt, vk, .int .i64 tr, .int .i64 nu, .int .i64 se, .int .i64 s0] 107), rowK vk ch, resKs os, glR g, blkR a (.cells #[vs, .int .i64 sd, .pointer (some ⟨c, 0, none⟩), .int .i64 tk, .int .i64 qn, vw, .slice da dl dc] 103), rowVs vs sv, resC c es, rowVw vw wt, rowR (.slice da dl dc) 75 3 dl dn] from hO)
 have HB := Hi hb
 have HWL := Hi hwl
 have HDL := Hi hdl
 have HDN := Hi hrd.1
 have HW := Hi (show ∀ (w' : World) (w0 : World) (D : Nat → Prop) (L : List Res), Own w0 D w' (blkK b vk ⟨lt, ch, tr, nu, se, s0⟩ :: resKs os :: L) → ∀ c ∈ wt, Live w' c from fun w' w0 D L h c hc => by
  rcases hw c hc with rfl | ⟨p, hp, rfl⟩
  ·
   exact live_of 0 h rfl
  ·
   exact live_Ks h 1 rfl p hp)
 clear h hO hrd hb hw hwl hdl
 have rb := run_bdRn
 have rs := run_bsRn
 go_enter Tryz.func82, Tryz.ntmps82
 obtain ⟨x1, hx1, bx, hbx, hO⟩ := HO.out.allocE (.cells #[.pointer (some ⟨b, 0, none⟩)] 105)
 replace HO := Hi (show Own _ _ _ [_, _, _, _, _, _, _, _, _, blkR bx (.cells #[.pointer (some ⟨b, 0, none⟩)] 105)] from hO)
 clear hO
 have z9_0 : x1.cell? _ = some (.pointer (some ⟨b, 0, none⟩)) := HO.out.cell 9 rfl 0 rfl
 have z0_0 : x1.cell? _ = some (.int .i64 lt) := HO.out.cell 0 rfl 0 rfl
 obtain ⟨x2, hx2, br, hbr, hO⟩ := HO.out.allocE (.cells #[.int .i64 0, .int .i64 0, .slice none 0 0] 75)
 replace HO := Hi (show Own _ _ _ [_, _, _, _, _, _, _, _, _, _, blkR br (.cells #[.int .i64 0, .int .i64 0, .slice none 0 0] 75)] from hO)
 clear hO
 obtain ⟨x6, x9, x11, hx6, hx9, hx11, k10_0_3, lk10_0_3, k10_1_7, lk10_1_7, k10_2_10, lk10_2_10, hO⟩ := HO.out.steps3 10 rfl (.int .i64 lt) (.int .i64 0) (.slice x n cap)
 replace HO := Hi (show Own _ _ _ [_, _, _, _, _, _, _, _, _, _, blkR br (.cells #[.int .i64 lt, .int .i64 0, .slice x n cap] 75)] from hO)
 clear hO
 obtain ⟨x12, hx12, bf, hbf, hO⟩ := HO.out.allocE (.cells #[.int .i64 0] 188)
 replace HO := Hi (show Own _ _ _ [_, _, _, _, _, _, _, _, _, _, _, blkR bf (.cells #[.int .i64 0] 188)] from hO)
 clear hO
 go_wp2_with fail
 refine (o_same HO.out (as_nil _ _)).mono ?_
 rintro e x13 ⟨rfl, hO, -⟩
 replace HO := Hi hO
 clear hO
 clear hx1 hbx z9_0 z0_0 hx2 hbr k10_0_3 lk10_0_3 hx6 k10_1_7 lk10_1_7 hx9 k10_2_10 lk10_2_10 hx11 hx12 hbf
 go_wp2
 generalize hΓ : ghS w D (apS [blkR b (.cells #[.int .i64 lt, vk, .int .i64 tr, .int .i64 nu, .int .i64 se, .int .i64 s0] 107), rowK vk ch, resKs os, glR g, blkR a (.cells #[vs, .int .i64 sd, .pointer (some ⟨c, 0, none⟩), .int .i64 tk, .int .i64 qn, vw, .slice da dl dc] 103), rowVs vs sv, resC c es, rowVw vw wt, rowR (.slice da dl dc) 75 3 dl dn, blkR bx (.cells #[.pointer (some ⟨b, 0, none⟩)] 105), blkR br (.cells #[.int .i64 lt, .int .i64 0, .slice x n cap] 75), blkR bf (.cells #[.int .i64 0] 188)] 8 [.int .i64 lt, .int .i64 0, .slice x n cap] 75 (fun v' => rowR v' 75 3 (dl + 1) (dn ++ [.int .i64 lt, .int .i64 0, .slice x n cap]))) = Γ
 have HST := Hi (show Γ.inv [] x13 by rw [← hΓ]; exact apS_start HO.out)
 have q4_6 : ∀ q : Γ.Wd, q.w.cell? ⟨a, 6, none⟩ = some (.slice da dl dc) := by rw [← hΓ]; exact apS_cell (c := #[vs, .int .i64 sd, .pointer (some ⟨c, 0, none⟩), .int .i64 tk, .int .i64 qn, vw, .slice da dl dc]) (t := 103) 4 rfl (by decide) 6 rfl
 have q10_0 : ∀ q : Γ.Wd, q.w.cell? ⟨br, 0, none⟩ = some (.int .i64 lt) := by rw [← hΓ]; exact apS_cell (c := #[.int .i64 lt, .int .i64 0, .slice x n cap]) (t := 75) 10 rfl (by decide) 0 rfl
 have q10_1 : ∀ q : Γ.Wd, q.w.cell? ⟨br, 1, none⟩ = some (.int .i64 0) := by rw [← hΓ]; exact apS_cell (c := #[.int .i64 lt, .int .i64 0, .slice x n cap]) (t := 75) 10 rfl (by decide) 1 rfl
 have q10_2 : ∀ q : Γ.Wd, q.w.cell? ⟨br, 2, none⟩ = some (.slice x n cap) := by rw [← hΓ]; exact apS_cell (c := #[.int .i64 lt, .int .i64 0, .slice x n cap]) (t := 75) 10 rfl (by decide) 2 rfl
 have HΓ := Hi hΓ
 clear hΓ
 have ne : Nonempty Γ.Wd := ⟨⟨[], x13, HST.out⟩⟩
 refine wp_region_H Γ 10 [6, 7] (by kernel_rfl) (by kernel_rfl) (by kernel_rfl) (by kernel_rfl) HST.out ?_
 simp only [List.take, List.drop]
 iterate 6 (first | (refine wpH_want (by kernel_rfl) (by kernel_rfl) rfl rfl ?_; intro K hK; go_big_quiet_op; go_big_quiet_on) | (refine wpH_is (by kernel_rfl) (by kernel_rfl) rfl _ (fun _ w _ => rfl) ?_; simp only [Act.put, l_T, l_S, l_Z]))
 refine wpH_chainX 0 (gnth 0) (gnth_lasts _ _) (by kernel_rfl) (by kernel_rfl) (fun a' g hg hgl he => ?_) (fun d hd => ?_)
 ·
  obtain ⟨h25, _⟩ := he
  have h25' : a'.eval (.tmp 28) = .agg #[.int .i64 lt, .int .i64 0, .slice x n cap] := h25
  refine wp_of_value (v := .slice (some ⟨g.w.heap.size, 0, none⟩) 1 1) (w' := g.w.alloc (.cells #[.int .i64 lt, .int .i64 0, .slice x n cap] 75)) (run_v_ok ?_) ⟨_, rfl, ?_, ?_⟩
  ·
   simp only [List.map_toArray, List.map_cons, List.map_nil, h25']
   exact run_bsRn _ _ _ _ _ _
  ·
   rw [← HΓ.out] at hg ⊢
   exact apS_build hg hgl
  ·
   have : g.vs = [] := List.eq_nil_of_length_eq_zero hgl
   rw [this]; rfl
 cases hd
 simp only [List.nil_append]
 refine wpH_chainX 1 (gnth 1) (gnth_lasts _ _) (by kernel_rfl) (by kernel_rfl) (fun a' g hg hgl he => ?_) (fun d hd => ?_)
 ·
  obtain ⟨h24, h26, _⟩ := he
  have h24' : a'.eval (.tmp 27) = .slice da dl dc := h24
  rw [← HΓ.out] at hg ⊢
  exact apS_app (.tmp 27) (.tmp 29) 58 rfl Tryz.underlying58 infoRn rfl (by decide) rfl rfl (fun u hu => by simp at hu; rcases hu with rfl | rfl | rfl <;> rfl) (by have := HDL.out; unfold maxLen; omega) (by have := HDL.out; omega) hg hgl h24' h26
 cases hd
 simp only [List.cons_append, List.nil_append]
 iterate 2 (first | (refine wpH_want (by kernel_rfl) (by kernel_rfl) rfl rfl ?_; intro K hK; go_big_quiet_op; go_big_quiet_on) | (refine wpH_is (by kernel_rfl) (by kernel_rfl) rfl _ (fun _ w _ => rfl) ?_; simp only [Act.put, l_T, l_S, l_Z]))
 refine wpH_nil (by kernel_rfl) (by simp) ?_
 rintro ⟨vs5, x5⟩ hg hgl
 rw [← HΓ.out] at hg
 obtain ⟨s, v, hvs, hO⟩ := apS_end hg hgl
 obtain rfl : vs5 = [s, v] := hvs
 simp only [gexAll]
 rintro u29 - u30 hu30
 obtain rfl : v = u30 := by simpa [gnth] using hu30
 simp only [List.drop]
 clear ne HST hg hgl HΓ q4_6 q10_0 q10_1 q10_2
 obtain ⟨va, vc, hv⟩ := row_shape (hO.row 8 rfl)
 obtain ⟨vn, hvn⟩ : ∃ y, dl + 1 = y := ⟨_, rfl⟩
 rw [hvn] at hv
 subst hv
 replace HO := Hi (show Own _ _ _ [_, _, _, _, _, _, _, _, rowR (.slice va vn vc) 75 3 (dl + 1) (dn ++ [.int .i64 lt, .int .i64 0, .slice x n cap]), _, _, _] from hO)
 clear hO
 have y4_6 := HO.out.frz 4 rfl 6
 have z4_6 : x5.cell? _ = some (.slice da dl dc) := HO.out.cell 4 rfl 6 rfl
 obtain ⟨x14, hx14, hO⟩ := HO.out.setE 4 rfl 6 (.slice va vn vc)
 replace HO := Hi (show Own _ _ _ [_, _, _, _, blkR a (.cells #[vs, .int .i64 sd, .pointer (some ⟨c, 0, none⟩), .int .i64 tk, .int .i64 qn, vw, .slice va vn vc] 103), _, _, _, _, _, _, _] from hO)
 clear hO
 have z4_5 : x14.cell? _ = some (vw) := HO.out.cell 4 rfl 5 rfl
 have hO := HO.out.toEnd 12 [1, 3, 4, 5, 6, 8, 7, 9, 0, 2] rfl rfl
 replace HO := Hi (show Own _ _ _ [rowK vk ch, glR g, blkR a (.cells #[vs, .int .i64 sd, .pointer (some ⟨c, 0, none⟩), .int .i64 tk, .int .i64 qn, vw, .slice va vn vc] 103), rowVs vs sv, resC c es, rowR (.slice va vn vc) 75 3 (dl + 1) (dn ++ [.int .i64 lt, .int .i64 0, .slice x n cap]), rowVw vw wt, blkR bx (.cells #[.pointer (some ⟨b, 0, none⟩)] 105), blkR b (.cells #[.int .i64 lt, vk, .int .i64 tr, .int .i64 nu, .int .i64 se, .int .i64 s0] 107), resKs os] from hO)
 clear hO
 have hmf : ∀ (fn : Fn) (first cap : Array Value) (w : World), (Instr.makeFunc fn first cap).run Tryz.prog w = .ok (.func fn first cap) w := fun _ _ _ _ => rfl
 go_wp2_with fail
 refine (o_frame (A := [rowK vk ch, glR g, blkR a (.cells #[vs, .int .i64 sd, .pointer (some ⟨c, 0, none⟩), .int .i64 tk, .int .i64 qn, vw, .slice va vn vc] 103), rowVs vs sv, resC c es, rowR (.slice va vn vc) 75 3 (dl + 1) (dn ++ [.int .i64 lt, .int .i64 0, .slice x n cap])]) (B := [rowVw vw wt, boxK bx b, blkK b vk ⟨lt, ch, tr, nu, se, s0⟩, resKs os]) (Q := fun e B' => ∃ v', e = .returned v' ∧ B' = [rowVw v' (wt.filter fun c => !(c == b)), boxK bx b, blkK b vk ⟨lt, ch, tr, nu, se, s0⟩, resKs os]) HO.out (fun D' hD => (delW wt bx b hD HB.out (fun ho => HW.out _ _ _ _ ho) (by have := HWL.out; omega)).mono fun e w' ⟨v', h1, h2, h3⟩ => ⟨_, ⟨v', h1, rfl⟩, h2, h3⟩)).mono ?_
 rintro e y6 ⟨B', ⟨v', rfl, rfl⟩, hO, -⟩
 replace HO := Hi (show Own _ _ _ [_, _, _, _, _, _, rowVw v' (wt.filter fun c => !(c == b)), boxK bx b, _, _] from hO)
 clear hO
 clear y4_6 z4_6 hx14 z4_5
 obtain ⟨wa, wc, hv⟩ := row_shape (HO.out.row 6 rfl)
 obtain ⟨wn, hwn⟩ : ∃ y, (wt.filter fun c => !(c == b)).length = y := ⟨_, rfl⟩
 rw [hwn] at hv
 subst hv
 clear hwn
 have y2_5 := HO.out.frz 2 rfl 5
 have z2_5 : y6.cell? _ = some (vw) := HO.out.cell 2 rfl 5 rfl
 obtain ⟨x15, hx15, hO⟩ := HO.out.setE 2 rfl 5 (.slice wa wn wc)
 replace HO := Hi (show Own _ _ _ [_, _, blkR a (.cells #[vs, .int .i64 sd, .pointer (some ⟨c, 0, none⟩), .int .i64 tk, .int .i64 qn, .slice wa wn wc, .slice va vn vc] 103), _, _, _, rowVw (.slice wa wn wc) (wt.filter fun c => !(c == b)), _, _, _] from hO)
 clear hO
 go_wp2
 go_end0
 exact ⟨rfl, fin_close (x := ⟨vs, c, .slice wa wn wc, .slice va vn vc⟩) (v := vk) HO.out, HO.out.size⟩
theorem finish_no {a b : Nat} {sv : List Int} {sd : Int} {es : List En} {tk qn : Int} {wt : List Nat} {dl : Nat} {dn : List Value} {lt tr nu se s0 er : Int} {ch : List ByteArray} {os : List (Nat × Lk)} {g : Glo} {x : Option Addr} {n cap : Nat} (h : Own w D w (LF a ⟨sv, sd, es, tk, qn, wt, dl, dn⟩ b ⟨lt, ch, tr, nu, se, s0⟩ os g))
  (hb : b ∈ wt) (hw : ∀ c ∈ wt, c = b ∨ ∃ p ∈ os, p.1 = c) (hwl : wt.length ≤ 100) (hdl : dl ≤ 1000) :
  Calls Tryz.prog 82 #[.pointer (some ⟨a, 0, none⟩), .pointer (some ⟨b, 0, none⟩), .slice x n cap, .iface 188 (.agg #[.int .i64 er])] w (OPost w D (LF a (finV ⟨sv, sd, es, tk, qn, wt, dl, dn⟩ b lt er (.slice none 0 0)) b ⟨lt, ch, tr, nu, se, s0⟩ os g) (.tuple #[]) w) := by
 obtain ⟨⟨vs, c, vw, vd⟩, hO⟩ := openV h
 have hO := Own.rot (L' := [resK b ⟨lt, ch, tr, nu, se, s0⟩, resKs os, glR g]) hO
 obtain ⟨vk, hO⟩ := openK hO
 have hrd := hO.row 8 rfl
 obtain ⟨da, dc, rfl⟩ := row_shape hrd
 have HO := Hi (show Own w D w [blkR b (.cells #[.int .i64 lt, vk, .int .i64 tr, .int .i64 nu, .int .i64 se, .int .i64 s0] 107), rowK vk ch, resKs os, glR g, blkR a (.cells #[vs, .int .i64 sd, .pointer (some ⟨c, 0, none⟩), .int .i64 tk, .int .i64 qn, vw, .slice da dl dc] 103), rowVs vs sv, resC c es, rowVw vw wt, rowR (.slice da dl dc) 75 3 dl dn] from hO)
 have HB := Hi hb
 have HWL := Hi hwl
 have HDL := Hi hdl
 have HDN := Hi hrd.1
 have HW := Hi (show ∀ (w' : World) (w0 : World) (D : Nat → Prop) (L : List Res), Own w0 D w' (blkK b vk ⟨lt, ch, tr, nu, se, s0⟩ :: resKs os :: L) → ∀ c ∈ wt, Live w' c from fun w' w0 D L h c hc => by
  rcases hw c hc with rfl | ⟨p, hp, rfl⟩
  ·
   exact live_of 0 h rfl
  ·
   exact live_Ks h 1 rfl p hp)
 clear h hO hrd hb hw hwl hdl
 have rb := run_bdRn
 have rs := run_bsRn
 go_enter Tryz.func82, Tryz.ntmps82
 obtain ⟨x1, hx1, bx, hbx, hO⟩ := HO.out.allocE (.cells #[.pointer (some ⟨b, 0, none⟩)] 105)
 replace HO := Hi (show Own _ _ _ [_, _, _, _, _, _, _, _, _, blkR bx (.cells #[.pointer (some ⟨b, 0, none⟩)] 105)] from hO)
 clear hO
 have z9_0 : x1.cell? _ = some (.pointer (some ⟨b, 0, none⟩)) := HO.out.cell 9 rfl 0 rfl
 have z0_0 : x1.cell? _ = some (.int .i64 lt) := HO.out.cell 0 rfl 0 rfl
 obtain ⟨x2, hx2, br, hbr, hO⟩ := HO.out.allocE (.cells #[.int .i64 0, .int .i64 0, .slice none 0 0] 75)
 replace HO := Hi (show Own _ _ _ [_, _, _, _, _, _, _, _, _, _, blkR br (.cells #[.int .i64 0, .int .i64 0, .slice none 0 0] 75)] from hO)
 clear hO
 obtain ⟨x6, x9, x11, hx6, hx9, hx11, k10_0_3, lk10_0_3, k10_1_7, lk10_1_7, k10_2_10, lk10_2_10, hO⟩ := HO.out.steps3 10 rfl (.int .i64 lt) (.int .i64 0) (.slice x n cap)
 replace HO := Hi (show Own _ _ _ [_, _, _, _, _, _, _, _, _, _, blkR br (.cells #[.int .i64 lt, .int .i64 0, .slice x n cap] 75)] from hO)
 clear hO
 obtain ⟨x12, hx12, bf, hbf, hO⟩ := HO.out.allocE (.cells #[.int .i64 0] 188)
 replace HO := Hi (show Own _ _ _ [_, _, _, _, _, _, _, _, _, _, _, blkR bf (.cells #[.int .i64 0] 188)] from hO)
 clear hO
 go_wp2_with fail
 refine (as_hit_o er HO.out 11 rfl (glo_ert (HO.out.toEnd 12 [3] rfl rfl))).mono ?_
 rintro e x13 ⟨rfl, hO, -⟩
 replace HO := Hi (show Own _ _ _ [_, _, _, _, _, _, _, _, _, _, _, blkR bf (.cells #[.int .i64 er] 188)] from hO)
 clear hO
 clear hx1 hbx z9_0 z0_0 hx2 hbr k10_0_3 lk10_0_3 hx6 k10_1_7 lk10_1_7 hx9 k10_2_10 lk10_2_10 hx11 hx12 hbf
 have z11_0 : x13.cell? _ = some (.int .i64 er) := HO.out.cell 11 rfl 0 rfl
 have y10_1 := HO.out.frz 10 rfl 1
 have z10_1 : x13.cell? _ = some (.int .i64 0) := HO.out.cell 10 rfl 1 rfl
 obtain ⟨x14, hx14, hO⟩ := HO.out.setE 10 rfl 1 (.int .i64 er)
 replace HO := Hi (show Own _ _ _ [_, _, _, _, _, _, _, _, _, _, blkR br (.cells #[.int .i64 lt, .int .i64 er, .slice x n cap] 75), _] from hO)
 clear hO
 have y10_2 := HO.out.frz 10 rfl 2
 have z10_2 : x14.cell? _ = some (.slice x n cap) := HO.out.cell 10 rfl 2 rfl
 obtain ⟨x15, hx15, hO⟩ := HO.out.setE 10 rfl 2 (.slice none 0 0)
 replace HO := Hi (show Own _ _ _ [_, _, _, _, _, _, _, _, _, _, blkR br (.cells #[.int .i64 lt, .int .i64 er, .slice none 0 0] 75), _] from hO)
 clear hO
 go_wp2
 clear z11_0 y10_1 z10_1 hx14 y10_2 z10_2 hx15
 generalize hΓ : ghS w D (apS [blkR b (.cells #[.int .i64 lt, vk, .int .i64 tr, .int .i64 nu, .int .i64 se, .int .i64 s0] 107), rowK vk ch, resKs os, glR g, blkR a (.cells #[vs, .int .i64 sd, .pointer (some ⟨c, 0, none⟩), .int .i64 tk, .int .i64 qn, vw, .slice da dl dc] 103), rowVs vs sv, resC c es, rowVw vw wt, rowR (.slice da dl dc) 75 3 dl dn, blkR bx (.cells #[.pointer (some ⟨b, 0, none⟩)] 105), blkR br (.cells #[.int .i64 lt, .int .i64 er, .slice none 0 0] 75), blkR bf (.cells #[.int .i64 er] 188)] 8 [.int .i64 lt, .int .i64 er, .slice none 0 0] 75 (fun v' => rowR v' 75 3 (dl + 1) (dn ++ [.int .i64 lt, .int .i64 er, .slice none 0 0]))) = Γ
 have HST := Hi (show Γ.inv [] x15 by rw [← hΓ]; exact apS_start HO.out)
 have q4_6 : ∀ q : Γ.Wd, q.w.cell? ⟨a, 6, none⟩ = some (.slice da dl dc) := by rw [← hΓ]; exact apS_cell (c := #[vs, .int .i64 sd, .pointer (some ⟨c, 0, none⟩), .int .i64 tk, .int .i64 qn, vw, .slice da dl dc]) (t := 103) 4 rfl (by decide) 6 rfl
 have q10_0 : ∀ q : Γ.Wd, q.w.cell? ⟨br, 0, none⟩ = some (.int .i64 lt) := by rw [← hΓ]; exact apS_cell (c := #[.int .i64 lt, .int .i64 er, .slice none 0 0]) (t := 75) 10 rfl (by decide) 0 rfl
 have q10_1 : ∀ q : Γ.Wd, q.w.cell? ⟨br, 1, none⟩ = some (.int .i64 er) := by rw [← hΓ]; exact apS_cell (c := #[.int .i64 lt, .int .i64 er, .slice none 0 0]) (t := 75) 10 rfl (by decide) 1 rfl
 have q10_2 : ∀ q : Γ.Wd, q.w.cell? ⟨br, 2, none⟩ = some (.slice none 0 0) := by rw [← hΓ]; exact apS_cell (c := #[.int .i64 lt, .int .i64 er, .slice none 0 0]) (t := 75) 10 rfl (by decide) 2 rfl
 have HΓ := Hi hΓ
 clear hΓ
 have ne : Nonempty Γ.Wd := ⟨⟨[], x15, HST.out⟩⟩
 refine wp_region_H Γ 10 [6, 7] (by kernel_rfl) (by kernel_rfl) (by kernel_rfl) (by kernel_rfl) HST.out ?_
 simp only [List.take, List.drop]
 iterate 6 (first | (refine wpH_want (by kernel_rfl) (by kernel_rfl) rfl rfl ?_; intro K hK; go_big_quiet_op; go_big_quiet_on) | (refine wpH_is (by kernel_rfl) (by kernel_rfl) rfl _ (fun _ w _ => rfl) ?_; simp only [Act.put, l_T, l_S, l_Z]))
 refine wpH_chainX 0 (gnth 0) (gnth_lasts _ _) (by kernel_rfl) (by kernel_rfl) (fun a' g hg hgl he => ?_) (fun d hd => ?_)
 ·
  obtain ⟨h25, _⟩ := he
  have h25' : a'.eval (.tmp 28) = .agg #[.int .i64 lt, .int .i64 er, .slice none 0 0] := h25
  refine wp_of_value (v := .slice (some ⟨g.w.heap.size, 0, none⟩) 1 1) (w' := g.w.alloc (.cells #[.int .i64 lt, .int .i64 er, .slice none 0 0] 75)) (run_v_ok ?_) ⟨_, rfl, ?_, ?_⟩
  ·
   simp only [List.map_toArray, List.map_cons, List.map_nil, h25']
   exact run_bsRn _ _ _ _ _ _
  ·
   rw [← HΓ.out] at hg ⊢
   exact apS_build hg hgl
  ·
   have : g.vs = [] := List.eq_nil_of_length_eq_zero hgl
   rw [this]; rfl
 cases hd
 simp only [List.nil_append]
 refine wpH_chainX 1 (gnth 1) (gnth_lasts _ _) (by kernel_rfl) (by kernel_rfl) (fun a' g hg hgl he => ?_) (fun d hd => ?_)
 ·
  obtain ⟨h24, h26, _⟩ := he
  have h24' : a'.eval (.tmp 27) = .slice da dl dc := h24
  rw [← HΓ.out] at hg ⊢
  exact apS_app (.tmp 27) (.tmp 29) 58 rfl Tryz.underlying58 infoRn rfl (by decide) rfl rfl (fun u hu => by simp at hu; rcases hu with rfl | rfl | rfl <;> rfl) (by have := HDL.out; unfold maxLen; omega) (by have := HDL.out; omega) hg hgl h24' h26
 cases hd
 simp only [List.cons_append, List.nil_append]
 iterate 2 (first | (refine wpH_want (by kernel_rfl) (by kernel_rfl) rfl rfl ?_; intro K hK; go_big_quiet_op; go_big_quiet_on) | (refine wpH_is (by kernel_rfl) (by kernel_rfl) rfl _ (fun _ w _ => rfl) ?_; simp only [Act.put, l_T, l_S, l_Z]))
 refine wpH_nil (by kernel_rfl) (by simp) ?_
 rintro ⟨vs5, x5⟩ hg hgl
 rw [← HΓ.out] at hg
 obtain ⟨s, v, hvs, hO⟩ := apS_end hg hgl
 obtain rfl : vs5 = [s, v] := hvs
 simp only [gexAll]
 rintro u29 - u30 hu30
 obtain rfl : v = u30 := by simpa [gnth] using hu30
 simp only [List.drop]
 clear ne HST hg hgl HΓ q4_6 q10_0 q10_1 q10_2
 obtain ⟨va, vc, hv⟩ := row_shape (hO.row 8 rfl)
 obtain ⟨vn, hvn⟩ : ∃ y, dl + 1 = y := ⟨_, rfl⟩
 rw [hvn] at hv
 subst hv
 replace HO := Hi (show Own _ _ _ [_, _, _, _, _, _, _, _, rowR (.slice va vn vc) 75 3 (dl + 1) (dn ++ [.int .i64 lt, .int .i64 er, .slice none 0 0]), _, _, _] from hO)
 clear hO
 have y4_6 := HO.out.frz 4 rfl 6
 have z4_6 : x5.cell? _ = some (.slice da dl dc) := HO.out.cell 4 rfl 6 rfl
 obtain ⟨x16, hx16, hO⟩ := HO.out.setE 4 rfl 6 (.slice va vn vc)
 replace HO := Hi (show Own _ _ _ [_, _, _, _, blkR a (.cells #[vs, .int .i64 sd, .pointer (some ⟨c, 0, none⟩), .int .i64 tk, .int .i64 qn, vw, .slice va vn vc] 103), _, _, _, _, _, _, _] from hO)
 clear hO
 have z4_5 : x16.cell? _ = some (vw) := HO.out.cell 4 rfl 5 rfl
 have hO := HO.out.toEnd 12 [1, 3, 4, 5, 6, 8, 7, 9, 0, 2] rfl rfl
 replace HO := Hi (show Own _ _ _ [rowK vk ch, glR g, blkR a (.cells #[vs, .int .i64 sd, .pointer (some ⟨c, 0, none⟩), .int .i64 tk, .int .i64 qn, vw, .slice va vn vc] 103), rowVs vs sv, resC c es, rowR (.slice va vn vc) 75 3 (dl + 1) (dn ++ [.int .i64 lt, .int .i64 er, .slice none 0 0]), rowVw vw wt, blkR bx (.cells #[.pointer (some ⟨b, 0, none⟩)] 105), blkR b (.cells #[.int .i64 lt, vk, .int .i64 tr, .int .i64 nu, .int .i64 se, .int .i64 s0] 107), resKs os] from hO)
 clear hO
 have hmf : ∀ (fn : Fn) (first cap : Array Value) (w : World), (Instr.makeFunc fn first cap).run Tryz.prog w = .ok (.func fn first cap) w := fun _ _ _ _ => rfl
 go_wp2_with fail
 refine (o_frame (A := [rowK vk ch, glR g, blkR a (.cells #[vs, .int .i64 sd, .pointer (some ⟨c, 0, none⟩), .int .i64 tk, .int .i64 qn, vw, .slice va vn vc] 103), rowVs vs sv, resC c es, rowR (.slice va vn vc) 75 3 (dl + 1) (dn ++ [.int .i64 lt, .int .i64 er, .slice none 0 0])]) (B := [rowVw vw wt, boxK bx b, blkK b vk ⟨lt, ch, tr, nu, se, s0⟩, resKs os]) (Q := fun e B' => ∃ v', e = .returned v' ∧ B' = [rowVw v' (wt.filter fun c => !(c == b)), boxK bx b, blkK b vk ⟨lt, ch, tr, nu, se, s0⟩, resKs os]) HO.out (fun D' hD => (delW wt bx b hD HB.out (fun ho => HW.out _ _ _ _ ho) (by have := HWL.out; omega)).mono fun e w' ⟨v', h1, h2, h3⟩ => ⟨_, ⟨v', h1, rfl⟩, h2, h3⟩)).mono ?_
 rintro e y6 ⟨B', ⟨v', rfl, rfl⟩, hO, -⟩
 replace HO := Hi (show Own _ _ _ [_, _, _, _, _, _, rowVw v' (wt.filter fun c => !(c == b)), boxK bx b, _, _] from hO)
 clear hO
 clear y4_6 z4_6 hx16 z4_5
 obtain ⟨wa, wc, hv⟩ := row_shape (HO.out.row 6 rfl)
 obtain ⟨wn, hwn⟩ : ∃ y, (wt.filter fun c => !(c == b)).length = y := ⟨_, rfl⟩
 rw [hwn] at hv
 subst hv
 clear hwn
 have y2_5 := HO.out.frz 2 rfl 5
 have z2_5 : y6.cell? _ = some (vw) := HO.out.cell 2 rfl 5 rfl
 obtain ⟨x17, hx17, hO⟩ := HO.out.setE 2 rfl 5 (.slice wa wn wc)
 replace HO := Hi (show Own _ _ _ [_, _, blkR a (.cells #[vs, .int .i64 sd, .pointer (some ⟨c, 0, none⟩), .int .i64 tk, .int .i64 qn, .slice wa wn wc, .slice va vn vc] 103), _, _, _, rowVw (.slice wa wn wc) (wt.filter fun c => !(c == b)), _, _, _] from hO)
 clear hO
 go_wp2
 go_end0
 exact ⟨rfl, fin_close (x := ⟨vs, c, .slice wa wn wc, .slice va vn vc⟩) (v := vk) HO.out, HO.out.size⟩
end Go.Proofs.YtbhglemolpfnkaaGreatDoor
