/- The resolver's finish and answer, at a resolver that is one thing. Printed by wip/tools/gen21n.py. -/
import Derived.Test.YtbolfkojebbejaaGreatDoorGhv
import Derived.Test.YtbolfkojebbejaaGreatDoorRrl
import Derived.Test.YtbolfkojebbejaaGreatDoorBt
import Derived.Test.YtbolfkojebbejaaGreatDoorDx
set_option linter.unusedVariables false
set_option maxRecDepth 100000
set_option maxHeartbeats 32000000
namespace Go.Proofs.YtbolfkojebbejaaGreatDoor
open Go.RowKit Go.Sort
variable {nm : ByteArray} {rs : List Rc}
attribute [local go_sem] Oper.semAt_some

def esZ (z : Rz) (es : List En) : Rz := ⟨z.sv, z.sd, es, z.tk, z.qn, z.wl, z.dn⟩
def putsF (now : Int) (rs : List Rc) (es : List En) : List En := rs.foldl (fun l r => putF now r l) es
def ansZ (now : Int) (z : Rz) (i b : Nat) (k : Lk) (cd : Int) (rs : List Rc) : Rz × List Qy :=
 if cd = 1 then (finZ (esZ z (negF now (lastN k.ch) 30 z.es)) i k.tk 211 [], [])
 else if cd = 2 ∨ ofN (lastN k.ch) rs = [] then askZ now z i b k
 else advZ now (esZ z (putsF now (relF rs (lastN k.ch)) z.es)) i b k (relF rs (lastN k.ch))
theorem en_of {t : Int} {l : List En} (h : CInv t l) : ∀ e ∈ l, e.kd = 0 ∨ e.kd = 1 ∨ vname e.to = true := fun e he => by
 rcases (h.ok e he).val with ⟨h1, _⟩ | h1
 ·
  exact .inl h1
 ·
  right
  simp only [recA, Bool.or_eq_true, Bool.and_eq_true, decide_eq_true_eq] at h1
  rcases h1 with ⟨⟨h, _⟩, _⟩ | ⟨⟨_, h⟩, _⟩
  ·
   exact .inl h
  ·
   exact .inr h
theorem esZ_ok {t : Int} {z : Rz} {es : List En} (h : ZI z) (hc : CInv t es) : ZI (esZ z es) := ⟨h.s0, h.s4, h.d0, h.d1, h.q0, h.wl, h.lk, h.dn, hc.len, hc.ap, en_of hc⟩
theorem puts_ok {t : Int} : ∀ (rs : List Rc) {es : List En}, CInv t es → CInv t (putsF t rs es)
 | [], _, h => h
 | r :: rs, _, h => puts_ok rs (h.put r)
theorem puts_take {t : Int} {es : List En} {k : Nat} (hk : k < rs.length) : putsF t (rs.take (k + 1)) es = putF t rs[k] (putsF t (rs.take k) es) := by
 unfold putsF
 rw [List.take_succ_eq_append_getElem hk, List.foldl_append]; rfl
theorem run_bdFl2 (n : Int) (w : World) : (Instr.build 219 #[(0, .int .i64 n)]).run Tryz.prog w = .ok (.agg #[.int .i64 n]) w := by kernel_rfl
section
variable {w0 w : World} {D : Nat → Prop} {L : List Res} {a b i : Nat} {z : Rz} {k : Lk} {g : Glo}
theorem glo_errI (h : Own w0 D w L) (j : Nat) (hj : L[j]? = some (glR g)) (hg : g.ok = true) : w.cell? ⟨errG, 0, none⟩ = some (errV g.a) := by
 obtain ⟨F, hF, _, _⟩ := h.step hj
 exact glo_err hg (Own.one hF)
theorem cur_own {v : Value} (h : Own w0 D w L) (j : Nat) (hj : L[j]? = some (blkK b v k)) (m : Nat) (hm : L[m]? = some (rowK v k.ch)) (h0 : 0 < k.ch.length ∧ k.ch.length ≤ 5) {s : ByteArray} (hs : lastN k.ch = s) : Calls Tryz.prog 72 #[.pointer (some ⟨b, 0, none⟩)] w fun e w' => e = .returned (.string s) ∧ Below w.heap.size w w' := by
 have hr := h.row m hm
 obtain ⟨x, c, rfl⟩ := row_shape hr
 refine current_r w (h.cell j hj 1 rfl) hr (i := k.ch.length - 1) (by omega) (by omega) ?_
 rw [← hs, List.getElem?_map, lastN_get (by omega)]; rfl
theorem finish_z {w : World} {D : Nat → Prop} (er : Int) (h : Own w D w [resZ a z, glR g]) (hz : ZI z) (hi : z.wl[i]? = some (b, k)) :
  Calls Tryz.prog 112 #[.pointer (some ⟨a, 0, none⟩), .pointer (some ⟨b, 0, none⟩), .slice none 0 0, .iface 219 (.agg #[.int .i64 er])] w (OPost w D [resZ a (finZ z i k.tk er []), glR g] (.tuple #[]) w) := by
 obtain ⟨avs, hl, hne, h1⟩ := z_open h hi
 obtain ⟨hm1, hm2⟩ := wl_mem hi
 obtain ⟨kt, kc, kr, ku, ks, kv⟩ := k
 have h2 := h1.toEnd 5 [3, 0, 1, 2, 4] rfl rfl
 refine (o_frameO (B := LF a (rvZ z avs) b ⟨kt, kc, kr, ku, ks, kv⟩ (z.wl.eraseIdx i) g) [sepR (rnRs avs z.dn)] _ h2 (fun D' hD => finish_no (er := er) (x := none) (n := 0) (cap := 0) hD hm1 hm2 (by have := hz.wl; simpa [rvZ] using this) hz.dn)).mono ?_
 rintro e w' ⟨rfl, hO, hs⟩
 have h3 := hO.rowNew 3 1
 refine ⟨rfl, ?_, hs⟩
 exact fin_shut (v := .slice none 0 0) kt hl hi hne (h3.toEnd 6 [1, 3, 0, 5, 4] rfl rfl)
abbrev ansL (a b i : Nat) (x : RvX) (v : Value) (z : Rz) (es : List En) (k : Lk) (avs : List Value) (g : Glo) (vr : Value) (rs : List Rc) : List Res :=
 [blkK b v k, rowK v k.ch, blkV a x.vs x.c x.vw x.vd z.sd z.tk z.qn, rowVs x.vs z.sv, resC x.c es, rowVw x.vw (z.wl.map (·.1)), rowVd x.vd z.dn.length (rnCs avs z.dn), resKs (z.wl.eraseIdx i), sepR (rnRs avs z.dn), glR g, rowRc vr rs]
theorem ans_open {vr : Value} (h : Own w D w [resZ a z, glR g, rowRc vr rs]) (hi : z.wl[i]? = some (b, k)) : ∃ (avs : List Value) (x : RvX) (v : Value), avs.length = z.dn.length ∧ Own w D w (ansL a b i x v z z.es k avs g vr rs) := by
 obtain ⟨avs, hl, hne, h1⟩ := z_open h hi
 obtain ⟨x, h2⟩ := openV h1
 have h3 : Own w D w (resK b k :: [blkV a x.vs x.c x.vw x.vd z.sd z.tk z.qn, rowVs x.vs z.sv, resC x.c z.es, rowVw x.vw (z.wl.map (·.1)), rowVd x.vd z.dn.length (rnCs avs z.dn), resKs (z.wl.eraseIdx i), sepR (rnRs avs z.dn), glR g, rowRc vr rs]) := h2.toEnd 10 [5, 0, 1, 2, 3, 4, 6, 7, 8, 9] rfl rfl
 obtain ⟨v, h4⟩ := openK h3
 exact ⟨avs, x, v, hl, h4⟩
theorem ans_shut {vr v : Value} {es : List En} {avs : List Value} {x : RvX} (hl : avs.length = z.dn.length) (hi : z.wl[i]? = some (b, k)) (h : Own w0 D w (ansL a b i x v z es k avs g vr rs ++ L)) : Own w0 D w (resZ a (esZ z es) :: glR g :: rowRc vr rs :: L) := by
 have h1 : Own w0 D w (resK b k :: ([blkV a x.vs x.c x.vw x.vd z.sd z.tk z.qn, rowVs x.vs z.sv, resC x.c es, rowVw x.vw (z.wl.map (·.1)), rowVd x.vd z.dn.length (rnCs avs z.dn)] ++ resKs (z.wl.eraseIdx i) :: (sepR (rnRs avs z.dn) :: glR g :: rowRc vr rs :: L))) := shutK h
 have h2 : Own w0 D w (resK b k :: resKs (z.wl.eraseIdx i) :: ([blkV a x.vs x.c x.vw x.vd z.sd z.tk z.qn, rowVs x.vs z.sv, resC x.c es, rowVw x.vw (z.wl.map (·.1)), rowVd x.vd z.dn.length (rnCs avs z.dn)] ++ (sepR (rnRs avs z.dn) :: glR g :: rowRc vr rs :: L))) := h1.perm (List.Perm.cons _ (List.perm_middle (l₁ := [_, _, _, _, _])))
 have h3 := putK (get_len hi) h2
 have e0 : z.wl.set i (b, k) = z.wl := by
  obtain ⟨hil, hie⟩ := List.getElem?_eq_some_iff.1 hi
  rw [← hie]; exact List.set_getElem_self hil
 rw [e0] at h3
 have h4 : Own w0 D w ([blkV a x.vs x.c x.vw x.vd z.sd z.tk z.qn, rowVs x.vs z.sv, resC x.c es, rowVw x.vw (z.wl.map (·.1)), rowVd x.vd z.dn.length (rnCs avs z.dn)] ++ resKs z.wl :: (sepR (rnRs avs z.dn) :: glR g :: rowRc vr rs :: L)) := h3.perm (List.perm_middle (l₁ := [_, _, _, _, _])).symm
 exact shutZ (z := esZ z es) hl (shutV (x := x) (st := rvZ (esZ z es) avs) h4)
end
theorem answer_1 {w : World} {D : Nat → Prop} {a b i : Nat} {z z' : Rz} {k : Lk} {g : Glo} {q : List Qy} {now id cd kd : Int} {an : Bool} {vr : Value} (h : Own w D w [resZ a z, glR g, rowRc vr rs]) (hz : ZI z) (hc : CInv now z.es) (hg : g.ok = true) (q1 : z.qn ≤ 100000) (hrl : rs.length ≤ 200) (hrs : ∀ r ∈ rs, r.kd = 1 ∨ vname r.to = true) (hsz : ∀ r ∈ rs, r.nm.size ≤ maxLen ∧ r.to.size ≤ maxLen) (hi : z.wl[i]? = some (b, k)) (hcd : cd = 1) (hr : ansZ now z i b k cd rs = (z', q)) :
  Calls Tryz.prog 73 #[.pointer (some ⟨a, 0, none⟩), .int .i64 now, .pointer (some ⟨b, 0, none⟩), .agg #[.int .i64 id, .bool an, .int .i64 cd, .string nm, .int .i64 kd, vr]] w (VPost w D w fun u => [resZ a z', glR g, rowRc vr rs, rowQs u q]) := by
 have hk := hz.lk _ (List.mem_of_getElem? hi)
 have HZ := Hi hz
 have HI := Hi hi
 have HCI := Hi hc
 have HG := Hi hg
 have HQ1 := Hi q1
 have HRL := Hi hrl
 have HRS := Hi (And.intro hrs hsz)
 have HCH := Hi (show 0 < k.ch.length ∧ k.ch.length ≤ 5 from ⟨hk.c0, hk.c1⟩)
 have HRW := Hi (h.row 2 rfl)
 obtain ⟨avs, ⟨vsv, c, vw, vd⟩, v, hl, hO⟩ := ans_open h hi
 have HAL := Hi hl
 obtain ⟨s, hs⟩ : ∃ s, lastN k.ch = s := ⟨_, rfl⟩
 have HS := Hi hs
 have HNS := Hi (show s.size ≤ maxLen from by
  have h1 := hk.nm _ (lastN_mem hk.c0)
  rw [hs] at h1
  have := vname_sz h1
  unfold maxLen; omega)
 obtain ⟨ra, rc, hvr⟩ := row_shape HRW.out
 obtain ⟨n, hn⟩ : ∃ n, rs.length = n := ⟨_, rfl⟩
 have HN := Hi hn
 rw [hn] at hvr
 subst hvr
 have hin := iface_nil
 have rbf := run_bdFl2
 have HO := Hi (show Own w D w (ansL a b i ⟨vsv, c, vw, vd⟩ v z z.es k avs g (.slice ra n rc) rs) from hO)
 clear hO h hl hs hn hz hi hc hg q1 hrl hrs hsz hk HRW
 subst hcd
 replace HO := Hi (show Own w D w [blkR b (.cells #[.int .i64 k.tk, v, .int .i64 k.tr, .int .i64 k.nu, .int .i64 k.se, .int .i64 k.sv] 131), rowK v k.ch, blkR a (.cells #[vsv, .int .i64 z.sd, .pointer (some ⟨c, 0, none⟩), .int .i64 z.tk, .int .i64 z.qn, vw, vd] 128), rowVs vsv z.sv, resC c z.es, rowVw vw (z.wl.map (·.1)), rowVd vd z.dn.length (rnCs avs z.dn), resKs (z.wl.eraseIdx i), sepR (rnRs avs z.dn), glR g, rowRc (.slice ra n rc) rs] from HO.out)
 obtain ⟨x1, hx1, bx, hbx, hO⟩ := HO.out.allocE (.cells #[.int .i64 id, .bool an, .int .i64 1, .string nm, .int .i64 kd, .slice ra n rc] 86)
 replace HO := Hi (show Own _ _ _ [_, _, _, _, _, _, _, _, _, _, _, blkR bx (.cells #[.int .i64 id, .bool an, .int .i64 1, .string nm, .int .i64 kd, .slice ra n rc] 86)] from hO)
 clear hO
 obtain ⟨z11_0, z11_1, z11_2, z11_3, z11_4, z11_5⟩ := HO.out.c6 11 rfl
 go_enter Tryz.func73, Tryz.ntmps73
 obtain ⟨es1, hes⟩ : ∃ l, negF now s 30 z.es = l := ⟨_, rfl⟩
 obtain ⟨en, hen⟩ : ∃ l, negE now s 30 = l := ⟨_, rfl⟩
 have HE := Hi (And.intro hes hen)
 clear hes hen
 go_wp2
 generalize hΓ : ghO w D [[blkR b (.cells #[.int .i64 k.tk, v, .int .i64 k.tr, .int .i64 k.nu, .int .i64 k.se, .int .i64 k.sv] 131), rowK v k.ch, blkR a (.cells #[vsv, .int .i64 z.sd, .pointer (some ⟨c, 0, none⟩), .int .i64 z.tk, .int .i64 z.qn, vw, vd] 128), rowVs vsv z.sv, resC c z.es, rowVw vw (z.wl.map (·.1)), rowVd vd z.dn.length (rnCs avs z.dn), resKs (z.wl.eraseIdx i), sepR (rnRs avs z.dn), glR g, rowRc (.slice ra n rc) rs, blkR bx (.cells #[.int .i64 id, .bool an, .int .i64 1, .string nm, .int .i64 kd, .slice ra n rc] 86)], [blkR b (.cells #[.int .i64 k.tk, v, .int .i64 k.tr, .int .i64 k.nu, .int .i64 k.se, .int .i64 k.sv] 131), rowK v k.ch, blkR a (.cells #[vsv, .int .i64 z.sd, .pointer (some ⟨c, 0, none⟩), .int .i64 z.tk, .int .i64 z.qn, vw, vd] 128), rowVs vsv z.sv, resC c es1, rowVw vw (z.wl.map (·.1)), rowVd vd z.dn.length (rnCs avs z.dn), resKs (z.wl.eraseIdx i), sepR (rnRs avs z.dn), glR g, rowRc (.slice ra n rc) rs, blkR bx (.cells #[.int .i64 id, .bool an, .int .i64 1, .string nm, .int .i64 kd, .slice ra n rc] 86)]] = Γ
 have HST := Hi (show Γ.inv [] x1 by rw [← hΓ]; exact ghO_start HO.out)
 have q2_0 : ∀ q : Γ.Wd, q.w.cell? ⟨a, 0, none⟩ = some (vsv) := by rw [← hΓ]; exact ghO_cell (c := #[vsv, .int .i64 z.sd, .pointer (some ⟨c, 0, none⟩), .int .i64 z.tk, .int .i64 z.qn, vw, vd]) (t := 128) 2 (by simp) 0 rfl
 have q2_1 : ∀ q : Γ.Wd, q.w.cell? ⟨a, 1, none⟩ = some (.int .i64 z.sd) := by rw [← hΓ]; exact ghO_cell (c := #[vsv, .int .i64 z.sd, .pointer (some ⟨c, 0, none⟩), .int .i64 z.tk, .int .i64 z.qn, vw, vd]) (t := 128) 2 (by simp) 1 rfl
 have q2_2 : ∀ q : Γ.Wd, q.w.cell? ⟨a, 2, none⟩ = some (.pointer (some ⟨c, 0, none⟩)) := by rw [← hΓ]; exact ghO_cell (c := #[vsv, .int .i64 z.sd, .pointer (some ⟨c, 0, none⟩), .int .i64 z.tk, .int .i64 z.qn, vw, vd]) (t := 128) 2 (by simp) 2 rfl
 have q2_3 : ∀ q : Γ.Wd, q.w.cell? ⟨a, 3, none⟩ = some (.int .i64 z.tk) := by rw [← hΓ]; exact ghO_cell (c := #[vsv, .int .i64 z.sd, .pointer (some ⟨c, 0, none⟩), .int .i64 z.tk, .int .i64 z.qn, vw, vd]) (t := 128) 2 (by simp) 3 rfl
 have q2_4 : ∀ q : Γ.Wd, q.w.cell? ⟨a, 4, none⟩ = some (.int .i64 z.qn) := by rw [← hΓ]; exact ghO_cell (c := #[vsv, .int .i64 z.sd, .pointer (some ⟨c, 0, none⟩), .int .i64 z.tk, .int .i64 z.qn, vw, vd]) (t := 128) 2 (by simp) 4 rfl
 have q2_5 : ∀ q : Γ.Wd, q.w.cell? ⟨a, 5, none⟩ = some (vw) := by rw [← hΓ]; exact ghO_cell (c := #[vsv, .int .i64 z.sd, .pointer (some ⟨c, 0, none⟩), .int .i64 z.tk, .int .i64 z.qn, vw, vd]) (t := 128) 2 (by simp) 5 rfl
 have q2_6 : ∀ q : Γ.Wd, q.w.cell? ⟨a, 6, none⟩ = some (vd) := by rw [← hΓ]; exact ghO_cell (c := #[vsv, .int .i64 z.sd, .pointer (some ⟨c, 0, none⟩), .int .i64 z.tk, .int .i64 z.qn, vw, vd]) (t := 128) 2 (by simp) 6 rfl
 have HΓ := Hi hΓ
 clear hΓ
 have ne : Nonempty Γ.Wd := ⟨⟨[], x1, HST.out⟩⟩
 have HCU := Hi (show ∀ vs w, Γ.inv vs w → Calls Tryz.prog 72 #[.pointer (some ⟨b, 0, none⟩)] w (fun e w' => e = .returned (.string s) ∧ Below w.heap.size w w') by rw [← HΓ.out]; exact ghO_all2 (P := fun w => Calls Tryz.prog 72 #[.pointer (some ⟨b, 0, none⟩)] w (fun e w' => e = .returned (.string s) ∧ Below w.heap.size w w')) (fun w h => cur_own h 0 rfl 1 rfl HCH.out HS.out) (fun w h => cur_own h 0 rfl 1 rfl HCH.out HS.out))
 refine wp_region_H Γ 8 [7] (by kernel_rfl) (by kernel_rfl) (by kernel_rfl) (by kernel_rfl) HST.out ?_
 simp only [List.take, List.drop]
 iterate 6 (first | (refine wpH_want (by kernel_rfl) (by kernel_rfl) rfl rfl ?_; intro K hK; go_big_quiet_op; go_big_quiet_on) | (refine wpH_is (by kernel_rfl) (by kernel_rfl) rfl _ (fun _ w _ => rfl) ?_; simp only [Act.put, l_T, l_S, l_Z]))
 refine wpH_call (by kernel_rfl) (by kernel_rfl) rfl 72 #[.pointer (some ⟨b, 0, none⟩)] (.string s) (fun w => by simp [go_sem]) (fun vs w hg => HCU.out vs w hg) ?_
 simp only [Act.put, l_T, l_S, l_Z]
 refine wpH_chain 0 (by kernel_rfl) (by kernel_rfl) rfl 123 #[.pointer (some ⟨c, 0, none⟩), .int .i64 now, .string s, .int .i64 30] (.int .i64 en) (fun w => by simp [go_sem]) (fun vs w hg hvs => by
  rw [← HΓ.out] at hg ⊢
  exact ghO_call 0 hg hvs rfl rfl fun ho => neg_r now s 30 ho 4 rfl (glo_errI ho 9 rfl HG.out) HNS.out HCI.out.len HE.out.1 HE.out.2) ?_
 simp only [Act.put, l_T, l_S, l_Z]
 refine wpH_nil (by kernel_rfl) (by simp) ?_
 rintro ⟨vs, x9⟩ hg hgl
 rw [← HΓ.out] at hg
 replace HO := Hi (ghO_at hg 1 hgl rfl)
 simp only [gexAll, List.drop]
 clear q2_0 q2_1 q2_2 q2_3 q2_4 q2_5 q2_6 HCU ne HST hg hgl HΓ
 replace HO := Hi (show Own w D x9 [blkR b (.cells #[.int .i64 k.tk, v, .int .i64 k.tr, .int .i64 k.nu, .int .i64 k.se, .int .i64 k.sv] 131), rowK v k.ch, blkR a (.cells #[vsv, .int .i64 z.sd, .pointer (some ⟨c, 0, none⟩), .int .i64 z.tk, .int .i64 z.qn, vw, vd] 128), rowVs vsv z.sv, resC c es1, rowVw vw (z.wl.map (·.1)), rowVd vd z.dn.length (rnCs avs z.dn), resKs (z.wl.eraseIdx i), sepR (rnRs avs z.dn), glR g, rowRc (.slice ra n rc) rs, blkR bx (.cells #[.int .i64 id, .bool an, .int .i64 1, .string nm, .int .i64 kd, .slice ra n rc] 86)] from HO.out)
 clear hx1 hbx z11_0 z11_1 z11_2 z11_3 z11_4 z11_5
 have HZ1 := Hi (esZ_ok HZ.out (show CInv now es1 by rw [← HE.out.1]; exact HCI.out.neg s 30))
 have HO2 := Hi ((ans_shut (x := ⟨vsv, c, vw, vd⟩) HAL.out HI.out HO.out).toEnd 4 [2, 0, 1] rfl rfl)
 clear HO
 go_wp2_with fail
 refine (o_frameO [rowRc (.slice ra n rc) rs] [resZ a (esZ z es1), glR g] _ HO2.out (fun D' hD => finish_z 211 hD HZ1.out HI.out)).mono ?_
 rintro e x10 ⟨rfl, hO, -⟩
 have hO2 := (hO.rowNew 37 3).toEnd 4 [1, 2, 0, 3] rfl rfl
 have HOF := Hi (show Own w D x10 [resZ a z', glR g, rowRc (.slice ra n rc) rs, rowQs (.slice none 0 0) q] by
  have e1 : ansZ now z i b k 1 rs = (finZ (esZ z es1) i k.tk 211 [], []) := by unfold ansZ; rw [if_pos rfl, HS.out, HE.out.1]
  rw [e1] at hr
  cases hr
  exact hO2)
 clear hO hO2 HO2 hr
 go_wp2
 go_ret
 exact ⟨_, rfl, HOF.out, HOF.out.size⟩
theorem answer_2 {w : World} {D : Nat → Prop} {a b i : Nat} {z z' : Rz} {k : Lk} {g : Glo} {q : List Qy} {now id cd kd : Int} {an : Bool} {vr : Value} (h : Own w D w [resZ a z, glR g, rowRc vr rs]) (hz : ZI z) (hc : CInv now z.es) (hg : g.ok = true) (q1 : z.qn ≤ 100000) (hrl : rs.length ≤ 200) (hrs : ∀ r ∈ rs, r.kd = 1 ∨ vname r.to = true) (hsz : ∀ r ∈ rs, r.nm.size ≤ maxLen ∧ r.to.size ≤ maxLen) (hi : z.wl[i]? = some (b, k)) (hcd : cd = 2) (hr : ansZ now z i b k cd rs = (z', q)) :
  Calls Tryz.prog 73 #[.pointer (some ⟨a, 0, none⟩), .int .i64 now, .pointer (some ⟨b, 0, none⟩), .agg #[.int .i64 id, .bool an, .int .i64 cd, .string nm, .int .i64 kd, vr]] w (VPost w D w fun u => [resZ a z', glR g, rowRc vr rs, rowQs u q]) := by
 have hk := hz.lk _ (List.mem_of_getElem? hi)
 have HZ := Hi hz
 have HI := Hi hi
 have HCI := Hi hc
 have HG := Hi hg
 have HQ1 := Hi q1
 have HRL := Hi hrl
 have HRS := Hi (And.intro hrs hsz)
 have HCH := Hi (show 0 < k.ch.length ∧ k.ch.length ≤ 5 from ⟨hk.c0, hk.c1⟩)
 have HRW := Hi (h.row 2 rfl)
 obtain ⟨avs, ⟨vsv, c, vw, vd⟩, v, hl, hO⟩ := ans_open h hi
 have HAL := Hi hl
 obtain ⟨s, hs⟩ : ∃ s, lastN k.ch = s := ⟨_, rfl⟩
 have HS := Hi hs
 have HNS := Hi (show s.size ≤ maxLen from by
  have h1 := hk.nm _ (lastN_mem hk.c0)
  rw [hs] at h1
  have := vname_sz h1
  unfold maxLen; omega)
 obtain ⟨ra, rc, hvr⟩ := row_shape HRW.out
 obtain ⟨n, hn⟩ : ∃ n, rs.length = n := ⟨_, rfl⟩
 have HN := Hi hn
 rw [hn] at hvr
 subst hvr
 have hin := iface_nil
 have rbf := run_bdFl2
 have HO := Hi (show Own w D w (ansL a b i ⟨vsv, c, vw, vd⟩ v z z.es k avs g (.slice ra n rc) rs) from hO)
 clear hO h hl hs hn hz hi hc hg q1 hrl hrs hsz hk HRW
 subst hcd
 replace HO := Hi (show Own w D w [blkR b (.cells #[.int .i64 k.tk, v, .int .i64 k.tr, .int .i64 k.nu, .int .i64 k.se, .int .i64 k.sv] 131), rowK v k.ch, blkR a (.cells #[vsv, .int .i64 z.sd, .pointer (some ⟨c, 0, none⟩), .int .i64 z.tk, .int .i64 z.qn, vw, vd] 128), rowVs vsv z.sv, resC c z.es, rowVw vw (z.wl.map (·.1)), rowVd vd z.dn.length (rnCs avs z.dn), resKs (z.wl.eraseIdx i), sepR (rnRs avs z.dn), glR g, rowRc (.slice ra n rc) rs] from HO.out)
 obtain ⟨x1, hx1, bx, hbx, hO⟩ := HO.out.allocE (.cells #[.int .i64 id, .bool an, .int .i64 2, .string nm, .int .i64 kd, .slice ra n rc] 86)
 replace HO := Hi (show Own _ _ _ [_, _, _, _, _, _, _, _, _, _, _, blkR bx (.cells #[.int .i64 id, .bool an, .int .i64 2, .string nm, .int .i64 kd, .slice ra n rc] 86)] from hO)
 clear hO
 obtain ⟨z11_0, z11_1, z11_2, z11_3, z11_4, z11_5⟩ := HO.out.c6 11 rfl
 go_enter Tryz.func73, Tryz.ntmps73
 have HAS := Hi (show askZ now z i b k = (z', q) by rw [← hr]; unfold ansZ; rw [if_neg (by decide), if_pos (.inl rfl)])
 clear hr
 go_wp2
 obtain ⟨-, -, g11_2, -, -, g11_5⟩ := HO.out.g6 11 rfl
 refine wp_region_B (by kernel_rfl) (by kernel_rfl) ?_
 repeat (go_big_quiet_step (fail))
 refine wpQuiet_nil ?_
 intro y1 hbw
 have hO := HO.out.stay hbw
 replace HO := Hi hO
 clear hO hbw g11_2 g11_5
 clear hx1 hbx z11_0 z11_1 z11_2 z11_3 z11_4 z11_5
 have HO2 := Hi ((ans_shut (es := z.es) (x := ⟨vsv, c, vw, vd⟩) HAL.out HI.out HO.out).toEnd 4 [2, 0, 1] rfl rfl)
 clear HO
 go_wp2_with fail
 refine (o_frameV [rowRc (.slice ra n rc) rs] [resZ a z, glR g] (fun u => [resZ a z', glR g, rowQs u q]) HO2.out (fun D' hD => again_z hD HZ.out HQ1.out HI.out HAS.out)).mono ?_
 rintro e x30 ⟨u, rfl, hO, -⟩
 have HOF := Hi (hO.toEnd 4 [1, 2, 0, 3] rfl rfl)
 clear hO HO2
 go_wp2
 go_ret
 exact ⟨_, rfl, HOF.out, HOF.out.size⟩
theorem answer_3 {w : World} {D : Nat → Prop} {a b i : Nat} {z z' : Rz} {k : Lk} {g : Glo} {q : List Qy} {now id cd kd : Int} {an : Bool} {vr : Value} (h : Own w D w [resZ a z, glR g, rowRc vr rs]) (hz : ZI z) (hc : CInv now z.es) (hg : g.ok = true) (q1 : z.qn ≤ 100000) (hrl : rs.length ≤ 200) (hrs : ∀ r ∈ rs, r.kd = 1 ∨ vname r.to = true) (hsz : ∀ r ∈ rs, r.nm.size ≤ maxLen ∧ r.to.size ≤ maxLen) (hi : z.wl[i]? = some (b, k)) (hcd : cd ≠ 1 ∧ cd ≠ 2) (hr : ansZ now z i b k cd rs = (z', q)) :
  Calls Tryz.prog 73 #[.pointer (some ⟨a, 0, none⟩), .int .i64 now, .pointer (some ⟨b, 0, none⟩), .agg #[.int .i64 id, .bool an, .int .i64 cd, .string nm, .int .i64 kd, vr]] w (VPost w D w fun u => [resZ a z', glR g, rowRc vr rs, rowQs u q]) := by
 have hk := hz.lk _ (List.mem_of_getElem? hi)
 have HZ := Hi hz
 have HI := Hi hi
 have HCI := Hi hc
 have HG := Hi hg
 have HQ1 := Hi q1
 have HRL := Hi hrl
 have HRS := Hi (And.intro hrs hsz)
 have HCH := Hi (show 0 < k.ch.length ∧ k.ch.length ≤ 5 from ⟨hk.c0, hk.c1⟩)
 have HRW := Hi (h.row 2 rfl)
 obtain ⟨avs, ⟨vsv, c, vw, vd⟩, v, hl, hO⟩ := ans_open h hi
 have HAL := Hi hl
 obtain ⟨s, hs⟩ : ∃ s, lastN k.ch = s := ⟨_, rfl⟩
 have HS := Hi hs
 have HNS := Hi (show s.size ≤ maxLen from by
  have h1 := hk.nm _ (lastN_mem hk.c0)
  rw [hs] at h1
  have := vname_sz h1
  unfold maxLen; omega)
 obtain ⟨ra, rc, hvr⟩ := row_shape HRW.out
 obtain ⟨n, hn⟩ : ∃ n, rs.length = n := ⟨_, rfl⟩
 have HN := Hi hn
 rw [hn] at hvr
 subst hvr
 have hin := iface_nil
 have rbf := run_bdFl2
 have HO := Hi (show Own w D w (ansL a b i ⟨vsv, c, vw, vd⟩ v z z.es k avs g (.slice ra n rc) rs) from hO)
 clear hO h hl hs hn hz hi hc hg q1 hrl hrs hsz hk HRW
 have hd1 : (cd == 1) = false := beq_eq_false_iff_ne.2 hcd.1
 have hd2 : (cd == 2) = false := beq_eq_false_iff_ne.2 hcd.2
 obtain ⟨m, hm⟩ : ∃ m, (ofN s rs).length = m := ⟨_, rfl⟩
 have HM := Hi hm
 have hmn : m ≤ 200 := by rw [← hm, ← HN.out] at *; exact Nat.le_trans (List.length_filter_le _ _) HRL.out
 clear hm
 replace HO := Hi (show Own w D w [blkR b (.cells #[.int .i64 k.tk, v, .int .i64 k.tr, .int .i64 k.nu, .int .i64 k.se, .int .i64 k.sv] 131), rowK v k.ch, blkR a (.cells #[vsv, .int .i64 z.sd, .pointer (some ⟨c, 0, none⟩), .int .i64 z.tk, .int .i64 z.qn, vw, vd] 128), rowVs vsv z.sv, resC c z.es, rowVw vw (z.wl.map (·.1)), rowVd vd z.dn.length (rnCs avs z.dn), resKs (z.wl.eraseIdx i), sepR (rnRs avs z.dn), glR g, rowRc (.slice ra n rc) rs] from HO.out)
 obtain ⟨x1, hx1, bx, hbx, hO⟩ := HO.out.allocE (.cells #[.int .i64 id, .bool an, .int .i64 cd, .string nm, .int .i64 kd, .slice ra n rc] 86)
 replace HO := Hi (show Own _ _ _ [_, _, _, _, _, _, _, _, _, _, _, blkR bx (.cells #[.int .i64 id, .bool an, .int .i64 cd, .string nm, .int .i64 kd, .slice ra n rc] 86)] from hO)
 clear hO
 obtain ⟨z11_0, z11_1, z11_2, z11_3, z11_4, z11_5⟩ := HO.out.c6 11 rfl
 go_enter Tryz.func73, Tryz.ntmps73
 go_wp2
 generalize hΓ : ghV w D [blkR b (.cells #[.int .i64 k.tk, v, .int .i64 k.tr, .int .i64 k.nu, .int .i64 k.se, .int .i64 k.sv] 131), rowK v k.ch, blkR a (.cells #[vsv, .int .i64 z.sd, .pointer (some ⟨c, 0, none⟩), .int .i64 z.tk, .int .i64 z.qn, vw, vd] 128), rowVs vsv z.sv, resC c z.es, rowVw vw (z.wl.map (·.1)), rowVd vd z.dn.length (rnCs avs z.dn), resKs (z.wl.eraseIdx i), sepR (rnRs avs z.dn), glR g, rowRc (.slice ra n rc) rs, blkR bx (.cells #[.int .i64 id, .bool an, .int .i64 cd, .string nm, .int .i64 kd, .slice ra n rc] 86)] (fun uV => [blkR b (.cells #[.int .i64 k.tk, v, .int .i64 k.tr, .int .i64 k.nu, .int .i64 k.se, .int .i64 k.sv] 131), rowK v k.ch, blkR a (.cells #[vsv, .int .i64 z.sd, .pointer (some ⟨c, 0, none⟩), .int .i64 z.tk, .int .i64 z.qn, vw, vd] 128), rowVs vsv z.sv, resC c z.es, rowVw vw (z.wl.map (·.1)), rowVd vd z.dn.length (rnCs avs z.dn), resKs (z.wl.eraseIdx i), sepR (rnRs avs z.dn), glR g, rowRc (.slice ra n rc) rs, blkR bx (.cells #[.int .i64 id, .bool an, .int .i64 cd, .string nm, .int .i64 kd, .slice ra n rc] 86), rowR uV 49 5 m ((ofN s rs).flatMap cRc)]) = Γ
 have HST := Hi (show Γ.inv [] x1 by rw [← hΓ]; exact ghV_start HO.out)
 have q11_2 : ∀ q : Γ.Wd, q.w.cell? ⟨bx, 2, none⟩ = some (.int .i64 cd) := by rw [← hΓ]; exact ghV_cell (c := #[.int .i64 id, .bool an, .int .i64 cd, .string nm, .int .i64 kd, .slice ra n rc]) (t := 86) 11 rfl (fun _ => rfl) 2 rfl
 have q11_5 : ∀ q : Γ.Wd, q.w.cell? ⟨bx, 5, none⟩ = some (.slice ra n rc) := by rw [← hΓ]; exact ghV_cell (c := #[.int .i64 id, .bool an, .int .i64 cd, .string nm, .int .i64 kd, .slice ra n rc]) (t := 86) 11 rfl (fun _ => rfl) 5 rfl
 have HCU := Hi (show ∀ vs w, Γ.inv vs w → Calls Tryz.prog 72 #[.pointer (some ⟨b, 0, none⟩)] w (fun e w' => e = .returned (.string s) ∧ Below w.heap.size w w') by rw [← hΓ]; exact ghV_all (P := fun w => Calls Tryz.prog 72 #[.pointer (some ⟨b, 0, none⟩)] w (fun e w' => e = .returned (.string s) ∧ Below w.heap.size w w')) (fun w h => cur_own h 0 rfl 1 rfl HCH.out HS.out) (fun uV w h => cur_own h 0 rfl 1 rfl HCH.out HS.out))
 have HΓ := Hi hΓ
 clear hΓ
 have ne : Nonempty Γ.Wd := ⟨⟨[], x1, HST.out⟩⟩
 refine wp_region_H Γ 12 [8] (by kernel_rfl) (by kernel_rfl) (by kernel_rfl) (by kernel_rfl) HST.out ?_
 simp only [List.take, List.drop]
 iterate 7 (first | (refine wpH_want (by kernel_rfl) (by kernel_rfl) rfl rfl ?_; intro K hK; go_big_quiet_op; go_big_quiet_on) | (refine wpH_is (by kernel_rfl) (by kernel_rfl) rfl _ (fun _ w _ => rfl) ?_; simp only [Act.put, l_T, l_S, l_Z]))
 refine wpH_call (by kernel_rfl) (by kernel_rfl) rfl 72 #[.pointer (some ⟨b, 0, none⟩)] (.string s) (fun w => by simp [go_sem]) (fun vs w hg => HCU.out vs w hg) ?_
 simp only [Act.put, l_T, l_S, l_Z]
 refine wpH_chainG 0 (gnth 0) (gnth_lasts _ _) (by kernel_rfl) (by kernel_rfl) rfl (fun a' g hg hgl he => ?_) (fun d hd => ?_)
 ·
  obtain ⟨h35, h37, _⟩ := he
  have h35' : a'.tmps.getD 35 undef = .slice ra n rc := h35
  have h37' : a'.tmps.getD 37 undef = .string s := h37
  refine wp_callG (f := 124) (args := #[.slice ra n rc, .string s]) (by simp [go_sem, Act.eval, h35', h37']) ?_
  obtain ⟨vs, wg⟩ := g
  obtain rfl : vs = [] := List.eq_nil_of_length_eq_zero hgl
  rw [← HΓ.out] at hg ⊢
  refine (ghV_call hg (fun D' ho => (o_frameV [blkR b (.cells #[.int .i64 k.tk, v, .int .i64 k.tr, .int .i64 k.nu, .int .i64 k.se, .int .i64 k.sv] 131), rowK v k.ch, blkR a (.cells #[vsv, .int .i64 z.sd, .pointer (some ⟨c, 0, none⟩), .int .i64 z.tk, .int .i64 z.qn, vw, vd] 128), rowVs vsv z.sv, resC c z.es, rowVw vw (z.wl.map (·.1)), rowVd vd z.dn.length (rnCs avs z.dn), resKs (z.wl.eraseIdx i), sepR (rnRs avs z.dn), glR g, blkR bx (.cells #[.int .i64 id, .bool an, .int .i64 cd, .string nm, .int .i64 kd, .slice ra n rc] 86)] [rowRc (.slice ra n rc) rs] (fun u => [rowRc (.slice ra n rc) rs, rowRc u (ofN s rs)]) (ho.toEnd 12 [0, 1, 2, 3, 4, 5, 6, 7, 8, 9, 11, 10] rfl rfl) (fun D2 hD => named_o s hD (by have := HRL.out; omega))).mono fun e w' ⟨u, h1, h2, h3⟩ => ⟨u, h1, by have h4 := h2.toEnd 13 [0, 1, 2, 3, 4, 5, 6, 7, 8, 9, 11, 10, 12] rfl rfl; unfold rowRc at h4; rw [HM.out] at h4; exact h4, h3⟩)).mono ?_
  rintro e w' ⟨u, rfl, hmv⟩
  exact ⟨u, rfl, _, rfl, hmv, rfl⟩
 cases hd
 simp only [List.nil_append]
 refine wpH_knownG (.int .i64 (m)) (by kernel_rfl) (by kernel_rfl) rfl (fun a' g hg he => ?_) ?_
 ·
  obtain ⟨hs, _⟩ := he
  have hs' : g.vs[0]? = some (a'.tmps.getD 38 undef) := hs
  rw [← HΓ.out] at hg
  obtain ⟨xa, xc, hx⟩ := ghV_row hg 12 (fun _ => rfl) hs'
  simp [go_sem, hx]
  exact Below.refl _ _
 simp only [Act.put, l_T, l_S, l_Z]
 cases hm0 : ((m : Int) == 0) with
 | true =>
  iterate 2 (first | (refine wpH_want (by kernel_rfl) (by kernel_rfl) rfl rfl ?_; intro K hK; go_big_quiet_op; go_big_quiet_on) | (refine wpH_is (by kernel_rfl) (by kernel_rfl) rfl _ (fun _ w _ => rfl) ?_; simp only [Act.put, l_T, l_S, l_Z]))
  refine wpH_nil (by kernel_rfl) (by simp) ?_
  rintro ⟨vs, x20⟩ hg hgl
  rw [← HΓ.out] at hg
  simp only [gexAll]
  rintro u38 hu38
  obtain ⟨vn, rfl⟩ : ∃ v, vs = [v] := List.length_eq_one_iff.1 hgl
  obtain rfl : vn = u38 := by simpa [gnth] using hu38
  simp only [Act.put, l_T, l_S, l_Z]
  simp only [List.drop]
  replace HO := Hi (ghV_at hg)
  clear q11_2 q11_5 HCU ne HST hg hgl HΓ hu38
  replace HO := Hi (show Own w D x20 [blkR b (.cells #[.int .i64 k.tk, v, .int .i64 k.tr, .int .i64 k.nu, .int .i64 k.se, .int .i64 k.sv] 131), rowK v k.ch, blkR a (.cells #[vsv, .int .i64 z.sd, .pointer (some ⟨c, 0, none⟩), .int .i64 z.tk, .int .i64 z.qn, vw, vd] 128), rowVs vsv z.sv, resC c z.es, rowVw vw (z.wl.map (·.1)), rowVd vd z.dn.length (rnCs avs z.dn), resKs (z.wl.eraseIdx i), sepR (rnRs avs z.dn), glR g, rowRc (.slice ra n rc) rs, blkR bx (.cells #[.int .i64 id, .bool an, .int .i64 cd, .string nm, .int .i64 kd, .slice ra n rc] 86), rowR vn 49 5 m ((ofN s rs).flatMap cRc)] from HO.out)
  clear hx1 hbx z11_0 z11_1 z11_2 z11_3 z11_4 z11_5
  have HAS := Hi (show askZ now z i b k = (z', q) by
   have h0 : ofN s rs = [] := List.eq_nil_of_length_eq_zero (by have := beq_iff_eq.1 hm0; have := HM.out; omega)
   rw [← hr]; unfold ansZ; rw [if_neg hcd.1, if_pos (.inr (by rw [HS.out]; exact h0))])
  clear hr hcd hm0 hmn
  have HO2 := Hi ((ans_shut (es := z.es) (x := ⟨vsv, c, vw, vd⟩) HAL.out HI.out HO.out).toEnd 5 [2, 0, 1] rfl rfl)
  clear HO
  go_wp2_with fail
  refine (o_frameV [rowRc (.slice ra n rc) rs] [resZ a z, glR g] (fun u => [resZ a z', glR g, rowQs u q]) HO2.out (fun D' hD => again_z hD HZ.out HQ1.out HI.out HAS.out)).mono ?_
  rintro e x30 ⟨u, rfl, hO, -⟩
  have HOF := Hi (hO.toEnd 4 [1, 2, 0, 3] rfl rfl)
  clear hO HO2
  go_wp2
  go_ret
  exact ⟨_, rfl, HOF.out, HOF.out.size⟩
 | false =>
  iterate 2 (first | (refine wpH_want (by kernel_rfl) (by kernel_rfl) rfl rfl ?_; intro K hK; go_big_quiet_op; go_big_quiet_on) | (refine wpH_is (by kernel_rfl) (by kernel_rfl) rfl _ (fun _ w _ => rfl) ?_; simp only [Act.put, l_T, l_S, l_Z]))
  refine wpH_nil (by kernel_rfl) (by simp) ?_
  rintro ⟨vs, x20⟩ hg hgl
  rw [← HΓ.out] at hg
  simp only [gexAll]
  rintro u38 hu38
  obtain ⟨vn, rfl⟩ : ∃ v, vs = [v] := List.length_eq_one_iff.1 hgl
  obtain rfl : vn = u38 := by simpa [gnth] using hu38
  simp only [Act.put, l_T, l_S, l_Z]
  simp only [List.drop]
  replace HO := Hi (ghV_at hg)
  clear q11_2 q11_5 HCU ne HST hg hgl HΓ hu38
  replace HO := Hi (show Own w D x20 [blkR b (.cells #[.int .i64 k.tk, v, .int .i64 k.tr, .int .i64 k.nu, .int .i64 k.se, .int .i64 k.sv] 131), rowK v k.ch, blkR a (.cells #[vsv, .int .i64 z.sd, .pointer (some ⟨c, 0, none⟩), .int .i64 z.tk, .int .i64 z.qn, vw, vd] 128), rowVs vsv z.sv, resC c z.es, rowVw vw (z.wl.map (·.1)), rowVd vd z.dn.length (rnCs avs z.dn), resKs (z.wl.eraseIdx i), sepR (rnRs avs z.dn), glR g, rowRc (.slice ra n rc) rs, blkR bx (.cells #[.int .i64 id, .bool an, .int .i64 cd, .string nm, .int .i64 kd, .slice ra n rc] 86), rowR vn 49 5 m ((ofN s rs).flatMap cRc)] from HO.out)
  clear hx1 hbx z11_0 z11_1 z11_2 z11_3 z11_4 z11_5
  have h0 : ¬ ofN s rs = [] := fun e => by
   have h1 := HM.out
   rw [e] at h1
   have h2 : m = 0 := h1.symm
   rw [h2] at hm0
   exact absurd hm0 (by decide)
  obtain ⟨rl, hrlf⟩ : ∃ l, relF rs s = l := ⟨_, rfl⟩
  have HRF := Hi hrlf
  have HAD := Hi (show advZ now (esZ z (putsF now rl z.es)) i b k rl = (z', q) by
   rw [← hr, ← hrlf]; unfold ansZ; rw [if_neg hcd.1, if_neg (by rw [HS.out]; exact fun h => h.elim hcd.2 h0), HS.out])
  have HSB := Hi (show ∀ r ∈ rl, r ∈ rs by rw [← hrlf]; exact fun r hr => (List.mem_filter.1 hr).1)
  obtain ⟨m2, hm2⟩ : ∃ m, rl.length = m := ⟨_, rfl⟩
  have HM2 := Hi hm2
  have hm2n : m2 ≤ 200 := by rw [← hm2, ← hrlf]; exact Nat.le_trans (List.length_filter_le _ _) HRL.out
  clear hr hcd hm0 hmn h0 hrlf hm2
  go_wp2
  generalize hΓ : ghV w D [blkR b (.cells #[.int .i64 k.tk, v, .int .i64 k.tr, .int .i64 k.nu, .int .i64 k.se, .int .i64 k.sv] 131), rowK v k.ch, blkR a (.cells #[vsv, .int .i64 z.sd, .pointer (some ⟨c, 0, none⟩), .int .i64 z.tk, .int .i64 z.qn, vw, vd] 128), rowVs vsv z.sv, resC c z.es, rowVw vw (z.wl.map (·.1)), rowVd vd z.dn.length (rnCs avs z.dn), resKs (z.wl.eraseIdx i), sepR (rnRs avs z.dn), glR g, rowRc (.slice ra n rc) rs, blkR bx (.cells #[.int .i64 id, .bool an, .int .i64 cd, .string nm, .int .i64 kd, .slice ra n rc] 86), rowR vn 49 5 m ((ofN s rs).flatMap cRc)] (fun uV => [blkR b (.cells #[.int .i64 k.tk, v, .int .i64 k.tr, .int .i64 k.nu, .int .i64 k.se, .int .i64 k.sv] 131), rowK v k.ch, blkR a (.cells #[vsv, .int .i64 z.sd, .pointer (some ⟨c, 0, none⟩), .int .i64 z.tk, .int .i64 z.qn, vw, vd] 128), rowVs vsv z.sv, resC c z.es, rowVw vw (z.wl.map (·.1)), rowVd vd z.dn.length (rnCs avs z.dn), resKs (z.wl.eraseIdx i), sepR (rnRs avs z.dn), glR g, rowRc (.slice ra n rc) rs, blkR bx (.cells #[.int .i64 id, .bool an, .int .i64 cd, .string nm, .int .i64 kd, .slice ra n rc] 86), rowR vn 49 5 m ((ofN s rs).flatMap cRc), rowR uV 49 5 m2 (rl.flatMap cRc)]) = Γ
  have HST := Hi (show Γ.inv [] x20 by rw [← hΓ]; exact ghV_start HO.out)
  have q11_5 : ∀ q : Γ.Wd, q.w.cell? ⟨bx, 5, none⟩ = some (.slice ra n rc) := by rw [← hΓ]; exact ghV_cell (c := #[.int .i64 id, .bool an, .int .i64 cd, .string nm, .int .i64 kd, .slice ra n rc]) (t := 86) 11 rfl (fun _ => rfl) 5 rfl
  have HCU := Hi (show ∀ vs w, Γ.inv vs w → Calls Tryz.prog 72 #[.pointer (some ⟨b, 0, none⟩)] w (fun e w' => e = .returned (.string s) ∧ Below w.heap.size w w') by rw [← hΓ]; exact ghV_all (P := fun w => Calls Tryz.prog 72 #[.pointer (some ⟨b, 0, none⟩)] w (fun e w' => e = .returned (.string s) ∧ Below w.heap.size w w')) (fun w h => cur_own h 0 rfl 1 rfl HCH.out HS.out) (fun uV w h => cur_own h 0 rfl 1 rfl HCH.out HS.out))
  have HΓ := Hi hΓ
  clear hΓ
  have ne : Nonempty Γ.Wd := ⟨⟨[], x20, HST.out⟩⟩
  refine wp_region_H Γ 5 [4] (by kernel_rfl) (by kernel_rfl) (by kernel_rfl) (by kernel_rfl) HST.out ?_
  simp only [List.take, List.drop]
  iterate 3 (first | (refine wpH_want (by kernel_rfl) (by kernel_rfl) rfl rfl ?_; intro K hK; go_big_quiet_op; go_big_quiet_on) | (refine wpH_is (by kernel_rfl) (by kernel_rfl) rfl _ (fun _ w _ => rfl) ?_; simp only [Act.put, l_T, l_S, l_Z]))
  refine wpH_call (by kernel_rfl) (by kernel_rfl) rfl 72 #[.pointer (some ⟨b, 0, none⟩)] (.string s) (fun w => by simp [go_sem]) (fun vs w hg => HCU.out vs w hg) ?_
  simp only [Act.put, l_T, l_S, l_Z]
  refine wpH_chainG 0 (gnth 0) (gnth_lasts _ _) (by kernel_rfl) (by kernel_rfl) rfl (fun a' g hg hgl he => ?_) (fun d hd => ?_)
  ·
   obtain ⟨h47, h49, _⟩ := he
   have h47' : a'.tmps.getD 47 undef = .slice ra n rc := h47
   have h49' : a'.tmps.getD 49 undef = .string s := h49
   refine wp_callG (f := 125) (args := #[.slice ra n rc, .string s]) (by simp [go_sem, Act.eval, h47', h49']) ?_
   obtain ⟨vs, wg⟩ := g
   obtain rfl : vs = [] := List.eq_nil_of_length_eq_zero hgl
   rw [← HΓ.out] at hg ⊢
   refine (ghV_call hg (fun D' ho => (o_frameV [blkR b (.cells #[.int .i64 k.tk, v, .int .i64 k.tr, .int .i64 k.nu, .int .i64 k.se, .int .i64 k.sv] 131), rowK v k.ch, blkR a (.cells #[vsv, .int .i64 z.sd, .pointer (some ⟨c, 0, none⟩), .int .i64 z.tk, .int .i64 z.qn, vw, vd] 128), rowVs vsv z.sv, resC c z.es, rowVw vw (z.wl.map (·.1)), rowVd vd z.dn.length (rnCs avs z.dn), resKs (z.wl.eraseIdx i), sepR (rnRs avs z.dn), glR g, blkR bx (.cells #[.int .i64 id, .bool an, .int .i64 cd, .string nm, .int .i64 kd, .slice ra n rc] 86), rowR vn 49 5 m ((ofN s rs).flatMap cRc)] [rowRc (.slice ra n rc) rs] (fun u => [rowRc (.slice ra n rc) rs, rowRc u (relF rs s)]) (ho.toEnd 13 [0, 1, 2, 3, 4, 5, 6, 7, 8, 9, 11, 12, 10] rfl rfl) (fun D2 hD => relevant_o s hD (by have := HRL.out; omega))).mono fun e w' ⟨u, h1, h2, h3⟩ => ⟨u, h1, by have h4 := h2.toEnd 14 [0, 1, 2, 3, 4, 5, 6, 7, 8, 9, 12, 10, 11, 13] rfl rfl; unfold rowRc at h4; rw [HRF.out, HM2.out] at h4; exact h4, h3⟩)).mono ?_
   rintro e w' ⟨u, rfl, hmv⟩
   exact ⟨u, rfl, _, rfl, hmv, rfl⟩
  cases hd
  simp only [List.nil_append]
  refine wpH_nil (by kernel_rfl) (by simp) ?_
  rintro ⟨vs, x25⟩ hg hgl
  rw [← HΓ.out] at hg
  simp only [gexAll]
  rintro u50 hu50
  obtain ⟨vr, rfl⟩ : ∃ v, vs = [v] := List.length_eq_one_iff.1 hgl
  obtain rfl : vr = u50 := by simpa [gnth] using hu50
  simp only [Act.put, l_T, l_S, l_Z]
  simp only [List.drop]
  replace HO := Hi (ghV_at hg)
  clear q11_5 HCU ne HST hg hgl HΓ hu50
  replace HO := Hi (show Own w D x25 [blkR b (.cells #[.int .i64 k.tk, v, .int .i64 k.tr, .int .i64 k.nu, .int .i64 k.se, .int .i64 k.sv] 131), rowK v k.ch, blkR a (.cells #[vsv, .int .i64 z.sd, .pointer (some ⟨c, 0, none⟩), .int .i64 z.tk, .int .i64 z.qn, vw, vd] 128), rowVs vsv z.sv, resC c z.es, rowVw vw (z.wl.map (·.1)), rowVd vd z.dn.length (rnCs avs z.dn), resKs (z.wl.eraseIdx i), sepR (rnRs avs z.dn), glR g, rowRc (.slice ra n rc) rs, blkR bx (.cells #[.int .i64 id, .bool an, .int .i64 cd, .string nm, .int .i64 kd, .slice ra n rc] 86), rowR vn 49 5 m ((ofN s rs).flatMap cRc), rowR vr 49 5 m2 (rl.flatMap cRc)] from HO.out)
  obtain ⟨va, vc, rfl⟩ := row_shape (HO.out.row 13 rfl)
  replace HO := Hi (show Own w D x25 [blkR b (.cells #[.int .i64 k.tk, v, .int .i64 k.tr, .int .i64 k.nu, .int .i64 k.se, .int .i64 k.sv] 131), rowK v k.ch, blkR a (.cells #[vsv, .int .i64 z.sd, .pointer (some ⟨c, 0, none⟩), .int .i64 z.tk, .int .i64 z.qn, vw, vd] 128), rowVs vsv z.sv, resC c z.es, rowVw vw (z.wl.map (·.1)), rowVd vd z.dn.length (rnCs avs z.dn), resKs (z.wl.eraseIdx i), sepR (rnRs avs z.dn), glR g, rowRc (.slice ra n rc) rs, blkR bx (.cells #[.int .i64 id, .bool an, .int .i64 cd, .string nm, .int .i64 kd, .slice ra n rc] 86), rowR vn 49 5 m ((ofN s rs).flatMap cRc), rowR (.slice va m2 vc) 49 5 m2 (rl.flatMap cRc)] from HO.out)
  go_wp2
  go_loopw [53] (fun iv wr => ∃ j : Nat, j ≤ m2 ∧ iv = .int .i64 j ∧ Own w D wr [blkR b (.cells #[.int .i64 k.tk, v, .int .i64 k.tr, .int .i64 k.nu, .int .i64 k.se, .int .i64 k.sv] 131), rowK v k.ch, blkR a (.cells #[vsv, .int .i64 z.sd, .pointer (some ⟨c, 0, none⟩), .int .i64 z.tk, .int .i64 z.qn, vw, vd] 128), rowVs vsv z.sv, resC c (putsF now (rl.take j) z.es), rowVw vw (z.wl.map (·.1)), rowVd vd z.dn.length (rnCs avs z.dn), resKs (z.wl.eraseIdx i), sepR (rnRs avs z.dn), glR g, rowRc (.slice ra n rc) rs, blkR bx (.cells #[.int .i64 id, .bool an, .int .i64 cd, .string nm, .int .i64 kd, .slice ra n rc] 86), rowR vn 49 5 m ((ofN s rs).flatMap cRc), rowR (.slice va m2 vc) 49 5 m2 (rl.flatMap cRc)]) (fun iv _ => m2 - (intOf iv).toNat)
  case atStart => exact ⟨0, Nat.zero_le _, rfl, HO.out⟩
  case round =>
   obtain ⟨j, hj, rfl, hO⟩ := hrel
   clear HO
   have HO := Hi hO
   clear hO
   by_cases hlt : j < m2
   ·
    have hkl : j < rl.length := by rw [HM2.out]; exact hlt
    have hrw := HO.out.row 13 rfl
    obtain ⟨gv, rfl⟩ := row_some hrw (by omega)
    have yc : ∀ q u, q < 5 → (cRc rl[j])[q]? = some u → wr.cell? ⟨gv, j * 5 + q, none⟩ = some u := fun q u hq hu => (row_cells hrw).1 _ _ (by rw [flat_getR cRc 5 (fun _ => rfl) rl j hkl q hq]; exact hu)
    have HPT := Hi (puts_take (t := now) (es := z.es) hkl)
    have HSR := Hi (HRS.out.2 rl[j] (HSB.out _ (List.getElem_mem hkl)))
    have HLE := Hi (puts_ok (t := now) (rl.take j) HCI.out).len
    generalize rl[j] = r at *
    obtain ⟨rn, rk, rt, rd, ro⟩ := r
    have y0 : wr.cell? ⟨gv, j * 5, none⟩ = some (.string rn) := yc 0 _ (by decide) rfl
    have y1 : wr.cell? ⟨gv, j * 5 + 1, none⟩ = some (.int .i64 rk) := yc 1 _ (by decide) rfl
    have y2 : wr.cell? ⟨gv, j * 5 + 2, none⟩ = some (.int .i64 rt) := yc 2 _ (by decide) rfl
    have y3 : wr.cell? ⟨gv, j * 5 + 3, none⟩ = some (.int .i64 rd) := yc 3 _ (by decide) rfl
    have y4 : wr.cell? ⟨gv, j * 5 + 4, none⟩ = some (.string ro) := yc 4 _ (by decide) rfl
    clear yc hrw hkl
    have hd : decide ((j : Int) < (m2 : Int)) = true := decide_eq_true (by omega)
    obtain ⟨es1, hes⟩ : ∃ l, putF now ⟨rn, rk, rt, rd, ro⟩ (putsF now (rl.take j) z.es) = l := ⟨_, rfl⟩
    obtain ⟨en, hen⟩ : ∃ l, putE now ⟨rn, rk, rt, rd, ro⟩ = l := ⟨_, rfl⟩
    have HE := Hi (And.intro hes hen)
    clear hes hen
    replace HO := Hi (show Own w D wr [blkR b (.cells #[.int .i64 k.tk, v, .int .i64 k.tr, .int .i64 k.nu, .int .i64 k.se, .int .i64 k.sv] 131), rowK v k.ch, blkR a (.cells #[vsv, .int .i64 z.sd, .pointer (some ⟨c, 0, none⟩), .int .i64 z.tk, .int .i64 z.qn, vw, vd] 128), rowVs vsv z.sv, resC c (putsF now (rl.take j) z.es), rowVw vw (z.wl.map (·.1)), rowVd vd z.dn.length (rnCs avs z.dn), resKs (z.wl.eraseIdx i), sepR (rnRs avs z.dn), glR g, rowRc (.slice ra n rc) rs, blkR bx (.cells #[.int .i64 id, .bool an, .int .i64 cd, .string nm, .int .i64 kd, .slice ra n rc] 86), rowR vn 49 5 m ((ofN s rs).flatMap cRc), rowR (.slice (some ⟨gv, 0, none⟩) m2 vc) 49 5 m2 (rl.flatMap cRc)] from HO.out)
    obtain ⟨x41, hx41, bq, hbq, hO⟩ := HO.out.allocE (.cells #[.string ⟨#[]⟩, .int .i64 0, .int .i64 0, .int .i64 0, .string ⟨#[]⟩] 49)
    replace HO := Hi (show Own _ _ _ [_, _, _, _, _, _, _, _, _, _, _, _, _, _, blkR bq (.cells #[.string ⟨#[]⟩, .int .i64 0, .int .i64 0, .int .i64 0, .string ⟨#[]⟩] 49)] from hO)
    clear hO
    obtain ⟨x47, x52, x56, x59, x61, hx47, hx52, hx56, hx59, hx61, k14_0_42, lk14_0_42, k14_1_48, lk14_1_48, k14_2_53, lk14_2_53, k14_3_57, lk14_3_57, k14_4_60, lk14_4_60, hO⟩ := HO.out.steps5 14 rfl (.string rn) (.int .i64 rk) (.int .i64 rt) (.int .i64 rd) (.string ro)
    replace HO := Hi (show Own _ _ _ [_, _, _, _, _, _, _, _, _, _, _, _, _, _, blkR bq (.cells #[.string rn, .int .i64 rk, .int .i64 rt, .int .i64 rd, .string ro] 49)] from hO)
    clear hO
    obtain ⟨z14_0, z14_1, z14_2, z14_3, z14_4⟩ := HO.out.c5 14 rfl
    go_wp2
    generalize hΓ : ghO w D [[blkR b (.cells #[.int .i64 k.tk, v, .int .i64 k.tr, .int .i64 k.nu, .int .i64 k.se, .int .i64 k.sv] 131), rowK v k.ch, blkR a (.cells #[vsv, .int .i64 z.sd, .pointer (some ⟨c, 0, none⟩), .int .i64 z.tk, .int .i64 z.qn, vw, vd] 128), rowVs vsv z.sv, resC c (putsF now (rl.take j) z.es), rowVw vw (z.wl.map (·.1)), rowVd vd z.dn.length (rnCs avs z.dn), resKs (z.wl.eraseIdx i), sepR (rnRs avs z.dn), glR g, rowRc (.slice ra n rc) rs, blkR bx (.cells #[.int .i64 id, .bool an, .int .i64 cd, .string nm, .int .i64 kd, .slice ra n rc] 86), rowR vn 49 5 m ((ofN s rs).flatMap cRc), rowR (.slice (some ⟨gv, 0, none⟩) m2 vc) 49 5 m2 (rl.flatMap cRc), blkR bq (.cells #[.string rn, .int .i64 rk, .int .i64 rt, .int .i64 rd, .string ro] 49)], [blkR b (.cells #[.int .i64 k.tk, v, .int .i64 k.tr, .int .i64 k.nu, .int .i64 k.se, .int .i64 k.sv] 131), rowK v k.ch, blkR a (.cells #[vsv, .int .i64 z.sd, .pointer (some ⟨c, 0, none⟩), .int .i64 z.tk, .int .i64 z.qn, vw, vd] 128), rowVs vsv z.sv, resC c es1, rowVw vw (z.wl.map (·.1)), rowVd vd z.dn.length (rnCs avs z.dn), resKs (z.wl.eraseIdx i), sepR (rnRs avs z.dn), glR g, rowRc (.slice ra n rc) rs, blkR bx (.cells #[.int .i64 id, .bool an, .int .i64 cd, .string nm, .int .i64 kd, .slice ra n rc] 86), rowR vn 49 5 m ((ofN s rs).flatMap cRc), rowR (.slice (some ⟨gv, 0, none⟩) m2 vc) 49 5 m2 (rl.flatMap cRc), blkR bq (.cells #[.string rn, .int .i64 rk, .int .i64 rt, .int .i64 rd, .string ro] 49)]] = Γ
    have HST := Hi (show Γ.inv [] x61 by rw [← hΓ]; exact ghO_start HO.out)
    have q2_2 : ∀ q : Γ.Wd, q.w.cell? ⟨a, 2, none⟩ = some (.pointer (some ⟨c, 0, none⟩)) := by rw [← hΓ]; exact ghO_cell (c := #[vsv, .int .i64 z.sd, .pointer (some ⟨c, 0, none⟩), .int .i64 z.tk, .int .i64 z.qn, vw, vd]) (t := 128) 2 (by simp) 2 rfl
    have q14_0 : ∀ q : Γ.Wd, q.w.cell? ⟨bq, 0, none⟩ = some (.string rn) := by rw [← hΓ]; exact ghO_cell (c := #[.string rn, .int .i64 rk, .int .i64 rt, .int .i64 rd, .string ro]) (t := 49) 14 (by simp) 0 rfl
    have q14_1 : ∀ q : Γ.Wd, q.w.cell? ⟨bq, 1, none⟩ = some (.int .i64 rk) := by rw [← hΓ]; exact ghO_cell (c := #[.string rn, .int .i64 rk, .int .i64 rt, .int .i64 rd, .string ro]) (t := 49) 14 (by simp) 1 rfl
    have q14_2 : ∀ q : Γ.Wd, q.w.cell? ⟨bq, 2, none⟩ = some (.int .i64 rt) := by rw [← hΓ]; exact ghO_cell (c := #[.string rn, .int .i64 rk, .int .i64 rt, .int .i64 rd, .string ro]) (t := 49) 14 (by simp) 2 rfl
    have q14_3 : ∀ q : Γ.Wd, q.w.cell? ⟨bq, 3, none⟩ = some (.int .i64 rd) := by rw [← hΓ]; exact ghO_cell (c := #[.string rn, .int .i64 rk, .int .i64 rt, .int .i64 rd, .string ro]) (t := 49) 14 (by simp) 3 rfl
    have q14_4 : ∀ q : Γ.Wd, q.w.cell? ⟨bq, 4, none⟩ = some (.string ro) := by rw [← hΓ]; exact ghO_cell (c := #[.string rn, .int .i64 rk, .int .i64 rt, .int .i64 rd, .string ro]) (t := 49) 14 (by simp) 4 rfl
    have HΓ := Hi hΓ
    clear hΓ
    have ne : Nonempty Γ.Wd := ⟨⟨[], x61, HST.out⟩⟩
    refine wp_region_H Γ 7 [6] (by kernel_rfl) (by kernel_rfl) (by kernel_rfl) (by kernel_rfl) HST.out ?_
    simp only [List.take, List.drop]
    iterate 6 (first | (refine wpH_want (by kernel_rfl) (by kernel_rfl) rfl rfl ?_; intro K hK; go_big_quiet_op; go_big_quiet_on) | (refine wpH_is (by kernel_rfl) (by kernel_rfl) rfl _ (fun _ w _ => rfl) ?_; simp only [Act.put, l_T, l_S, l_Z]))
    refine wpH_chain 0 (by kernel_rfl) (by kernel_rfl) rfl 126 #[.pointer (some ⟨c, 0, none⟩), .int .i64 now, .agg #[.string rn, .int .i64 rk, .int .i64 rt, .int .i64 rd, .string ro]] (.int .i64 en) (fun w => by simp [go_sem]) (fun vs w hg hvs => by
     rw [← HΓ.out] at hg ⊢
     exact ghO_call 0 hg hvs rfl rfl fun ho => put_r now ⟨rn, rk, rt, rd, ro⟩ ho 4 rfl (glo_errI ho 9 rfl HG.out) HSR.out.1 HSR.out.2 HLE.out HE.out.1 HE.out.2) ?_
    simp only [Act.put, l_T, l_S, l_Z]
    refine wpH_nil (by kernel_rfl) (by simp) ?_
    rintro ⟨vs, x50⟩ hg hgl
    rw [← HΓ.out] at hg
    replace HO := Hi (ghO_at hg 1 hgl rfl)
    simp only [gexAll, List.drop]
    clear q2_2 q14_0 q14_1 q14_2 q14_3 q14_4 ne HST hg hgl HΓ
    replace HO := Hi (show Own w D x50 [blkR b (.cells #[.int .i64 k.tk, v, .int .i64 k.tr, .int .i64 k.nu, .int .i64 k.se, .int .i64 k.sv] 131), rowK v k.ch, blkR a (.cells #[vsv, .int .i64 z.sd, .pointer (some ⟨c, 0, none⟩), .int .i64 z.tk, .int .i64 z.qn, vw, vd] 128), rowVs vsv z.sv, resC c es1, rowVw vw (z.wl.map (·.1)), rowVd vd z.dn.length (rnCs avs z.dn), resKs (z.wl.eraseIdx i), sepR (rnRs avs z.dn), glR g, rowRc (.slice ra n rc) rs, blkR bx (.cells #[.int .i64 id, .bool an, .int .i64 cd, .string nm, .int .i64 kd, .slice ra n rc] 86), rowR vn 49 5 m ((ofN s rs).flatMap cRc), rowR (.slice (some ⟨gv, 0, none⟩) m2 vc) 49 5 m2 (rl.flatMap cRc), blkR bq (.cells #[.string rn, .int .i64 rk, .int .i64 rt, .int .i64 rd, .string ro] 49)] from HO.out)
    clear hx41 hbq k14_0_42 lk14_0_42 hx47 k14_1_48 lk14_1_48 hx52 k14_2_53 lk14_2_53 hx56 k14_3_57 lk14_3_57 hx59 k14_4_60 lk14_4_60 hx61 z14_0 z14_1 z14_2 z14_3 z14_4
    clear y0 y1 y2 y3 y4
    go_wp2
    go_roundw
    case rel => exact ⟨j + 1, by omega, by go_num, by rw [HPT.out, HE.out.1]; exact HO.out.take 14⟩
    case measure => simp [intOf]; omega
   ·
    obtain rfl : j = m2 := by omega
    have hd : decide ((j : Int) < (j : Int)) = false := decide_eq_false (by omega)
    have HTK := Hi (show rl.take j = rl by rw [← HM2.out]; exact List.take_length)
    rw [HTK.out] at HO
    have HC2 := Hi (puts_ok (t := now) rl HCI.out)
    have HZ2 := Hi (esZ_ok HZ.out HC2.out)
    have HO2 := Hi (show Own w D wr [rowRc (.slice ra n rc) rs, resZ a (esZ z (putsF now rl z.es)), glR g, rowRc (.slice va j vc) rl] by
     have h1 := (ans_shut (x := ⟨vsv, c, vw, vd⟩) HAL.out HI.out HO.out).toEnd 6 [2, 0, 1, 5] rfl rfl
     unfold rowRc
     rw [HM2.out]
     exact h1)
    clear HO
    go_wp2_with fail
    refine (o_frameV [rowRc (.slice ra n rc) rs] [resZ a (esZ z (putsF now rl z.es)), glR g, rowRc (.slice va j vc) rl] (fun u => [resZ a z', glR g, rowRc (.slice va j vc) rl, rowQs u q]) HO2.out (fun D' hD => advance_z hD HZ2.out HQ1.out (by rw [HM2.out]; omega) (fun r hr => HRS.out.1 r (HSB.out r hr)) HI.out HAD.out)).mono ?_
    rintro e x60 ⟨u, rfl, hO, -⟩
    have HOF := Hi (hO.toEnd 5 [1, 2, 0, 4] rfl rfl)
    clear hO HO2
    go_wp2
    go_ret
    exact ⟨_, rfl, HOF.out, HOF.out.size⟩
theorem answer_z {w : World} {D : Nat → Prop} {a b i : Nat} {z z' : Rz} {k : Lk} {g : Glo} {q : List Qy} {now id cd kd : Int} {an : Bool} {vr : Value} (h : Own w D w [resZ a z, glR g, rowRc vr rs]) (hz : ZI z) (hc : CInv now z.es) (hg : g.ok = true) (q1 : z.qn ≤ 100000) (hrl : rs.length ≤ 200) (hrs : ∀ r ∈ rs, r.kd = 1 ∨ vname r.to = true) (hsz : ∀ r ∈ rs, r.nm.size ≤ maxLen ∧ r.to.size ≤ maxLen) (hi : z.wl[i]? = some (b, k)) (hr : ansZ now z i b k cd rs = (z', q)) :
  Calls Tryz.prog 73 #[.pointer (some ⟨a, 0, none⟩), .int .i64 now, .pointer (some ⟨b, 0, none⟩), .agg #[.int .i64 id, .bool an, .int .i64 cd, .string nm, .int .i64 kd, vr]] w (VPost w D w fun u => [resZ a z', glR g, rowRc vr rs, rowQs u q]) := by
 by_cases h1 : cd = 1
 ·
  exact answer_1 h hz hc hg q1 hrl hrs hsz hi h1 hr
 ·
  by_cases h2 : cd = 2
  ·
   exact answer_2 h hz hc hg q1 hrl hrs hsz hi h2 hr
  ·
   exact answer_3 h hz hc hg q1 hrl hrs hsz hi ⟨h1, h2⟩ hr
end Go.Proofs.YtbolfkojebbejaaGreatDoor
