/- The walk of ResolverIgnoresForgedAnswers. Printed by wip/tools/gen21I.py. -/
import Derived.Test.YtbolfkojebbejaaGreatDoorBr
import Derived.Test.YtbolfkojebbejaaGreatDoorGr5
import Derived.Test.YtbolfkojebbejaaGreatDoorBs
import Derived.Test.YtbolfkojebbejaaGreatDoorBq
import Derived.Test.YtbolfkojebbejaaGreatDoorFzW
set_option linter.unusedVariables false
set_option maxRecDepth 100000
set_option maxHeartbeats 32000000
namespace Go.Proofs.YtbolfkojebbejaaGreatDoor
open Go.RowKit Go.Sort
variable {w0 w : World} {D : Nat → Prop} {nm : ByteArray} {v : Value}
attribute [local go_sem] Oper.semAt_some

theorem oth_v (n : Int) : vname (othN (nmL n)) = true := by
 unfold nmL nm8
 split <;> decide +kernel
theorem mut_bad {sd n k : Int} {rs : List Rc} (h6 : 0 ≤ k ∧ k < 6) (d0 : 0 ≤ sd) : fgBad sd nm (mutF 3 n k) (mutO n k) (mutP (20000 + (sd + 101) % 10000) n k) (mutD ((sd + 7919) % 65536) n nm rs k) := by
 have h : k = 0 ∨ k = 1 ∨ k = 2 ∨ k = 3 ∨ k = 4 ∨ k = 5 := by omega
 rcases h with rfl | rfl | rfl | rfl | rfl | rfl
 ·
  have := pk_bd n 50 (by decide)
  exact .inr (.inr (.inr (.inl (by show mutF 3 n 0 ≠ 3; unfold mutF; rw [if_pos rfl]; omega))))
 ·
  have := pk_bd n 9998 (by decide)
  exact .inr (.inr (.inl (by unfold mutP; rw [if_pos rfl]; omega)))
 ·
  have := pk_bd n 65535 (by decide)
  exact .inr (.inr (.inr (.inr (.inl (by show ((sd + 7919) % 65536 + 1 + pk n 65535) % 65536 ≠ (sd + 7919) % 65536; omega)))))
 ·
  refine .inr (.inr (.inr (.inr (.inr fun e => ?_))))
  have e' : othN nm = nm := e
  have := congrArg ByteArray.size e'
  unfold othN at this
  rw [ByteArray.size_append] at this
  have h6 : (⟨#[111, 116, 104, 101, 114, 46]⟩ : ByteArray).size = 6 := rfl
  omega
 ·
  exact .inr (.inl rfl)
 ·
  have := pk_bd n 1000 (by decide)
  exact .inl (by show mutO n 5 ≠ 53; unfold mutO; rw [if_pos rfl]; omega)
def RcvO (w0 : World) (D : Nat → Prop) (A : List Res) (a : Nat) (g : Glo) (r : Bool × Rz × List Qy) (w : World) (e : Ending) (w' : World) : Prop := ∃ u, e = .returned (.tuple #[.bool r.1, u]) ∧ Own w0 D w' (A ++ [resZ a r.2.1, glR g, rowQs u r.2.2]) ∧ w.heap.size ≤ w'.heap.size
theorem rcv_o {A : List Res} {a : Nat} {z : Rz} {g : Glo} {now fr fp tp : Int} {d : Dm} {s : ByteArray} {r : Bool × Rz × List Qy} (h : Own w0 D w (A ++ [resZ a z, glR g])) (hd : DmV d) (hs : ⟨(encM d).toArray⟩ = s) (hz : ZI z) (hc : CInv now z.es) (hg : g.ok = true) (q1 : z.qn ≤ 100000) (hnu : ∀ p ∈ z.wl, 0 ≤ p.2.nu ∧ p.2.nu ≤ 1000000) (hr : rcvZ now z fr fp tp d = r) :
  Calls Tryz.prog 24 #[.pointer (some ⟨a, 0, none⟩), .int .i64 now, .int .i64 fr, .agg #[.int .i64 fp, .int .i64 tp, .string s]] w (RcvO w0 D A a g r w) := by
 subst hr
 refine (o_frame (A := A) (B := [resZ a z, glR g]) (Q := fun e B' => ∃ u, e = .returned (.tuple #[.bool (rcvZ now z fr fp tp d).1, u]) ∧ B' = [resZ a (rcvZ now z fr fp tp d).2.1, glR g, rowQs u (rcvZ now z fr fp tp d).2.2]) h
  (fun D' hD => (receive_z hD hd hs.symm hz hc hg q1 hnu).mono fun e w' ⟨u, h1, h2, h3⟩ => ⟨_, ⟨u, h1, rfl⟩, h2, h3⟩)).mono ?_
 rintro e w' ⟨B', ⟨u, rfl, rfl⟩, hO, hs⟩
 exact ⟨u, rfl, hO, hs⟩
def FgR (w0 : World) (D : Nat → Prop) (A : List Res) (a : Nat) (g : Glo) (sd : Int) (nm : ByteArray) (w : World) (e : Ending) (w' : World) : Prop := ∃ b u, e = .returned (.tuple #[.int .i64 1, u, .int .i64 0]) ∧ Own w0 D w' (A ++ [resZ a (pendZ sd [] 1 1 b 0 [nm]), glR g, rowQs u [qyZ sd 0 3 nm]]) ∧ w.heap.size ≤ w'.heap.size
theorem fg_res {A : List Res} {a : Nat} {g : Glo} {sd : Int} (h : Own w0 D w (A ++ [resZ a (restZ sd [] 0 0), glR g])) (d0 : 0 ≤ sd) (d1 : sd ≤ 4294967295) (hv : vname nm = true) :
  Calls Tryz.prog 15 #[.pointer (some ⟨a, 0, none⟩), .int .i64 0, .string nm] w (FgR w0 D A a g sd nm w) := by
 refine (o_frame (A := A) (B := [resZ a (restZ sd [] 0 0), glR g]) (Q := fun e B' => ∃ b u, e = .returned (.tuple #[.int .i64 1, u, .int .i64 0]) ∧ B' = [resZ a (startZ 0 (restZ sd [] 0 0) b nm).1, glR g, rowQs u (startZ 0 (restZ sd [] 0 0) b nm).2]) h
  (fun D' hD => (resolve_z (now := 0) (nm := nm) hD (fg_ri0 sd d0 d1).zi hv (by show 0 < 8; decide) (by show (0 : Int) ≤ 100000; decide) (by show (0 : Int) ≤ 0; decide) (by show (0 : Int) ≤ 100000; decide)).mono fun e w' ⟨b, u, h1, h2, h3⟩ => ⟨_, ⟨b, u, h1, rfl⟩, h2, h3⟩)).mono ?_
 rintro e w' ⟨B', ⟨b, u, rfl, rfl⟩, hO, hs⟩
 rw [fg_start] at hO
 exact ⟨b, u, rfl, hO, hs⟩
theorem nu_of {now : Int} {n c : Nat} {z : Rz} (h : RI now n c z) (hc : c ≤ 1000) : ∀ p ∈ z.wl, 0 ≤ p.2.nu ∧ p.2.nu ≤ 1000000 := fun p hp => by
 have h1 := h.se p hp
 have h2 := h.qn
 omega
theorem dn_shapeF {L : List Res} {dn : List Rn} (h : Own w0 D w L) (i : Nat) (hi : L[i]? = some (resDn v dn)) : ∃ p c, v = .slice p dn.length c := by
 obtain ⟨F, hF, _, _⟩ := h.step hi
 obtain ⟨avs, h1⟩ := Own.openExC (Own.one hF)
 obtain ⟨h2, h3⟩ := Own.openFC h1
 exact row_shape ((Own.openC h3).row 0 rfl)
theorem taken_ok {z : Rz} (h : ZI z) : ZI (takenZ z) := ⟨h.s0, h.s4, h.d0, h.d1, h.q0, h.wl, h.lk, Nat.zero_le _, h.es, h.ap, h.en⟩
theorem ren_ri {f : Nat → Nat} {now : Int} {n c : Nat} {z : Rz} (h : RI now n c z) : RI now n c (ren f z) where
 zi := ⟨h.zi.s0, h.zi.s4, h.zi.d0, h.zi.d1, h.zi.q0, by show (z.wl.map _).length ≤ 100; rw [List.length_map]; exact h.zi.wl, fun p hp => by
  obtain ⟨x, hx, rfl⟩ := List.mem_map.1 hp
  exact h.zi.lk x hx, h.zi.dn, h.zi.es, h.zi.ap, h.zi.en⟩
 ci := h.ci
 w8 := by show (z.wl.map _).length ≤ 8; rw [List.length_map]; exact h.w8
 tk := h.tk
 pm := by
  have : tks (ren f z) = tks z := by
   show (z.wl.map _).map _ ++ _ = _
   rw [List.map_map]; rfl
  rw [this]; exact h.pm
 qn := h.qn
 se := fun p hp => by
  obtain ⟨x, hx, rfl⟩ := List.mem_map.1 hp
  exact h.se x hx
 er := h.er
theorem rdrn_any {Ls : List Res} {dn : List Rn} (h : Own w0 D w Ls) (i : Nat) (hi : Ls[i]? = some (resDn v dn)) (h1 : dn.length ≤ 1) (hl : ∀ d ∈ dn, d.ad.length ≤ 40) : RdRn w v dn dn.length := by
 match dn, h1 with
 | [], _ =>
  obtain ⟨p, c, rfl⟩ := dn_shapeF h i hi
  exact ⟨rfl, p, c, rfl, fun j hj => absurd hj (Nat.not_lt_zero _)⟩
 | [d], _ => exact rdrn_own h i hi (by have := hl d (by simp); omega)
def recsOf (k : Nat) (rs : List Rc) : Pred := fun v w => ∃ a c, v = .slice a k c ∧ w.ownsRow 0 49 5 (.slice a k c) k (rs.flatMap cRc)
theorem recsOf_lasts (k : Nat) (rs : List Rc) : Lasts (recsOf k rs) := by
 rintro v w w' ⟨a, c, rfl, h⟩ hb
 exact ⟨a, c, rfl, row_stayB h hb⟩
theorem gs_first {sd : Int} {r' : Rg} (h : GStep ⟨[3, 5], sd, [], [], 0, [], 0, 0⟩ 0 nm r') : r' = ⟨[3, 5], sd, [], [⟨1, [nm], 1, 3, 20000 + (sd + 101) % 10000, (sd + 7919) % 65536, 0⟩], 0, [], 1, 1⟩ := by
 cases h with
 | full h => exact absurd (show (0 : Nat) = 8 from h) (by decide)
 | over fd h => exact absurd rfl h
 | asks way h1 h2 h3 h4 h5 =>
  have := h4 rfl
  subst this
  rfl
theorem forged_w (len2 len4 : Nat) (gc : Nat → Cw) (gr : Nat → Rq) (a0 a1 a3 : Int) (v2 v4 : Value) (w : World) (g : Glo) (h : Own w glD w [glR g]) (k1 : w.heap[errG]? = some g.o1) (k2 : w.heap[ertG]? = some g.o2) (hg : g.ok = true) (h0 : i64B a0) (h1 : i64B a1) (h2 : RdCw w v2 len2 gc) (h3 : i64B a3) (h4 : RdRq w v4 len4 gr) :
  Calls Tryz.prog 8 #[.int .i64 a0, .int .i64 a1, v2, .int .i64 a3, v4] w (OPost w glD [glR g] (.bool true) w) := by
 have HO := Hi h
 have HB := Hi (fun x L (h : Own w glD x (glR g :: L)) => glo_below h k1 k2)
 clear k1 k2
 have HG := Hi hg
 have HR := Hi h4
 have HRE := Hi h3
 obtain ⟨p2, cap2, rfl, hcap2, hlen2, hok2, hcell2⟩ := h2
 have HCK := Hi hok2
 have HCC := Hi hcell2
 obtain ⟨k0, hk0⟩ : ∃ k, min len4 8 = k := ⟨_, rfl⟩
 have HK0 := Hi hk0
 have HK8 := Hi (show k0 ≤ 8 by omega)
 obtain ⟨nm, hnm⟩ : ∃ y, nmL a0 = y := ⟨_, rfl⟩
 have HNM := Hi (fun w => name21_r hnm h0 w)
 have HV := Hi (hnm ▸ nmL_v a0)
 have HOV := Hi (hnm ▸ oth_v a0)
 obtain ⟨sd, hsd⟩ : ∃ y, pk a1 4294967296 = y := ⟨_, rfl⟩
 have HP := Hi (fun w => hsd ▸ pick21_b a1 4294967296 w h1 (by decide))
 have b2 := pk_bd a1 4294967296 (by decide)
 rw [hsd] at b2
 have HSD := Hi (show 0 ≤ sd ∧ sd ≤ 4294967295 by omega)
 clear h hg h0 h1 h3 h4 hok2 hcell2 hk0 hnm hsd b2
 go_enter Tryz.func8, Tryz.ntmps8
 go_wp2_with fail
 refine (sanity_o HO.out HG.out).mono ?_
 rintro e x1 ⟨rfl, hO, -⟩
 replace HO := Hi (show Own w glD x1 [glR g] from hO)
 clear hO
 obtain ⟨x101, hx101, b102, hb102, hO⟩ := HO.out.allocE (.cells #[.int .i64 3, .int .i64 5] 3)
 replace HO := Hi (show Own _ _ _ [_, blkR b102 (.cells #[.int .i64 3, .int .i64 5] 3)] from hO)
 clear hO
 have r2 := run_bsI2 3 5
 have hQ := HO.out.toRowQ 1 2 1 rfl rfl (by decide)
 replace HO := Hi (show Own w glD x101 [_, rowVs (.slice (some ⟨b102, 0, none⟩) 2 2) [3, 5]] from hQ)
 clear hQ
 go_wp2_with fail
 refine (o_still HO.out (HP.out _)).mono ?_
 rintro e x103 ⟨rfl, hO, -⟩
 replace HO := Hi hO
 clear hO
 go_wp2_with fail
 refine (rnew_o (xs := [3, 5]) (n := 2) (sd := sd) HO.out 1 rfl rfl (by decide) sv35_bd sv35_ne HSD.out.1 HSD.out.2).mono ?_
 rintro e x104 ⟨a, rfl, hO, -⟩
 replace hO := newZ hO
 clear hx101 hb102
 clear r2
 have hO := hO.toEnd 3 [2, 0] rfl rfl
 replace HO := Hi (show Own _ _ _ [resZ a (restZ sd [] 0 0), glR g] from hO)
 clear hO
 obtain ⟨x105, hx105, b106, hb106, hO⟩ := HO.out.allocE (.cells #[.int .i64 3, .int .i64 5] 3)
 replace HO := Hi (show Own _ _ _ [_, _, blkR b106 (.cells #[.int .i64 3, .int .i64 5] 3)] from hO)
 clear hO
 have r2 := run_bsI2 3 5
 have hQ := HO.out.toRowQ 2 2 1 rfl rfl (by decide)
 replace HO := Hi (show Own w glD x105 [_, _, rowVs (.slice (some ⟨b106, 0, none⟩) 2 2) [3, 5]] from hQ)
 clear hQ
 go_wp2_with fail
 refine (o_still HO.out (HP.out _)).mono ?_
 rintro e x107 ⟨rfl, hO, -⟩
 replace HO := Hi hO
 clear hO
 go_wp2_with fail
 refine (rnew_o (xs := [3, 5]) (n := 2) (sd := sd) HO.out 2 rfl rfl (by decide) sv35_bd sv35_ne HSD.out.1 HSD.out.2).mono ?_
 rintro e x108 ⟨b, rfl, hO, -⟩
 replace hO := newZ hO
 clear hx105 hb106
 clear r2
 have hO := hO.toEnd 4 [3, 0, 1] rfl rfl
 replace HO := Hi (show Own _ _ _ [resZ b (restZ sd [] 0 0), resZ a (restZ sd [] 0 0), glR g] from hO)
 clear hO
 obtain ⟨x109, hx109, b110, hb110, hO⟩ := HO.out.allocE (.cells #[.int .i64 3, .int .i64 5] 3)
 replace HO := Hi (show Own _ _ _ [_, _, _, blkR b110 (.cells #[.int .i64 3, .int .i64 5] 3)] from hO)
 clear hO
 have r2 := run_bsI2 3 5
 have hQ := HO.out.toRowQ 3 2 1 rfl rfl (by decide)
 replace HO := Hi (show Own w glD x109 [_, _, _, rowVs (.slice (some ⟨b110, 0, none⟩) 2 2) [3, 5]] from hQ)
 clear hQ
 go_wp2_with fail
 refine (o_still HO.out (HP.out _)).mono ?_
 rintro e x111 ⟨rfl, hO, -⟩
 replace HO := Hi hO
 clear hO
 go_wp2_with fail
 refine (gnew_o (xs := [3, 5]) (n := 2) (sd := sd) HO.out 3 rfl rfl (by decide) (by decide) sv35_bd sv35_ne HSD.out.1 HSD.out.2).mono ?_
 rintro e x112 ⟨c, rfl, hO, -⟩
 clear hx109 hb110
 clear r2
 have hO := hO.toEnd 5 [4, 0, 1, 2] rfl rfl
 replace HO := Hi (show Own _ _ _ [resG c ⟨[3, 5], sd, [], [], 0, [], 0, 0⟩, resZ b (restZ sd [] 0 0), resZ a (restZ sd [] 0 0), glR g] from hO)
 clear hO
 go_wp2_with fail
 refine (o_still HO.out (HNM.out _)).mono ?_
 rintro e x113 ⟨rfl, hO, -⟩
 replace HO := Hi hO
 clear hO
 go_wp2_with fail
 refine (fg_res (A := [resG c ⟨[3, 5], sd, [], [], 0, [], 0, 0⟩, resZ b (restZ sd [] 0 0)]) HO.out HSD.out.1 HSD.out.2 HV.out).mono ?_
 rintro e x114 ⟨ba, ua, rfl, hO, -⟩
 have hO := hO.toEnd 5 [0, 2, 1, 3] rfl rfl
 replace HO := Hi (show Own _ _ _ [_, resZ a (pendZ sd [] 1 1 ba 0 [nm]), resZ b (restZ sd [] 0 0), _] from hO)
 clear hO
 go_wp2_with fail
 refine (o_still HO.out (HNM.out _)).mono ?_
 rintro e x115 ⟨rfl, hO, -⟩
 replace HO := Hi hO
 clear hO
 go_wp2_with fail
 refine (fg_res (A := [resG c ⟨[3, 5], sd, [], [], 0, [], 0, 0⟩, resZ a (pendZ sd [] 1 1 ba 0 [nm])]) HO.out HSD.out.1 HSD.out.2 HV.out).mono ?_
 rintro e x116 ⟨bb, ub, rfl, hO, -⟩
 have hO := hO.toEnd 5 [3, 1, 2, 0] rfl rfl
 replace HO := Hi (show Own _ _ _ [glR g, _, resZ b (pendZ sd [] 1 1 bb 0 [nm]), resG c ⟨[3, 5], sd, [], [], 0, [], 0, 0⟩] from hO)
 clear hO
 go_wp2_with fail
 refine (o_still HO.out (HNM.out _)).mono ?_
 rintro e x117 ⟨rfl, hO, -⟩
 replace HO := Hi hO
 clear hO
 have HGR := Hi (fun (w : World) (D : Nat → Prop) (h : Own w D w [resG c ⟨[3, 5], sd, [], [], 0, [], 0, 0⟩]) => gresolve_o (now := 0) (nm := nm) h (by show 0 < 2; decide) (by show 2 ≤ 4; decide) HSD.out.1 HSD.out.2 HV.out (by show (0 : Int) ≤ 0; decide) (by show (0 : Int) ≤ 100000; decide) (by show (0 : Int) ≤ 0; decide) (by show (0 : Int) ≤ 100000; decide) (by show 0 ≤ 8; decide) (by show 0 ≤ 1000; decide) (fun w D wv h => finish_e h rfl HV.out))
 go_wp2_with fail
 refine (o_frame (A := [glR g, resZ a (pendZ sd [] 1 1 ba 0 [nm]), resZ b (pendZ sd [] 1 1 bb 0 [nm])]) (Q := fun e B' => ∃ u r', e = .returned u ∧ B' = [resG c r'] ∧ GStep ⟨[3, 5], sd, [], [], 0, [], 0, 0⟩ 0 nm r') HO.out (fun D hD => (HGR.out _ D hD).mono fun e w' ⟨u, r', q1, q2, q3, q4⟩ => ⟨_, ⟨u, r', q1, rfl, q4⟩, q2, q3⟩)).mono ?_
 rintro e x118 ⟨B', ⟨u, r', rfl, rfl, hst⟩, hO, -⟩
 clear HGR
 have HST := Hi (gs_first hst)
 rw [HST.out] at hO
 clear hst
 have hO := hO.toEnd 4 [3, 0, 1, 2] rfl rfl
 obtain ⟨⟨vs, cc, vl, vf, avs⟩, hl, hO⟩ := openG hO
 simp only at hl hO
 obtain ⟨wv, rfl⟩ : ∃ v, avs = [v] := List.length_eq_one_iff.1 hl
 obtain ⟨la, lc, hvl⟩ := row_shape (hO.row 3 rfl)
 simp only at hvl
 subst hvl
 obtain ⟨gl, rfl⟩ := row_some (hO.row 3 rfl) Nat.one_pos
 have hO : Own w glD x118 [blkR c (.cells #[vs, .int .i64 sd, .pointer (some ⟨cc, 0, none⟩), .slice (some ⟨gl, 0, none⟩) 1 lc, vf, .int .i64 1, .int .i64 1] 96), rowVs vs [3, 5], resI cc [], rowR (.slice (some ⟨gl, 0, none⟩) 1 lc) 101 7 1 (wtC ⟨1, [nm], 1, 3, 20000 + (sd + 101) % 10000, (sd + 7919) % 65536, 0⟩ wv), sepR [rowK wv [nm]], rowVd vf 0 [], glR g, resZ a (pendZ sd [] 1 1 ba 0 [nm]), resZ b (pendZ sd [] 1 1 bb 0 [nm])] := hO
 have hO := hO.toEnd 9 [4, 0, 3, 6, 7, 8] rfl rfl
 have hO := Own.openC (Rs := [rowK wv [nm]]) hO
 obtain ⟨ka, kc, hwv⟩ := row_shape (hO.row 0 rfl)
 have hwr := hO.row 0 rfl
 rw [hwv] at hwr
 obtain ⟨gk, rfl⟩ := row_some hwr Nat.one_pos
 subst hwv
 clear hwr hl
 obtain ⟨pt, hpt⟩ : ∃ y, 20000 + (sd + 101) % 10000 = y := ⟨_, rfl⟩
 obtain ⟨qi, hqi⟩ : ∃ y, (sd + 7919) % 65536 = y := ⟨_, rfl⟩
 have HPT := Hi (And.intro hpt hqi)
 rw [hpt, hqi] at hO
 clear hpt hqi
 replace HO := Hi (show Own _ _ _ [rowK (.slice (some ⟨gk, 0, none⟩) 1 kc) [nm], blkR c (.cells #[vs, .int .i64 sd, .pointer (some ⟨cc, 0, none⟩), .slice (some ⟨gl, 0, none⟩) 1 lc, vf, .int .i64 1, .int .i64 1] 96), rowR (.slice (some ⟨gl, 0, none⟩) 1 lc) 101 7 1 [.int .i64 1, .slice (some ⟨gk, 0, none⟩) 1 kc, .int .i64 1, .int .i64 3, .int .i64 pt, .int .i64 qi, .int .i64 0], glR g, resZ a (pendZ sd [] 1 1 ba 0 [nm]), resZ b (pendZ sd [] 1 1 bb 0 [nm])] from hO)
 clear hO HST
 have hO := HO.out.toEnd 6 [3, 0, 1, 2, 5, 4] rfl rfl
 replace HO := Hi (show Own _ _ _ [glR g, rowK (.slice (some ⟨gk, 0, none⟩) 1 kc) [nm], blkR c (.cells #[vs, .int .i64 sd, .pointer (some ⟨cc, 0, none⟩), .slice (some ⟨gl, 0, none⟩) 1 lc, vf, .int .i64 1, .int .i64 1] 96), rowR (.slice (some ⟨gl, 0, none⟩) 1 lc) 101 7 1 [.int .i64 1, .slice (some ⟨gk, 0, none⟩) 1 kc, .int .i64 1, .int .i64 3, .int .i64 pt, .int .i64 qi, .int .i64 0], resZ b (pendZ sd [] 1 1 bb 0 [nm]), resZ a (pendZ sd [] 1 1 ba 0 [nm])] from hO)
 clear hO
 have HBP := Hi (fun x (h : Own w glD x [glR g, rowK (.slice (some ⟨gk, 0, none⟩) 1 kc) [nm], blkR c (.cells #[vs, .int .i64 sd, .pointer (some ⟨cc, 0, none⟩), .slice (some ⟨gl, 0, none⟩) 1 lc, vf, .int .i64 1, .int .i64 1] 96), rowR (.slice (some ⟨gl, 0, none⟩) 1 lc) 101 7 1 [.int .i64 1, .slice (some ⟨gk, 0, none⟩) 1 kc, .int .i64 1, .int .i64 3, .int .i64 pt, .int .i64 qi, .int .i64 0], resZ b (pendZ sd [] 1 1 bb 0 [nm]), resZ a (pendZ sd [] 1 1 ba 0 [nm])]) => (HB.out x _ h : Below w.heap.size w x))
 have z2_3 : x118.cell? _ = some (.slice (some ⟨gl, 0, none⟩) 1 lc) := HO.out.cell 2 rfl 3 rfl
 have HRA := Hi (fg_ri1 (b := ba) HSD.out.1 HSD.out.2 HV.out)
 have HPB := Hi (show (20000 ≤ pt ∧ pt < 30000) ∧ 0 ≤ qi ∧ qi ≤ 65535 by have := HSD.out; have := HPT.out; omega)
 go_wp2
 clear z2_3
 go_loopw [18] (fun iv wr => ∃ k : Nat, k ≤ len2 ∧ k ≤ 20 ∧ iv = .int .i64 k ∧ Own w glD wr [glR g, rowK (.slice (some ⟨gk, 0, none⟩) 1 kc) [nm], blkR c (.cells #[vs, .int .i64 sd, .pointer (some ⟨cc, 0, none⟩), .slice (some ⟨gl, 0, none⟩) 1 lc, vf, .int .i64 1, .int .i64 1] 96), rowR (.slice (some ⟨gl, 0, none⟩) 1 lc) 101 7 1 [.int .i64 1, .slice (some ⟨gk, 0, none⟩) 1 kc, .int .i64 1, .int .i64 3, .int .i64 pt, .int .i64 qi, .int .i64 0], resZ b (pendZ sd [] 1 1 bb 0 [nm]), resZ a (pendZ sd [] 1 1 ba 0 [nm])]) (fun iv _ => 20 - (intOf iv).toNat)
 case atStart => exact ⟨0, Nat.zero_le _, Nat.zero_le _, rfl, HO.out⟩
 case round =>
  obtain ⟨k, hk, hk20, rfl, hO⟩ := hrel
  replace HO := Hi hO
  clear hO
  by_cases hlt : k < len2 ∧ k < 20
  ·
   obtain ⟨hk1, hk2⟩ := hlt
   obtain ⟨bl, ol, rfl, hcc⟩ := HCC.out (by omega)
   have hcc := hcc k hk1
   have hok := HCK.out k hk1
   generalize gc k = x at *
   obtain ⟨xk, xn, xw, xc, xr, xt, xo, xp, xq, xs⟩ := x
   obtain ⟨rn, rg, hrq⟩ := hok.rv
   simp only at hrq
   have hxc : i64B xc := hok.cd
   have hxo : i64B xo := hok.ot
   obtain ⟨kr, hkr⟩ : ∃ y, min rn 8 = y := ⟨_, rfl⟩
   have HKR := Hi hkr
   have HKR8 := Hi (show kr ≤ 8 by omega)
   have HRQ := Hi hrq
   obtain ⟨pr, cr, hxr, -⟩ := id hrq
   subst hxr
   obtain ⟨kd, hkd⟩ : ∃ y, pk xc 6 = y := ⟨_, rfl⟩
   have HKD := Hi hkd
   have hkb := pk_bd xc 6 (by decide)
   rw [hkd] at hkb
   obtain ⟨rs, hrs⟩ : ∃ y, rrsF rg kr = y := ⟨_, rfl⟩
   have HRS := Hi hrs
   have HL := Hi (hrs ▸ rrsF_len rg kr)
   have HRV := Hi (hrs ▸ rrsF_v rg kr)
   have HCK2 := Hi (And.intro hxc hxo)
   obtain ⟨sm, hsm⟩ : ∃ y : ByteArray, ⟨(encM (mutD qi xo nm rs kd)).toArray⟩ = y := ⟨_, rfl⟩
   have HSM := Hi hsm
   have HBAD := Hi (show fgBad sd nm (mutF 3 xo kd) (mutO xo kd) (mutP pt xo kd) (mutD qi xo nm rs kd) by rw [← HPT.out.1, ← HPT.out.2]; exact mut_bad hkb HSD.out.1)
   have HDV := Hi (mutD_ok (id := qi) (n := xo) (nm := nm) (rs := rs) (k := kd) HPB.out.2.1 HPB.out.2.2 HV.out HOV.out (by rw [HL.out]; exact HKR8.out) HRV.out)
   clear hrs
   have hd1 : decide ((k : Int) < (len2 : Int)) = true := decide_eq_true (by omega)
   have hd2 : decide ((k : Int) < 20) = true := decide_eq_true (by omega)
   have HY := Hi (show w.cell? ⟨bl, ol + k * 10 + 3, none⟩ = some (.int .i64 xc) ∧ w.cell? ⟨bl, ol + k * 10 + 6, none⟩ = some (.int .i64 xo) ∧ w.cell? ⟨bl, ol + k * 10 + 4, none⟩ = some (.slice pr rn cr) from ⟨hcc 3 (by decide), hcc 6 (by decide), hcc 4 (by decide)⟩)
   clear hcc hok hrq hkr hkd hxc hxo hsm
   go_wp2
   have hb0 := HBP.out _ HO.out
   have gy3 := cell_regrown (keep hb0 HY.out.1)
   have gy6 := cell_regrown (keep hb0 HY.out.2.1)
   have gy4 := cell_regrown (keep hb0 HY.out.2.2)
   have g2_3 := cell_regrown (show wr.cell? _ = some (.slice (some ⟨gl, 0, none⟩) 1 lc) from HO.out.cell 2 rfl 3 rfl)
   have gw0 := cell_regrown (show wr.cell? ⟨gl, 0, none⟩ = some (.int .i64 1) from (row_cells (HO.out.row 3 rfl)).1 0 _ rfl)
   have gw1 := cell_regrown (show wr.cell? ⟨gl, 1, none⟩ = some (.slice (some ⟨gk, 0, none⟩) 1 kc) from (row_cells (HO.out.row 3 rfl)).1 1 _ rfl)
   have gw2 := cell_regrown (show wr.cell? ⟨gl, 2, none⟩ = some (.int .i64 1) from (row_cells (HO.out.row 3 rfl)).1 2 _ rfl)
   have gw3 := cell_regrown (show wr.cell? ⟨gl, 3, none⟩ = some (.int .i64 3) from (row_cells (HO.out.row 3 rfl)).1 3 _ rfl)
   have gw4 := cell_regrown (show wr.cell? ⟨gl, 4, none⟩ = some (.int .i64 pt) from (row_cells (HO.out.row 3 rfl)).1 4 _ rfl)
   have gw5 := cell_regrown (show wr.cell? ⟨gl, 5, none⟩ = some (.int .i64 qi) from (row_cells (HO.out.row 3 rfl)).1 5 _ rfl)
   have gw6 := cell_regrown (show wr.cell? ⟨gl, 6, none⟩ = some (.int .i64 0) from (row_cells (HO.out.row 3 rfl)).1 6 _ rfl)
   have hkl0 : (0 : Int) ≤ (k : Int) := by omega
   have hkl1 : (k : Int) < (len2 : Int) := by omega
   refine wp_region_R 28 (by kernel_rfl) (by kernel_rfl) ?_
   simp only [List.take, List.drop]
   iterate 21 (first | (refine wpR_want (by kernel_rfl) rfl rfl ?_; intro K hK; go_big_quiet_op; go_big_quiet_on) | (refine wpR_is (by kernel_rfl) rfl _ (fun w _ => rfl) ?_; simp only [Act.put, l_T, l_S, l_Z]))
   refine wpR_ex (recsOf kr rs) (recsOf_lasts _ _) (by kernel_rfl) (fun a' w' hw' he => ?_) (fun d hd => ?_)
   ·
    obtain ⟨h110, _⟩ := he
    have h110' : a'.tmps.getD 110 undef = .slice pr rn cr := h110
    refine wp_callG (f := 37) (args := #[.slice pr rn cr]) (by simp [go_sem, Act.eval, h110']) ?_
    refine (rrs_o _ (HRQ.out.stay (below_mid (HBP.out _ HO.out) hw')) HKR.out).mono ?_
    rintro e w'' ⟨la, lc, rfl, hO2⟩
    exact ⟨_, rfl, _, rfl, hO2.below, by rw [HRS.out] at hO2; exact ⟨la, lc, rfl, hO2.row 0 rfl⟩⟩
   cases hd
   simp only [List.nil_append]
   refine wpR_known (.tuple #[.int .i64 (mutF 3 xo kd), .agg #[.int .i64 (mutO xo kd), .int .i64 (mutP pt xo kd), .string sm]]) (by kernel_rfl) (fun a' w' hw' he => ?_) ?_
   ·
    obtain ⟨h95, h100, h105, ⟨ra, rc, h111, hrow⟩, _⟩ := he
    have h95' : a'.tmps.getD 95 undef = .agg #[.int .i64 1, .slice (some ⟨gk, 0, none⟩) 1 kc, .int .i64 1, .int .i64 3, .int .i64 pt, .int .i64 qi, .int .i64 0] := h95
    have h100' : a'.tmps.getD 100 undef = .int .i64 xc := h100
    have h105' : a'.tmps.getD 105 undef = .int .i64 xo := h105
    have h111' : a'.tmps.getD 111 undef = .slice ra kr rc := h111
    refine wp_callG (f := 43) (args := #[.agg #[.int .i64 1, .slice (some ⟨gk, 0, none⟩) 1 kc, .int .i64 1, .int .i64 3, .int .i64 pt, .int .i64 qi, .int .i64 0], .int .i64 xc, .int .i64 xo, .slice ra kr rc]) (by simp [go_sem, Act.eval, h95', h100', h105', h111']) ?_
    refine (mut_r (mi := 0) (m := 1) w' hrow HL.out HRV.out HKR8.out (keep hw' ((row_cells (HO.out.row 1 rfl)).1 0 _ rfl)) rfl (by decide) HV.out HOV.out HPB.out.2.1 HPB.out.2.2 HPB.out.1.1 HPB.out.1.2 (by decide) (by decide) HCK2.out.1 HCK2.out.2 HKD.out HSM.out).mono ?_
    rintro e w'' ⟨rfl, hb⟩
    exact ⟨_, rfl, rfl, hb⟩
   simp only [Act.put, l_T, l_S, l_Z]
   iterate 3 (first | (refine wpR_want (by kernel_rfl) rfl rfl ?_; intro K hK; go_big_quiet_op; go_big_quiet_on) | (refine wpR_is (by kernel_rfl) rfl _ (fun w _ => rfl) ?_; simp only [Act.put, l_T, l_S, l_Z]))
   refine wpR_ex (nblk wr.heap.size (.cells #[.int .i64 0, .int .i64 0, .string ⟨#[]⟩] 56)) (nblk_lasts _ _) (by kernel_rfl) (fun a' w' hw' he => ?_) (fun d hd => ?_)
   ·
    have hs := hw'.size
    simp [go_sem]
    exact ⟨_, rfl, (Below.refl _ _).alloc (Nat.le_refl _) _, ⟨w'.heap.size, rfl, hs, new_block _ _⟩⟩
   cases hd
   simp only [List.cons_append, List.nil_append]
   iterate 1 (first | (refine wpR_want (by kernel_rfl) rfl rfl ?_; intro K hK; go_big_quiet_op; go_big_quiet_on) | (refine wpR_is (by kernel_rfl) rfl _ (fun w _ => rfl) ?_; simp only [Act.put, l_T, l_S, l_Z]))
   refine wpR_nil (by kernel_rfl) (by simp) ?_
   rintro y1 hbw
   simp only [exAll]
   rintro u111 -
   rintro u20 ⟨bu, rfl, hgebu, hbbbu⟩
   simp only [Act.put, l_T, l_S, l_Z, List.drop]
   have hO := HO.out.push (R := blkR bu (.cells #[.int .i64 0, .int .i64 0, .string ⟨#[]⟩] 56)) (F := fun z => z = bu) ⟨fun _ => Iff.rfl, hbbbu⟩ (fun z hz => hz ▸ hgebu) hbw
   clear hgebu hbbbu
   replace HO := Hi (show Own _ _ _ [_, _, _, _, _, _, blkR bu (.cells #[.int .i64 0, .int .i64 0, .string ⟨#[]⟩] 56)] from hO)
   clear hO hbw  g2_3 gy3 gy6 gy4 hkl0 hkl1 hb0 gw0 gw1 gw2 gw3 gw4 gw5 gw6
   generalize mutF 3 xo kd = fr at *
   generalize mutO xo kd = fp at *
   generalize mutP pt xo kd = tp at *
   obtain ⟨x122, x125, x127, hx122, hx125, hx127, k6_0_119, lk6_0_119, k6_1_123, lk6_1_123, k6_2_126, lk6_2_126, hO⟩ := HO.out.steps3 6 rfl (.int .i64 fp) (.int .i64 tp) (.string sm)
   replace HO := Hi (show Own _ _ _ [_, _, _, _, _, _, blkR bu (.cells #[.int .i64 fp, .int .i64 tp, .string sm] 56)] from hO)
   clear hO
   obtain ⟨z6_0, z6_1, z6_2⟩ := HO.out.c3 6 rfl
   have HRC := Hi (fun A (h : Own w glD x127 (A ++ [resZ a (pendZ sd [] 1 1 ba 0 [nm]), glR g])) => rcv_o (fr := fr) (fp := fp) (tp := tp) (now := 1) (r := (false, (pendZ sd [] 1 1 ba 0 [nm]), [])) h HDV.out HSM.out HRA.out.zi (HRA.out.ci.later (by decide)) HG.out (by show (1 : Int) ≤ 100000; decide) (nu_of HRA.out (by decide)) (fg_miss HBAD.out))
   have hO := HO.out.toEnd 7 [1, 2, 3, 4, 5, 0] rfl rfl
   replace HO := Hi (show Own _ _ _ [rowK (.slice (some ⟨gk, 0, none⟩) 1 kc) [nm], blkR c (.cells #[vs, .int .i64 sd, .pointer (some ⟨cc, 0, none⟩), .slice (some ⟨gl, 0, none⟩) 1 lc, vf, .int .i64 1, .int .i64 1] 96), rowR (.slice (some ⟨gl, 0, none⟩) 1 lc) 101 7 1 [.int .i64 1, .slice (some ⟨gk, 0, none⟩) 1 kc, .int .i64 1, .int .i64 3, .int .i64 pt, .int .i64 qi, .int .i64 0], resZ b (pendZ sd [] 1 1 bb 0 [nm]), resZ a (pendZ sd [] 1 1 ba 0 [nm]), glR g] from hO)
   clear hO
   go_wp2_with fail
   refine (HRC.out [rowK (.slice (some ⟨gk, 0, none⟩) 1 kc) [nm], blkR c (.cells #[vs, .int .i64 sd, .pointer (some ⟨cc, 0, none⟩), .slice (some ⟨gl, 0, none⟩) 1 lc, vf, .int .i64 1, .int .i64 1] 96), rowR (.slice (some ⟨gl, 0, none⟩) 1 lc) 101 7 1 [.int .i64 1, .slice (some ⟨gk, 0, none⟩) 1 kc, .int .i64 1, .int .i64 3, .int .i64 pt, .int .i64 qi, .int .i64 0], resZ b (pendZ sd [] 1 1 bb 0 [nm])] HO.out).mono ?_
   rintro e x128 ⟨uq, rfl, hO, -⟩
   clear k6_0_119 lk6_0_119 hx122 k6_1_123 lk6_1_123 hx125 k6_2_126 lk6_2_126 hx127 z6_0 z6_1 z6_2
   clear HRC
   replace HO := Hi (show Own _ _ _ [_, _, _, _, _, _, rowQs uq []] from hO)
   clear hO
   obtain ⟨qa, qc, hq⟩ := row_shape (HO.out.row 6 rfl)
   subst hq
   replace HO := Hi (show Own w glD x128 [rowK (.slice (some ⟨gk, 0, none⟩) 1 kc) [nm], blkR c (.cells #[vs, .int .i64 sd, .pointer (some ⟨cc, 0, none⟩), .slice (some ⟨gl, 0, none⟩) 1 lc, vf, .int .i64 1, .int .i64 1] 96), rowR (.slice (some ⟨gl, 0, none⟩) 1 lc) 101 7 1 [.int .i64 1, .slice (some ⟨gk, 0, none⟩) 1 kc, .int .i64 1, .int .i64 3, .int .i64 pt, .int .i64 qi, .int .i64 0], resZ b (pendZ sd [] 1 1 bb 0 [nm]), resZ a (pendZ sd [] 1 1 ba 0 [nm]), glR g, rowQs (.slice qa 0 qc) []] from HO.out)
   have hO := HO.out.toEnd 7 [5, 0, 1, 2, 3, 4] rfl rfl
   replace HO := Hi (show Own _ _ _ [glR g, rowK (.slice (some ⟨gk, 0, none⟩) 1 kc) [nm], blkR c (.cells #[vs, .int .i64 sd, .pointer (some ⟨cc, 0, none⟩), .slice (some ⟨gl, 0, none⟩) 1 lc, vf, .int .i64 1, .int .i64 1] 96), rowR (.slice (some ⟨gl, 0, none⟩) 1 lc) 101 7 1 [.int .i64 1, .slice (some ⟨gk, 0, none⟩) 1 kc, .int .i64 1, .int .i64 3, .int .i64 pt, .int .i64 qi, .int .i64 0], resZ b (pendZ sd [] 1 1 bb 0 [nm]), resZ a (pendZ sd [] 1 1 ba 0 [nm])] from hO)
   clear hO
   go_wp2_with fail
   refine (o_frameV [glR g, rowK (.slice (some ⟨gk, 0, none⟩) 1 kc) [nm], blkR c (.cells #[vs, .int .i64 sd, .pointer (some ⟨cc, 0, none⟩), .slice (some ⟨gl, 0, none⟩) 1 lc, vf, .int .i64 1, .int .i64 1] 96), rowR (.slice (some ⟨gl, 0, none⟩) 1 lc) 101 7 1 [.int .i64 1, .slice (some ⟨gk, 0, none⟩) 1 kc, .int .i64 1, .int .i64 3, .int .i64 pt, .int .i64 qi, .int .i64 0], resZ b (pendZ sd [] 1 1 bb 0 [nm])] [resZ a (pendZ sd [] 1 1 ba 0 [nm])] (fun u => [resZ a (pendZ sd [] 1 1 ba 0 [nm]), resDn u []]) HO.out (fun D h => results_z h)).mono ?_
   rintro e x129 ⟨vd, rfl, hO, -⟩
   replace HO := Hi (show Own _ _ _ [_, _, _, _, _, _, resDn vd []] from hO)
   clear hO
   obtain ⟨da, dc, hv⟩ := dn_shapeF HO.out 6 rfl
   subst hv
   have hO := HO.out.take 6
   replace HO := Hi (show Own _ _ _ [_, _, _, _, _, _] from hO)
   clear hO
   go_wp2
   go_roundw
   case rel => exact ⟨k + 1, by omega, by omega, by go_num, HO.out⟩
   case measure => simp [intOf]; omega
  ·
   rcases (show ¬ k < len2 ∨ (k < len2 ∧ ¬ k < 20) by omega) with hge | ⟨hl3, hge⟩
   all_goals first
    | have hd1 : decide ((k : Int) < (len2 : Int)) = false := decide_eq_false (by omega)
    | (have hd1 : decide ((k : Int) < (len2 : Int)) = true := decide_eq_true (by omega); have hd2 : decide ((k : Int) < 20) = false := decide_eq_false (by omega))
   all_goals go_wp2_with fail
   all_goals (
    obtain ⟨cd, hcd⟩ : ∃ y, pk a3 3 = y := ⟨_, rfl⟩
    have HCD := Hi hcd
    have hcb := pk_bd a3 3 (by decide)
    rw [hcd] at hcb
    obtain ⟨rs, hrs⟩ : ∃ y, rrsF gr k0 = y := ⟨_, rfl⟩
    have HRS := Hi hrs
    have HL := Hi (hrs ▸ rrsF_len gr k0)
    have HRV := Hi (hrs ▸ rrsF_v gr k0)
    obtain ⟨sm, hsm⟩ : ∃ y : ByteArray, ⟨(encM (ansD qi cd nm rs)).toArray⟩ = y := ⟨_, rfl⟩
    have HSM := Hi hsm
    have HDV := Hi (ansD_ok (id := qi) (cd := cd) (nm := nm) (rs := rs) HPB.out.2.1 HPB.out.2.2 hcb.1 (by omega) HV.out (by rw [HL.out]; exact HK8.out) HRV.out)
    obtain ⟨r, hr⟩ : ∃ r, rcvZ 2 (pendZ sd [] 1 1 ba 0 [nm]) 3 53 pt (ansD qi cd nm rs) = r := ⟨_, rfl⟩
    have hit : r.1 = true := by rw [← hr, ← HPT.out.1]; exact fg_hit rfl rfl HPT.out.2.symm rfl
    have hrb : rcvZ 2 (pendZ sd [] 1 1 bb 0 [nm]) 3 53 pt (ansD qi cd nm rs) = (r.1, ren2 (fun _ => bb) r.2) := by rw [← hr]; exact ren_rcv (f := fun _ => bb) (z := (pendZ sd [] 1 1 ba 0 [nm]))
    have hql : r.2.2.length ≤ 1 := by rw [← hr]; exact rcv_q
    have hri : RI 2 1 2 r.2.1 := by rw [← hr]; exact rcv_ri (HRA.out.later (by decide) (Nat.le_refl _)) (by decide) (by decide) HDV.out 3 53 pt
    obtain ⟨is, z, q⟩ := r
    simp only at hit hrb hql hri
    subst hit
    have HRR := Hi hr
    have HRB := Hi hrb
    have HRI := Hi hri
    have HQL := Hi (show q.length ≤ 1000 by omega)
    clear hcd hcb hrs hsm hr hrb hri hql hge
    have hO := HO.out.toEnd 6 [5, 0, 1, 2, 3, 4] rfl rfl
    replace HO := Hi (show Own _ _ _ [resZ a (pendZ sd [] 1 1 ba 0 [nm]), glR g, rowK (.slice (some ⟨gk, 0, none⟩) 1 kc) [nm], blkR c (.cells #[vs, .int .i64 sd, .pointer (some ⟨cc, 0, none⟩), .slice (some ⟨gl, 0, none⟩) 1 lc, vf, .int .i64 1, .int .i64 1] 96), rowR (.slice (some ⟨gl, 0, none⟩) 1 lc) 101 7 1 [.int .i64 1, .slice (some ⟨gk, 0, none⟩) 1 kc, .int .i64 1, .int .i64 3, .int .i64 pt, .int .i64 qi, .int .i64 0], resZ b (pendZ sd [] 1 1 bb 0 [nm])] from hO)
    clear hO
    skip
    refine (show Calls Tryz.prog 39 #[.pointer (some ⟨a, 0, none⟩)] wr (OPost w glD [resZ a (pendZ sd [] 1 1 ba 0 [nm]), glR g, rowK (.slice (some ⟨gk, 0, none⟩) 1 kc) [nm], blkR c (.cells #[vs, .int .i64 sd, .pointer (some ⟨cc, 0, none⟩), .slice (some ⟨gl, 0, none⟩) 1 lc, vf, .int .i64 1, .int .i64 1] 96), rowR (.slice (some ⟨gl, 0, none⟩) 1 lc) 101 7 1 [.int .i64 1, .slice (some ⟨gk, 0, none⟩) 1 kc, .int .i64 1, .int .i64 3, .int .i64 pt, .int .i64 qi, .int .i64 0], resZ b (pendZ sd [] 1 1 bb 0 [nm])] (.tuple #[.int .i64 1, .int .i64 0]) wr) from sizes_z HO.out).mono ?_
    rintro e x119 ⟨rfl, hO, -⟩
    replace HO := Hi hO
    clear hO
    have z3_3 : x119.cell? _ = some (.slice (some ⟨gl, 0, none⟩) 1 lc) := HO.out.cell 3 rfl 3 rfl
    go_wp2
    clear z3_3
    have hO := HO.out.toEnd 6 [1, 2, 3, 4, 5, 0] rfl rfl
    replace HO := Hi (show Own _ _ _ [glR g, rowK (.slice (some ⟨gk, 0, none⟩) 1 kc) [nm], blkR c (.cells #[vs, .int .i64 sd, .pointer (some ⟨cc, 0, none⟩), .slice (some ⟨gl, 0, none⟩) 1 lc, vf, .int .i64 1, .int .i64 1] 96), rowR (.slice (some ⟨gl, 0, none⟩) 1 lc) 101 7 1 [.int .i64 1, .slice (some ⟨gk, 0, none⟩) 1 kc, .int .i64 1, .int .i64 3, .int .i64 pt, .int .i64 qi, .int .i64 0], resZ b (pendZ sd [] 1 1 bb 0 [nm]), resZ a (pendZ sd [] 1 1 ba 0 [nm])] from hO)
    clear hO
    obtain ⟨-, -, -, g2_3, -, -, -⟩ := HO.out.g7 2 rfl
    have gw0 := cell_regrown (show x119.cell? ⟨gl, 0, none⟩ = some (.int .i64 1) from (row_cells (HO.out.row 3 rfl)).1 0 _ rfl)
    have gw1 := cell_regrown (show x119.cell? ⟨gl, 1, none⟩ = some (.slice (some ⟨gk, 0, none⟩) 1 kc) from (row_cells (HO.out.row 3 rfl)).1 1 _ rfl)
    have gw2 := cell_regrown (show x119.cell? ⟨gl, 2, none⟩ = some (.int .i64 1) from (row_cells (HO.out.row 3 rfl)).1 2 _ rfl)
    have gw3 := cell_regrown (show x119.cell? ⟨gl, 3, none⟩ = some (.int .i64 3) from (row_cells (HO.out.row 3 rfl)).1 3 _ rfl)
    have gw4 := cell_regrown (show x119.cell? ⟨gl, 4, none⟩ = some (.int .i64 pt) from (row_cells (HO.out.row 3 rfl)).1 4 _ rfl)
    have gw5 := cell_regrown (show x119.cell? ⟨gl, 5, none⟩ = some (.int .i64 qi) from (row_cells (HO.out.row 3 rfl)).1 5 _ rfl)
    have gw6 := cell_regrown (show x119.cell? ⟨gl, 6, none⟩ = some (.int .i64 0) from (row_cells (HO.out.row 3 rfl)).1 6 _ rfl)
    refine wp_region_R 15 (by kernel_rfl) (by kernel_rfl) ?_
    simp only [List.take, List.drop]
    iterate 8 (first | (refine wpR_want (by kernel_rfl) rfl rfl ?_; intro K hK; go_big_quiet_op; go_big_quiet_on) | (refine wpR_is (by kernel_rfl) rfl _ (fun w _ => rfl) ?_; simp only [Act.put, l_T, l_S, l_Z]))
    refine wpR_ex (recsOf k0 rs) (recsOf_lasts _ _) (by kernel_rfl) (fun a' w' hw' he => ?_) (fun d hd => ?_)
    ·
     obtain ⟨h153, _⟩ := he
     have h153' : a'.tmps.getD 153 undef = v4 := h153
     refine wp_callG (f := 37) (args := #[v4]) (by simp [go_sem, Act.eval, h153']) ?_
     refine (rrs_o _ (HR.out.stay (below_mid (HBP.out _ HO.out) hw')) HK0.out).mono ?_
     rintro e w'' ⟨la, lc, rfl, hO2⟩
     exact ⟨_, rfl, _, rfl, hO2.below, by rw [HRS.out] at hO2; exact ⟨la, lc, rfl, hO2.row 0 rfl⟩⟩
    cases hd
    simp only [List.nil_append]
    refine wpR_known (.tuple #[.int .i64 3, .agg #[.int .i64 53, .int .i64 pt, .string sm]]) (by kernel_rfl) (fun a' w' hw' he => ?_) ?_
    ·
     obtain ⟨h151, h152, ⟨ra, rc, h154, hrow⟩, _⟩ := he
     have h151' : a'.tmps.getD 151 undef = .agg #[.int .i64 1, .slice (some ⟨gk, 0, none⟩) 1 kc, .int .i64 1, .int .i64 3, .int .i64 pt, .int .i64 qi, .int .i64 0] := h151
     have h152' : a'.tmps.getD 152 undef = .int .i64 a3 := h152
     have h154' : a'.tmps.getD 154 undef = .slice ra k0 rc := h154
     refine wp_callG (f := 44) (args := #[.agg #[.int .i64 1, .slice (some ⟨gk, 0, none⟩) 1 kc, .int .i64 1, .int .i64 3, .int .i64 pt, .int .i64 qi, .int .i64 0], .int .i64 a3, .slice ra k0 rc]) (by simp [go_sem, Act.eval, h151', h152', h154']) ?_
     refine (answer_r (mi := 0) (m := 1) w' hrow HL.out HRV.out HK8.out (keep hw' ((row_cells (HO.out.row 1 rfl)).1 0 _ rfl)) rfl (by decide) HV.out HPB.out.2.1 HPB.out.2.2 HRE.out HCD.out HSM.out).mono ?_
     rintro e w'' ⟨rfl, hb⟩
     exact ⟨_, rfl, rfl, hb⟩
    simp only [Act.put, l_T, l_S, l_Z]
    iterate 3 (first | (refine wpR_want (by kernel_rfl) rfl rfl ?_; intro K hK; go_big_quiet_op; go_big_quiet_on) | (refine wpR_is (by kernel_rfl) rfl _ (fun w _ => rfl) ?_; simp only [Act.put, l_T, l_S, l_Z]))
    refine wpR_ex (nblk x119.heap.size (.cells #[.int .i64 0, .int .i64 0, .string ⟨#[]⟩] 56)) (nblk_lasts _ _) (by kernel_rfl) (fun a' w' hw' he => ?_) (fun d hd => ?_)
    ·
     have hs := hw'.size
     simp [go_sem]
     exact ⟨_, rfl, (Below.refl _ _).alloc (Nat.le_refl _) _, ⟨w'.heap.size, rfl, hs, new_block _ _⟩⟩
    cases hd
    simp only [List.cons_append, List.nil_append]
    iterate 1 (first | (refine wpR_want (by kernel_rfl) rfl rfl ?_; intro K hK; go_big_quiet_op; go_big_quiet_on) | (refine wpR_is (by kernel_rfl) rfl _ (fun w _ => rfl) ?_; simp only [Act.put, l_T, l_S, l_Z]))
    refine wpR_nil (by kernel_rfl) (by simp) ?_
    rintro y3 hbw
    simp only [exAll]
    rintro u154 -
    rintro u26 ⟨bu, rfl, hgebu, hbbbu⟩
    simp only [Act.put, l_T, l_S, l_Z, List.drop]
    have hO := HO.out.push (R := blkR bu (.cells #[.int .i64 0, .int .i64 0, .string ⟨#[]⟩] 56)) (F := fun z => z = bu) ⟨fun _ => Iff.rfl, hbbbu⟩ (fun z hz => hz ▸ hgebu) hbw
    clear hgebu hbbbu
    replace HO := Hi (show Own _ _ _ [_, _, _, _, _, _, blkR bu (.cells #[.int .i64 0, .int .i64 0, .string ⟨#[]⟩] 56)] from hO)
    clear hO hbw  g2_3 gw0 gw1 gw2 gw3 gw4 gw5 gw6
    obtain ⟨x123, x126, x128, hx123, hx126, hx128, k6_0_120, lk6_0_120, k6_1_124, lk6_1_124, k6_2_127, lk6_2_127, hO⟩ := HO.out.steps3 6 rfl (.int .i64 53) (.int .i64 pt) (.string sm)
    replace HO := Hi (show Own _ _ _ [_, _, _, _, _, _, blkR bu (.cells #[.int .i64 53, .int .i64 pt, .string sm] 56)] from hO)
    clear hO
    have hO := HO.out.toEnd 7 [1, 2, 3, 4, 6, 5, 0] rfl rfl
    replace HO := Hi (show Own _ _ _ [rowK (.slice (some ⟨gk, 0, none⟩) 1 kc) [nm], blkR c (.cells #[vs, .int .i64 sd, .pointer (some ⟨cc, 0, none⟩), .slice (some ⟨gl, 0, none⟩) 1 lc, vf, .int .i64 1, .int .i64 1] 96), rowR (.slice (some ⟨gl, 0, none⟩) 1 lc) 101 7 1 [.int .i64 1, .slice (some ⟨gk, 0, none⟩) 1 kc, .int .i64 1, .int .i64 3, .int .i64 pt, .int .i64 qi, .int .i64 0], resZ b (pendZ sd [] 1 1 bb 0 [nm]), blkR bu (.cells #[.int .i64 53, .int .i64 pt, .string sm] 56), _, glR g] from hO)
    clear hO
    obtain ⟨z4_0, z4_1, z4_2⟩ := HO.out.c3 4 rfl
    go_wp2_with fail
    refine (rcv_o (A := [rowK (.slice (some ⟨gk, 0, none⟩) 1 kc) [nm], blkR c (.cells #[vs, .int .i64 sd, .pointer (some ⟨cc, 0, none⟩), .slice (some ⟨gl, 0, none⟩) 1 lc, vf, .int .i64 1, .int .i64 1] 96), rowR (.slice (some ⟨gl, 0, none⟩) 1 lc) 101 7 1 [.int .i64 1, .slice (some ⟨gk, 0, none⟩) 1 kc, .int .i64 1, .int .i64 3, .int .i64 pt, .int .i64 qi, .int .i64 0], resZ b (pendZ sd [] 1 1 bb 0 [nm]), blkR bu (.cells #[.int .i64 53, .int .i64 pt, .string sm] 56)]) (r := (true, z, q)) HO.out HDV.out HSM.out HRA.out.zi (HRA.out.ci.later (by decide)) HG.out (by show (1 : Int) ≤ 100000; decide) (nu_of HRA.out (by decide)) HRR.out).mono ?_
    rintro e x129 ⟨ua, rfl, hO, -⟩
    clear k6_0_120 lk6_0_120 hx123 k6_1_124 lk6_1_124 hx126 k6_2_127 lk6_2_127 hx128 z4_0 z4_1 z4_2
    replace HO := Hi (show Own _ _ _ [_, _, _, _, _, resZ a z, _, rowQs ua q] from hO)
    clear hO
    have hO := HO.out.toEnd 8 [0, 1, 2, 4, 5, 7, 3, 6] rfl rfl
    replace HO := Hi (show Own _ _ _ [_, _, _, blkR bu (.cells #[.int .i64 53, .int .i64 pt, .string sm] 56), resZ a z, rowQs ua q, resZ b (pendZ sd [] 1 1 bb 0 [nm]), glR g] from hO)
    clear hO
    obtain ⟨z3_0, z3_1, z3_2⟩ := HO.out.c3 3 rfl
    have HRA2 := Hi (fg_ri1 (b := bb) HSD.out.1 HSD.out.2 HV.out)
    go_wp2_with fail
    refine (rcv_o (A := [rowK (.slice (some ⟨gk, 0, none⟩) 1 kc) [nm], blkR c (.cells #[vs, .int .i64 sd, .pointer (some ⟨cc, 0, none⟩), .slice (some ⟨gl, 0, none⟩) 1 lc, vf, .int .i64 1, .int .i64 1] 96), rowR (.slice (some ⟨gl, 0, none⟩) 1 lc) 101 7 1 [.int .i64 1, .slice (some ⟨gk, 0, none⟩) 1 kc, .int .i64 1, .int .i64 3, .int .i64 pt, .int .i64 qi, .int .i64 0], blkR bu (.cells #[.int .i64 53, .int .i64 pt, .string sm] 56), resZ a z, rowQs ua q]) (r := (true, ren (fun _ => bb) z, q)) HO.out HDV.out HSM.out HRA2.out.zi (HRA2.out.ci.later (by decide)) HG.out (by show (1 : Int) ≤ 100000; decide) (nu_of HRA2.out (by decide)) HRB.out).mono ?_
    rintro e x130 ⟨ub, rfl, hO, -⟩
    clear z3_0 z3_1 z3_2
    replace HO := Hi (show Own _ _ _ [_, _, _, _, _, _, resZ b (ren (fun _ => bb) z), _, rowQs ub q] from hO)
    clear hO
    have hO := HO.out.toEnd 9 [5, 8, 7, 6, 4] rfl rfl
    replace HO := Hi (show Own _ _ _ [rowQs ua q, rowQs ub q, glR g, resZ b (ren (fun _ => bb) z), _] from hO)
    clear hO
    go_wp2_with fail
    refine (o_still HO.out (sameQ_r _ (HO.out.row 0 rfl) (HO.out.row 1 rfl) rfl HQL.out)).mono ?_
    rintro e x131 ⟨rfl, hO, -⟩
    replace HO := Hi hO
    clear hO
    go_wp2_with fail
    refine (o_frameV [rowQs ua q, rowQs ub q, glR g, resZ b (ren (fun _ => bb) z)] [resZ a z] (fun u => [resZ a (takenZ z), resDn u z.dn]) HO.out (fun D h => results_z h)).mono ?_
    rintro e x132 ⟨va, rfl, hO, -⟩
    replace HO := Hi (show Own _ _ _ [_, _, _, _, resZ a (takenZ z), resDn va z.dn] from hO)
    clear hO
    have hO := HO.out.toEnd 6 [2, 4, 5, 3] rfl rfl
    replace HO := Hi (show Own _ _ _ [glR g, resZ a (takenZ z), resDn va z.dn, _] from hO)
    clear hO
    go_wp2_with fail
    refine (o_frameV [glR g, resZ a (takenZ z), resDn va z.dn] [resZ b (ren (fun _ => bb) z)] (fun u => [resZ b (takenZ (ren (fun _ => bb) z)), resDn u z.dn]) HO.out (fun D h => results_z h)).mono ?_
    rintro e x133 ⟨vb, rfl, hO, -⟩
    replace HO := Hi (show Own _ _ _ [_, _, _, resZ b (takenZ (ren (fun _ => bb) z)), resDn vb z.dn] from hO)
    clear hO
    have HDN := Hi (show z.dn.length ≤ 1 by have := HRI.out.dnlen; omega)
    have HAD := Hi (fun d hd => (HRI.out.er d hd).2)
    go_wp2_with fail
    refine (o_still HO.out (sameF_r _ (rdrn_any HO.out 2 rfl HDN.out HAD.out) (rdrn_any HO.out 4 rfl HDN.out HAD.out) (by have := HDN.out; omega))).mono ?_
    rintro e x134 ⟨rfl, hO, -⟩
    replace HO := Hi hO
    clear hO
    have hO := HO.out.toEnd 5 [3, 1, 0] rfl rfl
    replace HO := Hi (show Own _ _ _ [resZ b (takenZ (ren (fun _ => bb) z)), _, glR g] from hO)
    clear hO
    have HTK := Hi (fun (z : Rz) (hz : RI 2 1 2 z) (x : Nat) (w : World) (D : Nat → Prop) (h : Own w D w [resZ x (takenZ z), glR g]) => tick_z (now := 12) h (taken_ok hz.zi) hz.w8 (by have := hz.qn; have := hz.w8; show z.qn + z.wl.length ≤ 100000; omega) (by have := hz.w8; show 0 + z.wl.length ≤ 900; omega) (fun p hp => by have := hz.se p hp; omega) (by decide))
    go_wp2_with fail
    refine (o_frameV [resZ b (takenZ (ren (fun _ => bb) z))] [resZ a (takenZ z), glR g] (fun u => [resZ a (tickZ 12 (takenZ z)).1, glR g, rowQs u (tickZ 12 (takenZ z)).2]) HO.out (fun D h => HTK.out z HRI.out a _ D h)).mono ?_
    rintro e x135 ⟨ta, rfl, hO, -⟩
    replace HO := Hi (show Own _ _ _ [_, resZ a (tickZ 12 (takenZ z)).1, _, rowQs ta (tickZ 12 (takenZ z)).2] from hO)
    clear hO
    have hO := HO.out.toEnd 4 [3, 0, 2] rfl rfl
    replace HO := Hi (show Own _ _ _ [rowQs ta (tickZ 12 (takenZ z)).2, resZ b (takenZ (ren (fun _ => bb) z)), _] from hO)
    clear hO
    have HRN := Hi (ren_ri (f := fun _ => bb) HRI.out)
    go_wp2_with fail
    refine (o_frameV [rowQs ta (tickZ 12 (takenZ z)).2] [resZ b (takenZ (ren (fun _ => bb) z)), glR g] (fun u => [resZ b (tickZ 12 (takenZ (ren (fun _ => bb) z))).1, glR g, rowQs u (tickZ 12 (takenZ (ren (fun _ => bb) z))).2]) HO.out (fun D h => HTK.out (ren (fun _ => bb) z) HRN.out b _ D h)).mono ?_
    rintro e x136 ⟨tb, rfl, hO, -⟩
    rw [show tickZ 12 (takenZ (ren (fun _ => bb) z)) = ren2 (fun _ => bb) (tickZ 12 (takenZ z)) from ren_tick (f := fun _ => bb) (z := takenZ z)] at hO
    replace HO := Hi (show Own _ _ _ [_, resZ b (ren2 (fun _ => bb) (tickZ 12 (takenZ z))).1, _, rowQs tb (tickZ 12 (takenZ z)).2] from hO)
    clear hO
    have HTL := Hi (show (tickZ 12 (takenZ z)).2.length ≤ 1000 by have h1 := tick_q (now := 12) (z := takenZ z); have h2 : (takenZ z).wl.length ≤ 8 := HRI.out.w8; omega)
    go_wp2_with fail
    refine (o_still HO.out (sameQ_r _ (HO.out.row 0 rfl) (HO.out.row 3 rfl) rfl HTL.out)).mono ?_
    rintro e x137 ⟨rfl, hO, -⟩
    replace HO := Hi hO
    clear hO
    go_wp2
    go_ret
    exact ⟨rfl, HO.out.toEnd 4 [2] rfl rfl, HO.out.size⟩)

end Go.Proofs.YtbolfkojebbejaaGreatDoor
