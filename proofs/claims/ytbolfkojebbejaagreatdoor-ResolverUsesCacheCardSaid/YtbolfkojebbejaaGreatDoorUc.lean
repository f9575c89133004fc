/- The walk of ResolverUsesCache. Printed by wip/tools/gen21B.py. -/
import Derived.Test.YtbolfkojebbejaaGreatDoorUcP
import Derived.Test.YtbolfkojebbejaaGreatDoorLr3
set_option linter.unusedVariables false
set_option maxRecDepth 100000
set_option maxHeartbeats 32000000
namespace Go.Proofs.YtbolfkojebbejaaGreatDoor
open Go.RowKit Go.Sort
attribute [local go_sem] Oper.semAt_some

section
variable {w0 w : World} {D : Nat → Prop} {a b : Nat} {nm out : ByteArray} {T A at_ : Int} {rf : Bool} {g : Glo} {X : List Res}
theorem uc_zi {tk qn : Int} {wl : List (Nat × Lk)} {es : List En} {dn : List Rn} {t : Int} (hq : 0 ≤ qn) (hi : CInv t es) (hw : wl.length ≤ 100) (hk : ∀ p ∈ wl, LkOk p.2) (hd : dn.length ≤ 1000) : ZI ⟨[3], 5, es, tk, qn, wl, dn⟩ :=
 ⟨by show 0 < 1; decide, by show 1 ≤ 4; decide, by show (0 : Int) ≤ 5; decide, by show (5 : Int) ≤ 4294967295; decide, hq, hw, hk, hd, hi.len, hi.ap, en_of hi⟩
def UcR (w0 : World) (D : Nat → Prop) (w : World) (X : List Res) (a : Nat) (g : Glo) (tk : Int) (z : Nat → Rz) (q : List Qy) (e : Ending) (w' : World) : Prop := ∃ b u, e = .returned (.tuple #[.int .i64 tk, u, .int .i64 0]) ∧ Own w0 D w' (X ++ [resZ a (z b), glR g, rowQs u q]) ∧ w.heap.size ≤ w'.heap.size
theorem uc_res1 (h : Own w0 D w (X ++ [resZ a uc0, glR g])) (hv : vname nm = true) : Calls Tryz.prog 15 #[.pointer (some ⟨a, 0, none⟩), .int .i64 0, .string nm] w (UcR w0 D w X a g 1 (uc1 nm) [qyZ 5 0 3 nm]) := by
 refine (o_frame (A := X) (B := [resZ a uc0, glR g]) (Q := fun e B' => ∃ b u, e = .returned (.tuple #[.int .i64 1, u, .int .i64 0]) ∧ B' = [resZ a (uc1 nm b), glR g, rowQs u [qyZ 5 0 3 nm]]) h
  (fun D' hD => (resolve_z (now := 0) (nm := nm) hD (uc_zi (by decide) (CInv.nil 0) (by show 0 ≤ 100; decide) (fun p hp => (by cases hp)) (by show 0 ≤ 1000; decide)) hv (by show 0 < 8; decide) (by show (0 : Int) ≤ 100000; decide) (by show (0 : Int) ≤ 0; decide) (by show (0 : Int) ≤ 100000; decide)).mono fun e w' ⟨b, u, h1, h2, h3⟩ => ⟨_, ⟨b, u, h1, rfl⟩, by rw [uc_start] at h2; exact h2, h3⟩)).mono ?_
 rintro e w' ⟨B', ⟨b, u, rfl, rfl⟩, hO, hs⟩
 exact ⟨b, u, rfl, hO, hs⟩
theorem uc_res2y (h : Own w0 D w (X ++ [resZ a (uc2 (ucE nm T A rf) []), glR g])) (hv : vname nm = true) (hc : CInv 1 [ucE nm T A rf]) (hy : at_ < (ucE nm T A rf).ex) : Calls Tryz.prog 15 #[.pointer (some ⟨a, 0, none⟩), .int .i64 at_, .string nm] w (UcR w0 D w X a g 2 (fun _ => uc3 (ucE nm T A rf) [⟨2, ucX rf, ucA A rf⟩]) []) := by
 refine (o_frame (A := X) (B := [resZ a (uc2 (ucE nm T A rf) []), glR g]) (Q := fun e B' => ∃ (b : Nat) (u : Value), e = .returned (.tuple #[.int .i64 2, u, .int .i64 0]) ∧ B' = [resZ a (uc3 (ucE nm T A rf) [⟨2, ucX rf, ucA A rf⟩]), glR g, rowQs u []]) h
  (fun D' hD => (resolve_z (now := at_) (nm := nm) hD (uc_zi (by decide) hc (by show 0 ≤ 100; decide) (fun p hp => (by cases hp)) (by show 0 ≤ 1000; decide)) hv (by show 0 < 8; decide) (by show (1 : Int) ≤ 100000; decide) (by show (0 : Int) ≤ 1; decide) (by show (1 : Int) ≤ 100000; decide)).mono fun e w' ⟨b, u, h1, h2, h3⟩ => ⟨_, ⟨b, u, h1, rfl⟩, by rw [uc_yes hy] at h2; exact h2, h3⟩)).mono ?_
 rintro e w' ⟨B', ⟨b, u, rfl, rfl⟩, hO, hs⟩
 exact ⟨b, u, rfl, hO, hs⟩
theorem uc_res2n (h : Own w0 D w (X ++ [resZ a (uc2 (ucE nm T A rf) []), glR g])) (hv : vname nm = true) (hc : CInv 1 [ucE nm T A rf]) (hy : ¬ at_ < (ucE nm T A rf).ex) : Calls Tryz.prog 15 #[.pointer (some ⟨a, 0, none⟩), .int .i64 at_, .string nm] w (UcR w0 D w X a g 2 (uc4 (ucE nm T A rf) nm at_) [qyZ 5 1 3 nm]) := by
 refine (o_frame (A := X) (B := [resZ a (uc2 (ucE nm T A rf) []), glR g]) (Q := fun e B' => ∃ (b : Nat) (u : Value), e = .returned (.tuple #[.int .i64 2, u, .int .i64 0]) ∧ B' = [resZ a (uc4 (ucE nm T A rf) nm at_ b), glR g, rowQs u [qyZ 5 1 3 nm]]) h
  (fun D' hD => (resolve_z (now := at_) (nm := nm) hD (uc_zi (by decide) hc (by show 0 ≤ 100; decide) (fun p hp => (by cases hp)) (by show 0 ≤ 1000; decide)) hv (by show 0 < 8; decide) (by show (1 : Int) ≤ 100000; decide) (by show (0 : Int) ≤ 1; decide) (by show (1 : Int) ≤ 100000; decide)).mono fun e w' ⟨b, u, h1, h2, h3⟩ => ⟨_, ⟨b, u, h1, rfl⟩, by rw [uc_no hy] at h2; exact h2, h3⟩)).mono ?_
 rintro e w' ⟨B', ⟨b, u, rfl, rfl⟩, hO, hs⟩
 exact ⟨b, u, rfl, hO, hs⟩
def UcA (w0 : World) (D : Nat → Prop) (w : World) (X : List Res) (a : Nat) (g : Glo) (z : Rz) (e : Ending) (w' : World) : Prop := ∃ u, e = .returned (.tuple #[.bool true, u]) ∧ Own w0 D w' (X ++ [resZ a z, glR g, rowQs u []]) ∧ w.heap.size ≤ w'.heap.size
theorem uc_recv (h : Own w0 D w (X ++ [resZ a (uc1 nm b), glR g])) (hg : g.ok = true) (hv : vname nm = true) (hT : 1 ≤ T ∧ T ≤ 50) (hA : 1 ≤ A ∧ A ≤ 9) (ho : ⟨(encM (ansM (ucL nm T A rf) false 7924 nm)).toArray⟩ = out) :
  Calls Tryz.prog 24 #[.pointer (some ⟨a, 0, none⟩), .int .i64 1, .int .i64 3, .agg #[.int .i64 53, .int .i64 20106, .string out]] w (UcA w0 D w X a g (uc2 (ucE nm T A rf) [⟨1, ucX rf, ucA A rf⟩])) := by
 have hd := ansM_ok (all := false) (l := ucL nm T A rf) (by cases rf; (· show 1 ≤ 8; decide); · show 0 ≤ 8; decide) (ucL_v hv hT hA) hv (by decide : (0 : Int) ≤ 7924) (by decide)
 have hR := uc_ans (b := b) (rf := rf) hv hT hA
 obtain ⟨cd, rs, hf⟩ : ∃ cd rs, ansM (ucL nm T A rf) false 7924 nm = ⟨7924, true, cd, nm, 1, rs⟩ := by
  unfold ansM
  split
  ·
   exact ⟨_, _, rfl⟩
  ·
   exact ⟨_, _, rfl⟩
 rw [hf] at hd hR ho
 have hms : ∀ s : ByteArray, vname s = true → s.size ≤ maxLen := fun s hs => by have := vname_sz hs; unfold maxLen; omega
 refine (o_frame (A := X) (B := [resZ a (uc1 nm b), glR g]) (Q := fun e B' => ∃ u, e = .returned (.tuple #[.bool true, u]) ∧ B' = [resZ a (uc2 (ucE nm T A rf) [⟨1, ucX rf, ucA A rf⟩]), glR g, rowQs u []]) h
  (fun D' hD => (receive_go (n := rs.length) hD rfl hd ho.symm (uc_zi (by decide) (CInv.nil 1) (by show 1 ≤ 100; decide) (fun p hm => by
   obtain rfl := List.mem_singleton.1 hm
   exact ⟨by show 0 < 1; decide, by show 1 ≤ 5; decide, fun s hs => by rw [List.mem_singleton.1 hs]; exact hv, by show (0 : Int) ≤ 1; decide, by show (1 : Int) ≤ 12; decide⟩) (by show 0 ≤ 1000; decide)) (CInv.nil 1) hg (by show (1 : Int) ≤ 100000; decide) (Nat.le_trans hd.len (by decide)) (fun x hx => by
   rcases (hd.rs x hx).al with ⟨h, _⟩ | ⟨_, h, _⟩
   ·
    exact .inl h
   ·
    exact .inr h) (fun x hx => ⟨hms _ (hd.rs x hx).nm, by
   rcases (hd.rs x hx).al with ⟨_, _, h⟩ | ⟨_, h, _⟩
   ·
    rw [eq_nil_bytes h]; unfold maxLen; decide
   ·
    exact hms _ h⟩) (fun p hm => by
   obtain rfl := List.mem_singleton.1 hm
   show (0 : Int) ≤ 1 ∧ (1 : Int) ≤ 1000000; omega)).mono fun e w' ⟨u, h1, h2, h3⟩ => ⟨_, ⟨u, by rw [hR] at h1; exact h1, rfl⟩, by rw [hR] at h2; exact h2, h3⟩)).mono ?_
 rintro e w' ⟨B', ⟨u, rfl, rfl⟩, hO, hs⟩
 exact ⟨u, rfl, hO, hs⟩
theorem newI21 {L : List Res} (h : Own w0 D w L) : Own w0 D (w.alloc (.cells #[.slice none 0 0] 46)) (L ++ [resI w.heap.size []]) := by
 have h0 := (Own.nil w none0).alloc (.cells #[.slice none 0 0] 46)
 have h1 := h0.rowNew 141 6
 exact h.joinC (shutI' (L := []) (l := []) h1)
end
theorem dn_shape9 {w0 w : World} {D : Nat → Prop} {L : List Res} {v : Value} {dn : List Rn} (h : Own w0 D w L) (i : Nat) (hi : L[i]? = some (resDn v dn)) : ∃ p c, v = .slice p dn.length c := by
 obtain ⟨F, hF, _, _⟩ := h.step hi
 obtain ⟨avs, h1⟩ := Own.openExC (Own.one hF)
 obtain ⟨h2, h3⟩ := Own.openFC h1
 exact row_shape ((Own.openC h3).row 0 rfl)
theorem run_bC21 (w : World) : (Instr.build 46 #[]).run Tryz.prog w = .ok (.agg #[.slice none 0 0]) w := by kernel_rfl
theorem run_bR21 (a : ByteArray) (t d : Int) (w : World) : (Instr.build 49 #[(0, .string a), (1, .int .i64 1), (2, .int .i64 t), (3, .int .i64 d)]).run Tryz.prog w = .ok (.agg #[.string a, .int .i64 1, .int .i64 t, .int .i64 d, .string ⟨#[]⟩]) w := by kernel_rfl
theorem run_bdRs9 (t er : Int) (x : Option Addr) (n c : Nat) (w : World) : (Instr.build 63 #[(0, .int .i64 t), (1, .int .i64 er), (2, .slice x n c)]).run Tryz.prog w = .ok (.agg #[.int .i64 t, .int .i64 er, .slice x n c]) w := by kernel_rfl
theorem run_bsRs9 (t er : Int) (x : Option Addr) (n c : Nat) (w : World) : (Instr.buildSlice 58 1 #[(0, .agg #[.int .i64 t, .int .i64 er, .slice x n c])]).run Tryz.prog w = .ok (.slice (some ⟨w.heap.size, 0, none⟩) 1 1) (w.alloc (.cells #[.int .i64 t, .int .i64 er, .slice x n c] 63)) := by kernel_rfl
section
attribute [local go_sem ↓] run_bC21 run_bR21 run_bsRc9
theorem uses_w (a0 a1 a2 a4 : Int) (rf : Bool) (w : World) (D : Nat → Prop) (g : Glo) (h : Own w D w [glR g]) (hg : g.ok = true) (h0 : i64B a0) (h1 : i64B a1) (h2 : i64B a2) (h4 : i64B a4) :
  Calls Tryz.prog 4 #[.int .i64 a0, .int .i64 a1, .int .i64 a2, .bool rf, .int .i64 a4] w (OPost w D [glR g] (.bool true) w) := by
 have HO := Hi h
 have HG := Hi hg
 obtain ⟨nm, hnm⟩ : ∃ y, nmL a0 = y := ⟨_, rfl⟩
 have HNM := Hi (fun w => name21_r hnm h0 w)
 have HV := Hi (hnm ▸ nmL_v a0)
 have HP1 := Hi (fun w => pick21_b a1 50 w h1 (by decide))
 have HP2 := Hi (fun w => pick21_b a2 9 w h2 (by decide))
 have HP4 := Hi (fun w => pick21_b a4 60 w h4 (by decide))
 have b1 := pk_bd a1 50 (by decide)
 have b2 := pk_bd a2 9 (by decide)
 have b4 := pk_bd a4 60 (by decide)
 generalize pk a1 50 = t1 at *
 generalize pk a2 9 = t2 at *
 generalize pk a4 60 = t4 at *
 obtain ⟨b11, b12⟩ := b1
 obtain ⟨b21, b22⟩ := b2
 obtain ⟨b41, b42⟩ := b4
 have HT := Hi (show 1 ≤ 1 + t1 ∧ 1 + t1 ≤ 50 by omega)
 have HA := Hi (show 1 ≤ 1 + t2 ∧ 1 + t2 ≤ 9 by omega)
 clear h hg h0 h1 h2 h4 hnm
 go_enter Tryz.func4, Tryz.ntmps4
 go_wp2_with fail
 refine (sanity_o HO.out HG.out).mono ?_
 rintro e x1 ⟨rfl, hO, -⟩
 replace HO := Hi (show Own w D x1 [glR g] from hO)
 clear hO
 obtain ⟨x2, hx2, g1, hg1, hO⟩ := HO.out.allocE (.cells #[.int .i64 3] 3)
 replace HO := Hi (show Own _ _ _ [_, blkR g1 (.cells #[.int .i64 3] 3)] from hO)
 clear hO
 have r1 := run_bsI1 3
 have hQ := HO.out.toRowQ 1 1 1 rfl rfl (by decide)
 replace HO := Hi (show Own w D x2 [glR g, rowVs (.slice (some ⟨g1, 0, none⟩) 1 1) [3]] from hQ)
 clear hQ
 go_wp2_with fail
 refine (rnew_o (xs := [3]) (n := 1) (sd := 5) HO.out 1 rfl rfl (by decide) (by decide) (fun j k hj hk h => by simp at hj hk; omega) (by decide) (by decide)).mono ?_
 rintro e x3 ⟨a, rfl, hO, -⟩
 replace hO := newZ hO
 replace HO := Hi (show Own _ _ _ [_, _, resZ a uc0] from hO)
 clear hO r1
 clear hx2 hg1
 have hO := HO.out.toEnd 3 [2, 0] rfl rfl
 replace HO := Hi (show Own _ _ _ [resZ a uc0, glR g] from hO)
 clear hO
 obtain ⟨xc, hxc⟩ : ∃ y, x3.alloc (.cells #[.slice none 0 0] 46) = y := ⟨_, rfl⟩
 obtain ⟨d, hd⟩ : ∃ y, x3.heap.size = y := ⟨_, rfl⟩
 have hO := newI21 HO.out
 rw [hxc, hd] at hO
 replace HO := Hi (show Own _ _ _ [_, _, resI d []] from hO)
 clear hO
 have hO := HO.out.toEnd 3 [2, 0, 1] rfl rfl
 replace HO := Hi (show Own _ _ _ [resI d [], resZ a uc0, glR g] from hO)
 clear hO
 go_wp2_with fail
 refine (o_still HO.out (HNM.out _)).mono ?_
 rintro e x11 ⟨rfl, hO, -⟩
 replace HO := Hi hO
 clear hO
 clear hxc hd
 go_wp2_with fail
 refine (uc_res1 (X := [resI d []]) HO.out HV.out).mono ?_
 rintro e x12 ⟨b, u, rfl, hO, -⟩
 replace HO := Hi (show Own _ _ _ [_, resZ a (uc1 nm b), _, rowQs u [qyZ 5 0 3 nm]] from hO)
 clear hO
 obtain ⟨qa, qc, rfl⟩ := row_shape (HO.out.row 3 rfl)
 obtain ⟨gq, rfl⟩ := row_some (HO.out.row 3 rfl) Nat.one_pos
 obtain ⟨qs, hqs⟩ : ∃ v, qryS 5 0 nm = v := ⟨_, rfl⟩
 have HQC := Hi (show ([qyZ 5 0 3 nm] : List Qy).flatMap cQy = [.int .i64 3, .int .i64 20106, .string qs] by rw [← hqs]; rfl)
 have HQS := Hi (show qs = ⟨(encM (qryD 7924 nm)).toArray⟩ by rw [← hqs]; rfl)
 clear hqs
 replace HO := Hi (show Own w D x12 [resI d [], resZ a (uc1 nm b), glR g, rowQs (.slice (some ⟨gq, 0, none⟩) 1 qc) [qyZ 5 0 3 nm]] from HO.out)
 go_wp2_with fail
 refine (o_still HO.out (HNM.out _)).mono ?_
 rintro e x13 ⟨rfl, hO, -⟩
 replace HO := Hi hO
 clear hO
 go_wp2_with fail
 refine (o_still HO.out (HP1.out _)).mono ?_
 rintro e x14 ⟨rfl, hO, -⟩
 replace HO := Hi hO
 clear hO
 go_wp2_with fail
 refine (o_still HO.out (HP2.out _)).mono ?_
 rintro e x15 ⟨rfl, hO, -⟩
 replace HO := Hi hO
 clear hO
 obtain ⟨x16, hx16, gl, hgl, hO⟩ := HO.out.allocE (.cells #[.string nm, .int .i64 1, .int .i64 (1 + t1), .int .i64 (1 + t2), .string ⟨#[]⟩] 49)
 replace HO := Hi (show Own _ _ _ [_, _, _, _, blkR gl (.cells #[.string nm, .int .i64 1, .int .i64 (1 + t1), .int .i64 (1 + t2), .string ⟨#[]⟩] 49)] from hO)
 clear hO
 cases rf with
 | true =>
  have HC := Hi (ucE_ok (rf := true) HV.out HT.out HA.out)
  go_wp2_with fail
  refine (o_still HO.out (HNM.out _)).mono ?_
  rintro e x17 ⟨rfl, hO, -⟩
  replace HO := Hi hO
  clear hO
  clear hx16 hgl
  have HN := Hi (ineg_o 1 nm 30 HO.out 0 rfl (by show 0 ≤ 32; decide))
  rw [uc_neg (T := 1 + t1) (A := 1 + t2) HV.out] at HN
  go_wp2_with fail
  refine HN.out.mono ?_
  rintro e x18 ⟨rfl, hO, -⟩
  replace HO := Hi (show Own _ _ _ [resI d [ucE nm (1 + t1) (1 + t2) true], _, _, _, _] from hO)
  clear hO HN
  have k0 : x18.cell? ⟨gq, 0, none⟩ = some (.int .i64 3) := (row_cells (HO.out.row 3 rfl)).1 0 _ (by rw [HQC.out]; rfl)
  have k1 : x18.cell? ⟨gq, 1, none⟩ = some (.int .i64 20106) := (row_cells (HO.out.row 3 rfl)).1 1 _ (by rw [HQC.out]; rfl)
  have k2 : x18.cell? ⟨gq, 2, none⟩ = some (.string qs) := (row_cells (HO.out.row 3 rfl)).1 2 _ (by rw [HQC.out]; rfl)
  obtain ⟨out, hout⟩ : ∃ v, (⟨(encM (ansM (ucL nm (1 + t1) (1 + t2) true) false 7924 nm)).toArray⟩ : ByteArray) = v := ⟨_, rfl⟩
  have HOUT := Hi hout
  clear hout
  have hO := HO.out.rowNew 49 5
  replace HO := Hi (show Own _ _ _ [_, _, _, _, _, rowR (.slice none 0 0) 49 5 0 ((ucL nm (1 + t1) (1 + t2) true).flatMap cRc)] from hO)
  clear hO
  go_wp2_with fail
  refine (o_still HO.out (zoneAns_r (l := ucL nm (1 + t1) (1 + t2) true) _ (HO.out.row 5 rfl) rfl (by decide) (ucL_v HV.out HT.out HA.out) HV.out (by decide) (by decide) HQS.out HOUT.out)).mono ?_
  rintro e x19 ⟨rfl, hO, -⟩
  replace HO := Hi hO
  clear hO
  clear k0 k1 k2
  have hO := HO.out.toEnd 6 [0, 1, 2] rfl rfl
  replace HO := Hi (show Own _ _ _ [_, _, _] from hO)
  clear hO
  go_wp2_with fail
  refine (uc_recv (X := [resI d [ucE nm (1 + t1) (1 + t2) true]]) (rf := true) HO.out HG.out HV.out HT.out HA.out HOUT.out).mono ?_
  rintro e x20 ⟨u2, rfl, hO, -⟩
  replace HO := Hi (show Own _ _ _ [_, resZ a (uc2 (ucE nm (1 + t1) (1 + t2) true) [⟨1, ucX true, ucA (1 + t2) true⟩]), _, rowQs u2 []] from hO)
  clear hO HOUT HQS HQC
  go_wp2_with fail
  refine (o_frameV [resI d [ucE nm (1 + t1) (1 + t2) true], glR g, rowQs u2 []] [resZ a (uc2 (ucE nm (1 + t1) (1 + t2) true) [⟨1, ucX true, ucA (1 + t2) true⟩])] (fun u => [resZ a (uc2 (ucE nm (1 + t1) (1 + t2) true) []), resDn u [⟨1, ucX true, ucA (1 + t2) true⟩]]) (HO.out.toEnd 4 [0, 2, 3, 1] rfl rfl) (fun D' hD => results_z hD)).mono ?_
  rintro e x21 ⟨v1, rfl, hO, -⟩
  replace HO := Hi (show Own _ _ _ [_, glR g, rowQs u2 [], resZ a (uc2 (ucE nm (1 + t1) (1 + t2) true) []), resDn v1 [⟨1, ucX true, ucA (1 + t2) true⟩]] from hO)
  clear hO
  have hO := HO.out.toEnd 5 [0, 3, 1, 2, 4] rfl rfl
  replace HO := Hi (show Own _ _ _ [_, resZ a (uc2 (ucE nm (1 + t1) (1 + t2) true) []), glR g, rowQs u2 [], _] from hO)
  clear hO
  obtain ⟨f1, f2, rfl⟩ := dn_shape9 HO.out 4 rfl
  replace HO := Hi (show Own w D x21 [resI d [ucE nm (1 + t1) (1 + t2) true], resZ a (uc2 (ucE nm (1 + t1) (1 + t2) true) []), glR g, rowQs u2 [], resDn (.slice f1 1 f2) [⟨1, ucX true, ucA (1 + t2) true⟩]] from HO.out)
  go_wp2_with fail
  refine (o_still HO.out (HP4.out _)).mono ?_
  rintro e x22 ⟨rfl, hO, -⟩
  replace HO := Hi hO
  clear hO
  go_wp2_with fail
  refine (o_still HO.out (HNM.out _)).mono ?_
  rintro e x23 ⟨rfl, hO, -⟩
  replace HO := Hi hO
  clear hO
  have hO := HO.out.toEnd 5 [0, 3, 4, 1, 2] rfl rfl
  replace HO := Hi (show Own _ _ _ [_, rowQs u2 [], resDn (.slice f1 1 f2) [⟨1, ucX true, ucA (1 + t2) true⟩], resZ a (uc2 (ucE nm (1 + t1) (1 + t2) true) []), glR g] from hO)
  clear hO
  by_cases hy : 1 + t4 < (ucE nm (1 + t1) (1 + t2) true).ex
  ·
   have hy2 : 1 + t4 < 31 := hy
   obtain ⟨hl1, hl2⟩ := uc_look (nm := nm) (T := 1 + t1) (A := 1 + t2) (at_ := 1 + t4) (rf := true)
   rw [if_pos hy] at hl1
   rw [decide_eq_true hy] at hl2
   have HL := Hi (And.intro hl1 hl2)
   have HY := Hi hy
   clear hl1 hl2 hy
   go_wp2_with fail
   refine (uc_res2y (X := [resI d [ucE nm (1 + t1) (1 + t2) true], rowQs u2 [], resDn (.slice f1 1 f2) [⟨1, ucX true, ucA (1 + t2) true⟩]]) HO.out HV.out HC.out HY.out).mono ?_
   rintro e x24 ⟨b3, u3, rfl, hO, -⟩
   replace HO := Hi (show Own _ _ _ [_, _, _, resZ a (uc3 (ucE nm (1 + t1) (1 + t2) true) [⟨2, ucX true, ucA (1 + t2) true⟩]), _, rowQs u3 []] from hO)
   clear hO HY
   obtain ⟨ua9, uc9, rfl⟩ := row_shape (HO.out.row 5 rfl)
   replace HO := Hi (show Own w D x24 [resI d [ucE nm (1 + t1) (1 + t2) true], rowQs u2 [], resDn (.slice f1 1 f2) [⟨1, ucX true, ucA (1 + t2) true⟩], resZ a (uc3 (ucE nm (1 + t1) (1 + t2) true) [⟨2, ucX true, ucA (1 + t2) true⟩]), glR g, rowQs (.slice ua9 0 uc9) []] from HO.out)
   have hO := HO.out.toEnd 6 [0, 3, 1, 2, 4, 5] rfl rfl
   replace HO := Hi (show Own _ _ _ [_, resZ a (uc3 (ucE nm (1 + t1) (1 + t2) true) [⟨2, ucX true, ucA (1 + t2) true⟩]), rowQs u2 [], resDn (.slice f1 1 f2) [⟨1, ucX true, ucA (1 + t2) true⟩], _, _] from hO)
   clear hO
   go_wp2_with fail
   refine (o_frameV [resI d [ucE nm (1 + t1) (1 + t2) true], rowQs u2 [], resDn (.slice f1 1 f2) [⟨1, ucX true, ucA (1 + t2) true⟩], glR g, rowQs (.slice ua9 0 uc9) []] [resZ a (uc3 (ucE nm (1 + t1) (1 + t2) true) [⟨2, ucX true, ucA (1 + t2) true⟩])] (fun u => [resZ a (uc3 (ucE nm (1 + t1) (1 + t2) true) []), resDn u [⟨2, ucX true, ucA (1 + t2) true⟩]]) (HO.out.toEnd 6 [0, 2, 3, 4, 5, 1] rfl rfl) (fun D' hD => results_z hD)).mono ?_
   rintro e x25 ⟨v2, rfl, hO, -⟩
   replace HO := Hi (show Own _ _ _ [_, rowQs u2 [], resDn (.slice f1 1 f2) [⟨1, ucX true, ucA (1 + t2) true⟩], glR g, rowQs (.slice ua9 0 uc9) [], resZ a (uc3 (ucE nm (1 + t1) (1 + t2) true) []), resDn v2 [⟨2, ucX true, ucA (1 + t2) true⟩]] from hO)
   clear hO
   obtain ⟨f3, f4, rfl⟩ := dn_shape9 HO.out 6 rfl
   replace HO := Hi (show Own w D x25 [resI d [ucE nm (1 + t1) (1 + t2) true], rowQs u2 [], resDn (.slice f1 1 f2) [⟨1, ucX true, ucA (1 + t2) true⟩], glR g, rowQs (.slice ua9 0 uc9) [], resZ a (uc3 (ucE nm (1 + t1) (1 + t2) true) []), resDn (.slice f3 1 f4) [⟨2, ucX true, ucA (1 + t2) true⟩]] from HO.out)
   go_wp2_with fail
   refine (o_still HO.out (HNM.out _)).mono ?_
   rintro e x26 ⟨rfl, hO, -⟩
   replace HO := Hi hO
   clear hO
   go_wp2_with fail
   refine (ilook_d (1 + t4) nm HO.out 0 rfl (by show 1 ≤ 32; decide) HC.out.ap HL.out.1 HL.out.2).mono ?_
   rintro e x27 ⟨lk, lc, rfl, hO, -⟩
   have hO := hO.take 7
   replace HO := Hi hO
   clear hO HL HC
   have hdk : decide (1 + t4 < 1 + 30) = true := decide_eq_true (by omega)
   go_wp2
   obtain ⟨-, p2, cp2, hv2, hk2⟩ := rdrn_own HO.out 6 rfl (by show 0 ≤ 1000; decide)
   cases hv2
   obtain ⟨g2, q2, m2, d2, rfl, hm2, hm3, ca0, ca1, ca2, hcc⟩ := hk2 0 Nat.one_pos
   obtain ⟨-, p1, cp1, hv1, hk1⟩ := rdrn_own HO.out 2 rfl (by show 0 ≤ 1000; decide)
   cases hv1
   obtain ⟨g3, q3, m3, d3, rfl, -, -, -, cb1, -, -⟩ := hk1 0 Nat.one_pos
   have e0 := cell_regrown (show x27.cell? ⟨g2, 0, none⟩ = some (.int .i64 2) from ca0)
   have e1 := cell_regrown (show x27.cell? ⟨g2, 1, none⟩ = some (.int .i64 211) from ca1)
   have e2 := cell_regrown (show x27.cell? ⟨g2, 2, none⟩ = some (.slice q2 m2 d2) from ca2)
   have e3 := cell_regrown (show x27.cell? ⟨g3, 1, none⟩ = some (.int .i64 211) from cb1)
   have HCC := Hi hcc
   have HM2 := Hi (And.intro hm2 hm3)
   clear hk1 hk2 ca0 ca1 ca2 cb1 hcc hm2 hm3
   have rb9 := run_bdRs9 1 211 q2 m2 d2
   refine wp_region_R 37 (by kernel_rfl) (by kernel_rfl) ?_
   simp only [List.take, List.drop]
   iterate 31 (first | (refine wpR_want (by kernel_rfl) rfl rfl ?_; intro K hK; go_big_quiet_op; go_big_quiet_on) | (refine wpR_is (by kernel_rfl) rfl _ (fun w _ => rfl) ?_; simp only [Act.put, l_T, l_S, l_Z]))
   refine wpR_exG (sblk x27.heap.size (.cells #[.int .i64 1, .int .i64 211, .slice q2 m2 d2] 63)) (sblk_lasts _ _) (by kernel_rfl) rfl (fun a' w' hw' he => ?_) (fun d hd => ?_)
   ·
    have hs := hw'.size
    obtain ⟨hag, _⟩ := he
    have hag' : a'.eval (.tmp 178) = .agg #[.int .i64 1, .int .i64 211, .slice q2 m2 d2] := hag
    refine wp_of_value (v := .slice (some ⟨w'.heap.size, 0, none⟩) 1 1) (w' := w'.alloc (.cells #[.int .i64 1, .int .i64 211, .slice q2 m2 d2] 63)) (run_v_ok ?_) ⟨_, rfl, (Below.refl _ _).alloc (Nat.le_refl _) _, ⟨w'.heap.size, rfl, hs, new_block _ _⟩⟩
    simp only [List.map_toArray, List.map_cons, List.map_nil, hag']
    exact run_bsRs9 1 211 q2 m2 d2 _
   cases hd
   simp only [List.nil_append]
   iterate 1 (first | (refine wpR_want (by kernel_rfl) rfl rfl ?_; intro K hK; go_big_quiet_op; go_big_quiet_on) | (refine wpR_is (by kernel_rfl) rfl _ (fun w _ => rfl) ?_; simp only [Act.put, l_T, l_S, l_Z]))
   refine wpR_knownG (.bool true) (by kernel_rfl) rfl (fun a' w' hw' he => ?_) ?_
   ·
    obtain ⟨⟨nb, h179, -, hnb⟩, h180, _⟩ := he
    have h179' : a'.tmps.getD 179 undef = .slice (some ⟨nb, 0, none⟩) 1 1 := h179
    have h180' : a'.tmps.getD 180 undef = .slice (some ⟨g3, 0, none⟩) 1 f2 := h180
    refine wp_callG (f := 28) (args := #[.slice (some ⟨nb, 0, none⟩) 1 1, .slice (some ⟨g3, 0, none⟩) 1 f2]) (by simp [go_sem, Act.eval, h179', h180']) ?_
    refine (sameF_r w' (rdrn_one (w := w') (g := nb) (c := 1) (d := ⟨1, ucX true, ucA (1 + t2) true⟩) (by simp [World.cell?, hnb]) (by simp [World.cell?, hnb, ucX]) (show w'.cell? ⟨nb, 2, none⟩ = some (.slice q2 m2 d2) by simp [World.cell?, hnb]) HM2.out.1 HM2.out.2 (fun j hj => by
     obtain ⟨hh, e1, e2⟩ := HCC.out j hj
     exact ⟨hh, e1, keep hw' e2⟩)) (rdrn_own (HO.out.stay hw') 2 rfl (by show 0 ≤ 1000; decide)) (by decide)).mono ?_
    rintro e w'' ⟨rfl, hb⟩
    exact ⟨_, rfl, rfl, hb⟩
   simp only [Act.put, l_T, l_S, l_Z]
   iterate 3 (first | (refine wpR_want (by kernel_rfl) rfl rfl ?_; intro K hK; go_big_quiet_op; go_big_quiet_on) | (refine wpR_is (by kernel_rfl) rfl _ (fun w _ => rfl) ?_; simp only [Act.put, l_T, l_S, l_Z]))
   refine wpR_nil (by kernel_rfl) (by simp) ?_
   rintro x62 hbw
   simp only [exAll]
   rintro u179 -
   simp only [Act.put, l_T, l_S, l_Z, List.drop]
   replace HO := Hi (HO.out.stay hbw)
   go_wp2
   go_ret
   exact ⟨rfl, HO.out.toEnd 7 [3] rfl rfl, HO.out.size⟩
  ·
   have hy2 : ¬ 1 + t4 < 31 := hy
   obtain ⟨hl1, hl2⟩ := uc_look (nm := nm) (T := 1 + t1) (A := 1 + t2) (at_ := 1 + t4) (rf := true)
   rw [if_neg hy] at hl1
   rw [decide_eq_false hy] at hl2
   have HL := Hi (And.intro hl1 hl2)
   have HY := Hi hy
   clear hl1 hl2 hy
   go_wp2_with fail
   refine (uc_res2n (X := [resI d [ucE nm (1 + t1) (1 + t2) true], rowQs u2 [], resDn (.slice f1 1 f2) [⟨1, ucX true, ucA (1 + t2) true⟩]]) HO.out HV.out HC.out (show ¬ (1 + t4 < (ucE nm (1 + t1) (1 + t2) true).ex) by have h9 := HY.out; omega)).mono ?_
   rintro e x24 ⟨b3, u3, rfl, hO, -⟩
   replace HO := Hi (show Own _ _ _ [_, _, _, resZ a (uc4 (ucE nm (1 + t1) (1 + t2) true) nm (1 + t4) b3), glR g, rowQs u3 [qyZ 5 1 3 nm]] from hO)
   clear hO HY
   obtain ⟨ua9, uc9, rfl⟩ := row_shape (HO.out.row 5 rfl)
   replace HO := Hi (show Own w D x24 [resI d [ucE nm (1 + t1) (1 + t2) true], rowQs u2 [], resDn (.slice f1 1 f2) [⟨1, ucX true, ucA (1 + t2) true⟩], resZ a (uc4 (ucE nm (1 + t1) (1 + t2) true) nm (1 + t4) b3), glR g, rowQs (.slice ua9 1 uc9) [qyZ 5 1 3 nm]] from HO.out)
   have hO := HO.out.toEnd 6 [0, 3, 1, 2, 4, 5] rfl rfl
   replace HO := Hi (show Own _ _ _ [_, resZ a (uc4 (ucE nm (1 + t1) (1 + t2) true) nm (1 + t4) b3), rowQs u2 [], resDn (.slice f1 1 f2) [⟨1, ucX true, ucA (1 + t2) true⟩], _, _] from hO)
   clear hO
   go_wp2_with fail
   refine (o_frameV [resI d [ucE nm (1 + t1) (1 + t2) true], rowQs u2 [], resDn (.slice f1 1 f2) [⟨1, ucX true, ucA (1 + t2) true⟩], glR g, rowQs (.slice ua9 1 uc9) [qyZ 5 1 3 nm]] [resZ a (uc4 (ucE nm (1 + t1) (1 + t2) true) nm (1 + t4) b3)] (fun u => [resZ a (uc4 (ucE nm (1 + t1) (1 + t2) true) nm (1 + t4) b3), resDn u []]) (HO.out.toEnd 6 [0, 2, 3, 4, 5, 1] rfl rfl) (fun D' hD => results_z hD)).mono ?_
   rintro e x25 ⟨v2, rfl, hO, -⟩
   replace HO := Hi (show Own _ _ _ [_, rowQs u2 [], resDn (.slice f1 1 f2) [⟨1, ucX true, ucA (1 + t2) true⟩], glR g, rowQs (.slice ua9 1 uc9) [qyZ 5 1 3 nm], resZ a (uc4 (ucE nm (1 + t1) (1 + t2) true) nm (1 + t4) b3), resDn v2 []] from hO)
   clear hO
   obtain ⟨f3, f4, rfl⟩ := dn_shape9 HO.out 6 rfl
   replace HO := Hi (show Own w D x25 [resI d [ucE nm (1 + t1) (1 + t2) true], rowQs u2 [], resDn (.slice f1 1 f2) [⟨1, ucX true, ucA (1 + t2) true⟩], glR g, rowQs (.slice ua9 1 uc9) [qyZ 5 1 3 nm], resZ a (uc4 (ucE nm (1 + t1) (1 + t2) true) nm (1 + t4) b3), resDn (.slice f3 0 f4) []] from HO.out)
   go_wp2_with fail
   refine (o_still HO.out (HNM.out _)).mono ?_
   rintro e x26 ⟨rfl, hO, -⟩
   replace HO := Hi hO
   clear hO
   go_wp2_with fail
   refine (ilook_d (1 + t4) nm HO.out 0 rfl (by show 1 ≤ 32; decide) HC.out.ap HL.out.1 HL.out.2).mono ?_
   rintro e x27 ⟨lk, lc, rfl, hO, -⟩
   have hO := hO.take 7
   replace HO := Hi hO
   clear hO HL HC
   have hdk : decide (1 + t4 < 1 + 30) = false := decide_eq_false (by omega)
   go_wp2
   refine wp_region_B (by kernel_rfl) (by kernel_rfl) ?_
   repeat (go_big_quiet_step (fail))
   refine wpQuiet_nil ?_
   intro x61 hbw
   replace HO := Hi (HO.out.stay hbw)
   go_wp2
   go_ret
   exact ⟨rfl, HO.out.toEnd 7 [3] rfl rfl, HO.out.size⟩
 | false =>
  have HC := Hi (ucE_ok (rf := false) HV.out HT.out HA.out)
  have z4_0 : x16.cell? _ = some (.string nm) := HO.out.cell 4 rfl 0 rfl
  have z4_1 : x16.cell? _ = some (.int .i64 1) := HO.out.cell 4 rfl 1 rfl
  have z4_2 : x16.cell? _ = some (.int .i64 (1 + t1)) := HO.out.cell 4 rfl 2 rfl
  have z4_3 : x16.cell? _ = some (.int .i64 (1 + t2)) := HO.out.cell 4 rfl 3 rfl
  have z4_4 : x16.cell? _ = some (.string ⟨#[]⟩) := HO.out.cell 4 rfl 4 rfl
  go_wp2_with fail
  have HN := Hi (iput_o 1 (ucR nm (1 + t1) (1 + t2)) HO.out 0 rfl (by show 0 ≤ 32; decide))
  rw [uc_putR HV.out HT.out HA.out] at HN
  refine HN.out.mono ?_
  rintro e x17 ⟨rfl, hO, -⟩
  replace HO := Hi (show Own _ _ _ [resI d [ucE nm (1 + t1) (1 + t2) false], resZ a (uc1 nm b), glR g, rowQs (.slice (some ⟨gq, 0, none⟩) 1 qc) [qyZ 5 0 3 nm], blkR gl (.cells #[.string nm, .int .i64 1, .int .i64 (1 + t1), .int .i64 (1 + t2), .string ⟨#[]⟩] 49)] from hO)
  clear hO HN
  clear hx16 hgl z4_0 z4_1 z4_2 z4_3 z4_4
  have k0 : x17.cell? ⟨gq, 0, none⟩ = some (.int .i64 3) := (row_cells (HO.out.row 3 rfl)).1 0 _ (by rw [HQC.out]; rfl)
  have k1 : x17.cell? ⟨gq, 1, none⟩ = some (.int .i64 20106) := (row_cells (HO.out.row 3 rfl)).1 1 _ (by rw [HQC.out]; rfl)
  have k2 : x17.cell? ⟨gq, 2, none⟩ = some (.string qs) := (row_cells (HO.out.row 3 rfl)).1 2 _ (by rw [HQC.out]; rfl)
  obtain ⟨out, hout⟩ : ∃ v, (⟨(encM (ansM (ucL nm (1 + t1) (1 + t2) false) false 7924 nm)).toArray⟩ : ByteArray) = v := ⟨_, rfl⟩
  have HOUT := Hi hout
  clear hout
  have hQ := HO.out.toRowQ 4 1 5 rfl rfl (by decide)
  replace HO := Hi (show Own w D x17 [resI d [ucE nm (1 + t1) (1 + t2) false], resZ a (uc1 nm b), glR g, rowQs (.slice (some ⟨gq, 0, none⟩) 1 qc) [qyZ 5 0 3 nm], rowR (.slice (some ⟨gl, 0, none⟩) 1 1) 49 5 1 ((ucL nm (1 + t1) (1 + t2) false).flatMap cRc)] from hQ)
  clear hQ
  go_wp2_with fail
  refine (o_still HO.out (zoneAns_r (l := ucL nm (1 + t1) (1 + t2) false) _ (HO.out.row 4 rfl) rfl (by decide) (ucL_v HV.out HT.out HA.out) HV.out (by decide) (by decide) HQS.out HOUT.out)).mono ?_
  rintro e x18 ⟨rfl, hO, -⟩
  replace HO := Hi hO
  clear hO
  clear k0 k1 k2
  have hO := HO.out.toEnd 5 [0, 1, 2] rfl rfl
  replace HO := Hi (show Own _ _ _ [_, _, _] from hO)
  clear hO
  go_wp2_with fail
  refine (uc_recv (X := [resI d [ucE nm (1 + t1) (1 + t2) false]]) (rf := false) HO.out HG.out HV.out HT.out HA.out HOUT.out).mono ?_
  rintro e x19 ⟨u2, rfl, hO, -⟩
  replace HO := Hi (show Own _ _ _ [_, resZ a (uc2 (ucE nm (1 + t1) (1 + t2) false) [⟨1, ucX false, ucA (1 + t2) false⟩]), _, rowQs u2 []] from hO)
  clear hO HOUT HQS HQC
  go_wp2_with fail
  refine (o_frameV [resI d [ucE nm (1 + t1) (1 + t2) false], glR g, rowQs u2 []] [resZ a (uc2 (ucE nm (1 + t1) (1 + t2) false) [⟨1, ucX false, ucA (1 + t2) false⟩])] (fun u => [resZ a (uc2 (ucE nm (1 + t1) (1 + t2) false) []), resDn u [⟨1, ucX false, ucA (1 + t2) false⟩]]) (HO.out.toEnd 4 [0, 2, 3, 1] rfl rfl) (fun D' hD => results_z hD)).mono ?_
  rintro e x20 ⟨v1, rfl, hO, -⟩
  replace HO := Hi (show Own _ _ _ [_, glR g, rowQs u2 [], resZ a (uc2 (ucE nm (1 + t1) (1 + t2) false) []), resDn v1 [⟨1, ucX false, ucA (1 + t2) false⟩]] from hO)
  clear hO
  have hO := HO.out.toEnd 5 [0, 3, 1, 2, 4] rfl rfl
  replace HO := Hi (show Own _ _ _ [_, resZ a (uc2 (ucE nm (1 + t1) (1 + t2) false) []), glR g, rowQs u2 [], _] from hO)
  clear hO
  obtain ⟨f1, f2, rfl⟩ := dn_shape9 HO.out 4 rfl
  replace HO := Hi (show Own w D x20 [resI d [ucE nm (1 + t1) (1 + t2) false], resZ a (uc2 (ucE nm (1 + t1) (1 + t2) false) []), glR g, rowQs u2 [], resDn (.slice f1 1 f2) [⟨1, ucX false, ucA (1 + t2) false⟩]] from HO.out)
  go_wp2_with fail
  refine (o_still HO.out (HP4.out _)).mono ?_
  rintro e x21 ⟨rfl, hO, -⟩
  replace HO := Hi hO
  clear hO
  go_wp2_with fail
  refine (o_still HO.out (HNM.out _)).mono ?_
  rintro e x22 ⟨rfl, hO, -⟩
  replace HO := Hi hO
  clear hO
  have hO := HO.out.toEnd 5 [0, 3, 4, 1, 2] rfl rfl
  replace HO := Hi (show Own _ _ _ [_, rowQs u2 [], resDn (.slice f1 1 f2) [⟨1, ucX false, ucA (1 + t2) false⟩], resZ a (uc2 (ucE nm (1 + t1) (1 + t2) false) []), glR g] from hO)
  clear hO
  by_cases hy : 1 + t4 < (ucE nm (1 + t1) (1 + t2) false).ex
  ·
   have hy2 : 1 + t4 < 1 + (1 + t1) := hy
   obtain ⟨hl1, hl2⟩ := uc_look (nm := nm) (T := 1 + t1) (A := 1 + t2) (at_ := 1 + t4) (rf := false)
   rw [if_pos hy] at hl1
   rw [decide_eq_true hy] at hl2
   have HL := Hi (And.intro hl1 hl2)
   have HY := Hi hy
   clear hl1 hl2 hy
   go_wp2_with fail
   refine (uc_res2y (X := [resI d [ucE nm (1 + t1) (1 + t2) false], rowQs u2 [], resDn (.slice f1 1 f2) [⟨1, ucX false, ucA (1 + t2) false⟩]]) HO.out HV.out HC.out HY.out).mono ?_
   rintro e x23 ⟨b3, u3, rfl, hO, -⟩
   replace HO := Hi (show Own _ _ _ [_, _, _, resZ a (uc3 (ucE nm (1 + t1) (1 + t2) false) [⟨2, ucX false, ucA (1 + t2) false⟩]), _, rowQs u3 []] from hO)
   clear hO HY
   obtain ⟨ua9, uc9, rfl⟩ := row_shape (HO.out.row 5 rfl)
   replace HO := Hi (show Own w D x23 [resI d [ucE nm (1 + t1) (1 + t2) false], rowQs u2 [], resDn (.slice f1 1 f2) [⟨1, ucX false, ucA (1 + t2) false⟩], resZ a (uc3 (ucE nm (1 + t1) (1 + t2) false) [⟨2, ucX false, ucA (1 + t2) false⟩]), glR g, rowQs (.slice ua9 0 uc9) []] from HO.out)
   have hO := HO.out.toEnd 6 [0, 3, 1, 2, 4, 5] rfl rfl
   replace HO := Hi (show Own _ _ _ [_, resZ a (uc3 (ucE nm (1 + t1) (1 + t2) false) [⟨2, ucX false, ucA (1 + t2) false⟩]), rowQs u2 [], resDn (.slice f1 1 f2) [⟨1, ucX false, ucA (1 + t2) false⟩], _, _] from hO)
   clear hO
   go_wp2_with fail
   refine (o_frameV [resI d [ucE nm (1 + t1) (1 + t2) false], rowQs u2 [], resDn (.slice f1 1 f2) [⟨1, ucX false, ucA (1 + t2) false⟩], glR g, rowQs (.slice ua9 0 uc9) []] [resZ a (uc3 (ucE nm (1 + t1) (1 + t2) false) [⟨2, ucX false, ucA (1 + t2) false⟩])] (fun u => [resZ a (uc3 (ucE nm (1 + t1) (1 + t2) false) []), resDn u [⟨2, ucX false, ucA (1 + t2) false⟩]]) (HO.out.toEnd 6 [0, 2, 3, 4, 5, 1] rfl rfl) (fun D' hD => results_z hD)).mono ?_
   rintro e x24 ⟨v2, rfl, hO, -⟩
   replace HO := Hi (show Own _ _ _ [_, rowQs u2 [], resDn (.slice f1 1 f2) [⟨1, ucX false, ucA (1 + t2) false⟩], glR g, rowQs (.slice ua9 0 uc9) [], resZ a (uc3 (ucE nm (1 + t1) (1 + t2) false) []), resDn v2 [⟨2, ucX false, ucA (1 + t2) false⟩]] from hO)
   clear hO
   obtain ⟨f3, f4, rfl⟩ := dn_shape9 HO.out 6 rfl
   replace HO := Hi (show Own w D x24 [resI d [ucE nm (1 + t1) (1 + t2) false], rowQs u2 [], resDn (.slice f1 1 f2) [⟨1, ucX false, ucA (1 + t2) false⟩], glR g, rowQs (.slice ua9 0 uc9) [], resZ a (uc3 (ucE nm (1 + t1) (1 + t2) false) []), resDn (.slice f3 1 f4) [⟨2, ucX false, ucA (1 + t2) false⟩]] from HO.out)
   go_wp2_with fail
   refine (o_still HO.out (HNM.out _)).mono ?_
   rintro e x25 ⟨rfl, hO, -⟩
   replace HO := Hi hO
   clear hO
   go_wp2_with fail
   refine (ilook_d (1 + t4) nm HO.out 0 rfl (by show 1 ≤ 32; decide) HC.out.ap HL.out.1 HL.out.2).mono ?_
   rintro e x26 ⟨lk, lc, rfl, hO, -⟩
   have hO := hO.take 7
   replace HO := Hi hO
   clear hO HL HC
   have hdk : decide (1 + t4 < 1 + (1 + t1)) = true := decide_eq_true (by omega)
   go_wp2
   obtain ⟨-, p2, cp2, hv2, hk2⟩ := rdrn_own HO.out 6 rfl (by show 1 ≤ 1000; decide)
   cases hv2
   obtain ⟨g2, q2, m2, d2, rfl, hm2, hm3, ca0, ca1, ca2, hcc⟩ := hk2 0 Nat.one_pos
   obtain ⟨-, p1, cp1, hv1, hk1⟩ := rdrn_own HO.out 2 rfl (by show 1 ≤ 1000; decide)
   cases hv1
   obtain ⟨g3, q3, m3, d3, rfl, -, -, -, cb1, -, -⟩ := hk1 0 Nat.one_pos
   have e0 := cell_regrown (show x26.cell? ⟨g2, 0, none⟩ = some (.int .i64 2) from ca0)
   have e1 := cell_regrown (show x26.cell? ⟨g2, 1, none⟩ = some (.int .i64 0) from ca1)
   have e2 := cell_regrown (show x26.cell? ⟨g2, 2, none⟩ = some (.slice q2 m2 d2) from ca2)
   have e3 := cell_regrown (show x26.cell? ⟨g3, 1, none⟩ = some (.int .i64 0) from cb1)
   have HCC := Hi hcc
   have HM2 := Hi (And.intro hm2 hm3)
   clear hk1 hk2 ca0 ca1 ca2 cb1 hcc hm2 hm3
   have rb9 := run_bdRs9 1 0 q2 m2 d2
   refine wp_region_R 37 (by kernel_rfl) (by kernel_rfl) ?_
   simp only [List.take, List.drop]
   iterate 31 (first | (refine wpR_want (by kernel_rfl) rfl rfl ?_; intro K hK; go_big_quiet_op; go_big_quiet_on) | (refine wpR_is (by kernel_rfl) rfl _ (fun w _ => rfl) ?_; simp only [Act.put, l_T, l_S, l_Z]))
   refine wpR_exG (sblk x26.heap.size (.cells #[.int .i64 1, .int .i64 0, .slice q2 m2 d2] 63)) (sblk_lasts _ _) (by kernel_rfl) rfl (fun a' w' hw' he => ?_) (fun d hd => ?_)
   ·
    have hs := hw'.size
    obtain ⟨hag, _⟩ := he
    have hag' : a'.eval (.tmp 178) = .agg #[.int .i64 1, .int .i64 0, .slice q2 m2 d2] := hag
    refine wp_of_value (v := .slice (some ⟨w'.heap.size, 0, none⟩) 1 1) (w' := w'.alloc (.cells #[.int .i64 1, .int .i64 0, .slice q2 m2 d2] 63)) (run_v_ok ?_) ⟨_, rfl, (Below.refl _ _).alloc (Nat.le_refl _) _, ⟨w'.heap.size, rfl, hs, new_block _ _⟩⟩
    simp only [List.map_toArray, List.map_cons, List.map_nil, hag']
    exact run_bsRs9 1 0 q2 m2 d2 _
   cases hd
   simp only [List.nil_append]
   iterate 1 (first | (refine wpR_want (by kernel_rfl) rfl rfl ?_; intro K hK; go_big_quiet_op; go_big_quiet_on) | (refine wpR_is (by kernel_rfl) rfl _ (fun w _ => rfl) ?_; simp only [Act.put, l_T, l_S, l_Z]))
   refine wpR_knownG (.bool true) (by kernel_rfl) rfl (fun a' w' hw' he => ?_) ?_
   ·
    obtain ⟨⟨nb, h179, -, hnb⟩, h180, _⟩ := he
    have h179' : a'.tmps.getD 179 undef = .slice (some ⟨nb, 0, none⟩) 1 1 := h179
    have h180' : a'.tmps.getD 180 undef = .slice (some ⟨g3, 0, none⟩) 1 f2 := h180
    refine wp_callG (f := 28) (args := #[.slice (some ⟨nb, 0, none⟩) 1 1, .slice (some ⟨g3, 0, none⟩) 1 f2]) (by simp [go_sem, Act.eval, h179', h180']) ?_
    refine (sameF_r w' (rdrn_one (w := w') (g := nb) (c := 1) (d := ⟨1, ucX false, ucA (1 + t2) false⟩) (by simp [World.cell?, hnb]) (by simp [World.cell?, hnb, ucX]) (show w'.cell? ⟨nb, 2, none⟩ = some (.slice q2 m2 d2) by simp [World.cell?, hnb]) HM2.out.1 HM2.out.2 (fun j hj => by
     obtain ⟨hh, e1, e2⟩ := HCC.out j hj
     exact ⟨hh, e1, keep hw' e2⟩)) (rdrn_own (HO.out.stay hw') 2 rfl (by show 1 ≤ 1000; decide)) (by decide)).mono ?_
    rintro e w'' ⟨rfl, hb⟩
    exact ⟨_, rfl, rfl, hb⟩
   simp only [Act.put, l_T, l_S, l_Z]
   iterate 3 (first | (refine wpR_want (by kernel_rfl) rfl rfl ?_; intro K hK; go_big_quiet_op; go_big_quiet_on) | (refine wpR_is (by kernel_rfl) rfl _ (fun w _ => rfl) ?_; simp only [Act.put, l_T, l_S, l_Z]))
   refine wpR_nil (by kernel_rfl) (by simp) ?_
   rintro x62 hbw
   simp only [exAll]
   rintro u179 -
   simp only [Act.put, l_T, l_S, l_Z, List.drop]
   replace HO := Hi (HO.out.stay hbw)
   go_wp2
   go_ret
   exact ⟨rfl, HO.out.toEnd 7 [3] rfl rfl, HO.out.size⟩
  ·
   have hy2 : ¬ 1 + t4 < 1 + (1 + t1) := hy
   obtain ⟨hl1, hl2⟩ := uc_look (nm := nm) (T := 1 + t1) (A := 1 + t2) (at_ := 1 + t4) (rf := false)
   rw [if_neg hy] at hl1
   rw [decide_eq_false hy] at hl2
   have HL := Hi (And.intro hl1 hl2)
   have HY := Hi hy
   clear hl1 hl2 hy
   go_wp2_with fail
   refine (uc_res2n (X := [resI d [ucE nm (1 + t1) (1 + t2) false], rowQs u2 [], resDn (.slice f1 1 f2) [⟨1, ucX false, ucA (1 + t2) false⟩]]) HO.out HV.out HC.out (show ¬ (1 + t4 < (ucE nm (1 + t1) (1 + t2) false).ex) by have h9 := HY.out; omega)).mono ?_
   rintro e x23 ⟨b3, u3, rfl, hO, -⟩
   replace HO := Hi (show Own _ _ _ [_, _, _, resZ a (uc4 (ucE nm (1 + t1) (1 + t2) false) nm (1 + t4) b3), glR g, rowQs u3 [qyZ 5 1 3 nm]] from hO)
   clear hO HY
   obtain ⟨ua9, uc9, rfl⟩ := row_shape (HO.out.row 5 rfl)
   replace HO := Hi (show Own w D x23 [resI d [ucE nm (1 + t1) (1 + t2) false], rowQs u2 [], resDn (.slice f1 1 f2) [⟨1, ucX false, ucA (1 + t2) false⟩], resZ a (uc4 (ucE nm (1 + t1) (1 + t2) false) nm (1 + t4) b3), glR g, rowQs (.slice ua9 1 uc9) [qyZ 5 1 3 nm]] from HO.out)
   have hO := HO.out.toEnd 6 [0, 3, 1, 2, 4, 5] rfl rfl
   replace HO := Hi (show Own _ _ _ [_, resZ a (uc4 (ucE nm (1 + t1) (1 + t2) false) nm (1 + t4) b3), rowQs u2 [], resDn (.slice f1 1 f2) [⟨1, ucX false, ucA (1 + t2) false⟩], _, _] from hO)
   clear hO
   go_wp2_with fail
   refine (o_frameV [resI d [ucE nm (1 + t1) (1 + t2) false], rowQs u2 [], resDn (.slice f1 1 f2) [⟨1, ucX false, ucA (1 + t2) false⟩], glR g, rowQs (.slice ua9 1 uc9) [qyZ 5 1 3 nm]] [resZ a (uc4 (ucE nm (1 + t1) (1 + t2) false) nm (1 + t4) b3)] (fun u => [resZ a (uc4 (ucE nm (1 + t1) (1 + t2) false) nm (1 + t4) b3), resDn u []]) (HO.out.toEnd 6 [0, 2, 3, 4, 5, 1] rfl rfl) (fun D' hD => results_z hD)).mono ?_
   rintro e x24 ⟨v2, rfl, hO, -⟩
   replace HO := Hi (show Own _ _ _ [_, rowQs u2 [], resDn (.slice f1 1 f2) [⟨1, ucX false, ucA (1 + t2) false⟩], glR g, rowQs (.slice ua9 1 uc9) [qyZ 5 1 3 nm], resZ a (uc4 (ucE nm (1 + t1) (1 + t2) false) nm (1 + t4) b3), resDn v2 []] from hO)
   clear hO
   obtain ⟨f3, f4, rfl⟩ := dn_shape9 HO.out 6 rfl
   replace HO := Hi (show Own w D x24 [resI d [ucE nm (1 + t1) (1 + t2) false], rowQs u2 [], resDn (.slice f1 1 f2) [⟨1, ucX false, ucA (1 + t2) false⟩], glR g, rowQs (.slice ua9 1 uc9) [qyZ 5 1 3 nm], resZ a (uc4 (ucE nm (1 + t1) (1 + t2) false) nm (1 + t4) b3), resDn (.slice f3 0 f4) []] from HO.out)
   go_wp2_with fail
   refine (o_still HO.out (HNM.out _)).mono ?_
   rintro e x25 ⟨rfl, hO, -⟩
   replace HO := Hi hO
   clear hO
   go_wp2_with fail
   refine (ilook_d (1 + t4) nm HO.out 0 rfl (by show 1 ≤ 32; decide) HC.out.ap HL.out.1 HL.out.2).mono ?_
   rintro e x26 ⟨lk, lc, rfl, hO, -⟩
   have hO := hO.take 7
   replace HO := Hi hO
   clear hO HL HC
   have hdk : decide (1 + t4 < 1 + (1 + t1)) = false := decide_eq_false (by omega)
   go_wp2
   refine wp_region_B (by kernel_rfl) (by kernel_rfl) ?_
   repeat (go_big_quiet_step (fail))
   refine wpQuiet_nil ?_
   intro x61 hbw
   replace HO := Hi (HO.out.stay hbw)
   go_wp2
   go_ret
   exact ⟨rfl, HO.out.toEnd 7 [3] rfl rfl, HO.out.size⟩
end
end Go.Proofs.YtbolfkojebbejaaGreatDoor
