/- Reference 21: its data; Ones and New. -/
import Derived.Test.YtbolfkojebbejaaGreatDoorKc
import Derived.Test.YtbolfkojebbejaaGreatDoorBo
import Derived.Test.YtbolfkojebbejaaGreatDoorBu
import Derived.Test.YtbolfkojebbejaaGreatDoorBb
import Derived.Test.YtbolfkojebbejaaGreatDoorEn
import Derived.Test.YtbolfkojebbejaaGreatDoorDe
import Derived.Test.YtbolfkojebbejaaGreatDoorRfi
set_option linter.unusedVariables false
set_option maxRecDepth 100000
set_option maxHeartbeats 32000000
namespace Go.Proofs.YtbolfkojebbejaaGreatDoor
variable {nm : ByteArray} {P : Program}
section
open Go.RowKit Go.Sort
attribute [local go_sem] Oper.semAt_some

structure Wt where
 tk : Int
 wy : List ByteArray
 tr : Int
 sv : Int
 pt : Int
 id : Int
 wn : Int
abbrev wtC (x : Wt) (v : Value) : List Value := [.int .i64 x.tk, v, .int .i64 x.tr, .int .i64 x.sv, .int .i64 x.pt, .int .i64 x.id, .int .i64 x.wn]
def wtCs (vs : List Value) (ws : List Wt) : List Value := (List.zipWith (fun (x : Wt) v => wtC x v) ws vs).flatten
def wtRs (vs : List Value) (ws : List Wt) : List Res := List.zipWith (fun (x : Wt) v => rowK v x.wy) ws vs
structure Rg where
 sv : List Int
 sd : Int
 es : List En
 ws : List Wt
 fl : Nat
 fd : List Value
 tk : Int
 k : Int
structure RgX where
 vs : Value
 c : Nat
 vl : Value
 vf : Value
 avs : List Value
abbrev blkG (a : Nat) (vs : Value) (c : Nat) (vl vf : Value) (sd tk k : Int) : Res := blkR a (.cells #[vs, .int .i64 sd, .pointer (some ⟨c, 0, none⟩), vl, vf, .int .i64 tk, .int .i64 k] 96)
abbrev rowWt (v : Value) (n : Nat) (cs : List Value) : Res := rowR v 101 7 n cs
abbrev partsG (a : Nat) (x : RgX) (r : Rg) : List Res := [blkG a x.vs x.c x.vl x.vf r.sd r.tk r.k, rowVs x.vs r.sv, resI x.c r.es, rowWt x.vl r.ws.length (wtCs x.avs r.ws), sepR (wtRs x.avs r.ws), rowVd x.vf r.fl r.fd]
def resG (a : Nat) (r : Rg) : Res := exR fun x : RgX => factR (x.avs.length = r.ws.length) (sepR (partsG a x r))
section
variable {w0 w : World} {D : Nat → Prop} {L : List Res} {a c : Nat} {r : Rg} {v : Value} {xs : List Int} {sd : Int}
theorem openG (h : Own w0 D w (resG a r :: L)) : ∃ x : RgX, x.avs.length = r.ws.length ∧ Own w0 D w (partsG a x r ++ L) := by
 obtain ⟨x, h1⟩ := Own.openExC h
 obtain ⟨h2, h3⟩ := Own.openFC h1
 exact ⟨x, h2, Own.openC h3⟩
theorem shutG {x : RgX} (hl : x.avs.length = r.ws.length) (h : Own w0 D w (partsG a x r ++ L)) : Own w0 D w (resG a r :: L) :=
 Own.shutExC (f := fun x : RgX => factR (x.avs.length = r.ws.length) (sepR (partsG a x r))) x (Own.shutFC hl (Own.shutC (Rs := partsG a x r) h))
theorem newIg (h : Own w0 D w L) : Own w0 D (w.alloc (.cells #[.slice none 0 0] 46)) (L ++ [resI w.heap.size []]) := by
 have h0 := (Own.nil w none0).alloc (.cells #[.slice none 0 0] 46)
 have h1 := h0.rowNew 141 6
 exact h.joinC (shutI' (L := []) (l := []) h1)
theorem shutG_end (h : Own w0 D w (L ++ [rowVs v xs, resI c [], blkG a v c (.slice none 0 0) (.slice none 0 0) sd 0 0])) : Own w0 D w (L ++ [resG a ⟨xs, sd, [], [], 0, [], 0, 0⟩]) := by
 have h1 := (h.rowNew 101 7).rowNew 63 3
 rw [List.append_assoc, List.append_assoc] at h1
 have h2 : Own w0 D w (L ++ [blkG a v c (.slice none 0 0) (.slice none 0 0) sd 0 0, rowVs v xs, resI c [], rowWt (.slice none 0 0) 0 [], rowVd (.slice none 0 0) 0 []]) := h1.perm (List.Perm.append_left L (List.perm_middle (l₁ := [rowVs v xs, resI c []])))
 have h3 := Own.shutC (Rs := []) h2.rot
 have h4 : Own w0 D w ([blkG a v c (.slice none 0 0) (.slice none 0 0) sd 0 0, rowVs v xs, resI c [], rowWt (.slice none 0 0) 0 []] ++ sepR [] :: (rowVd (.slice none 0 0) 0 [] :: L)) := h3.perm (List.perm_middle (l₁ := [blkG a v c (.slice none 0 0) (.slice none 0 0) sd 0 0, rowVs v xs, resI c [], rowWt (.slice none 0 0) 0 []]) (l₂ := rowVd (.slice none 0 0) 0 [] :: L)).symm
 exact Own.rot (L := [resG a ⟨xs, sd, [], [], 0, [], 0, 0⟩]) (shutG (x := ⟨v, c, .slice none 0 0, .slice none 0 0, []⟩) (r := ⟨xs, sd, [], [], 0, [], 0, 0⟩) rfl h4)
end
theorem ones_y {x : Int} (w : World) (h1 : 1 ≤ x) (h2 : x < 4294967295) : Calls Tryz.prog 92 #[.int .i64 x] w fun e w' => e = .returned (.bool true) ∧ Below w.heap.size w w' := by
 have d1 : decide (1 ≤ x) = true := decide_eq_true h1
 have d2 : decide (x ≤ 4294967294) = true := decide_eq_true (by omega)
 go_enter Tryz.func92, Tryz.ntmps92
 go_wp2
 go_ret
 exact ⟨rfl, Below.refl _ _⟩
theorem run_bCg (w : World) : (Instr.build 46 #[]).run Tryz.prog w = .ok (.agg #[.slice none 0 0]) w := by kernel_rfl
theorem run_bdG (a : Option Addr) (n c : Nat) (sd : Int) (p : Nat) (w : World) : (Instr.build 96 #[(0, .slice a n c), (1, .int .i64 sd), (2, .pointer (some ⟨p, 0, none⟩))]).run Tryz.prog w = .ok (.agg #[.slice a n c, .int .i64 sd, .pointer (some ⟨p, 0, none⟩), .slice none 0 0, .slice none 0 0, .int .i64 0, .int .i64 0]) w := by kernel_rfl
def GNewO (w0 : World) (D : Nat → Prop) (L : List Res) (xs : List Int) (sd : Int) (w : World) (e : Ending) (w' : World) : Prop := ∃ a, e = .returned (.tuple #[.pointer (some ⟨a, 0, none⟩), .int .i64 0]) ∧ Own w0 D w' (L ++ [resG a ⟨xs, sd, [], [], 0, [], 0, 0⟩]) ∧ w.heap.size ≤ w'.heap.size
theorem gnew_o {w0 w : World} {D : Nat → Prop} {L : List Res} {v : Value} {xs : List Int} {n : Nat} {sd : Int} (h : Own w0 D w L) (i : Nat) (hi : L[i]? = some (rowVs v xs)) (hn : xs.length = n) (h0 : 0 < n) (h4 : n ≤ 4) (hv : ∀ j (hj : j < xs.length), 1 ≤ xs[j] ∧ xs[j] < 4294967295) (hd : ∀ j k (hj : j < xs.length) (hk : k < xs.length), j < k → xs[j] ≠ xs[k]) (s0 : 0 ≤ sd) (s1 : sd ≤ 4294967295) :
  Calls Tryz.prog 41 #[v, .int .i64 sd] w (GNewO w0 D L xs sd w) := by
 have hr := h.row i hi
 have HO := Hi h
 have HI := Hi hi
 have HV := Hi hv
 have HD := Hi hd
 have HN := Hi hn
 obtain ⟨a, cap, rfl⟩ := row_shape hr
 rw [hn] at hr
 have HR := Hi hr
 have HS := Hi (show 0 ≤ sd ∧ sd ≤ 4294967295 from ⟨s0, s1⟩)
 obtain ⟨g, rfl⟩ := row_some hr h0
 have m0 : decide ((n : Int) > 4) = false := decide_eq_false (by omega)
 have m1 : decide ((4 : Int) < (n : Int)) = false := decide_eq_false (by omega)
 have m2 : decide (sd > 4294967295) = false := decide_eq_false (by omega)
 have m3 : decide ((4294967295 : Int) < sd) = false := decide_eq_false (by omega)
 have m4 : decide (sd < 0) = false := decide_eq_false (by omega)
 rw [hn]
 clear h hi hv hd hr hn
 go_enter Tryz.func41, Tryz.ntmps41
 go_wp2
 go_loopw [6, 7] (fun iv kv wr => ∃ k : Nat, k ≤ n ∧ iv = .int .i64 k ∧ Below w.heap.size w wr) (fun iv _ _ => n - (intOf iv).toNat)
 case atStart => exact ⟨0, Nat.zero_le _, rfl, Below.refl _ _⟩
 case round =>
  obtain ⟨k, hk, rfl, hbw⟩ := hrel
  have HB := Hi hbw
  clear hbw
  by_cases hlt : k < n
  ·
   have hcc := (row_cells HR.out).1
   have hkl : k < xs.length := by rw [HN.out]; exact hlt
   have hx := HV.out k hkl
   have HC := Hi (show ∀ j, j < n → ∃ y, w.cell? ⟨g, j, none⟩ = some (.int .i64 y) ∧ (j < k → y ≠ xs[k]) by
    intro j hj
    have hjl : j < xs.length := by rw [HN.out]; exact hj
    exact ⟨xs[j], hcc j _ (by simp [hjl]), fun hjk => HD.out j k hjl hkl hjk⟩)
   have c0 : wr.cell? ⟨g, k, none⟩ = some (.int .i64 xs[k]) := keep HB.out (hcc k _ (by simp [hkl]))
   have C0 := Hi (show w.cell? ⟨g, k, none⟩ = some (.int .i64 xs[k]) from hcc k _ (by simp [hkl]))
   clear hcc
   generalize xs[k] = y at *
   obtain ⟨h1, h2⟩ := hx
   have HY := Hi (And.intro h1 h2)
   have hd : decide ((k : Int) < (n : Int)) = true := decide_eq_true (by omega)
   go_wp2_with fail
   refine (ones_y _ HY.out.1 HY.out.2).mono ?_
   rintro e x1 ⟨rfl, hb1⟩
   have HB1 := Hi (below_mid HB.out hb1)
   clear hb1 c0
   go_wp2
   go_loopw [7] (fun jv w2 => ∃ j : Nat, j ≤ k ∧ jv = .int .i64 j ∧ Below w.heap.size w w2) (fun jv _ => k - (intOf jv).toNat)
   case atStart => exact ⟨0, Nat.zero_le _, rfl, HB1.out⟩
   case round =>
    obtain ⟨j, hj, rfl, hb2⟩ := hrel
    have HB2 := Hi hb2
    clear hb2
    by_cases hjk : j < k
    ·
     obtain ⟨y2, hy2, hne⟩ := HC.out j (by omega)
     have g0 := cell_regrown (keep HB2.out hy2)
     have g1 := cell_regrown (keep HB2.out C0.out)
     have hne := hne hjk
     have hb : (y2 == y) = false := beq_eq_false_iff_ne.2 hne
     have hb' : decide (y2 = y) = false := decide_eq_false hne
     have hd2 : decide ((j : Int) < (k : Int)) = true := decide_eq_true (by omega)
     clear hy2
     go_wp2
     refine wp_region_B (by kernel_rfl) (by kernel_rfl) ?_
     iterate 9 (go_big_quiet_step (fail))
     refine wpQuiet_nil ?_
     intro x3 hb3
     have HB3 := Hi (below_mid HB2.out hb3)
     clear hb3 g0 g1
     go_wp2
     go_roundw
     case rel => exact ⟨j + 1, by omega, by go_num, HB3.out⟩
     case measure => simp [intOf]; omega
    ·
     obtain rfl : j = k := by omega
     have hd2 : decide ((j : Int) < (j : Int)) = false := decide_eq_false (by omega)
     go_wp2
     go_roundw
     case rel => exact ⟨j + 1, by omega, by go_num, HB2.out⟩
     case measure => simp [intOf]; omega
  ·
   obtain rfl : k = n := by omega
   have hd : decide ((k : Int) < (k : Int)) = false := decide_eq_false (by omega)
   have HI2 := Hi (show L[i]? = some (rowR (.slice (some ⟨g, 0, none⟩) k cap) 3 1 k (xs.map cIn)) by rw [← HN.out]; exact HI.out)
   have HO0 := Hi (HO.out.stay HB.out)
   have rb := run_bs0I
   obtain ⟨x1, hx1⟩ : ∃ y, wr.alloc (.cells #[] 3) = y := ⟨_, rfl⟩
   have hb := below_one wr (.cells #[] 3)
   rw [hx1] at hb
   have hO := HO0.out.push (w' := x1) (R := rowR (.slice (some ⟨wr.heap.size, 0, none⟩) 0 0) 3 1 0 []) (F := fun b => b = wr.heap.size) ⟨fun b => ⟨fun h => by rw [h]; rfl, fun h => by injection h with h; exact h.symm⟩, ⟨rfl, .inr ⟨wr.heap.size, 0, #[], rfl, Nat.zero_le _, by rw [← hx1]; exact new_block _ _, Nat.le_refl _, by unfold maxLen; omega, rfl, rfl⟩⟩⟩ (fun b hb => hb ▸ Nat.le_refl _) hb
   have HO2 := Hi hO
   have HSZ := Hi (Nat.le_trans HB.out.size hb.size)
   clear hO hb
   have HI3 := Hi (show (L ++ [rowR (.slice (some ⟨wr.heap.size, 0, none⟩) 0 0) 3 1 0 []])[i]? = some (rowR (.slice (some ⟨g, 0, none⟩) k cap) 3 1 k (xs.map cIn)) by
    rw [List.getElem?_append_left (get_len HI2.out), HI2.out])
   have HIL := Hi (show (L ++ [rowR (.slice (some ⟨wr.heap.size, 0, none⟩) 0 0) 3 1 0 []])[L.length]? = some (rowR (.slice (some ⟨wr.heap.size, 0, none⟩) 0 0) 3 1 0 []) by simp)
   have HXL := Hi (show (xs.map cIn).length = k * 1 by rw [List.length_map, HN.out, Nat.mul_one])
   go_wp2_with ((at_builtin; refine (show _ = True → _ from fun h => of_eq_true h) ?_))
   refine eq_true ?_
   obtain ⟨i0, hi0, hz0, hz1, hz2⟩ := info_parts info_I
   refine wpList_app rfl (.tmp 45) (.tmp 46) 30 rfl Tryz.underlying30 hi0 hz0 hz1 hz2 rfl (by decide) rfl (HO2.out.row L.length HIL.out) (xs.map cIn) rfl (by have := HXL.out; omega) (row_newsR (HO2.out.row i HI3.out)) (cIn_one xs) (by unfold maxLen; omega) (by omega) (Nat.zero_le _) ?_
   intro v' w' hown hu hnear
   have hO := HO2.out.rowTo L.length HIL.out hown hu (fun g hg => by
    rcases hnear with h2 | h2 | ⟨g2, h2, h3⟩
    ·
     rw [h2] at hg; cases hg
    ·
     exact .inl (h2 ▸ hg)
    ·
     rw [h2] at hg; cases hg; exact .inr h3)
   have HO3 := Hi (show Own w0 D w' (L ++ [rowVs v' xs]) by
    rw [Nat.zero_add, List.nil_append] at hO
    rw [List.set_append_right _ _ (Nat.le_refl _), Nat.sub_self] at hO
    rw [← HN.out] at hO
    exact hO)
   have HSZ2 := Hi (Nat.le_trans HSZ.out hu.size)
   have hro : w'.ownsRow 0 3 1 v' k (xs.map cIn) := by
    have := HO3.out.row L.length (show (L ++ [rowVs v' xs])[L.length]? = some (rowVs v' xs) by simp)
    rw [HN.out] at this; exact this
   obtain ⟨ua, uc, rfl⟩ := row_shape hro
   clear hO hown hu hnear hi0 hz0 hz1 hz2 rb hro hx1
   have rc := run_bCg
   have rd := run_bdG
   obtain ⟨x4, hx4⟩ : ∃ z, w'.alloc (.cells #[.slice none 0 0] 46) = z := ⟨_, rfl⟩
   obtain ⟨c, hc⟩ : ∃ z, w'.heap.size = z := ⟨_, rfl⟩
   have hO := newIg HO3.out
   rw [hx4, hc] at hO
   have HO4 := Hi hO
   have HSZ4 := Hi (show w.heap.size ≤ x4.heap.size from Nat.le_trans HSZ2.out (by rw [← hx4]; simp))
   clear hO
   obtain ⟨x5, hx5⟩ : ∃ z, x4.alloc (.cells #[.slice ua k uc, .int .i64 sd, .pointer (some ⟨c, 0, none⟩), .slice none 0 0, .slice none 0 0, .int .i64 0, .int .i64 0] 96) = z := ⟨_, rfl⟩
   obtain ⟨p, hp⟩ : ∃ z, x4.heap.size = z := ⟨_, rfl⟩
   have hO := HO4.out.alloc (.cells #[.slice ua k uc, .int .i64 sd, .pointer (some ⟨c, 0, none⟩), .slice none 0 0, .slice none 0 0, .int .i64 0, .int .i64 0] 96)
   rw [hx5, hp] at hO
   rw [List.append_assoc, List.append_assoc] at hO
   have HO5 := Hi (show Own w0 D x5 (L ++ [rowVs (.slice ua k uc) xs, resI c [], blkG p (.slice ua k uc) c (.slice none 0 0) (.slice none 0 0) sd 0 0]) from hO)
   have HSZ5 := Hi (show w.heap.size ≤ x5.heap.size from Nat.le_trans HSZ4.out (by rw [← hx5]; simp))
   clear hO
   go_wp2
   go_ret2
   exact ⟨p, rfl, shutG_end HO5.out, HSZ5.out⟩
end
section
open Go.RowKit Go.Sort
attribute [local go_sem] Oper.semAt_some

theorem results_cct {fn : Func} {p q r : Tmp} {ty ty2 : TypeId} (h : fn.results = #[.cell p ty, .cell q ty2, .tmp r]) (tmps : Array Value) (P : Program) (w : World) (g g2 : Nat) (t t2 : TypeId) (cs cs2 : Array Value) (fr fr2 : Nat × Nat) (d d2 : TypeDesc)
  (hp : tmps.getD p undef = .pointer (some ⟨g, 0, none⟩)) (hg : w.heap[g]? = some (.cells cs t fr)) (hu : P.underlying ty = some d) (hd : (match d with | .struct _ | .array _ _ => true | _ => false) = true) (hi : (P.info? ty).map (·.size) = some cs.size)
  (hq : tmps.getD q undef = .pointer (some ⟨g2, 0, none⟩)) (hg2 : w.heap[g2]? = some (.cells cs2 t2 fr2)) (hu2 : P.underlying ty2 = some d2) (hd2 : (match d2 with | .struct _ | .array _ _ => true | _ => false) = true) (hi2 : (P.info? ty2).map (·.size) = some cs2.size)
  {u : Value} (hr : tmps.getD r undef = u) :
  (results fn tmps).run P w = .ok (.tuple #[.agg cs, .agg cs2, u]) w := by
 have hp' : tmps[p]?.getD undef = .pointer (some ⟨g, 0, none⟩) := by simpa using hp
 have hq' : tmps[q]?.getD undef = .pointer (some ⟨g2, 0, none⟩) := by simpa using hq
 have hr' : tmps[r]?.getD undef = u := by simpa using hr
 simp only [results, h]
 simp [Sem.run_bind, Result.andThen, hp', hq', hr', asAddr, run_loadVar_row w g t ty cs fr d hg hu (by revert hd; cases d <;> exact id) hi, run_loadVar_row w g2 t2 ty2 cs2 fr2 d2 hg2 hu2 (by revert hd2; cases d2 <;> exact id) hi2]
theorem infoWt : (Tryz.prog.info? 101).map (·.size) = some 7 := by kernel_rfl
theorem infoQg7 : (Tryz.prog.info? 37).map (·.size) = some 3 := by kernel_rfl
theorem run_bdMg (id : Int) (nm : ByteArray) (w : World) : (Instr.build 86 #[(0, .int .i64 id), (3, .string nm), (4, .int .i64 1)]).run Tryz.prog w = .ok (.agg #[.int .i64 id, .bool false, .int .i64 0, .string nm, .int .i64 1, .slice none 0 0]) w := by kernel_rfl
theorem run_bdQg (a b : Int) (s : ByteArray) (w : World) : (Instr.build 37 #[(0, .int .i64 a), (1, .int .i64 b), (2, .string s)]).run Tryz.prog w = .ok (.agg #[.int .i64 a, .int .i64 b, .string s]) w := by kernel_rfl
theorem o_frameO2 {fn : FuncId} {args : Array Value} {w0 w : World} {D : Nat → Prop} {v : Value} {A B B' : List Res} (h : Own w0 D w (B ++ A))
  (hc : ∀ D, Own w D w B → Calls P fn args w (OPost w D B' v w)) : Calls P fn args w (OPost w0 D (B' ++ A) v w) :=
 (o_frameO A B B' h.rot hc).mono fun e w' ⟨h1, h2, h3⟩ => ⟨h1, h2.rot, h3⟩
theorem question_q {w : World} {D : Nat → Prop} {a n t j : Nat} {sv : List Int} {sd : Int} {es : List En} {ws : List Wt} {fl : Nat} {fd : List Value} {tk kk lt s0 p0 i0 u0 now vy : Int} {ch : List ByteArray} {m mi : Nat} {ka : Option Addr} {kc : Nat} {A : List Res} (h : Own w D w (resG a ⟨sv, sd, es, ws, fl, fd, tk, kk⟩ :: rowK (.slice ka m kc) ch :: A))
  (hm : ch.length = m) (hmi : mi + 1 = m) (hml : m ≤ 100) (hnm : ch[mi]? = some nm) (hn : sv.length = n) (hn0 : 0 < n) (hn4 : n ≤ 4) (ht : t < 3 * n) (hj : t % n = j) (hy : sv[j]? = some vy) (hv : vname nm = true) (d0 : 0 ≤ sd) (d1 : sd ≤ 4294967295) (q0 : 0 ≤ kk) (q1 : kk ≤ 100000) :
  Calls Tryz.prog 95 #[.pointer (some ⟨a, 0, none⟩), .int .i64 now, .agg #[.int .i64 lt, .slice ka m kc, .int .i64 (t : Nat), .int .i64 s0, .int .i64 p0, .int .i64 i0, .int .i64 u0]] w
   (OPost w D (resG a ⟨sv, sd, es, ws, fl, fd, tk, kk + 1⟩ :: rowK (.slice ka m kc) ch :: A) (.tuple #[.agg #[.int .i64 lt, .slice ka m kc, .int .i64 ((t + 1 : Nat) : Int), .int .i64 vy, .int .i64 (20000 + (sd + 101 * (kk + 1)) % 10000), .int .i64 ((sd + 7919 * (kk + 1)) % 65536), .int .i64 now], .agg #[.int .i64 vy, .int .i64 (20000 + (sd + 101 * (kk + 1)) % 10000), .string (qryS sd kk nm)], .bool true]) w) := by
 refine o_frameO2 (A := A) (B := [resG a ⟨sv, sd, es, ws, fl, fd, tk, kk⟩, rowK (.slice ka m kc) ch]) (B' := [resG a ⟨sv, sd, es, ws, fl, fd, tk, kk + 1⟩, rowK (.slice ka m kc) ch]) h fun D h => ?_
 obtain ⟨⟨vs, c, vl, vf, avs⟩, hl, hO⟩ := openG h
 have HL := Hi hl
 have hO := Own.rot (L' := [rowK (.slice ka m kc) ch]) hO
 have hrk := hO.row 0 rfl
 have hrs := hO.row 2 rfl
 rw [hm] at hrk
 obtain ⟨gk, rfl⟩ := row_some hrk (by omega)
 have HCM := Hi hm
 have HMI := Hi (show (ch.map cSt)[mi]? = some (Value.string nm) by simp [hnm])
 have HML := Hi (show mi + 1 = m ∧ m ≤ 100 from ⟨hmi, hml⟩)
 obtain ⟨sa, sc, hsv⟩ := row_shape hrs
 simp only at hsv
 subst hsv
 rw [hn] at hrs
 obtain ⟨gs, rfl⟩ := row_some hrs hn0
 have hjn : j < n := by rw [← hj]; exact Nat.mod_lt _ hn0
 have HSV := Hi hn
 have e1 : (t : Int).tmod (n : Int) = (j : Int) := by rw [← hj]; simp [Int.tmod_eq_emod_of_nonneg]
 have e2 : (t : Int) % (n : Int) = (j : Int) := by rw [← hj]; simp
 have e3 : ((n : Int) == 0) = false := by simp; omega
 have e4 : ((n : Int) = 0) = False := eq_false (by omega)
 have e5 : decide ((t : Int) ≥ 3 * (n : Int)) = false := decide_eq_false (by omega)
 have e6 : decide (3 * (n : Int) ≤ (t : Int)) = false := decide_eq_false (by omega)
 have HE7 := Hi (show ((t : Int) + 1) = ((t + 1 : Nat) : Int) by omega)
 have b1 : (n : Int) ≤ 4 := by omega
 have b2 : (t : Int) ≤ 12 := by omega
 have HB := Hi (show t ≤ 12 ∧ n ≤ 4 ∧ j < n by omega)
 have HQ := Hi (show (0 ≤ sd ∧ sd ≤ 4294967295) ∧ 0 ≤ kk ∧ kk ≤ 100000 from ⟨⟨d0, d1⟩, q0, q1⟩)
 have HDM := Hi (show DmV ⟨(sd + 7919 * (kk + 1)) % 65536, false, 0, nm, 1, []⟩ from ⟨⟨by show 0 ≤ (sd + 7919 * (kk + 1)) % 65536; omega, by show (sd + 7919 * (kk + 1)) % 65536 ≤ 65535; omega⟩, ⟨by show (0 : Int) ≤ 0; decide, by show (0 : Int) ≤ 2; decide⟩, hv, .inl rfl, Nat.zero_le _, (fun r hr => by cases hr), fun _ => ⟨rfl, rfl⟩⟩)
 have HEN := Hi (fun w => encode19_r (a := none) (cap := 0) (n := 0) w (((Own.nil w none0).rowNew 49 5).row 0 rfl) rfl HDM.out)
 have HSY := Hi (show (sv.map cIn)[j]? = some (Value.int .i64 vy) by simp [hy])
 obtain ⟨sm, hsm⟩ : ∃ y, qryS sd kk nm = y := ⟨_, rfl⟩
 have HSM := Hi hsm
 rw [show (⟨(encM ⟨(sd + 7919 * (kk + 1)) % 65536, false, 0, nm, 1, []⟩).toArray⟩ : ByteArray) = sm from hsm] at HEN
 rw [hsm]
 have rM := run_bdMg
 have rQ := run_bdQg
 clear hm hmi hml hnm HDM hn hj hy hrk hrs h hn0 hn4 ht hv d0 d1 hjn hl hsm q0 q1
 have HO := Hi (show Own w D w [rowR (.slice (some ⟨gk, 0, none⟩) m kc) 9 1 m (ch.map cSt), blkR a (.cells #[.slice (some ⟨gs, 0, none⟩) n sc, .int .i64 sd, .pointer (some ⟨c, 0, none⟩), vl, vf, .int .i64 tk, .int .i64 kk] 96), rowR (.slice (some ⟨gs, 0, none⟩) n sc) 3 1 n (sv.map cIn), resI c es, rowWt vl ws.length (wtCs avs ws), sepR (wtRs avs ws), rowVd vf fl fd] by rw [← HSV.out, ← HCM.out]; rw [← HCM.out] at hO; exact hO)
 clear hO
 obtain ⟨x1, hx1, bw, hbw, hO⟩ := HO.out.allocE (.cells #[.int .i64 lt, .slice (some ⟨gk, 0, none⟩) m kc, .int .i64 (t : Int), .int .i64 s0, .int .i64 p0, .int .i64 i0, .int .i64 u0] 101)
 replace HO := Hi (show Own _ _ _ [_, _, _, _, _, _, _, blkR bw (.cells #[.int .i64 lt, .slice (some ⟨gk, 0, none⟩) m kc, .int .i64 (t : Int), .int .i64 s0, .int .i64 p0, .int .i64 i0, .int .i64 u0] 101)] from hO)
 clear hO
 obtain ⟨x2, hx2, b6, hb6, hO⟩ := HO.out.allocE (.cells #[.int .i64 0, .slice none 0 0, .int .i64 0, .int .i64 0, .int .i64 0, .int .i64 0, .int .i64 0] 101)
 replace HO := Hi (show Own _ _ _ [_, _, _, _, _, _, _, _, blkR b6 (.cells #[.int .i64 0, .slice none 0 0, .int .i64 0, .int .i64 0, .int .i64 0, .int .i64 0, .int .i64 0] 101)] from hO)
 clear hO
 obtain ⟨x3, hx3, b7, hb7, hO⟩ := HO.out.allocE (.cells #[.int .i64 0, .int .i64 0, .string ⟨#[]⟩] 37)
 replace HO := Hi (show Own _ _ _ [_, _, _, _, _, _, _, _, _, blkR b7 (.cells #[.int .i64 0, .int .i64 0, .string ⟨#[]⟩] 37)] from hO)
 clear hO
 go_enter Tryz.func95, Tryz.ntmps95
 go_wp2
 clear hx1 hbw hx2 hb6 hx3 hb7
 obtain ⟨-, -, g7_2, -, -, -, -⟩ := HO.out.g7 7 rfl
 obtain ⟨g1_0, -, -, -, -, -, -⟩ := HO.out.g7 1 rfl
 refine wp_region_B (by kernel_rfl) (by kernel_rfl) ?_
 iterate 9 (go_big_quiet_step (fail))
 refine wpQuiet_nil ?_
 intro y1 hbw
 have hO := HO.out.stay hbw
 replace HO := Hi hO
 clear hO hbw g7_2 g1_0
 obtain ⟨⟨d0, d1⟩, q0, q1⟩ := HQ.out
 have ⟨z1_6, y1_6⟩ : y1.cell? _ = some (.int .i64 kk) ∧ _ := HO.out.cf 1 rfl 6 rfl
 obtain ⟨x4, hx4, hO⟩ := HO.out.setE 1 rfl 6 (.int .i64 (kk + 1))
 replace HO := Hi (show Own _ _ _ [_, blkR a (.cells #[.slice (some ⟨gs, 0, none⟩) n sc, .int .i64 sd, .pointer (some ⟨c, 0, none⟩), vl, vf, .int .i64 tk, .int .i64 (kk + 1)] 96), _, _, _, _, _, _, _, _] from hO)
 clear hO
 go_wp2
 clear z1_6 y1_6 hx4
 obtain ⟨g1_0, -, -, -, -, -, -⟩ := HO.out.g7 1 rfl
 obtain ⟨-, -, g7_2, -, -, -, -⟩ := HO.out.g7 7 rfl
 have gsv := cell_regrown (show x4.cell? ⟨gs, j, none⟩ = some (.int .i64 vy) from (row_cells (HO.out.row 2 rfl)).1 j _ HSY.out)
 have hjn := HB.out.2.2
 have hj0 : (0 : Int) ≤ (j : Int) := by omega
 have hjl : (j : Int) < (n : Int) := by omega
 refine wp_region_R 15 (by kernel_rfl) (by kernel_rfl) ?_
 simp only [List.take, List.drop]
 iterate 15 (first | (refine wpR_want (by kernel_rfl) rfl rfl ?_; intro K hK; go_big_quiet_op; go_big_quiet_on) | (refine wpR_is (by kernel_rfl) rfl _ (fun w _ => rfl) ?_; simp only [Act.put, l_T, l_S, l_Z]))
 refine wpR_nil (by kernel_rfl) (by simp) ?_
 rintro y2 hbw
 simp only [exAll]
 simp only [List.drop]
 have hO := HO.out.stay hbw
 replace HO := Hi hO
 clear hO hbw  g1_0 g7_2 gsv hjn hj0 hjl
 have ⟨z7_3, y7_3⟩ : y2.cell? _ = some (.int .i64 s0) ∧ _ := HO.out.cf 7 rfl 3 rfl
 obtain ⟨x5, hx5, hO⟩ := HO.out.setE 7 rfl 3 (.int .i64 vy)
 replace HO := Hi (show Own _ _ _ [_, _, _, _, _, _, _, blkR bw (.cells #[.int .i64 lt, .slice (some ⟨gk, 0, none⟩) m kc, .int .i64 (t : Int), .int .i64 vy, .int .i64 p0, .int .i64 i0, .int .i64 u0] 101), _, _] from hO)
 clear hO
 have ⟨z7_2, y7_2⟩ : x5.cell? _ = some (.int .i64 (t : Int)) ∧ _ := HO.out.cf 7 rfl 2 rfl
 obtain ⟨x6, hx6, hO⟩ := HO.out.setE 7 rfl 2 (.int .i64 ((t : Int) + 1))
 replace HO := Hi (show Own _ _ _ [_, _, _, _, _, _, _, blkR bw (.cells #[.int .i64 lt, .slice (some ⟨gk, 0, none⟩) m kc, .int .i64 ((t : Int) + 1), .int .i64 vy, .int .i64 p0, .int .i64 i0, .int .i64 u0] 101), _, _] from hO)
 clear hO
 go_wp2
 clear z7_3 y7_3 hx5 z7_2 y7_2 hx6
 have i1 : (sd + 7919 * (kk + 1)).tmod 65536 = (sd + 7919 * (kk + 1)) % 65536 := Int.tmod_eq_emod_of_nonneg (by omega)
 have i2 : (sd + 101 * (kk + 1)).tmod 10000 = (sd + 101 * (kk + 1)) % 10000 := Int.tmod_eq_emod_of_nonneg (by omega)
 obtain ⟨-, g1_1, -, -, -, -, g1_6⟩ := HO.out.g7 1 rfl
 refine wp_region_R 12 (by kernel_rfl) (by kernel_rfl) ?_
 simp only [List.take, List.drop]
 iterate 12 (first | (refine wpR_want (by kernel_rfl) rfl rfl ?_; intro K hK; go_big_quiet_op; go_big_quiet_on) | (refine wpR_is (by kernel_rfl) rfl _ (fun w _ => rfl) ?_; simp only [Act.put, l_T, l_S, l_Z]))
 refine wpR_nil (by kernel_rfl) (by simp) ?_
 rintro y3 hbw
 simp only [exAll]
 simp only [List.drop]
 have hO := HO.out.stay hbw
 replace HO := Hi hO
 clear hO hbw  g1_1 g1_6
 have ⟨z7_5, y7_5⟩ : y3.cell? _ = some (.int .i64 i0) ∧ _ := HO.out.cf 7 rfl 5 rfl
 obtain ⟨x7, hx7, hO⟩ := HO.out.setE 7 rfl 5 (.int .i64 ((sd + 7919 * (kk + 1)) % 65536))
 replace HO := Hi (show Own _ _ _ [_, _, _, _, _, _, _, blkR bw (.cells #[.int .i64 lt, .slice (some ⟨gk, 0, none⟩) m kc, .int .i64 ((t : Int) + 1), .int .i64 vy, .int .i64 p0, .int .i64 ((sd + 7919 * (kk + 1)) % 65536), .int .i64 u0] 101), _, _] from hO)
 clear hO
 go_wp2
 clear z7_5 y7_5 hx7
 obtain ⟨-, g1_1, -, -, -, -, g1_6⟩ := HO.out.g7 1 rfl
 refine wp_region_R 13 (by kernel_rfl) (by kernel_rfl) ?_
 simp only [List.take, List.drop]
 iterate 13 (first | (refine wpR_want (by kernel_rfl) rfl rfl ?_; intro K hK; go_big_quiet_op; go_big_quiet_on) | (refine wpR_is (by kernel_rfl) rfl _ (fun w _ => rfl) ?_; simp only [Act.put, l_T, l_S, l_Z]))
 refine wpR_nil (by kernel_rfl) (by simp) ?_
 rintro y4 hbw
 simp only [exAll]
 simp only [List.drop]
 have hO := HO.out.stay hbw
 replace HO := Hi hO
 clear hO hbw  g1_1 g1_6
 have ⟨z7_4, y7_4⟩ : y4.cell? _ = some (.int .i64 p0) ∧ _ := HO.out.cf 7 rfl 4 rfl
 obtain ⟨x8, hx8, hO⟩ := HO.out.setE 7 rfl 4 (.int .i64 (20000 + (sd + 101 * (kk + 1)) % 10000))
 replace HO := Hi (show Own _ _ _ [_, _, _, _, _, _, _, blkR bw (.cells #[.int .i64 lt, .slice (some ⟨gk, 0, none⟩) m kc, .int .i64 ((t : Int) + 1), .int .i64 vy, .int .i64 (20000 + (sd + 101 * (kk + 1)) % 10000), .int .i64 ((sd + 7919 * (kk + 1)) % 65536), .int .i64 u0] 101), _, _] from hO)
 clear hO
 have ⟨z7_6, y7_6⟩ : x8.cell? _ = some (.int .i64 u0) ∧ _ := HO.out.cf 7 rfl 6 rfl
 obtain ⟨x9, hx9, hO⟩ := HO.out.setE 7 rfl 6 (.int .i64 now)
 replace HO := Hi (show Own _ _ _ [_, _, _, _, _, _, _, blkR bw (.cells #[.int .i64 lt, .slice (some ⟨gk, 0, none⟩) m kc, .int .i64 ((t : Int) + 1), .int .i64 vy, .int .i64 (20000 + (sd + 101 * (kk + 1)) % 10000), .int .i64 ((sd + 7919 * (kk + 1)) % 65536), .int .i64 now] 101), _, _] from hO)
 clear hO
 go_wp2
 clear z7_4 y7_4 hx8 z7_6 y7_6 hx9
 obtain ⟨-, g7_1, -, -, -, g7_5, -⟩ := HO.out.g7 7 rfl
 have gnm := cell_regrown (show x9.cell? ⟨gk, mi, none⟩ = some (.string nm) from (row_cells (HO.out.row 0 rfl)).1 mi _ HMI.out)
 obtain ⟨hm1, hm2⟩ := HML.out
 have hm3 : (m : Int) - 1 = (mi : Int) := by omega
 have hm4 : (0 : Int) ≤ (mi : Int) := by omega
 have hm5 : (mi : Int) < (m : Int) := by omega
 refine wp_region_R 17 (by kernel_rfl) (by kernel_rfl) ?_
 simp only [List.take, List.drop]
 iterate 11 (first | (refine wpR_want (by kernel_rfl) rfl rfl ?_; intro K hK; go_big_quiet_op; go_big_quiet_on) | (refine wpR_is (by kernel_rfl) rfl _ (fun w _ => rfl) ?_; simp only [Act.put, l_T, l_S, l_Z]))
 refine wpR_call (by kernel_rfl) rfl 62 #[.agg #[.int .i64 ((sd + 7919 * (kk + 1)) % 65536), .bool false, .int .i64 0, .string nm, .int .i64 1, .slice none 0 0]] (.tuple #[.string sm, .int .i64 0]) (fun w => by simp [go_sem]) (fun w hb => HEN.out w) ?_
 simp only [Act.put, l_T, l_S, l_Z]
 iterate 5 (first | (refine wpR_want (by kernel_rfl) rfl rfl ?_; intro K hK; go_big_quiet_op; go_big_quiet_on) | (refine wpR_is (by kernel_rfl) rfl _ (fun w _ => rfl) ?_; simp only [Act.put, l_T, l_S, l_Z]))
 refine wpR_nil (by kernel_rfl) (by simp) ?_
 rintro y5 hbw
 simp only [exAll]
 simp only [List.drop]
 have hO := HO.out.stay hbw
 replace HO := Hi hO
 clear hO hbw  g7_5 g7_1 gnm hm1 hm2 hm3 hm4 hm5
 go_wp2
 generalize hΓ : ghE w D (fun st => [rowR (.slice (some ⟨gk, 0, none⟩) m kc) 9 1 m (ch.map cSt), blkR a (.cells #[.slice (some ⟨gs, 0, none⟩) n sc, .int .i64 sd, .pointer (some ⟨c, 0, none⟩), vl, vf, .int .i64 tk, .int .i64 (kk + 1)] 96), rowR (.slice (some ⟨gs, 0, none⟩) n sc) 3 1 n (sv.map cIn), resI c es, rowWt vl ws.length (wtCs avs ws), sepR (wtRs avs ws), rowVd vf fl fd, blkR bw (.cells #[.int .i64 lt, .slice (some ⟨gk, 0, none⟩) m kc, .int .i64 ((t : Int) + 1), .int .i64 vy, .int .i64 (20000 + (sd + 101 * (kk + 1)) % 10000), .int .i64 ((sd + 7919 * (kk + 1)) % 65536), .int .i64 now] 101), atV (st 7) (blkR b6 (.cells #[.int .i64 0, .slice none 0 0, .int .i64 0, .int .i64 0, .int .i64 0, .int .i64 0, .int .i64 0] 101)) (fun _ => blkR b6 (.cells #[.int .i64 lt, .slice (some ⟨gk, 0, none⟩) m kc, .int .i64 ((t : Int) + 1), .int .i64 vy, .int .i64 (20000 + (sd + 101 * (kk + 1)) % 10000), .int .i64 ((sd + 7919 * (kk + 1)) % 65536), .int .i64 now] 101)), blkR b7 (.cells #[.int .i64 0, .int .i64 0, .string ⟨#[]⟩] 37)]) = Γ
 have HST := Hi (show Γ.inv [] y5 by rw [← hΓ]; exact HO.out)
 have q7_0 : ∀ q : Γ.Wd, q.w.cell? ⟨bw, 0, none⟩ = some (.int .i64 lt) := by rw [← hΓ]; exact ghE_cell (c := #[.int .i64 lt, .slice (some ⟨gk, 0, none⟩) m kc, .int .i64 ((t : Int) + 1), .int .i64 vy, .int .i64 (20000 + (sd + 101 * (kk + 1)) % 10000), .int .i64 ((sd + 7919 * (kk + 1)) % 65536), .int .i64 now]) (t := 101) 7 (fun _ => rfl) 0 rfl
 have q7_1 : ∀ q : Γ.Wd, q.w.cell? ⟨bw, 1, none⟩ = some (.slice (some ⟨gk, 0, none⟩) m kc) := by rw [← hΓ]; exact ghE_cell (c := #[.int .i64 lt, .slice (some ⟨gk, 0, none⟩) m kc, .int .i64 ((t : Int) + 1), .int .i64 vy, .int .i64 (20000 + (sd + 101 * (kk + 1)) % 10000), .int .i64 ((sd + 7919 * (kk + 1)) % 65536), .int .i64 now]) (t := 101) 7 (fun _ => rfl) 1 rfl
 have q7_2 : ∀ q : Γ.Wd, q.w.cell? ⟨bw, 2, none⟩ = some (.int .i64 ((t : Int) + 1)) := by rw [← hΓ]; exact ghE_cell (c := #[.int .i64 lt, .slice (some ⟨gk, 0, none⟩) m kc, .int .i64 ((t : Int) + 1), .int .i64 vy, .int .i64 (20000 + (sd + 101 * (kk + 1)) % 10000), .int .i64 ((sd + 7919 * (kk + 1)) % 65536), .int .i64 now]) (t := 101) 7 (fun _ => rfl) 2 rfl
 have q7_3 : ∀ q : Γ.Wd, q.w.cell? ⟨bw, 3, none⟩ = some (.int .i64 vy) := by rw [← hΓ]; exact ghE_cell (c := #[.int .i64 lt, .slice (some ⟨gk, 0, none⟩) m kc, .int .i64 ((t : Int) + 1), .int .i64 vy, .int .i64 (20000 + (sd + 101 * (kk + 1)) % 10000), .int .i64 ((sd + 7919 * (kk + 1)) % 65536), .int .i64 now]) (t := 101) 7 (fun _ => rfl) 3 rfl
 have q7_4 : ∀ q : Γ.Wd, q.w.cell? ⟨bw, 4, none⟩ = some (.int .i64 (20000 + (sd + 101 * (kk + 1)) % 10000)) := by rw [← hΓ]; exact ghE_cell (c := #[.int .i64 lt, .slice (some ⟨gk, 0, none⟩) m kc, .int .i64 ((t : Int) + 1), .int .i64 vy, .int .i64 (20000 + (sd + 101 * (kk + 1)) % 10000), .int .i64 ((sd + 7919 * (kk + 1)) % 65536), .int .i64 now]) (t := 101) 7 (fun _ => rfl) 4 rfl
 have q7_5 : ∀ q : Γ.Wd, q.w.cell? ⟨bw, 5, none⟩ = some (.int .i64 ((sd + 7919 * (kk + 1)) % 65536)) := by rw [← hΓ]; exact ghE_cell (c := #[.int .i64 lt, .slice (some ⟨gk, 0, none⟩) m kc, .int .i64 ((t : Int) + 1), .int .i64 vy, .int .i64 (20000 + (sd + 101 * (kk + 1)) % 10000), .int .i64 ((sd + 7919 * (kk + 1)) % 65536), .int .i64 now]) (t := 101) 7 (fun _ => rfl) 5 rfl
 have q7_6 : ∀ q : Γ.Wd, q.w.cell? ⟨bw, 6, none⟩ = some (.int .i64 now) := by rw [← hΓ]; exact ghE_cell (c := #[.int .i64 lt, .slice (some ⟨gk, 0, none⟩) m kc, .int .i64 ((t : Int) + 1), .int .i64 vy, .int .i64 (20000 + (sd + 101 * (kk + 1)) % 10000), .int .i64 ((sd + 7919 * (kk + 1)) % 65536), .int .i64 now]) (t := 101) 7 (fun _ => rfl) 6 rfl
 have HΓ := Hi hΓ
 clear hΓ
 have ne : Nonempty Γ.Wd := ⟨⟨[], y5, HST.out⟩⟩
 refine wp_region_E Γ 8 [7] (by kernel_rfl) (by kernel_rfl) (by kernel_rfl) HST.out ?_
 simp only [List.take, List.drop]
 iterate 7 (first | (refine wpE_want (by kernel_rfl) (by kernel_rfl) rfl rfl ?_; intro K hK; go_big_quiet_op; go_big_quiet_on) | (refine wpE_is (by kernel_rfl) (by kernel_rfl) rfl _ (fun _ w _ => rfl) ?_; simp only [Act.put, l_T, l_S, l_Z]))
 refine wpE_store (by kernel_rfl) rfl rfl (by kernel_rfl) (by kernel_rfl) (fun a' g hg hn hdp he => ?_) ?_
 ·
  obtain ⟨hp, hv, _⟩ := he
  have hp' : a'.eval (.tmp 6) = .pointer (some ⟨b6, 0, none⟩) := hp
  have hv' : a'.eval (.tmp 90) = .agg #[.int .i64 lt, .slice (some ⟨gk, 0, none⟩) m kc, .int .i64 ((t : Int) + 1), .int .i64 vy, .int .i64 (20000 + (sd + 101 * (kk + 1)) % 10000), .int .i64 ((sd + 7919 * (kk + 1)) % 65536), .int .i64 now] := hv
  rw [← HΓ.out] at hg ⊢
  exact ghE_pu (k := 8) rfl rfl hp' hv' hg hn rfl rfl (by kernel_rfl) rfl (by kernel_rfl)
 refine wpE_nil (by kernel_rfl) (by simp) ?_
 rintro ⟨gvs, y6⟩ hg hgl
 rw [← HΓ.out] at hg
 simp only [gexAll, List.drop]
 obtain ⟨e7, hr7⟩ := Option.isSome_iff_exists.1 (hgl 7 (by simp))
 have hO := hg
 simp only [ghE, hr7] at hO
 replace hO : Own w D y6 [rowR (.slice (some ⟨gk, 0, none⟩) m kc) 9 1 m (ch.map cSt), blkR a (.cells #[.slice (some ⟨gs, 0, none⟩) n sc, .int .i64 sd, .pointer (some ⟨c, 0, none⟩), vl, vf, .int .i64 tk, .int .i64 (kk + 1)] 96), rowR (.slice (some ⟨gs, 0, none⟩) n sc) 3 1 n (sv.map cIn), resI c es, rowWt vl ws.length (wtCs avs ws), sepR (wtRs avs ws), rowVd vf fl fd, blkR bw (.cells #[.int .i64 lt, .slice (some ⟨gk, 0, none⟩) m kc, .int .i64 ((t : Int) + 1), .int .i64 vy, .int .i64 (20000 + (sd + 101 * (kk + 1)) % 10000), .int .i64 ((sd + 7919 * (kk + 1)) % 65536), .int .i64 now] 101), blkR b6 (.cells #[.int .i64 lt, .slice (some ⟨gk, 0, none⟩) m kc, .int .i64 ((t : Int) + 1), .int .i64 vy, .int .i64 (20000 + (sd + 101 * (kk + 1)) % 10000), .int .i64 ((sd + 7919 * (kk + 1)) % 65536), .int .i64 now] 101), blkR b7 (.cells #[.int .i64 0, .int .i64 0, .string ⟨#[]⟩] 37)] := hO
 try simp only [Act.put, l_T, l_S, l_Z]
 replace HO := Hi (show Own _ _ _ [_, _, _, _, _, _, _, _, blkR b6 (.cells #[.int .i64 lt, .slice (some ⟨gk, 0, none⟩) m kc, .int .i64 ((t : Int) + 1), .int .i64 vy, .int .i64 (20000 + (sd + 101 * (kk + 1)) % 10000), .int .i64 ((sd + 7919 * (kk + 1)) % 65536), .int .i64 now] 101), _] from hO)
 clear hO hg hgl HΓ HST ne q7_0 q7_1 q7_2 q7_3 q7_4 q7_5 q7_6
 obtain ⟨x13, x16, x18, hx13, hx16, hx18, k9_0_10, lk9_0_10, k9_1_14, lk9_1_14, k9_2_17, lk9_2_17, hO⟩ := HO.out.steps3 9 rfl (.int .i64 vy) (.int .i64 (20000 + (sd + 101 * (kk + 1)) % 10000)) (.string sm)
 replace HO := Hi (show Own _ _ _ [_, _, _, _, _, _, _, _, _, blkR b7 (.cells #[.int .i64 vy, .int .i64 (20000 + (sd + 101 * (kk + 1)) % 10000), .string sm] 37)] from hO)
 clear hO
 go_wp2
 have hO := HO.out
 rw [HE7.out] at hO
 refine bodyPost_ret (results_cct rfl _ _ _ b6 b7 101 37 _ _ _ _ _ _ rfl (hO.blk 8 rfl) Tryz.underlying101 rfl infoWt rfl (hO.blk 9 rfl) Tryz.underlying37 rfl infoQg7 rfl) rfl ?_
 have h2 := (hO.take 7).perm (List.perm_append_comm (l₁ := [rowR (.slice (some ⟨gk, 0, none⟩) m kc) 9 1 m (ch.map cSt)]))
 refine ⟨rfl, ?_, HO.out.size⟩
 have h3 := shutG (x := ⟨.slice (some ⟨gs, 0, none⟩) n sc, c, vl, vf, avs⟩) (r := ⟨sv, sd, es, ws, fl, fd, tk, kk + 1⟩) (L := [rowR (.slice (some ⟨gk, 0, none⟩) m kc) 9 1 m (ch.map cSt)]) HL.out (by rw [← HSV.out] at h2 ⊢; exact h2)
 rw [← HCM.out] at h3 ⊢
 exact h3
end
section
open Go.RowKit Go.Sort
attribute [local go_sem] Oper.semAt_some

theorem run_bdRg (t er : Int) (x : Option Addr) (n c : Nat) (w : World) : (Instr.build 63 #[(0, .int .i64 t), (1, .int .i64 er), (2, .slice x n c)]).run Tryz.prog w = .ok (.agg #[.int .i64 t, .int .i64 er, .slice x n c]) w := by kernel_rfl
theorem run_bsRg (t er : Int) (x : Option Addr) (n c : Nat) (w : World) : (Instr.buildSlice 58 1 #[(0, .agg #[.int .i64 t, .int .i64 er, .slice x n c])]).run Tryz.prog w = .ok (.slice (some ⟨w.heap.size, 0, none⟩) 1 1) (w.alloc (.cells #[.int .i64 t, .int .i64 er, .slice x n c] 63)) := by kernel_rfl
theorem infoRg : (Tryz.prog.info? 63).map (fun i => (i.zero, i.size, i.bytes)) = some (some (.agg #[.int .i64 0, .int .i64 0, .slice none 0 0]), 3, 40) := by kernel_rfl
theorem infoWg : (Tryz.prog.info? 101).map (fun i => (i.zero, i.size, i.bytes)) = some (some (.agg #[.int .i64 0, .slice none 0 0, .int .i64 0, .int .i64 0, .int .i64 0, .int .i64 0, .int .i64 0]), 7, 72) := by kernel_rfl
theorem run_bsSg (s : ByteArray) (w : World) : (Instr.buildSlice 99 1 #[(0, .string s)]).run Tryz.prog w = .ok (.slice (some ⟨w.heap.size, 0, none⟩) 1 1) (w.alloc (.cells #[.string s] 9)) := by kernel_rfl
theorem run_bsQg (a b : Int) (s : ByteArray) (w : World) : (Instr.buildSlice 32 1 #[(0, .agg #[.int .i64 a, .int .i64 b, .string s])]).run Tryz.prog w = .ok (.slice (some ⟨w.heap.size, 0, none⟩) 1 1) (w.alloc (.cells #[.int .i64 a, .int .i64 b, .string s] 37)) := by kernel_rfl
theorem run_bsWg (a : Int) (p : Option Addr) (n c : Nat) (b d e f g : Int) (w : World) : (Instr.buildSlice 94 1 #[(0, .agg #[.int .i64 a, .slice p n c, .int .i64 b, .int .i64 d, .int .i64 e, .int .i64 f, .int .i64 g])]).run Tryz.prog w = .ok (.slice (some ⟨w.heap.size, 0, none⟩) 1 1) (w.alloc (.cells #[.int .i64 a, .slice p n c, .int .i64 b, .int .i64 d, .int .i64 e, .int .i64 f, .int .i64 g] 101)) := by kernel_rfl
theorem run_bdWg (a : Int) (p : Option Addr) (n c : Nat) (w : World) : (Instr.build 101 #[(0, .int .i64 a), (1, .slice p n c)]).run Tryz.prog w = .ok (.agg #[.int .i64 a, .slice p n c, .int .i64 0, .int .i64 0, .int .i64 0, .int .i64 0, .int .i64 0]) w := by kernel_rfl
theorem o_sep {f : FuncId} {args : Array Value} {w0 w : World} {D : Nat → Prop} {u : Value} {Rs Rs' : List Res} (h : Own w0 D w [sepR Rs]) (hc : Own w0 D w Rs → Calls P f args w (OPost w0 D Rs' u w)) : Calls P f args w (OPost w0 D [sepR Rs'] u w) :=
 (hc h.open).mono fun e w' ⟨a, b, c⟩ => ⟨a, b.shut, c⟩
theorem o_own {f : FuncId} {args : Array Value} {w0 w : World} {D : Nat → Prop} {v : Value} {B B' : List Res} (h : Own w0 D w B) (hc : ∀ D, Own w D w B → Calls P f args w (OPost w D B' v w)) : Calls P f args w (OPost w0 D B' v w) :=
 o_frameO [] B B' h hc
section
variable {w0 w : World} {D : Nat → Prop} {L : List Res} {a : Nat} {r : Rg}
theorem G_tk (h : Own w0 D w (resG a r :: L)) : w.cell? ⟨a, 5, none⟩ = some (.int .i64 r.tk) := by
 obtain ⟨x, _, hO⟩ := openG h
 exact hO.cell 0 rfl 5 rfl
theorem G_tkS {Rs : List Res} (h : Own w0 D w (sepR (resG a r :: Rs) :: L)) : w.cell? ⟨a, 5, none⟩ = some (.int .i64 r.tk) := G_tk (Own.openC h)
end
theorem wt_snoc {avs : List Value} {ws : List Wt} (h : avs.length = ws.length) (x : Wt) (v : Value) : wtCs (avs ++ [v]) (ws ++ [x]) = wtCs avs ws ++ wtC x v ∧ wtRs (avs ++ [v]) (ws ++ [x]) = wtRs avs ws ++ [rowK v x.wy] := by
 unfold wtCs wtRs
 rw [List.zipWith_append h.symm, List.zipWith_append h.symm]
 simp
def FinP (w0 : World) (D : Nat → Prop) (a : Nat) (r : Rg) (lv : Value) (rs : List Rc) (way : List ByteArray) (w : World) (e : Ending) (w' : World) : Prop :=
 ∃ (over : Bool) (er : Int) (pw : Option Addr) (nw cw : Nat) (pa : Option Addr) (na ca : Nat) (way' : List ByteArray) (ad : List Int),
  e = .returned (.agg #[.slice pw nw cw, .bool over, .int .i64 er, .slice pa na ca]) ∧ Own w0 D w' [resG a r, rowRc lv rs, rowK (.slice pw nw cw) way', rowA (.slice pa na ca) ad] ∧ w.heap.size ≤ w'.heap.size ∧ way'.length = nw ∧ 0 < nw ∧ nw ≤ 5 ∧ (∀ s ∈ way', vname s = true) ∧ (r.es = [] → rs = [] → way' = way ∧ over = false)
theorem fin_frame {f : FuncId} {args : Array Value} {w0 w : World} {D : Nat → Prop} {a : Nat} {r : Rg} {lv : Value} {rs : List Rc} {way : List ByteArray} {B : List Res} (h : Own w0 D w B) (hc : ∀ D, Own w D w B → Calls P f args w (FinP w D a r lv rs way w)) : Calls P f args w (FinP w0 D a r lv rs way w) := by
 refine (o_frame (A := []) (Q := fun e B' => ∃ (over : Bool) (er : Int) (pw : Option Addr) (nw cw : Nat) (pa : Option Addr) (na ca : Nat) (way' : List ByteArray) (ad : List Int),
  e = .returned (.agg #[.slice pw nw cw, .bool over, .int .i64 er, .slice pa na ca]) ∧ B' = [resG a r, rowRc lv rs, rowK (.slice pw nw cw) way', rowA (.slice pa na ca) ad] ∧ way'.length = nw ∧ 0 < nw ∧ nw ≤ 5 ∧ (∀ s ∈ way', vname s = true) ∧ (r.es = [] → rs = [] → way' = way ∧ over = false)) h (fun D hD => (hc D hD).mono ?_)).mono ?_
 ·
  rintro e w' ⟨over, er, pw, nw, cw, pa, na, ca, way', ad, h1, h2, h3, h4⟩
  exact ⟨_, ⟨over, er, pw, nw, cw, pa, na, ca, way', ad, h1, rfl, h4⟩, h2, h3⟩
 ·
  rintro e w' ⟨B', ⟨over, er, pw, nw, cw, pa, na, ca, way', ad, h1, rfl, h4⟩, h2, h3⟩
  exact ⟨over, er, pw, nw, cw, pa, na, ca, way', ad, h1, h2, h3, h4⟩
theorem done_o {w : World} {D : Nat → Prop} {a na ca : Nat} {pa : Option Addr} {tk er : Int} {r : Rg} {A : List Res} (h : Own w D w (resG a r :: A)) (hf : r.fl ≤ 1000) :
  Calls Tryz.prog 94 #[.pointer (some ⟨a, 0, none⟩), .int .i64 tk, .int .i64 er, .slice pa na ca] w (OPost w D (resG a ⟨r.sv, r.sd, r.es, r.ws, r.fl + 1, r.fd ++ [.int .i64 tk, .int .i64 er, .slice pa na ca], r.tk, r.k⟩ :: A) (.tuple #[]) w) := by
 refine o_frameO2 (A := A) (B := [resG a r]) (B' := [resG a ⟨r.sv, r.sd, r.es, r.ws, r.fl + 1, r.fd ++ [.int .i64 tk, .int .i64 er, .slice pa na ca], r.tk, r.k⟩]) h fun D h => ?_
 obtain ⟨⟨vs, c, vl, vf, avs⟩, hl, hO⟩ := openG h
 obtain ⟨sv, sd, es, ws, fl, fd, tk0, kk⟩ := r
 simp only at hO hl hf
 have HL := Hi hl
 have HF := Hi hf
 obtain ⟨fa, fc, hvf⟩ := row_shape (hO.row 5 rfl)
 subst hvf
 clear h hl hf
 have rb := run_bdRg tk er pa na ca
 have rs := run_bsRg tk er pa na ca
 have HO := Hi (show Own w D w [blkR a (.cells #[vs, .int .i64 sd, .pointer (some ⟨c, 0, none⟩), vl, .slice fa fl fc, .int .i64 tk0, .int .i64 kk] 96), rowVs vs sv, resI c es, rowWt vl ws.length (wtCs avs ws), sepR (wtRs avs ws), rowR (.slice fa fl fc) 63 3 fl fd] from hO)
 clear hO
 go_enter Tryz.func94, Tryz.ntmps94
 have ⟨z0_4, y0_4⟩ : w.cell? _ = some (.slice fa fl fc) ∧ _ := HO.out.cf 0 rfl 4 rfl
 obtain ⟨x1, hx1, bl, hbl, hO⟩ := HO.out.allocE (.cells #[.int .i64 tk, .int .i64 er, .slice pa na ca] 63)
 replace HO := Hi (show Own _ _ _ [_, _, _, _, _, _, blkR bl (.cells #[.int .i64 tk, .int .i64 er, .slice pa na ca] 63)] from hO)
 clear hO
 go_wp2_with ((at_builtin; refine (show _ = True → _ from fun h => of_eq_true h) ?_))
 refine eq_true ?_
 refine wpList_appO rfl (.tmp 12) (.tmp 17) 58 rfl Tryz.underlying58 infoRg rfl (by decide) HO.out 5 rfl rfl 6 1 1 [.int .i64 tk, .int .i64 er, .slice pa na ca] rfl rfl rfl (fun u hu => by simp at hu; rcases hu with rfl | rfl | rfl <;> rfl) (by have := HF.out; unfold maxLen; omega) (by have := HF.out; omega) ?_
 intro v' w' hO
 simp only [l_S, l_Z] at hO
 have hO := hO.take 6
 obtain ⟨va, vc, hv⟩ := row_shape (Own.row hO 5 rfl)
 subst hv
 clear z0_4 y0_4 hx1 hbl
 clear rb rs
 replace HO := Hi (show Own _ _ _ [_, _, _, _, _, rowR (.slice va (fl + 1) vc) 63 3 (fl + 1) (fd ++ [.int .i64 tk, .int .i64 er, .slice pa na ca])] from hO)
 clear hO
 have ⟨z0_4, y0_4⟩ : w'.cell? _ = some (.slice fa fl fc) ∧ _ := HO.out.cf 0 rfl 4 rfl
 obtain ⟨x2, hx2, hO⟩ := HO.out.setE 0 rfl 4 (.slice va (fl + 1) vc)
 replace HO := Hi (show Own _ _ _ [blkR a (.cells #[vs, .int .i64 sd, .pointer (some ⟨c, 0, none⟩), vl, .slice va (fl + 1) vc, .int .i64 tk0, .int .i64 kk] 96), _, _, _, _, _] from hO)
 clear hO
 go_wp2
 (try simp only [Exit.inBlock, Exit.then])
 refine bodyPost_ret (results_none rfl _ _ _) rfl ?_
 exact ⟨rfl, shutG (x := ⟨vs, c, vl, .slice va (fl + 1) vc, avs⟩) (r := ⟨sv, sd, es, ws, fl + 1, fd ++ [.int .i64 tk, .int .i64 er, .slice pa na ca], tk0, kk⟩) HL.out HO.out, HO.out.size⟩
inductive GStep (r : Rg) (now : Int) (nm : ByteArray) : Rg → Prop
 | full : r.ws.length = 8 → GStep r now nm r
 | over (fd : List Value) : r.es ≠ [] → GStep r now nm ⟨r.sv, r.sd, r.es, r.ws, r.fl + 1, fd, r.tk + 1, r.k⟩
 | asks (way : List ByteArray) : 0 < way.length → way.length ≤ 5 → (∀ s ∈ way, vname s = true) → (r.es = [] → way = [nm]) → r.ws.length ≠ 8 → GStep r now nm ⟨r.sv, r.sd, r.es, r.ws ++ [⟨r.tk + 1, way, 1, srvZ r.sv 0, 20000 + (r.sd + 101 * (r.k + 1)) % 10000, (r.sd + 7919 * (r.k + 1)) % 65536, now⟩], r.fl, r.fd, r.tk + 1, r.k + 1⟩
def GResP (w0 : World) (D : Nat → Prop) (a : Nat) (r : Rg) (now : Int) (nm : ByteArray) (w : World) (e : Ending) (w' : World) : Prop := ∃ u r', e = .returned u ∧ Own w0 D w' [resG a r'] ∧ w.heap.size ≤ w'.heap.size ∧ GStep r now nm r'
theorem gresolve_o {w : World} {D : Nat → Prop} {a : Nat} {r : Rg} {now : Int} (h : Own w D w [resG a r]) (s0 : 0 < r.sv.length) (s4 : r.sv.length ≤ 4) (d0 : 0 ≤ r.sd) (d1 : r.sd ≤ 4294967295) (hv : vname nm = true) (q0 : 0 ≤ r.k) (q1 : r.k ≤ 100000) (t0 : 0 ≤ r.tk) (t1 : r.tk ≤ 100000) (h8 : r.ws.length ≤ 8) (hf : r.fl ≤ 1000)
  (hF : ∀ (w : World) (D : Nat → Prop) (wv : Value), Own w D w [resG a ⟨r.sv, r.sd, r.es, r.ws, r.fl, r.fd, r.tk + 1, r.k⟩, rowRc (.slice none 0 0) [], rowK wv [nm]] → Calls Tryz.prog 93 #[.pointer (some ⟨a, 0, none⟩), .int .i64 now, wv, .slice none 0 0] w (FinP w D a ⟨r.sv, r.sd, r.es, r.ws, r.fl, r.fd, r.tk + 1, r.k⟩ (.slice none 0 0) [] [nm] w)) :
  Calls Tryz.prog 42 #[.pointer (some ⟨a, 0, none⟩), .int .i64 now, .string nm] w (GResP w D a r now nm w) := by
 obtain ⟨⟨vs, c, vl, vf, avs⟩, hl, hO⟩ := openG h
 obtain ⟨sv, sd, es, ws, fl, fd, tk, kk⟩ := r
 simp only at hO hl hf s0 s4 d0 d1 q0 q1 t0 t1 h8 hF
 have HL := Hi hl
 have HFL := Hi hf
 have HF := Hi hF
 have HV := Hi hv
 have HQ := Hi (show (0 < sv.length ∧ sv.length ≤ 4) ∧ (0 ≤ sd ∧ sd ≤ 4294967295) ∧ 0 ≤ kk ∧ kk ≤ 100000 from ⟨⟨s0, s4⟩, ⟨d0, d1⟩, q0, q1⟩)
 obtain ⟨sa, sc, hvs⟩ := row_shape (hO.row 1 rfl)
 obtain ⟨la, lc, hvl⟩ := row_shape (hO.row 3 rfl)
 simp only at hvs hvl
 subst hvs hvl
 obtain ⟨n, hn⟩ : ∃ n, sv.length = n := ⟨_, rfl⟩
 obtain ⟨wl, hwl⟩ : ∃ n, ws.length = n := ⟨_, rfl⟩
 have HN := Hi hn
 have HW := Hi hwl
 rw [hn] at s0 s4
 rw [hwl] at h8
 have b1 : ((n : Int) == 0) = false := by simp; omega
 have b2 : decide ((n : Int) = 0) = false := decide_eq_false (by omega)
 have rS := run_bsSg nm
 have H8 := Hi (show wl ≤ 8 from h8)
 clear h hl hf hF hv hn hwl d0 d1 q0 q1
 have HO := Hi (show Own w D w [blkR a (.cells #[.slice sa n sc, .int .i64 sd, .pointer (some ⟨c, 0, none⟩), .slice la wl lc, vf, .int .i64 tk, .int .i64 kk] 96), rowR (.slice sa n sc) 3 1 n (sv.map cIn), resI c es, rowR (.slice la wl lc) 101 7 wl (wtCs avs ws), sepR (wtRs avs ws), rowVd vf fl fd] by rw [← HN.out, ← HW.out]; exact hO)
 clear hO
 go_enter Tryz.func42, Tryz.ntmps42
 go_wp2_with fail
 refine (o_still HO.out (vn19_r HV.out _)).mono ?_
 rintro e x1 ⟨rfl, hO, -⟩
 replace HO := Hi hO
 clear hO
 obtain ⟨z0_0, -, -, z0_3, -, -, -⟩ := HO.out.c7 0 rfl
 by_cases h9 : wl = 8
 ·
  have c9 : ((wl : Int) == 8) = true := by subst h9; rfl
  have c9' : decide ((wl : Int) = 8) = true := decide_eq_true (by omega)
  go_wp2
  go_ret3
  refine ⟨_, ⟨sv, sd, es, ws, fl, fd, tk, kk⟩, rfl, ?_, HO.out.size, .full (by show ws.length = 8; rw [HW.out]; exact h9)⟩
  exact shutG (x := ⟨.slice sa n sc, c, .slice la wl lc, vf, avs⟩) (r := ⟨sv, sd, es, ws, fl, fd, tk, kk⟩) HL.out (by have h := HO.out; rw [← HN.out, ← HW.out] at h ⊢; exact h)
 ·
  have c9 : ((wl : Int) == 8) = false := by simp; omega
  have c9' : decide ((wl : Int) = 8) = false := decide_eq_false (by omega)
  have ⟨z0_5, y0_5⟩ : x1.cell? _ = some (.int .i64 tk) ∧ _ := HO.out.cf 0 rfl 5 rfl
  obtain ⟨x1, hx1, hO⟩ := HO.out.setE 0 rfl 5 (.int .i64 (tk + 1))
  replace HO := Hi (show Own _ _ _ [blkR a (.cells #[.slice sa n sc, .int .i64 sd, .pointer (some ⟨c, 0, none⟩), .slice la wl lc, vf, .int .i64 (tk + 1), .int .i64 kk] 96), _, _, _, _, _] from hO)
  clear hO
  obtain ⟨x2, hx2, bn, hbn, hO⟩ := HO.out.allocE (.cells #[.string nm] 9)
  replace HO := Hi (show Own _ _ _ [_, _, _, _, _, _, blkR bn (.cells #[.string nm] 9)] from hO)
  clear hO
  have hO := (HO.out.toRowQ 6 1 1 rfl rfl (by decide)).rowNew 49 5
  replace HO := Hi (show Own _ _ _ [_, _, _, _, _, _, rowK (.slice (some ⟨bn, 0, none⟩) 1 1) [nm], rowRc (.slice none 0 0) []] from hO)
  clear hO
  have hO := shutG (x := ⟨.slice sa n sc, c, .slice la wl lc, vf, avs⟩) (r := ⟨sv, sd, es, ws, fl, fd, tk + 1, kk⟩) (L := [rowK (.slice (some ⟨bn, 0, none⟩) 1 1) [nm], rowRc (.slice none 0 0) []]) HL.out (by have h := HO.out; rw [← HN.out, ← HW.out] at h ⊢; exact h)
  have hO := hO.toEnd 3 [0, 2, 1] rfl rfl
  replace HO := Hi (show Own _ _ _ [resG a ⟨sv, sd, es, ws, fl, fd, tk + 1, kk⟩, rowRc (.slice none 0 0) [], rowK (.slice (some ⟨bn, 0, none⟩) 1 1) [nm]] from hO)
  clear hO
  have HFC := Hi (fin_frame HO.out (fun D h => HF.out x2 D _ h))
  go_wp2_with fail
  clear z0_0 z0_3 z0_5 y0_5 hx1 hx2 hbn
  clear rS c9 c9'
  refine HFC.out.mono ?_
  rintro e x9 ⟨over, er, pw, nw, cw, pa, na, ca, way, ad, rfl, hO, -, f1, f2, f3, f4, f5⟩
  have HW1 := Hi (And.intro f1 (And.intro f2 (And.intro f3 (And.intro f4 f5))))
  clear f1 f2 f3 f4 f5 HFC
  have hO := hO.toEnd 4 [0, 2, 3] rfl rfl
  replace HO := Hi (show Own _ _ _ [_, rowK (.slice pw nw cw) way, rowA (.slice pa na ca) ad] from hO)
  clear hO
  obtain ⟨x3, hx3, bg, hbg, hO⟩ := HO.out.allocE (.cells #[.slice none 0 0, .bool false, .int .i64 0, .slice none 0 0] 178)
  replace HO := Hi (show Own _ _ _ [_, _, _, blkR bg (.cells #[.slice none 0 0, .bool false, .int .i64 0, .slice none 0 0] 178)] from hO)
  clear hO
  obtain ⟨x8, x12, x15, x17, hx8, hx12, hx15, hx17, k3_0_4, lk3_0_4, k3_1_9, lk3_1_9, k3_2_13, lk3_2_13, k3_3_16, lk3_3_16, hO⟩ := HO.out.steps4 3 rfl (.slice pw nw cw) (.bool over) (.int .i64 er) (.slice pa na ca)
  replace HO := Hi (show Own _ _ _ [_, _, _, blkR bg (.cells #[.slice pw nw cw, .bool over, .int .i64 er, .slice pa na ca] 178)] from hO)
  clear hO
  have z3_1 : x17.cell? _ = some (.bool over) := HO.out.cell 3 rfl 1 rfl
  cases over with
  | true =>
   go_wp2
   clear hx3 hbg k3_0_4 lk3_0_4 hx8 k3_1_9 lk3_1_9 hx12 k3_2_13 lk3_2_13 hx15 k3_3_16 lk3_3_16 hx17 z3_1
   replace HO := Hi (show Own w D x17 [resG a ⟨sv, sd, es, ws, fl, fd, tk + 1, kk⟩, rowK (.slice pw nw cw) way, rowA (.slice pa na ca) ad, blkR bg (.cells #[.slice pw nw cw, .bool true, .int .i64 er, .slice pa na ca] 178)] from HO.out)
   have gtk := cell_regrown (G_tk HO.out)
   obtain ⟨-, -, g3_2, g3_3⟩ := HO.out.g4 3 rfl
   refine wp_region_R 9 (by kernel_rfl) (by kernel_rfl) ?_
   simp only [List.take, List.drop]
   iterate 9 (first | (refine wpR_want (by kernel_rfl) rfl rfl ?_; intro K hK; go_big_quiet_op; go_big_quiet_on) | (refine wpR_is (by kernel_rfl) rfl _ (fun w _ => rfl) ?_; simp only [Act.put, l_T, l_S, l_Z]))
   refine wpR_nil (by kernel_rfl) (by simp) ?_
   rintro y1 hbw
   simp only [exAll]
   simp only [List.drop]
   have hO := HO.out.stay hbw
   replace HO := Hi hO
   clear hO hbw  g3_2 g3_3 gtk
   go_wp2_with fail
   refine (o_own HO.out (fun D h => done_o h HFL.out)).mono ?_
   rintro e x20 ⟨rfl, hO, -⟩
   replace HO := Hi (show Own _ _ _ [resG a ⟨sv, sd, es, ws, fl + 1, fd ++ [.int .i64 (tk + 1), .int .i64 er, .slice pa na ca], tk + 1, kk⟩, _, _, _] from hO)
   clear hO
   have gtk := G_tk HO.out
   go_wp2
   go_ret3
   have hO1 : Own w D x20 [resG a ⟨sv, sd, es, ws, fl + 1, fd ++ [.int .i64 (tk + 1), .int .i64 er, .slice pa na ca], tk + 1, kk⟩] := HO.out.take 1
   refine ⟨_, ⟨sv, sd, es, ws, fl + 1, fd ++ [.int .i64 (tk + 1), .int .i64 er, .slice pa na ca], tk + 1, kk⟩, rfl, hO1, HO.out.size, .over _ fun he => ?_⟩
   have := (HW1.out.2.2.2.2 he trivial).2
   cases this
  | false =>
   go_wp2
   clear hx3 hbg k3_0_4 lk3_0_4 hx8 k3_1_9 lk3_1_9 hx12 k3_2_13 lk3_2_13 hx15 k3_3_16 lk3_3_16 hx17 z3_1
   replace HO := Hi (show Own w D x17 [resG a ⟨sv, sd, es, ws, fl, fd, tk + 1, kk⟩, rowK (.slice pw nw cw) way, rowA (.slice pa na ca) ad, blkR bg (.cells #[.slice pw nw cw, .bool false, .int .i64 er, .slice pa na ca] 178)] from HO.out)
   obtain ⟨⟨s0, s4⟩, ⟨d0, d1⟩, q0, q1⟩ := HQ.out
   obtain ⟨f1, f2, f3, f4, f5⟩ := HW1.out
   obtain ⟨mi, hmi⟩ : ∃ mi, mi + 1 = nw := ⟨nw - 1, by omega⟩
   obtain ⟨nl, hnl⟩ : ∃ x, way[mi]? = some x := ⟨way[mi]'(by omega), List.getElem?_eq_getElem (by omega)⟩
   obtain ⟨vy, hvy⟩ : ∃ x, sv[0]? = some x := ⟨sv[0]'s0, List.getElem?_eq_getElem s0⟩
   have HQQ := Hi (fun (w : World) (D : Nat → Prop) (h : Own w D w [resG a ⟨sv, sd, es, ws, fl, fd, tk + 1, kk⟩, rowK (.slice pw nw cw) way]) => question_q (t := 0) (j := 0) (now := now) (lt := tk + 1) (s0 := 0) (p0 := 0) (i0 := 0) (u0 := 0) (A := []) h f1 hmi (by omega) hnl rfl s0 s4 (by omega) (Nat.zero_mod _) hvy (f4 _ (List.mem_of_getElem? hnl)) d0 d1 q0 q1)
   obtain ⟨sm, hsm⟩ : ∃ y, qryS sd kk nl = y := ⟨_, rfl⟩
   rw [hsm] at HQQ
   obtain ⟨pt, hpt⟩ : ∃ y, 20000 + (sd + 101 * (kk + 1)) % 10000 = y := ⟨_, rfl⟩
   obtain ⟨qi, hqi⟩ : ∃ y, (sd + 7919 * (kk + 1)) % 65536 = y := ⟨_, rfl⟩
   rw [hpt, hqi] at HQQ
   have HPT := Hi (And.intro hpt (And.intro hqi (show srvZ sv 0 = vy by unfold srvZ; simp [hvy])))
   have HNW := Hi (show nw ≤ 5 from f3)
   clear s0 s4 d0 d1 q0 q1 f1 f2 f3 f4 f5 hmi hnl hvy hsm hpt hqi
   have rW0 := run_bdWg (tk + 1) pw nw cw
   have hO := Own.shutC (Rs := [resG a ⟨sv, sd, es, ws, fl, fd, tk + 1, kk⟩, rowK (.slice pw nw cw) way]) (L := [rowA (.slice pa na ca) ad, blkR bg (.cells #[.slice pw nw cw, .bool false, .int .i64 er, .slice pa na ca] 178)]) HO.out
   replace HO := Hi (show Own _ _ _ [sepR [resG a ⟨sv, sd, es, ws, fl, fd, tk + 1, kk⟩, rowK (.slice pw nw cw) way], rowA (.slice pa na ca) ad, blkR bg (.cells #[.slice pw nw cw, .bool false, .int .i64 er, .slice pa na ca] 178)] from hO)
   clear hO
   replace HO := Hi (Own.empE HO.out)
   replace HO := Hi (Own.empE HO.out)
   generalize hΓ : ghE w D (fun st => [atV (st 9) (sepR [resG a ⟨sv, sd, es, ws, fl, fd, tk + 1, kk⟩, rowK (.slice pw nw cw) way]) (fun uV => sepR [resG a ⟨sv, sd, es, ws, fl, fd, tk + 1, kk + 1⟩, rowK (.slice pw nw cw) way]), rowA (.slice pa na ca) ad, blkR bg (.cells #[.slice pw nw cw, .bool false, .int .i64 er, .slice pa na ca] 178), alE (st 14) (st 16) (.cells #[.int .i64 0, .slice none 0 0, .int .i64 0, .int .i64 0, .int .i64 0, .int .i64 0, .int .i64 0] 101) (.cells #[.int .i64 (tk + 1), .slice pw nw cw, .int .i64 ((0 + 1 : Nat) : Int), .int .i64 vy, .int .i64 pt, .int .i64 qi, .int .i64 now] 101), alE (st 15) (st 17) (.cells #[.int .i64 0, .int .i64 0, .string ⟨#[]⟩] 37) (.cells #[.int .i64 vy, .int .i64 pt, .string sm] 37)]) = Γ
   have HST := Hi (show Γ.inv [] x17 by rw [← hΓ]; exact HO.out)
   have q2_0 : ∀ q : Γ.Wd, q.w.cell? ⟨bg, 0, none⟩ = some (.slice pw nw cw) := by rw [← hΓ]; exact ghE_cell (c := #[.slice pw nw cw, .bool false, .int .i64 er, .slice pa na ca]) (t := 178) 2 (fun _ => rfl) 0 rfl
   have qtk : ∀ q : Γ.Wd, q.w.cell? ⟨a, 5, none⟩ = some (.int .i64 (tk + 1)) := by
    rw [← hΓ]
    exact fun q => ghE_all (R := fun w => w.cell? ⟨a, 5, none⟩ = some (.int .i64 (tk + 1))) (fun st w h => (by revert h; cases st 9 <;> exact fun h => G_tkS h)) q.vs q.w q.h
   have HΓ := Hi hΓ
   clear hΓ
   have ne : Nonempty Γ.Wd := ⟨⟨[], x17, HST.out⟩⟩
   refine wp_region_E Γ 18 [9, 14, 15, 16, 17] (by kernel_rfl) (by kernel_rfl) (by kernel_rfl) HST.out ?_
   simp only [List.take, List.drop]
   iterate 9 (first | (refine wpE_want (by kernel_rfl) (by kernel_rfl) rfl rfl ?_; intro K hK; go_big_quiet_op; go_big_quiet_on) | (refine wpE_is (by kernel_rfl) (by kernel_rfl) rfl _ (fun _ w _ => rfl) ?_; simp only [Act.put, l_T, l_S, l_Z]))
   refine wpE_eff (by kernel_rfl) (by kernel_rfl) rfl 95 #[.pointer (some ⟨a, 0, none⟩), .int .i64 now, .agg #[.int .i64 (tk + 1), .slice pw nw cw, .int .i64 0, .int .i64 0, .int .i64 0, .int .i64 0, .int .i64 0]] (.tuple #[.agg #[.int .i64 (tk + 1), .slice pw nw cw, .int .i64 ((0 + 1 : Nat) : Int), .int .i64 vy, .int .i64 pt, .int .i64 qi, .int .i64 now], .agg #[.int .i64 vy, .int .i64 pt, .string sm], .bool true]) (fun w => by simp [go_sem]) (fun gvs w hg hn hdp => by
    rw [← HΓ.out] at hg ⊢
    exact ghE_co (k := 0) hg hn rfl rfl (fun D' ho => o_sep ho (fun h => HQQ.out _ _ h))) ?_
   simp only [Act.put, l_T, l_S, l_Z]
   iterate 4 (first | (refine wpE_want (by kernel_rfl) (by kernel_rfl) rfl rfl ?_; intro K hK; go_big_quiet_op; go_big_quiet_on) | (refine wpE_is (by kernel_rfl) (by kernel_rfl) rfl _ (fun _ w _ => rfl) ?_; simp only [Act.put, l_T, l_S, l_Z]))
   refine wpE_effX (geff 14) (geff_lasts _ _) (by kernel_rfl) (by kernel_rfl) (fun a' g hg hn hdp he => ?_) (fun d hd => ?_)
   ·
    have hmv : Γ.mv g.vs g.w (lgE 14 (.pointer (some ⟨g.w.heap.size, 0, none⟩))) (g.w.alloc (.cells #[.int .i64 0, .slice none 0 0, .int .i64 0, .int .i64 0, .int .i64 0, .int .i64 0, .int .i64 0] 101)) := by
     rw [← HΓ.out] at hg ⊢
     exact ghE_mk (k := 3) (j := 16) hg hn (hdp.2 16 (by simp) (by kernel_rfl)) rfl rfl
    simp [go_sem]
    exact ⟨_, rfl, hmv, by show ran (g.vs ++ [lgE 14 _]) 14 = _; rw [ran_log _ hn, updE_same]⟩
   cases hd
   simp only [List.nil_append]
   refine wpE_effX (geff 15) (geff_lasts _ _) (by kernel_rfl) (by kernel_rfl) (fun a' g hg hn hdp he => ?_) (fun d hd => ?_)
   ·
    have hmv : Γ.mv g.vs g.w (lgE 15 (.pointer (some ⟨g.w.heap.size, 0, none⟩))) (g.w.alloc (.cells #[.int .i64 0, .int .i64 0, .string ⟨#[]⟩] 37)) := by
     rw [← HΓ.out] at hg ⊢
     exact ghE_mk (k := 4) (j := 17) hg hn (hdp.2 17 (by simp) (by kernel_rfl)) rfl rfl
    simp [go_sem]
    exact ⟨_, rfl, hmv, by show ran (g.vs ++ [lgE 15 _]) 15 = _; rw [ran_log _ hn, updE_same]⟩
   cases hd
   simp only [List.cons_append, List.nil_append]
   refine wpE_store (by kernel_rfl) rfl rfl (by kernel_rfl) (by kernel_rfl) (fun a' g hg hn hdp he => ?_) ?_
   ·
    obtain ⟨hp, hv, _⟩ := he
    have hp' : ran g.vs 14 = some (a'.eval (.tmp 10)) := hp
    have hv' : a'.eval (.tmp 67) = .agg #[.int .i64 (tk + 1), .slice pw nw cw, .int .i64 ((0 + 1 : Nat) : Int), .int .i64 vy, .int .i64 pt, .int .i64 qi, .int .i64 now] := hv
    rw [← HΓ.out] at hg ⊢
    exact ghE_fi (k := 3) rfl rfl rfl hv' hg hn hp' rfl rfl (by kernel_rfl) rfl (by kernel_rfl)
   refine wpE_store (by kernel_rfl) rfl rfl (by kernel_rfl) (by kernel_rfl) (fun a' g hg hn hdp he => ?_) ?_
   ·
    obtain ⟨hp, hv, _⟩ := he
    have hp' : ran g.vs 15 = some (a'.eval (.tmp 11)) := hp
    have hv' : a'.eval (.tmp 68) = .agg #[.int .i64 vy, .int .i64 pt, .string sm] := hv
    rw [← HΓ.out] at hg ⊢
    exact ghE_fi (k := 4) rfl rfl rfl hv' hg hn hp' rfl rfl (by kernel_rfl) rfl (by kernel_rfl)
   refine wpE_nil (by kernel_rfl) (by simp) ?_
   rintro ⟨gvs, y2⟩ hg hgl
   rw [← HΓ.out] at hg
   simp only [gexAll, List.drop]
   rintro u10 hu10
   rintro u11 hu11
   obtain ⟨e9, hr9⟩ := Option.isSome_iff_exists.1 (hgl 9 (by simp))
   have hr14 : ran gvs 14 = some u10 := hu10
   have hr15 : ran gvs 15 = some u11 := hu11
   obtain ⟨e16, hr16⟩ := Option.isSome_iff_exists.1 (hgl 16 (by simp))
   obtain ⟨e17, hr17⟩ := Option.isSome_iff_exists.1 (hgl 17 (by simp))
   have hO := hg
   simp only [ghE, hr9, hr14, hr15, hr16, hr17] at hO
   replace hO : Own w D y2 [sepR [resG a ⟨sv, sd, es, ws, fl, fd, tk + 1, kk + 1⟩, rowK (.slice pw nw cw) way], rowA (.slice pa na ca) ad, blkR bg (.cells #[.slice pw nw cw, .bool false, .int .i64 er, .slice pa na ca] 178), ptrR u10 (.cells #[.int .i64 (tk + 1), .slice pw nw cw, .int .i64 ((0 + 1 : Nat) : Int), .int .i64 vy, .int .i64 pt, .int .i64 qi, .int .i64 now] 101), ptrR u11 (.cells #[.int .i64 vy, .int .i64 pt, .string sm] 37)] := hO
   obtain ⟨b10, eb3, hO⟩ := Own.ptr (k := 3) hO rfl
   subst eb3
   obtain ⟨b11, eb4, hO⟩ := Own.ptr (k := 4) hO rfl
   subst eb4
   try simp only [Act.put, l_T, l_S, l_Z]
   replace HO := Hi (show Own w D y2 [sepR [resG a ⟨sv, sd, es, ws, fl, fd, tk + 1, kk + 1⟩, rowK (.slice pw nw cw) way], rowA (.slice pa na ca) ad, blkR bg (.cells #[.slice pw nw cw, .bool false, .int .i64 er, .slice pa na ca] 178), blkR b10 (.cells #[.int .i64 (tk + 1), .slice pw nw cw, .int .i64 ((0 + 1 : Nat) : Int), .int .i64 vy, .int .i64 pt, .int .i64 qi, .int .i64 now] 101), blkR b11 (.cells #[.int .i64 vy, .int .i64 pt, .string sm] 37)] from hO)
   clear hO hg hgl HΓ HST ne q2_0 qtk
   clear rW0 HQQ
   have hO := Own.openC (Rs := [resG a ⟨sv, sd, es, ws, fl, fd, tk + 1, kk + 1⟩, rowK (.slice pw nw cw) way]) HO.out
   obtain ⟨⟨vs, c, vl, vf, avs⟩, hl, hO⟩ := openG hO
   simp only at hO hl
   have HL2 := Hi hl
   clear hl HL
   obtain ⟨la, lc, hvl⟩ := row_shape (hO.row 3 rfl)
   subst hvl
   replace HO := Hi (show Own w D y2 [blkR a (.cells #[vs, .int .i64 sd, .pointer (some ⟨c, 0, none⟩), .slice la wl lc, vf, .int .i64 (tk + 1), .int .i64 (kk + 1)] 96), rowVs vs sv, resI c es, rowR (.slice la wl lc) 101 7 wl (wtCs avs ws), sepR (wtRs avs ws), rowVd vf fl fd, rowK (.slice pw nw cw) way, rowA (.slice pa na ca) ad, blkR bg (.cells #[.slice pw nw cw, .bool false, .int .i64 er, .slice pa na ca] 178), blkR b10 (.cells #[.int .i64 (tk + 1), .slice pw nw cw, .int .i64 ((0 + 1 : Nat) : Int), .int .i64 vy, .int .i64 pt, .int .i64 qi, .int .i64 now] 101), blkR b11 (.cells #[.int .i64 vy, .int .i64 pt, .string sm] 37)] by rw [← HW.out]; exact hO)
   clear hO
   go_wp2
   have rW1 := run_bsWg (tk + 1) pw nw cw ((0 + 1 : Nat) : Int) vy pt qi now
   replace HO := Hi (Own.empE HO.out)
   generalize hΓ : ghE w D (fun st => [blkR a (.cells #[vs, .int .i64 sd, .pointer (some ⟨c, 0, none⟩), .slice la wl lc, vf, .int .i64 (tk + 1), .int .i64 (kk + 1)] 96), rowVs vs sv, resI c es, atV (st 7) (rowR (.slice la wl lc) 101 7 wl (wtCs avs ws)) (fun uV => rowR uV 101 7 (wl + 1) (wtCs avs ws ++ [.int .i64 (tk + 1), .slice pw nw cw, .int .i64 ((0 + 1 : Nat) : Int), .int .i64 vy, .int .i64 pt, .int .i64 qi, .int .i64 now])), sepR (wtRs avs ws), rowVd vf fl fd, rowK (.slice pw nw cw) way, rowA (.slice pa na ca) ad, blkR bg (.cells #[.slice pw nw cw, .bool false, .int .i64 er, .slice pa na ca] 178), blkR b10 (.cells #[.int .i64 (tk + 1), .slice pw nw cw, .int .i64 ((0 + 1 : Nat) : Int), .int .i64 vy, .int .i64 pt, .int .i64 qi, .int .i64 now] 101), blkR b11 (.cells #[.int .i64 vy, .int .i64 pt, .string sm] 37), liE (st 6) 1 (.cells #[.int .i64 (tk + 1), .slice pw nw cw, .int .i64 ((0 + 1 : Nat) : Int), .int .i64 vy, .int .i64 pt, .int .i64 qi, .int .i64 now] 101)]) = Γ
   have HST := Hi (show Γ.inv [] y2 by rw [← hΓ]; exact HO.out)
   have q0_3 : ∀ q : Γ.Wd, q.w.cell? ⟨a, 3, none⟩ = some (.slice la wl lc) := by rw [← hΓ]; exact ghE_cell (c := #[vs, .int .i64 sd, .pointer (some ⟨c, 0, none⟩), .slice la wl lc, vf, .int .i64 (tk + 1), .int .i64 (kk + 1)]) (t := 96) 0 (fun _ => rfl) 3 rfl
   have q9_0 : ∀ q : Γ.Wd, q.w.cell? ⟨b10, 0, none⟩ = some (.int .i64 (tk + 1)) := by rw [← hΓ]; exact ghE_cell (c := #[.int .i64 (tk + 1), .slice pw nw cw, .int .i64 ((0 + 1 : Nat) : Int), .int .i64 vy, .int .i64 pt, .int .i64 qi, .int .i64 now]) (t := 101) 9 (fun _ => rfl) 0 rfl
   have q9_1 : ∀ q : Γ.Wd, q.w.cell? ⟨b10, 1, none⟩ = some (.slice pw nw cw) := by rw [← hΓ]; exact ghE_cell (c := #[.int .i64 (tk + 1), .slice pw nw cw, .int .i64 ((0 + 1 : Nat) : Int), .int .i64 vy, .int .i64 pt, .int .i64 qi, .int .i64 now]) (t := 101) 9 (fun _ => rfl) 1 rfl
   have q9_2 : ∀ q : Γ.Wd, q.w.cell? ⟨b10, 2, none⟩ = some (.int .i64 ((0 + 1 : Nat) : Int)) := by rw [← hΓ]; exact ghE_cell (c := #[.int .i64 (tk + 1), .slice pw nw cw, .int .i64 ((0 + 1 : Nat) : Int), .int .i64 vy, .int .i64 pt, .int .i64 qi, .int .i64 now]) (t := 101) 9 (fun _ => rfl) 2 rfl
   have q9_3 : ∀ q : Γ.Wd, q.w.cell? ⟨b10, 3, none⟩ = some (.int .i64 vy) := by rw [← hΓ]; exact ghE_cell (c := #[.int .i64 (tk + 1), .slice pw nw cw, .int .i64 ((0 + 1 : Nat) : Int), .int .i64 vy, .int .i64 pt, .int .i64 qi, .int .i64 now]) (t := 101) 9 (fun _ => rfl) 3 rfl
   have q9_4 : ∀ q : Γ.Wd, q.w.cell? ⟨b10, 4, none⟩ = some (.int .i64 pt) := by rw [← hΓ]; exact ghE_cell (c := #[.int .i64 (tk + 1), .slice pw nw cw, .int .i64 ((0 + 1 : Nat) : Int), .int .i64 vy, .int .i64 pt, .int .i64 qi, .int .i64 now]) (t := 101) 9 (fun _ => rfl) 4 rfl
   have q9_5 : ∀ q : Γ.Wd, q.w.cell? ⟨b10, 5, none⟩ = some (.int .i64 qi) := by rw [← hΓ]; exact ghE_cell (c := #[.int .i64 (tk + 1), .slice pw nw cw, .int .i64 ((0 + 1 : Nat) : Int), .int .i64 vy, .int .i64 pt, .int .i64 qi, .int .i64 now]) (t := 101) 9 (fun _ => rfl) 5 rfl
   have q9_6 : ∀ q : Γ.Wd, q.w.cell? ⟨b10, 6, none⟩ = some (.int .i64 now) := by rw [← hΓ]; exact ghE_cell (c := #[.int .i64 (tk + 1), .slice pw nw cw, .int .i64 ((0 + 1 : Nat) : Int), .int .i64 vy, .int .i64 pt, .int .i64 qi, .int .i64 now]) (t := 101) 9 (fun _ => rfl) 6 rfl
   have HΓ := Hi hΓ
   clear hΓ
   have ne : Nonempty Γ.Wd := ⟨⟨[], y2, HST.out⟩⟩
   refine wp_region_E Γ 8 [6, 7] (by kernel_rfl) (by kernel_rfl) (by kernel_rfl) HST.out ?_
   simp only [List.take, List.drop]
   iterate 6 (first | (refine wpE_want (by kernel_rfl) (by kernel_rfl) rfl rfl ?_; intro K hK; go_big_quiet_op; go_big_quiet_on) | (refine wpE_is (by kernel_rfl) (by kernel_rfl) rfl _ (fun _ w _ => rfl) ?_; simp only [Act.put, l_T, l_S, l_Z]))
   refine wpE_effX (geff 6) (geff_lasts _ _) (by kernel_rfl) (by kernel_rfl) (fun a' g hg hn hdp he => ?_) (fun d hd => ?_)
   ·
    obtain ⟨hag, _⟩ := he
    have hag' : a'.eval (.tmp 75) = .agg #[.int .i64 (tk + 1), .slice pw nw cw, .int .i64 ((0 + 1 : Nat) : Int), .int .i64 vy, .int .i64 pt, .int .i64 qi, .int .i64 now] := hag
    have hmv : Γ.mv g.vs g.w (lgE 6 (.slice (some ⟨g.w.heap.size, 0, none⟩) 1 1)) (g.w.alloc (.cells #[.int .i64 (tk + 1), .slice pw nw cw, .int .i64 ((0 + 1 : Nat) : Int), .int .i64 vy, .int .i64 pt, .int .i64 qi, .int .i64 now] 101)) := by
     rw [← HΓ.out] at hg ⊢
     exact ghE_li (k := 11) hg hn rfl rfl
    refine wp_of_value (v := .slice (some ⟨g.w.heap.size, 0, none⟩) 1 1) (w' := g.w.alloc (.cells #[.int .i64 (tk + 1), .slice pw nw cw, .int .i64 ((0 + 1 : Nat) : Int), .int .i64 vy, .int .i64 pt, .int .i64 qi, .int .i64 now] 101)) (run_v_ok ?_) ⟨_, rfl, hmv, by show ran (g.vs ++ [lgE 6 _]) 6 = _; rw [ran_log _ hn, updE_same]⟩
    simp only [List.map_toArray, List.map_cons, List.map_nil, hag']
    exact rW1 _
   cases hd
   simp only [List.nil_append]
   refine wpE_effX (geff 7) (geff_lasts _ _) (by kernel_rfl) (by kernel_rfl) (fun a' g hg hn hdp he => ?_) (fun d hd => ?_)
   ·
    obtain ⟨hs, hx, _⟩ := he
    have hs' : a'.eval (.tmp 74) = (.slice la wl lc) := hs
    have hx' : ran g.vs 6 = some (a'.eval (.tmp 76)) := hx
    rw [← HΓ.out] at hg ⊢
    exact ghE_app (k := 3) (k2 := 11) (i2 := 6) (.tmp 74) (.tmp 76) 94 rfl Tryz.underlying94 infoWg rfl (by decide) hg hn rfl hs' hx' rfl (fun _ => rfl) rfl (fun u hu => by simp at hu; rcases hu with rfl | rfl | rfl | rfl | rfl | rfl | rfl <;> rfl) (by have := H8.out; unfold maxLen; omega) (by have := H8.out; omega)
   cases hd
   simp only [List.cons_append, List.nil_append]
   refine wpE_nil (by kernel_rfl) (by simp) ?_
   rintro ⟨gvs, y3⟩ hg hgl
   rw [← HΓ.out] at hg
   simp only [gexAll, List.drop]
   rintro u76 hu76
   rintro u77 hu77
   have hr6 : ran gvs 6 = some u76 := hu76
   have hr7 : ran gvs 7 = some u77 := hu77
   have hO := hg
   simp only [ghE, hr6, hr7] at hO
   replace hO : Own w D y3 [blkR a (.cells #[vs, .int .i64 sd, .pointer (some ⟨c, 0, none⟩), .slice la wl lc, vf, .int .i64 (tk + 1), .int .i64 (kk + 1)] 96), rowVs vs sv, resI c es, rowR u77 101 7 (wl + 1) (wtCs avs ws ++ [.int .i64 (tk + 1), .slice pw nw cw, .int .i64 ((0 + 1 : Nat) : Int), .int .i64 vy, .int .i64 pt, .int .i64 qi, .int .i64 now]), sepR (wtRs avs ws), rowVd vf fl fd, rowK (.slice pw nw cw) way, rowA (.slice pa na ca) ad, blkR bg (.cells #[.slice pw nw cw, .bool false, .int .i64 er, .slice pa na ca] 178), blkR b10 (.cells #[.int .i64 (tk + 1), .slice pw nw cw, .int .i64 ((0 + 1 : Nat) : Int), .int .i64 vy, .int .i64 pt, .int .i64 qi, .int .i64 now] 101), blkR b11 (.cells #[.int .i64 vy, .int .i64 pt, .string sm] 37), litR u76 1 (.cells #[.int .i64 (tk + 1), .slice pw nw cw, .int .i64 ((0 + 1 : Nat) : Int), .int .i64 vy, .int .i64 pt, .int .i64 qi, .int .i64 now] 101)] := hO
   obtain ⟨va, vc, ev3⟩ := row_shape (Own.row hO 3 rfl)
   subst ev3
   obtain ⟨bq, eb11, hO⟩ := Own.lit (k := 11) hO rfl
   subst eb11
   try simp only [Act.put, l_T, l_S, l_Z]
   replace HO := Hi (show Own w D y3 [blkR a (.cells #[vs, .int .i64 sd, .pointer (some ⟨c, 0, none⟩), .slice la wl lc, vf, .int .i64 (tk + 1), .int .i64 (kk + 1)] 96), rowVs vs sv, resI c es, rowR (.slice va ((wl + 1)) vc) 101 7 (wl + 1) (wtCs avs ws ++ [.int .i64 (tk + 1), .slice pw nw cw, .int .i64 ((0 + 1 : Nat) : Int), .int .i64 vy, .int .i64 pt, .int .i64 qi, .int .i64 now]), sepR (wtRs avs ws), rowVd vf fl fd, rowK (.slice pw nw cw) way, rowA (.slice pa na ca) ad, blkR bg (.cells #[.slice pw nw cw, .bool false, .int .i64 er, .slice pa na ca] 178), blkR b10 (.cells #[.int .i64 (tk + 1), .slice pw nw cw, .int .i64 ((0 + 1 : Nat) : Int), .int .i64 vy, .int .i64 pt, .int .i64 qi, .int .i64 now] 101), blkR b11 (.cells #[.int .i64 vy, .int .i64 pt, .string sm] 37), blkR bq (.cells #[.int .i64 (tk + 1), .slice pw nw cw, .int .i64 ((0 + 1 : Nat) : Int), .int .i64 vy, .int .i64 pt, .int .i64 qi, .int .i64 now] 101)] from hO)
   clear hO hg hgl HΓ HST ne q0_3 q9_0 q9_1 q9_2 q9_3 q9_4 q9_5 q9_6
   clear rW1
   have ⟨z0_3, y0_3⟩ : y3.cell? _ = some (.slice la wl lc) ∧ _ := HO.out.cf 0 rfl 3 rfl
   obtain ⟨x18, hx18, hO⟩ := HO.out.setE 0 rfl 3 (.slice va (wl + 1) vc)
   replace HO := Hi (show Own _ _ _ [blkR a (.cells #[vs, .int .i64 sd, .pointer (some ⟨c, 0, none⟩), .slice va (wl + 1) vc, vf, .int .i64 (tk + 1), .int .i64 (kk + 1)] 96), _, _, _, _, _, _, _, _, _, _, _] from hO)
   clear hO
   have z0_5 : x18.cell? _ = some (.int .i64 (tk + 1)) := HO.out.cell 0 rfl 5 rfl
   go_wp2
   clear z0_3 y0_3 hx18 z0_5
   obtain ⟨-, -, -, -, -, gtk, -⟩ := HO.out.g7 0 rfl
   obtain ⟨g10_0, g10_1, g10_2⟩ := HO.out.g3 10 rfl
   have rQ1 := run_bsQg vy pt sm
   refine wp_region_R 7 (by kernel_rfl) (by kernel_rfl) ?_
   simp only [List.take, List.drop]
   iterate 5 (first | (refine wpR_want (by kernel_rfl) rfl rfl ?_; intro K hK; go_big_quiet_op; go_big_quiet_on) | (refine wpR_is (by kernel_rfl) rfl _ (fun w _ => rfl) ?_; simp only [Act.put, l_T, l_S, l_Z]))
   refine wpR_ex (sblk x18.heap.size (.cells #[.int .i64 vy, .int .i64 pt, .string sm] 37)) (sblk_lasts _ _) (by kernel_rfl) (fun a' w' hw' he => ?_) (fun d hd => ?_)
   ·
    have hs := hw'.size
    obtain ⟨hag, _⟩ := he
    have hag' : a'.eval (.tmp 84) = .agg #[.int .i64 vy, .int .i64 pt, .string sm] := hag
    refine wp_of_value (v := .slice (some ⟨w'.heap.size, 0, none⟩) 1 1) (w' := w'.alloc (.cells #[.int .i64 vy, .int .i64 pt, .string sm] 37)) (run_v_ok ?_) ⟨_, rfl, (Below.refl _ _).alloc (Nat.le_refl _) _, ⟨w'.heap.size, rfl, hs, new_block _ _⟩⟩
    simp only [List.map_toArray, List.map_cons, List.map_nil, hag']
    exact rQ1 _
   cases hd
   simp only [List.nil_append]
   iterate 1 (first | (refine wpR_want (by kernel_rfl) rfl rfl ?_; intro K hK; go_big_quiet_op; go_big_quiet_on) | (refine wpR_is (by kernel_rfl) rfl _ (fun w _ => rfl) ?_; simp only [Act.put, l_T, l_S, l_Z]))
   refine wpR_nil (by kernel_rfl) (by simp) ?_
   rintro y4 hbw
   simp only [exAll]
   rintro u85 ⟨bz, rfl, hgebz, hbbbz⟩
   simp only [Act.put, l_T, l_S, l_Z, List.drop]
   have hO := HO.out.push (R := blkR bz (.cells #[.int .i64 vy, .int .i64 pt, .string sm] 37)) (F := fun z => z = bz) ⟨fun _ => Iff.rfl, hbbbz⟩ (fun z hz => hz ▸ hgebz) hbw
   clear hgebz hbbbz
   replace HO := Hi (show Own _ _ _ [_, _, _, _, _, _, _, _, _, _, _, _, blkR bz (.cells #[.int .i64 vy, .int .i64 pt, .string sm] 37)] from hO)
   clear hO hbw  g10_0 g10_1 g10_2 gtk rQ1
   go_wp2
   go_ret3
   obtain ⟨f1, f2, f3, f4, f5⟩ := HW1.out
   obtain ⟨p1, p2, p3⟩ := HPT.out
   have hO := HO.out.take 7
   have hO : Own w D y4 ([blkR a (.cells #[vs, .int .i64 sd, .pointer (some ⟨c, 0, none⟩), .slice va (wl + 1) vc, vf, .int .i64 (tk + 1), .int .i64 (kk + 1)] 96), rowVs vs sv, resI c es, rowR (.slice va ((wl + 1)) vc) 101 7 (wl + 1) (wtCs avs ws ++ [.int .i64 (tk + 1), .slice pw nw cw, .int .i64 ((0 + 1 : Nat) : Int), .int .i64 vy, .int .i64 pt, .int .i64 qi, .int .i64 now])] ++ [sepR (wtRs avs ws), rowVd vf fl fd, rowK (.slice pw nw cw) way]) := hO
   have h2 := snocS (hO.rot.toEnd 7 [0, 2, 3, 4, 5, 6, 1] rfl rfl)
   obtain ⟨e1, e2⟩ := wt_snoc HL2.out ⟨tk + 1, way, 1, vy, pt, qi, now⟩ (.slice pw nw cw)
   have h3 := h2.toEnd 6 [1, 2, 3, 4, 0, 5] rfl rfl
   refine ⟨_, ⟨sv, sd, es, ws ++ [⟨tk + 1, way, 1, vy, pt, qi, now⟩], fl, fd, tk + 1, kk + 1⟩, rfl, ?_, HO.out.size, ?_⟩
   ·
    refine shutG (x := ⟨vs, c, .slice va (wl + 1) vc, vf, avs ++ [.slice pw nw cw]⟩) (r := ⟨sv, sd, es, ws ++ [⟨tk + 1, way, 1, vy, pt, qi, now⟩], fl, fd, tk + 1, kk + 1⟩) (by simp [HL2.out]) ?_
    have e3 : (ws ++ [(⟨tk + 1, way, 1, vy, pt, qi, now⟩ : Wt)]).length = wl + 1 := by rw [List.length_append, HW.out]; rfl
    show Own w D y4 [_, _, _, rowWt _ (ws ++ [(⟨tk + 1, way, 1, vy, pt, qi, now⟩ : Wt)]).length (wtCs _ _), sepR (wtRs _ _), _]
    rw [e1, e2, e3]
    exact h3
   ·
    have := GStep.asks (r := ⟨sv, sd, es, ws, fl, fd, tk, kk⟩) (now := now) (nm := nm) way (by omega) (by omega) f4 (fun he => (f5 he trivial).1) (by show ws.length ≠ 8; rw [HW.out]; exact h9)
    simp only [p1, p2, p3] at this
    exact this
end
section
open Go.RowKit Go.Sort
attribute [local go_sem] Oper.semAt_some

theorem of_nil (s : ByteArray) (w : World) : Calls Tryz.prog 97 #[.slice none 0 0, .string s] w fun e w' => e = .returned (.slice none 0 0) ∧ w = w' := by
 go_enter Tryz.func97, Tryz.ntmps97
 go_wp2
 go_loopw [5, 6] (fun ov iv wr => ov = .slice none 0 0 ∧ iv = .int .i64 0 ∧ w = wr) (fun _ iv _ => 0)
 case atStart => exact ⟨rfl, rfl, rfl⟩
 case round =>
  obtain ⟨rfl, rfl, rfl⟩ := hrel
  go_wp2
  go_ret
  exact ⟨rfl, rfl⟩
theorem addrs_nil (p : Option Addr) (c : Nat) (w : World) : Calls Tryz.prog 138 #[.slice p 0 c] w fun e w' => e = .returned (.slice none 0 0) ∧ w = w' := by
 go_enter Tryz.func138, Tryz.ntmps138
 go_wp2
 go_loopw [3, 4, 5, 6] (fun ov iv _ _ wr => ov = .slice none 0 0 ∧ iv = .int .i64 0 ∧ w = wr) (fun _ iv _ _ _ => 0)
 case atStart => exact ⟨rfl, rfl, rfl⟩
 case round =>
  obtain ⟨rfl, rfl, rfl⟩ := hrel
  go_wp2
  go_ret
  exact ⟨rfl, rfl⟩
theorem alias_nil (p : Option Addr) (c : Nat) (w : World) : Calls Tryz.prog 139 #[.slice p 0 c] w fun e w' => e = .returned (.tuple #[.string ⟨#[]⟩, .bool false]) ∧ w = w' := by
 go_enter Tryz.func139, Tryz.ntmps139
 go_wp2
 go_loopw [4, 5, 6] (fun ov bv iv wr => ov = .string ⟨#[]⟩ ∧ bv = .bool false ∧ iv = .int .i64 0 ∧ w = wr) (fun _ _ iv _ => 0)
 case atStart => exact ⟨rfl, rfl, rfl, rfl⟩
 case round =>
  obtain ⟨rfl, rfl, rfl, rfl⟩ := hrel
  go_wp2
  go_ret2
  exact ⟨rfl, rfl⟩
theorem ilook_e {w : World} {c cap : Nat} {a : Option Addr} (now : Int) (s : ByteArray) (hc : w.cell? ⟨c, 0, none⟩ = some (.slice a 0 cap)) :
  Calls Tryz.prog 27 #[.pointer (some ⟨c, 0, none⟩), .int .i64 now, .string s] w fun e w' => e = .returned (.tuple #[.slice none 0 0, .bool false]) ∧ w = w' := by
 go_enter Tryz.func27, Tryz.ntmps27
 go_wp2
 go_loopw [8, 9, 10] (fun ov kv iv wr => ov = .slice none 0 0 ∧ kv = .bool false ∧ iv = .int .i64 0 ∧ w = wr) (fun _ _ iv _ => 0)
 case atStart => exact ⟨rfl, rfl, rfl, rfl⟩
 case round =>
  obtain ⟨rfl, rfl, rfl, rfl⟩ := hrel
  go_wp2
  go_ret2
  exact ⟨rfl, rfl⟩
theorem I_cell {w0 w : World} {D : Nat → Prop} {L : List Res} {c : Nat} (h : Own w0 D w L) (i : Nat) (hi : L[i]? = some (resI c [])) : ∃ a cap, w.cell? ⟨c, 0, none⟩ = some (.slice a 0 cap) := by
 obtain ⟨F, hF, _, _⟩ := h.step hi
 obtain ⟨v, h1⟩ := openI' (Own.one hF)
 obtain ⟨a, cap, hv⟩ := row_shape (h1.row 1 rfl)
 exact ⟨a, cap, by rw [h1.cell 0 rfl 0 rfl, hv]; rfl⟩
theorem run_bdGn (p : Option Addr) (n c : Nat) (w : World) : (Instr.build 178 #[(0, .slice p n c)]).run Tryz.prog w = .ok (.agg #[.slice p n c, .bool false, .int .i64 0, .slice none 0 0]) w := by kernel_rfl
theorem infoGn : (Tryz.prog.info? 178).map (·.size) = some 4 := by kernel_rfl
theorem finish_e {w : World} {D : Nat → Prop} {a : Nat} {r : Rg} {now : Int} {wv : Value} (h : Own w D w [resG a r, rowRc (.slice none 0 0) [], rowK wv [nm]]) (he : r.es = []) (hv : vname nm = true) :
  Calls Tryz.prog 93 #[.pointer (some ⟨a, 0, none⟩), .int .i64 now, wv, .slice none 0 0] w (FinP w D a r (.slice none 0 0) [] [nm] w) := by
 obtain ⟨⟨vs, c, vl, vf, avs⟩, hl, hO⟩ := openG h
 obtain ⟨sv, sd, es, ws, fl, fd, tk, kk⟩ := r
 simp only at hO hl he
 subst he
 have HL := Hi hl
 have HV := Hi hv
 obtain ⟨wa, wc, hwv⟩ := row_shape (hO.row 7 rfl)
 have hwr := hO.row 7 rfl
 obtain ⟨gw, hgw⟩ : ∃ g, wa = some ⟨g, 0, none⟩ := by rw [hwv] at hwr; exact row_some hwr Nat.one_pos
 subst hgw
 have e1 : ([nm] : List ByteArray).length = 1 := rfl
 rw [e1] at hwv
 subst hwv
 clear h hl hv hwr e1
 have HO := Hi (show Own w D w [blkR a (.cells #[vs, .int .i64 sd, .pointer (some ⟨c, 0, none⟩), vl, vf, .int .i64 tk, .int .i64 kk] 96), rowVs vs sv, resI c [], rowWt vl ws.length (wtCs avs ws), sepR (wtRs avs ws), rowVd vf fl fd, rowRc (.slice none 0 0) [], rowK (.slice (some ⟨gw, 0, none⟩) 1 wc) [nm]] from hO)
 clear hO
 obtain ⟨x1, hx1, bg, hbg, hO⟩ := HO.out.allocE (.cells #[.slice none 0 0, .bool false, .int .i64 0, .slice none 0 0] 178)
 replace HO := Hi (show Own _ _ _ [_, _, _, _, _, _, _, _, blkR bg (.cells #[.slice none 0 0, .bool false, .int .i64 0, .slice none 0 0] 178)] from hO)
 clear hO
 go_enter Tryz.func93, Tryz.ntmps93
 go_wp2
 clear hx1 hbg
 go_loopw [2, 9, 10, 11, 12, 13, 14] (fun v2 _ _ _ _ _ _ wr => v2 = .slice (some ⟨gw, 0, none⟩) 1 wc ∧ Own w D wr [blkR a (.cells #[vs, .int .i64 sd, .pointer (some ⟨c, 0, none⟩), vl, vf, .int .i64 tk, .int .i64 kk] 96), rowVs vs sv, resI c [], rowWt vl ws.length (wtCs avs ws), sepR (wtRs avs ws), rowVd vf fl fd, rowRc (.slice none 0 0) [], rowK (.slice (some ⟨gw, 0, none⟩) 1 wc) [nm], blkR bg (.cells #[.slice none 0 0, .bool false, .int .i64 0, .slice none 0 0] 178)]) (fun _ _ _ _ _ _ _ _ => 0)
 case atStart => exact ⟨rfl, HO.out⟩
 case round =>
  obtain ⟨rfl, hO⟩ := hrel
  replace HO := Hi hO
  clear hO
  have c0 : wr.cell? ⟨gw, 0, none⟩ = some (.string nm) := (row_cells (HO.out.row 7 rfl)).1 0 _ rfl
  go_wp2_with fail
  refine (o_same HO.out (of_nil nm _)).mono ?_
  rintro e x2 ⟨rfl, hO, -⟩
  replace HO := Hi hO
  clear hO c0
  have z0_2 : x2.cell? _ = some (.pointer (some ⟨c, 0, none⟩)) := HO.out.cell 0 rfl 2 rfl
  obtain ⟨ia, ic, hic⟩ := I_cell HO.out 2 rfl
  have HIC := Hi hic
  clear hic
  go_wp2_with fail
  refine (o_same HO.out (ilook_e now nm HIC.out)).mono ?_
  rintro e x3 ⟨rfl, hO, -⟩
  replace HO := Hi hO
  clear hO
  clear z0_2
  go_wp2_with fail
  refine (o_same HO.out (addrs_nil none 0 _)).mono ?_
  rintro e x4 ⟨rfl, hO, -⟩
  replace HO := Hi hO
  clear hO
  go_wp2_with fail
  refine (o_same HO.out (alias_nil none 0 _)).mono ?_
  rintro e x5 ⟨rfl, hO, -⟩
  replace HO := Hi hO
  clear hO
  have rg := run_bdGn (some ⟨gw, 0, none⟩) 1 wc
  obtain ⟨x6, x10, x13, x15, hx6, hx10, hx13, hx15, k8_0_2, lk8_0_2, k8_1_7, lk8_1_7, k8_2_11, lk8_2_11, k8_3_14, lk8_3_14, hO⟩ := HO.out.steps4 8 rfl (.slice (some ⟨gw, 0, none⟩) 1 wc) (.bool false) (.int .i64 0) (.slice none 0 0)
  replace HO := Hi (show Own _ _ _ [_, _, _, _, _, _, _, _, blkR bg (.cells #[.slice (some ⟨gw, 0, none⟩) 1 wc, .bool false, .int .i64 0, .slice none 0 0] 178)] from hO)
  clear hO
  go_wp2
  refine bodyPost_ret (results_cell_row (P := Tryz.prog) rfl _ _ bg 178 _ _ _ rfl (HO.out.blk 8 rfl) Tryz.underlying178 rfl infoGn) rfl ?_
  have hO := HO.out.take 8
  have h1 := shutG (x := ⟨vs, c, vl, vf, avs⟩) (r := ⟨sv, sd, [], ws, fl, fd, tk, kk⟩) (L := [rowRc (.slice none 0 0) [], rowK (.slice (some ⟨gw, 0, none⟩) 1 wc) [nm]]) HL.out hO
  exact ⟨false, 0, some ⟨gw, 0, none⟩, 1, wc, none, 0, 0, [nm], [], rfl, h1.rowNew 3 1, HO.out.size, rfl, by decide, by decide, fun s hs => by rw [List.mem_singleton.1 hs]; exact HV.out, fun _ _ => ⟨rfl, rfl⟩⟩
end
end Go.Proofs.YtbolfkojebbejaaGreatDoor
