/- The resolver's Tick. Printed by wip/tools/gen21k.py. -/
import Derived.Test.YtbolfkojebbejaaGreatDoorRrs
import Derived.Test.YtbolfkojebbejaaGreatDoorBf
set_option linter.unusedVariables false
set_option maxRecDepth 100000
set_option maxHeartbeats 32000000
namespace Go.Proofs.YtbolfkojebbejaaGreatDoor
open Go.RowKit Go.Sort

variable {w0 w : World} {D : Nat → Prop} {L : List Res}
theorem app_nilQ (a : Option Addr) (n c : Nat) (hc : n ≤ c) (w : World) : (Builtin.append_ #[32, 32] 32 #[.slice a n c, .slice none 0 0]).run Tryz.prog w = .ok (.slice a n c) w := by
 have hu : (underlying 32).run Tryz.prog w = .ok (.slice 37) w := by simp [underlying, go_sem, Tryz.underlying32]
 have hs : (sizeOf 37).run Tryz.prog w = .ok 3 w := by kernel_rfl
 cases a with
 | none => simp [Builtin.append_, hu, hs, Builtin.lenOf, Builtin.firstCells, hc, Result.andThen]
 | some a => simp [Builtin.append_, hu, hs, Builtin.lenOf, Builtin.firstCells, hc, Result.andThen, storeCells]
theorem infoQy : (Tryz.prog.info? 37).map (fun i => (i.zero, i.size, i.bytes)) = some (some (.agg #[.int .i64 0, .int .i64 0, .string ⟨#[]⟩]), 3, 32) := by kernel_rfl
theorem wpList_appR {P : Program} {ops : Array Oper} {rest : List Oper} {o : Oper} {a : Act} {Q : Exit → Act → World → Prop} (hgd : o.guard = none) (s x : Operand) (t : TypeId) (ho : o.op = .call { callee := .builtin .append, args := #[s, x], argTypes := #[t, t] })
  {e : TypeId} {z : Value} {size bytes : Nat} (ht : P.underlying t = some (.slice e)) (hi : (P.info? e).map (fun i => (i.zero, i.size, i.bytes)) = some (some z, size, bytes)) (hzs : z.cells.size = size) (hsz : 0 < size)
  (h : Own w0 D w L) (i : Nat) {v : Value} {n : Nat} {xs : List Value} (hL : L[i]? = some (rowR v e size n xs)) (hs : a.eval s = v) (j : Nat) {u : Value} {m : Nat} {ys : List Value} (hj : L[j]? = some (rowR u e size m ys)) (hx : a.eval x = u)
  (hnil : ∀ (a : Option Addr) (n c : Nat), n ≤ c → ∀ w : World, (Builtin.append_ #[t, t] o.type #[.slice a n c, .slice none 0 0]).run P w = .ok (.slice a n c) w) (h1 : ∀ y ∈ ys, y.oneCell' = true) (h63 : n + m ≤ maxLen) (hbytes : (n + m) * bytes ≤ 140737488355328)
  (hk : ∀ v' w', Own w0 D w' (L.set i (rowR v' e size (n + m) (xs ++ ys))) → wpList P ops Q rest (a.put o.dst v') w') : wpList P ops Q (o :: rest) a w := by
 obtain ⟨i0, hi, hz0, hz1, hz2⟩ := info_parts hi
 have hu := h.row j hj
 obtain ⟨hyl, ⟨rfl, hm⟩ | ⟨g, cp, cur, rfl, g2, g3, g4, g5, g6, g7⟩⟩ := hu
 ·
  subst hm
  have hy0 : ys = [] := List.eq_nil_of_length_eq_zero (by omega)
  obtain ⟨va, vc, hv⟩ := row_shape (h.row i hL)
  have hcp : n ≤ vc := by
   have hrow := h.row i hL
   rw [hv] at hrow
   rcases hrow.2 with ⟨e, h0⟩ | ⟨g, cp, cur, e, _, _, h3, _⟩
   ·
    omega
   ·
    cases e; exact h3
  refine wpList_plain hgd fun K hK => wp_append_run ho hs hx (by rw [hv]; exact hnil va n vc hcp w) (hK _ _ (hk _ _ ?_))
  rw [hy0, List.append_nil, Nat.add_zero, ← hv, set_sm hL]
  exact h
 ·
  refine wpList_app hgd s x t ho ht hi hz0 hz1 hz2 hzs hsz hs (h.row i hL) ys hx hyl (row_newsR (h.row j hj)) h1 h63 hbytes (Nat.zero_le _) fun v' w' hown hu hnear => hk v' w' (h.rowTo i hL hown hu fun g hg => ?_)
  rcases hnear with h2 | h2 | ⟨g2, h2, h3⟩
  ·
   rw [h2] at hg; cases hg
  ·
   exact .inl (h2 ▸ hg)
  ·
   rw [h2] at hg; cases hg; exact .inr h3
def dueB (now : Int) (k : Lk) : Bool := decide (k.se + 10 ≤ now)
def tickL (now : Int) : Rz → Nat → List (Nat × Lk) → Rz × List Qy
 | z, _, [] => (z, [])
 | z, i, (b, k) :: rest =>
  if dueB now k = true then ((tickL now (askZ now z i b k).1 (if 3 * (z.sv.length : Int) ≤ k.tr then i else i + 1) rest).1, (askZ now z i b k).2 ++ (tickL now (askZ now z i b k).1 (if 3 * (z.sv.length : Int) ≤ k.tr then i else i + 1) rest).2)
  else tickL now z (i + 1) rest
def agedZ (now : Int) (z : Rz) : Rz := ⟨z.sv, z.sd, tickF now z.es, z.tk, z.qn, z.wl, z.dn⟩
def tickZ (now : Int) (z : Rz) : Rz × List Qy := tickL now (agedZ now z) 0 z.wl
theorem aged_ok {z : Rz} (now : Int) (h : ZI z) : ZI (agedZ now z) :=
 ⟨h.s0, h.s4, h.d0, h.d1, h.q0, h.wl, h.lk, h.dn, Nat.le_trans (List.length_filter_le _ _) h.es, h.ap.sublist List.filter_sublist, fun e he => h.en e (List.mem_filter.1 he).1⟩
section
variable {now : Int} {z : Rz} {i b : Nat} {k : Lk} {rest : List (Nat × Lk)}
theorem ask_ok (h : ZI z) (hi : z.wl[i]? = some (b, k)) (hd : z.dn.length < 1000) : ZI (askZ now z i b k).1 ∧ (askZ now z i b k).1.qn ≤ z.qn + 1 ∧ (askZ now z i b k).1.dn.length ≤ z.dn.length + 1 ∧ (askZ now z i b k).2.length ≤ 1 := by
 have hk := h.lk _ (List.mem_of_getElem? hi)
 unfold askZ
 split
 ·
  refine ⟨⟨h.s0, h.s4, h.d0, h.d1, h.q0, Nat.le_trans (List.length_eraseIdx_le _ _) h.wl, fun p hp => h.lk p (List.mem_of_mem_eraseIdx hp), ?_, h.es, h.ap, h.en⟩, by show z.qn ≤ z.qn + 1; omega, ?_, by simp⟩
  ·
   show (z.dn ++ [_]).length ≤ 1000
   rw [List.length_append]; show z.dn.length + 1 ≤ 1000; omega
  ·
   show (z.dn ++ [_]).length ≤ _
   rw [List.length_append]; exact Nat.le_refl _
 ·
  rename_i ht
  refine ⟨⟨h.s0, h.s4, h.d0, h.d1, by have := h.q0; show 0 ≤ z.qn + 1; omega, ?_, fun p hp => ?_, h.dn, h.es, h.ap, h.en⟩, Int.le_refl _, by show z.dn.length ≤ _; omega, by simp⟩
  ·
   show (z.wl.set i _).length ≤ 100
   rw [List.length_set]; exact h.wl
  ·
   rcases List.mem_or_eq_of_mem_set hp with hp | rfl
   ·
    exact h.lk p hp
   ·
    have := h.s4
    exact ⟨hk.c0, hk.c1, hk.nm, by have h0 : 0 ≤ k.tr := hk.t0; show 0 ≤ k.tr + 1; omega, by show k.tr + 1 ≤ 12; omega⟩
theorem ask_drop (hi : z.wl.drop i = (b, k) :: rest) : (askZ now z i b k).1.wl.drop (if 3 * (z.sv.length : Int) ≤ k.tr then i else i + 1) = rest := by
 have hrest : z.wl.drop (i + 1) = rest := by
  have := congrArg (List.drop 1) hi
  simpa [List.drop_drop] using this
 unfold askZ
 split
 ·
  show (z.wl.eraseIdx i).drop i = rest
  rw [List.eraseIdx_eq_take_drop_succ, hrest]
  by_cases h : i ≤ z.wl.length
  ·
   rw [List.drop_left' (by rw [List.length_take]; omega)]
  ·
   rw [List.drop_eq_nil_of_le (by omega)] at hi; cases hi
 ·
  show (z.wl.set i _).drop (i + 1) = rest
  rw [List.drop_set_of_lt (by omega), hrest]
theorem drop_head {α : Type} {l : List α} {i : Nat} {x : α} {r : List α} (h : l.drop i = x :: r) : l[i]? = some x := by
 have := congrArg (fun l : List α => l[0]?) h
 simpa using this
theorem z_cell {a : Nat} (h : Own w0 D w (resZ a z :: L)) (hi : z.wl[i]? = some (b, k)) : w.cell? ⟨b, 4, none⟩ = some (.int .i64 k.se) := by
 obtain ⟨avs, h1, h2⟩ := openZ h
 have h3 := takeK hi h2.swap'
 obtain ⟨v, h4⟩ := openK h3
 exact h4.cell 0 rfl 4 rfl
end
theorem tick_z {w : World} {a : Nat} {z : Rz} {now : Int} {g : Glo} (h : Own w D w [resZ a z, glR g]) (hz : ZI z) (h8 : z.wl.length ≤ 8) (q1 : z.qn + z.wl.length ≤ 100000) (hd : z.dn.length + z.wl.length ≤ 900) (hse : ∀ p ∈ z.wl, 0 ≤ p.2.se ∧ p.2.se ≤ now) (hnow : now ≤ 1000000000) :
  Calls Tryz.prog 16 #[.pointer (some ⟨a, 0, none⟩), .int .i64 now] w (VPost w D w fun u => [resZ a (tickZ now z).1, glR g, rowQs u (tickZ now z).2]) := by
 obtain ⟨avs, ⟨vs, c, vw, vd⟩, hl, hO⟩ := openZV h
 have HE := Hi hz.es
 have HZ := Hi (aged_ok now hz)
 have HAL := Hi hl
 have HSE := Hi hse
 have HQ := Hi q1
 have HDN := Hi hd
 obtain ⟨n, hn⟩ : ∃ n, z.wl.length = n := ⟨_, rfl⟩
 have HN := Hi hn
 have hn8 : n ≤ 8 := by omega
 obtain ⟨wa, wc, hvw⟩ := row_shape (hO.row 3 rfl)
 rw [List.length_map, hn] at hvw
 subst hvw
 clear hz h8 q1 hse hl h hn hd
 have HO := Hi (show Own w D w [blkR a (.cells #[vs, .int .i64 z.sd, .pointer (some ⟨c, 0, none⟩), .int .i64 z.tk, .int .i64 z.qn, .slice wa n wc, vd] 128), rowVs vs z.sv, resC c z.es, rowVw (.slice wa n wc) (z.wl.map (·.1)), rowVd vd z.dn.length (rnCs avs z.dn), resKs z.wl, sepR (rnRs avs z.dn), glR g] from hO)
 clear hO
 go_enter Tryz.func16, Tryz.ntmps16
 have z0_2 : w.cell? _ = some (.pointer (some ⟨c, 0, none⟩)) := HO.out.cell 0 rfl 2 rfl
 go_wp2_with fail
 refine (tick_o now HO.out 2 rfl (by have := HE.out; omega)).mono ?_
 rintro e x1 ⟨rfl, hO, -⟩
 replace HO := Hi (show Own _ _ _ [_, _, resC c (tickF now z.es), _, _, _, _, _] from hO)
 clear hO
 clear z0_2
 have z0_5 : x1.cell? _ = some (.slice wa n wc) := HO.out.cell 0 rfl 5 rfl
 go_wp2_with fail
 refine (clone_K HO.out 3 (show _ = some (rowR (.slice wa n wc) 129 1 n ((z.wl.map (·.1)).map cPt)) by show some (rowR _ _ _ _ _) = _; rw [List.length_map, HN.out]) (by omega) (cPt_one _)).mono ?_
 rintro e x2 ⟨u, rfl, hO, -⟩
 obtain ⟨ua, uc, rfl⟩ := row_shape (hO.row 8 rfl)
 replace HO := Hi (show Own _ _ _ [_, _, _, _, _, _, _, _, rowR (.slice ua n uc) 129 1 n ((z.wl.map (·.1)).map cPt)] from hO)
 clear hO
 clear z0_5
 have HZ0 := Hi (shutZV (x := ⟨vs, c, .slice wa n wc, vd⟩) (z := agedZ now z) (avs := avs) HAL.out HO.out)
 clear HO
 go_wp2
 go_loopw [5, 22] (fun qv iv wr => ∃ (j i : Nat) (z1 : Rz) (q : List Qy), j ≤ n ∧ iv = .int .i64 j ∧ z1.wl.drop i = z.wl.drop j ∧ ((tickZ now z).1 = (tickL now z1 i (z.wl.drop j)).1 ∧ (tickZ now z).2 = q ++ (tickL now z1 i (z.wl.drop j)).2) ∧ ZI z1 ∧ (z1.qn + (n - j : Nat) ≤ 100000 ∧ z1.dn.length + (n - j : Nat) ≤ 900 ∧ q.length ≤ j) ∧ Own w D wr [resZ a z1, glR g, rowR (.slice ua n uc) 129 1 n ((z.wl.map (·.1)).map cPt), rowQs qv q]) (fun _ iv _ => n - (intOf iv).toNat)
 case atStart => exact ⟨0, 0, agedZ now z, [], Nat.zero_le _, rfl, rfl, ⟨rfl, rfl⟩, HZ.out, ⟨by have := HQ.out; rw [HN.out] at this; exact this, by have := HDN.out; rw [HN.out] at this; exact this, Nat.le_refl _⟩, HZ0.out.rowNew 37 3⟩
 case round =>
  obtain ⟨j, i, z1, q, hj, rfl, hdr, htk, hzi, hbd, hO⟩ := hrel
  have HDR := Hi hdr
  have HTK := Hi htk
  have HZI := Hi hzi
  have HBD := Hi hbd
  have HO := Hi hO
  obtain ⟨qn, hqn⟩ : ∃ qn, q.length = qn := ⟨_, rfl⟩
  have HQN := Hi hqn
  obtain ⟨qa, qc, hqv⟩ := row_shape (hO.row 3 rfl)
  rw [hqn] at hqv
  subst hqv
  clear hdr htk hzi hbd hO hqn
  have hjb : (j : Int) ≤ 8 := by omega
  by_cases hlt : j < n
  ·
   have hjl : j < z.wl.length := by rw [HN.out]; exact hlt
   obtain ⟨g1, rfl⟩ := row_some (HO.out.row 2 rfl) (by omega)
   obtain ⟨⟨b, k⟩, hbk⟩ : ∃ p, z.wl[j] = p := ⟨_, rfl⟩
   have hcons : z.wl.drop j = (b, k) :: z.wl.drop (j + 1) := by rw [List.drop_eq_getElem_cons hjl, hbk]
   have HC := Hi hcons
   have hgi : z1.wl[i]? = some (b, k) := drop_head (HDR.out.trans hcons)
   have HGI := Hi hgi
   have c0 : wr.cell? ⟨g1, j, none⟩ = some (.pointer (some ⟨b, 0, none⟩)) := (row_cells (HO.out.row 2 rfl)).1 j _ (by simp [hjl, hbk])
   have c1 : wr.cell? ⟨b, 4, none⟩ = some (.int .i64 k.se) := z_cell HO.out hgi
   have hks := HSE.out (b, k) (by rw [← hbk]; exact List.getElem_mem hjl)
   have hd : decide ((j : Int) < (n : Int)) = true := decide_eq_true (by omega)
   clear hjl hbk hcons hgi
   obtain ⟨ks1, ks2⟩ := hks
   cases hdu : dueB now k with
   | false =>
    have hnd : now < k.se + 10 := by unfold dueB at hdu; have := of_decide_eq_false hdu; omega
    have HT2 := Hi (show tickL now z1 i (z.wl.drop j) = tickL now z1 (i + 1) (z.wl.drop (j + 1)) by
     rw [HC.out]
     show (if dueB now k = true then _ else _) = _
     rw [if_neg (by rw [hdu]; decide)])
    have HD2 := Hi (show z1.wl.drop (i + 1) = z.wl.drop (j + 1) by
     have := congrArg (List.drop 1) HDR.out
     simpa [List.drop_drop] using this)
    clear hdu
    go_wp2_with fail
    refine (due_no _ ks1 ks2 hnd hnow).mono ?_
    rintro e xp ⟨rfl, rfl⟩
    go_wp2
    go_roundw
    case rel => exact ⟨j + 1, i + 1, z1, q, by omega, by go_num, HD2.out, by rw [← HT2.out]; exact HTK.out, HZI.out, ⟨by have := HBD.out.1; omega, by have := HBD.out.2.1; omega, by have := HBD.out.2.2; omega⟩, by rw [← HQN.out]; have := HO.out; rw [← HQN.out] at this; exact this⟩
    case measure => simp [intOf]; omega
   | true =>
    have hnd : k.se + 10 ≤ now := by unfold dueB at hdu; exact of_decide_eq_true hdu
    have HT2 := Hi (show tickL now z1 i (z.wl.drop j) = ((tickL now (askZ now z1 i b k).1 (if 3 * (z1.sv.length : Int) ≤ k.tr then i else i + 1) (z.wl.drop (j + 1))).1, (askZ now z1 i b k).2 ++ (tickL now (askZ now z1 i b k).1 (if 3 * (z1.sv.length : Int) ≤ k.tr then i else i + 1) (z.wl.drop (j + 1))).2) by
     rw [HC.out]
     show (if dueB now k = true then _ else _) = _
     rw [if_pos hdu])
    have HD2 := Hi (ask_drop (now := now) (HDR.out.trans HC.out))
    have HOK := Hi (ask_ok (now := now) HZI.out HGI.out (by have := HBD.out.2.1; omega))
    obtain ⟨⟨z2, q2⟩, hr⟩ : ∃ r, askZ now z1 i b k = r := ⟨_, rfl⟩
    rw [hr] at HT2 HD2 HOK
    generalize (if 3 * (z1.sv.length : Int) ≤ k.tr then i else i + 1) = i2 at HT2 HD2
    have HR := Hi hr
    have HAG := Hi (fun (D' : Nat → Prop) hD => again_z (w := wr) (D := D') (a := a) (g := g) (now := now) hD HZI.out (by have := HBD.out.1; omega) HGI.out hr)
    have HO5 := Hi (HO.out.toEnd 4 [2, 3, 0, 1] rfl rfl)
    clear hdu hr HO
    go_wp2_with fail
    refine (due_yes _ ks1 hnd hnow).mono ?_
    rintro e xp ⟨rfl, rfl⟩
    go_wp2_with fail
    refine (o_frameV [rowR (.slice (some ⟨g1, 0, none⟩) n uc) 129 1 n ((z.wl.map (·.1)).map cPt), rowQs (.slice qa qn qc) q] [resZ a z1, glR g] _ HO5.out HAG.out).mono ?_
    rintro e x5 ⟨u, rfl, hO, -⟩
    have HO6 := Hi (show Own w D x5 [rowR (.slice (some ⟨g1, 0, none⟩) n uc) 129 1 n ((z.wl.map (·.1)).map cPt), rowR (.slice qa qn qc) 37 3 qn (q.flatMap cQy), resZ a z2, glR g, rowR u 37 3 q2.length (q2.flatMap cQy)] by rw [← HQN.out]; rw [← HQN.out] at hO; exact hO)
    have HB2 := Hi (show qn + q2.length ≤ 100 by have := HBD.out.2.2; have := HOK.out.2.2.2; have := HQN.out; simp at *; omega)
    clear hO HO5 HAG c0 c1
    go_wp2_with ((at_builtin; refine (show _ = True → _ from fun h => of_eq_true h) ?_))
    refine eq_true ?_
    refine wpList_appR rfl (.tmp 32) (.tmp 36) 32 rfl Tryz.underlying32 infoQy rfl (by decide) HO6.out 1 rfl rfl 4 rfl rfl app_nilQ (fun y hy => by
     obtain ⟨x, _, hx⟩ := List.mem_flatMap.1 hy
     simp [cQy] at hx
     rcases hx with rfl | rfl | rfl <;> rfl) (by have := HB2.out; unfold maxLen; omega) (by have := HB2.out; omega) ?_
    intro v9 x9 hO
    have HO7 := Hi (show Own w D x9 [resZ a z2, glR g, rowR (.slice (some ⟨g1, 0, none⟩) n uc) 129 1 n ((z.wl.map (·.1)).map cPt), rowQs v9 (q ++ q2)] by
     have h1 : rowQs v9 (q ++ q2) = rowR v9 37 3 (qn + q2.length) (q.flatMap cQy ++ q2.flatMap cQy) := by
      show rowR _ _ _ _ _ = _
      rw [List.length_append, List.flatMap_append, HQN.out]
     rw [h1]
     exact Own.toEnd hO 5 [2, 3, 0, 1] rfl rfl)
    clear hO HO6
    go_wp2
    go_roundw
    case rel => exact ⟨j + 1, i2, z2, q ++ q2, by omega, by go_num, HD2.out, by
     obtain ⟨t1, t2⟩ := HTK.out
     rw [HT2.out] at t1 t2
     exact ⟨t1, by rw [t2, List.append_assoc]⟩, HOK.out.1, ⟨by have := HBD.out.1; have := HOK.out.2.1; simp at *; omega, by have := HBD.out.2.1; have := HOK.out.2.2.1; simp at *; omega, by have := HB2.out; have := HBD.out.2.2; have := HOK.out.2.2.2; rw [List.length_append]; simp at *; omega⟩, HO7.out⟩
    case measure => simp [intOf]; omega
  ·
   obtain rfl : n = j := by omega
   have hd : decide ((n : Int) < (n : Int)) = false := decide_eq_false (by omega)
   have hend : z.wl.drop n = [] := List.drop_eq_nil_of_le (by rw [HN.out]; exact Nat.le_refl _)
   obtain ⟨t1, t2⟩ := HTK.out
   rw [hend] at t1 t2
   have T1 := Hi (show (tickZ now z).1 = z1 from t1)
   have T2 := Hi (show (tickZ now z).2 = q by rw [t2]; exact List.append_nil _)
   clear t1 t2 hend
   go_wp2
   go_ret
   exact ⟨_, rfl, by rw [T1.out, T2.out]; rw [← HQN.out]; have := HO.out; rw [← HQN.out] at this; exact this.toEnd 4 [0, 1, 3] rfl rfl, HO.out.size⟩
end Go.Proofs.YtbolfkojebbejaaGreatDoor
