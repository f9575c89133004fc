/- Contract of add, of both tables. Printed by wip/tools/gen23.py. -/
import Derived.Test.YtbhglemolpfnkaaGreatDoorPw1
import Derived.Test.YtbhglemolpfnkaaGreatDoorBb
set_option linter.unusedVariables false
set_option maxRecDepth 100000
set_option maxHeartbeats 32000000
namespace Go.Proofs.YtbhglemolpfnkaaGreatDoor
open Go.RowKit Go.Sort

def ghA (E : TypeId) (w0 : World) (v0 : Value) (n : Nat) (xs : List Value) (sz : Nat) : Ghost where
 inv := fun vs w => match vs with
  | [] => Below w0.heap.size w0 w
  | v :: _ => Upd (fun b => v0.ownBlock = some b) w0 w ∧ w.ownsRow 0 E sz v n xs ∧ ∀ g, v.ownBlock = some g → v0.ownBlock = some g ∨ w0.heap.size ≤ g
 own := fun vs b => match vs with
  | [] => v0.ownBlock = some b
  | _ => False
 quiet := by
  intro vs w w' h hb
  match vs, h with
  | [], h => exact below_mid h hb
  | v :: _, ⟨h1, h2, h3⟩ => exact ⟨h1.thenB hb, (Upd.of_below (F := fun _ => False) hb).row h2 (fun _ _ h => h), h3⟩
theorem ghA_upd {E : TypeId} {w0 : World} {v0 : Value} {n : Nat} {xs : List Value} {sz : Nat} {vs : List Value} {w : World} (h : (ghA E w0 v0 n xs sz).inv vs w) : Upd (fun b => v0.ownBlock = some b) w0 w := by
 match vs, h with
 | [], h => exact Upd.of_below h
 | v :: _, ⟨h1, _⟩ => exact h1
theorem ghA_own {E : TypeId} {w0 : World} {v0 : Value} {n : Nat} {xs : List Value} {sz : Nat} {vs : List Value} {b : Nat} (h : (ghA E w0 v0 n xs sz).own vs b) : v0.ownBlock = some b := by
 match vs, h with
 | [], h => exact h
theorem ownsRow_below {w w' : World} {base : Nat} {e : TypeId} {size : Nat} {v : Value} {n : Nat} {xs : List Value} (hb : Below w.heap.size w w') (h : w.ownsRow base e size v n xs) : w'.ownsRow base e size v n xs := (Upd.of_below (F := fun _ => False) hb).row h (fun _ _ h => h)
theorem news_blk {w : World} {b : Nat} {l : List Value} {t : TypeId} (h : w.heap[b]? = some (.cells l.toArray t)) : ∀ j u, l[j]? = some u → w.cell? ((⟨b, 0, none⟩ : Addr).add j) = some u := by
 intro j u hj
 have ea : (⟨b, 0, none⟩ : Addr).add j = ⟨b, j, none⟩ := by
  unfold Addr.add
  split
  ·
   rename_i h; have : j = 0 := by simpa using h
   subst this; rfl
  ·
   simp
 rw [ea]
 simp [World.cell?, h, hj]
theorem kcB_one (k : Bk) : ∀ u ∈ kcB k, u.oneCell' = true := by
 intro u hu; simp [kcB] at hu; rcases hu with h | h <;> (subst h; rfl)
theorem kcC_one (k : Ck) : ∀ u ∈ kcC k, u.oneCell' = true := by
 intro u hu; simp [kcC] at hu; rcases hu with h | h | h <;> (subst h; rfl)
theorem run_bsB (x0 x1 : Int) (w : World) : (Instr.buildSlice 152 1 #[(0, .agg #[.int .i64 x0, .int .i64 x1])]).run Tryz.prog w = .ok (.slice (some ⟨w.heap.size, 0, none⟩) 1 1) (w.alloc (.cells #[.int .i64 x0, .int .i64 x1] 93)) := by kernel_rfl
theorem run_bsC (x0 x1 x2 : Int) (w : World) : (Instr.buildSlice 113 1 #[(0, .agg #[.int .i64 x0, .int .i64 x1, .int .i64 x2])]).run Tryz.prog w = .ok (.slice (some ⟨w.heap.size, 0, none⟩) 1 1) (w.alloc (.cells #[.int .i64 x0, .int .i64 x1, .int .i64 x2] 112)) := by kernel_rfl

def AddPostB (w : World) (p : Nat) (s0 s1 s2 s3 s4 s5 s6 : Value) (m : List (Bk × Int)) (F : Nat → Prop) (e : Ending) (w' : World) : Prop :=
 e = .returned (.tuple #[]) ∧ ∃ o h F', w'.heap[p]? = some (.cells #[s0, s1, o, h, s4, s5, s6] 90) ∧ TabAt encB kcB 93 2 w' o h m F' ∧ (∀ b, F' b → F b ∨ w.heap.size ≤ b) ∧ Upd (fun b => F b ∨ b = p) w w'
theorem addB_any (k : Bk) (s : Int) (p : Nat) (s0 s1 s2 s3 s4 s5 s6 : Value) (m : List (Bk × Int)) (F : Nat → Prop) (w : World) (hp : w.heap[p]? = some (.cells #[s0, s1, s2, s3, s4, s5, s6] 90)) (ht : TabAt encB kcB 93 2 w s2 s3 m F) (hFp : ¬ F p) (hk : k ∉ keys m) (hlen : m.length ≤ 1000000) :
  Calls Tryz.prog 33 #[.pointer (some ⟨p, 2, none⟩), encB k, .int .i64 s] w (AddPostB w p s0 s1 s2 s3 s4 s5 s6 (m ++ [(k, s)]) F) := by
 obtain ⟨k0, k1⟩ := k
 have hb := below_one w (.cells #[.int .i64 k0, .int .i64 k1] 93)
 have HX := Hi (show (w.alloc (.cells #[.int .i64 k0, .int .i64 k1] 93)).heap[w.heap.size]? = some (.cells #[.int .i64 k0, .int .i64 k1] 93) by show (w.heap.push _)[w.heap.size]? = _; simp)
 have HP := Hi (blk_stay hb hp)
 have HK := Hi hk
 have HLEN := Hi (show (heldOf m s).length ≤ 1000000 from Nat.le_trans (by simp only [heldOf, List.length_map]; exact List.length_filter_le _ _) hlen)
 have hpl := blk_lt hp
 have HBX := Hi (show ∀ b, b < w.heap.size → w.heap.size ≠ b from fun b h e => by omega)
 rcases ht.is with ⟨rfl, rfl, rfl⟩ | ⟨bo, bh, hm, rfl, rfl, hne, hFo, hFh, hM, hH, hR⟩
 ·
  have HND := Hi (show (keys ([] : List (Bk × Int))).Nodup by simp [keys])
  have HBD := Hi ht.bound
  have HFX0 := Hi (show ¬ F w.heap.size from fun h => Nat.lt_irrefl _ (ht.bound _ h))
  have HHFP := Hi hFp
  have HPL := Hi hpl
  have HB := Hi hb
  clear hb hp hk hlen ht hFp hpl HBX
  go_enter Tryz.func33, Tryz.ntmps33
  generalize hW : w.alloc (.cells #[.int .i64 k0, .int .i64 k1] 93) = W at HX HP HB
  have HWS := Hi (show W.heap.size = w.heap.size + 1 by rw [← hW]; simp)
  obtain ⟨bx, hbx⟩ : ∃ bx, w.heap.size = bx := ⟨_, rfl⟩
  have p0 : W.cell? ⟨p, 2, none⟩ = some (.map none) := blk_cell HP.out 2
  have e0 : (binOp .eql 80 (.map none) (.map none)).run Tryz.prog W = .ok (.bool true) W := by kernel_rfl
  have hmk := @run_makeMap Tryz.prog
  obtain ⟨W2, hW2⟩ : ∃ y, (W.alloc (.map #[] 0)).alloc (.map #[] 0) = y := ⟨_, rfl⟩
  have HB1 := Hi (below_one W (.map #[] 0))
  have HB2 := Hi (show Below (W.alloc (.map #[] 0)).heap.size (W.alloc (.map #[] 0)) W2 by rw [← hW2]; exact below_one _ _)
  have HP2 := Hi (blk_stay (below_mid HB1.out HB2.out) HP.out)
  have HX2 := Hi (blk_stay (below_mid HB1.out HB2.out) HX.out)
  have HM2 := Hi ((mapB_new encB W).stay HB2.out)
  have HH2 := Hi (show MapB encI W2 (W.heap.size + 1) [] by have := mapB_new encI (W.alloc (.map #[] 0)); rw [hW2] at this; simpa using this)
  have q0 : W2.cell? ⟨p, 2, none⟩ = some (.map none) := blk_cell HP2.out 2
  have q1 : W2.cell? ⟨p, 3, none⟩ = some (.map none) := blk_cell HP2.out 3
  have z0 : W2.frozen? ⟨p, 2, none⟩ = false := blk_frz HP2.out 2
  have z1 : W2.frozen? ⟨p, 3, none⟩ = false := blk_frz HP2.out 3
  go_wp2
  clear p0 e0 hmk q0 q1 z0 z1
  have HBO := Hi (show W.heap.size ≠ W.heap.size + 1 by omega)
  have hb2 : Below W.heap.size W W2 := below_mid HB1.out HB2.out
  have hu3 : Upd (fun b => b = p) W2 ((W2.setCell ⟨p, 2, none⟩ (.map (some W.heap.size))).setCell ⟨p, 3, none⟩ (.map (some (W.heap.size + 1)))) := Upd.setCell (p := ⟨p, 3, none⟩) (Upd.setCell (p := ⟨p, 2, none⟩) (Upd.refl (fun b => b = p) W2) (fun _ => rfl) _) (fun _ => rfl) _
  have HU0 := Hi (show Upd (fun b => F b ∨ b = p) w ((W2.setCell ⟨p, 2, none⟩ (.map (some W.heap.size))).setCell ⟨p, 3, none⟩ (.map (some (W.heap.size + 1)))) from (Upd.of_below (below_mid HB.out hb2)).then hu3 (fun x _ h => .inr h))
  have hpw : p < W.heap.size := by have := HWS.out; have := HPL.out; omega
  have HM := Hi (HM2.out.upd hu3 (by intro h; omega))
  have HH := Hi (HH2.out.upd hu3 (by intro h; omega))
  replace HX := Hi (blk_upd hu3 (by rw [hbx]; intro h; have := HPL.out; omega) HX2.out)
  replace HP := Hi (show ((W2.setCell ⟨p, 2, none⟩ (.map (some W.heap.size))).setCell ⟨p, 3, none⟩ (.map (some (W.heap.size + 1)))).heap[p]? = some (.cells #[s0, s1, .map (some W.heap.size), .map (some (W.heap.size + 1)), s4, s5, s6] 90) from blk_set (blk_set HP2.out 2 _) 3 _)
  have HR := Hi (heldR_nil kcB 93 2 ((W2.setCell ⟨p, 2, none⟩ (.map (some W.heap.size))).setCell ⟨p, 3, none⟩ (.map (some (W.heap.size + 1)))) F)
  have HBH := HBO
  have HBP := Hi (show p ≠ W.heap.size by omega)
  have HPH := Hi (show p ≠ W.heap.size + 1 by omega)
  have HBX := Hi (show bx ≠ W.heap.size by have := HWS.out; omega)
  have HFB := Hi (show ∀ x, x < w.heap.size → x = W.heap.size → F x ∨ x = p from fun x hx e => by have := HWS.out; omega)
  have HFH := Hi (show ∀ x, x < w.heap.size → x = W.heap.size + 1 → F x ∨ x = p from fun x hx e => by have := HWS.out; omega)
  have HF2 := Hi (show ∀ x, x < w.heap.size → F x → F x from fun x _ h => h)
  have HFX := HFX0
  rw [hbx] at HX HFX
  have HSW := Hi (show W.heap.size + 2 ≤ ((W2.setCell ⟨p, 2, none⟩ (.map (some W.heap.size))).setCell ⟨p, 3, none⟩ (.map (some (W.heap.size + 1)))).heap.size by rw [← hW2]; simp [World.setCell])
  clear hb2 hu3 hpw HB HB1 HB2 HP2 HX2 HM2 HH2 HBO HPL HHFP HFX0
  clear hW2
  generalize hW3 : (W2.setCell ⟨p, 2, none⟩ (.map (some W.heap.size))).setCell ⟨p, 3, none⟩ (.map (some (W.heap.size + 1))) = W3 at *
  clear hW3
  obtain ⟨bo, hbo⟩ : ∃ bo, W.heap.size = bo := ⟨_, rfl⟩
  rw [hbo] at HSW HFH HFB HBX HPH HBP HBH HP HH HM HWS ⊢
  obtain ⟨bh, hbh⟩ : ∃ bh, bo + 1 = bh := ⟨_, rfl⟩
  rw [hbh] at HFH HPH HBH HP HH ⊢
  have HBO2 := Hi hbo
  have HBH2 := Hi hbh
  clear hbo hbh
  obtain ⟨hm, hhm⟩ : ∃ hm : List (Int × Value), [] = hm := ⟨_, rfl⟩
  obtain ⟨m, hmm⟩ : ∃ m : List (Bk × Int), [] = m := ⟨_, rfl⟩
  rw [hhm] at HH HR
  replace HM := Hi (show MapB encB W3 bo (ownM m) by rw [← hmm]; exact HM.out)
  rw [hmm] at HR HLEN HK HND
  have HMM := Hi hmm
  clear hmm hhm
  have c0 := cell_regrown (show W3.cell? ⟨p, 2, none⟩ = some (.map (some bo)) from blk_cell HP.out 2)
  have x0 := cell_regrown (show W3.cell? ⟨bx, 0, none⟩ = some (.int .i64 k0) from blk_cell HX.out 0)
  have x1 := cell_regrown (show W3.cell? ⟨bx, 1, none⟩ = some (.int .i64 k1) from blk_cell HX.out 1)
  go_wp2
  refine wp_region_R 6 (by kernel_rfl) (by kernel_rfl) ?_
  simp only [List.take, List.drop]
  iterate 6 (first | (refine wpR_want (by kernel_rfl) rfl rfl ?_; intro K hK; go_big_quiet_op; go_big_quiet_on) | (refine wpR_is (by kernel_rfl) rfl _ (fun w _ => rfl) ?_; simp only [Act.put, l_T, l_S, l_Z]))
  refine wpR_nil (by kernel_rfl) (by simp) ?_
  rintro w5 hb5
  simp only [exAll]
  clear c0 x0 x1
  have hm5 : ∃ es clk, w5.heap[bo]? = some (.map es clk) := by obtain ⟨es, clk, h, _⟩ := HM.out.stay hb5; exact ⟨es, clk, h⟩
  obtain ⟨w6, hrun, hM6, hu6⟩ := keyB.update Tryz.underlying80 (HM.out.stay hb5) ⟨k0, k1⟩ (.int .i64 s)
  rw [mset_new HK.out] at hM6
  replace HM := Hi hM6
  replace HP := Hi (blk_upd hu6 HBP.out (blk_stay hb5 HP.out))
  replace HX := Hi (blk_upd hu6 HBX.out (blk_stay hb5 HX.out))
  replace HH := Hi ((HH.out.stay hb5).upd hu6 (Ne.symm HBH.out))
  replace HR := Hi ((HR.out.upd (Upd.of_below (F := fun _ => False) hb5) (fun _ _ _ _ _ h => h)).upd hu6 (fun t v g ht hv hg => by
   have hHR := HR.out.upd (Upd.of_below (F := fun _ => False) hb5) (fun _ _ _ _ _ h => h)
   obtain ⟨es5, clk5, hes5⟩ := hm5
   exact hHR.ne_map (s := t) hes5 (by rw [ht]; exact hv) hg))
  have HU := Hi (Upd.then HU0.out (Upd.then (Upd.of_below (F := fun b => b = bo) hb5) hu6 (fun _ _ h => h)) HFB.out)
  clear hM6 hu6 hb5 hm5
  simp only [List.drop]
  obtain ⟨v0, hv0⟩ : ∃ v0, (asc s hm).getD (.slice none 0 0) = v0 := ⟨_, rfl⟩
  go_wp2
  clear hrun
  generalize hΓ : ghA (93) w6 v0 ((heldOf m s).length + 1) ((heldOf m s).flatMap kcB ++ kcB ⟨k0, k1⟩) 2 = Γ
  have HΓ : ∀ vs w, Γ.inv vs w → Upd (fun b => v0.ownBlock = some b) w6 w := fun vs w h => by rw [← hΓ] at h; exact ghA_upd h
  have rp : ¬ v0.ownBlock = some p := fun h => HR.out.ne_cells (s := s) (by decide) HP.out (by rw [hv0]; exact h) rfl
  have rx : ¬ v0.ownBlock = some bx := fun h => by
   have hF := HR.out.own_F (s := s) (by rw [hv0]; exact h)
   exact HFX.out hF
  have rh : ¬ v0.ownBlock = some bh := fun h => by
   obtain ⟨es, clk, hes, _⟩ := HH.out
   exact HR.out.ne_map (s := s) hes (by rw [hv0]; exact h) rfl
  have c0 : ∀ q : Γ.Wd, q.w.cell? ⟨p, 3, none⟩ = some (.map (some bh)) := fun q => (HΓ _ _ q.h).keep rp (blk_cell HP.out 3)
  have x0 : ∀ q : Γ.Wd, q.w.cell? ⟨bx, 0, none⟩ = some (.int .i64 k0) := fun q => (HΓ _ _ q.h).keep rx (blk_cell HX.out 0)
  have x1 : ∀ q : Γ.Wd, q.w.cell? ⟨bx, 1, none⟩ = some (.int .i64 k1) := fun q => (HΓ _ _ q.h).keep rx (blk_cell HX.out 1)
  have hl : ∀ q : Γ.Wd, (Instr.lookup 81 (.map (some bh)) (.int .i64 s) false).run Tryz.prog q.w = .ok v0 q.w := fun q => by
   have := keyN.lookup Tryz.underlying81 (zeroRB q.w) (HH.out.upd (HΓ _ _ q.h) rh) s false
   rw [← hv0]; exact this
  have hst : Γ.inv [] w6 := by rw [← hΓ]; exact Below.refl _ _
  have HGE := Hi hΓ
  have HGU := Hi HΓ
  have HV0 := Hi hv0
  have RP := Hi rp
  have RX := Hi rx
  have RH := Hi rh
  have neΓ : Nonempty Γ.Wd := ⟨⟨[], w6, hst⟩⟩
  have hno : ∀ vs b, Γ.own vs b → b < w6.heap.size := fun vs b h => by
   rw [← hΓ] at h
   exact HR.out.own_lt (s := s) (by rw [hv0]; exact ghA_own h)
  have HNO := Hi hno
  clear hΓ HΓ hv0 rp rx rh hno
  refine wp_region_H Γ 14 [13] (by kernel_rfl) (by kernel_rfl) (by kernel_rfl) (by kernel_rfl) hst ?_
  clear hst
  simp only [List.take, List.drop]
  iterate 12 (first | (refine wpH_want (by kernel_rfl) (by kernel_rfl) rfl rfl ?_; intro K hK; go_big_quiet_op; go_big_quiet_on) | (refine wpH_is (by kernel_rfl) (by kernel_rfl) rfl _ (fun _ w _ => rfl) ?_; simp only [Act.put, l_T, l_S, l_Z]))
  refine wpH_ex (gblk Γ w6.heap.size (fun b => .slice (some ⟨b, 0, none⟩) 1 1) (.cells #[.int .i64 k0, .int .i64 k1] 93)) (gblk_lasts _ _ _ _) (by kernel_rfl) (by kernel_rfl) (fun a' g hg he => ?_) (fun d hd => ?_)
  ·
   obtain ⟨h36, _⟩ := he
   have h36' : a'.eval (.tmp 36) = .agg #[.int .i64 k0, .int .i64 k1] := h36
   refine wp_of_value (v := .slice (some ⟨g.w.heap.size, 0, none⟩) 1 1) (w' := g.w.alloc (.cells #[.int .i64 k0, .int .i64 k1] 93)) (run_v_ok ?_) ⟨_, rfl, (Below.refl _ _).alloc (Nat.le_refl _) _, gblk_new (V := fun b => .slice (some ⟨b, 0, none⟩) 1 1) _ (fun b hb => Nat.lt_of_lt_of_le (HNO.out _ _ hb) (HGU.out _ _ hg).size) (HGU.out _ _ hg).size⟩
   simp only [List.map_toArray, List.map_cons, List.map_nil, h36']
   exact run_bsB _ _ _
  cases hd
  simp only [List.nil_append]
  refine wpH_chainX 0 (gnth 0) (gnth_lasts _ _) (by kernel_rfl) (by kernel_rfl) (fun a' g hg hgl he => ?_) (fun d hd => ?_)
  ·
   obtain ⟨h35, ⟨b, h37, hB, hcell, hno⟩, _⟩ := he
   have h35' : a'.eval (.tmp 35) = v0 := h35
   have h37' : a'.eval (.tmp 37) = .slice (some ⟨b, 0, none⟩) 1 1 := h37
   have hvs : g.vs = [] := List.eq_nil_of_length_eq_zero hgl
   have hup := HGU.out _ _ hg
   have hbe : Below w6.heap.size w6 g.w := by rw [← HGE.out, hvs] at hg; exact hg
   have hrow : g.w.ownsRow 0 93 2 v0 (heldOf m s).length ((heldOf m s).flatMap kcB) := ownsRow_below hbe (by have := HR.out.get s; rw [HV0.out] at this; exact this)
   obtain ⟨i0, hi, hz0, hz1, hz2⟩ := info_parts infoB
   refine wp_next (wp_app (.tmp 35) (.tmp 37) 152 rfl Tryz.underlying152 hi hz0 hz1 hz2 rfl (by decide) h35' hrow (kcB ⟨k0, k1⟩) h37' rfl (news_blk hcell) (kcB_one _) (by have := HLEN.out; unfold maxLen; omega) (by have := HLEN.out; omega) (Nat.zero_le _)) ?_
   rintro a'' w' ⟨v', rfl, hown, hu, hnear⟩
   refine ⟨v', rfl, ?_, by rw [hvs]; rfl⟩
   rw [hvs, ← HGE.out]
   refine ⟨⟨Upd.then (Upd.of_below hbe) hu (fun _ _ h => h), hown, fun g2 hg2 => ?_⟩, hu.size, fun b2 hb2 hn2 => hu.block b2 hb2 hn2, fun b2 hb2 => hb2.elim⟩
   rcases hnear with h | h | ⟨g3, h, h3⟩
   ·
    rw [h] at hg2; cases hg2
   ·
    exact .inl (h ▸ hg2)
   ·
    rw [h] at hg2; cases hg2; exact .inr (Nat.le_trans hbe.size h3)
  cases hd
  simp only [List.cons_append, List.nil_append]
  refine wpH_nil (by kernel_rfl) (by simp) ?_
  rintro ⟨vs, w7⟩ hg hgl
  obtain ⟨v1, rfl⟩ : ∃ v1, vs = [v1] := List.length_eq_one_iff.1 hgl
  simp only [gexAll]
  rintro u37 - u38 g38
  obtain rfl : v1 = u38 := by simpa [gnth] using g38
  have hg' : Upd (fun b => v0.ownBlock = some b) w6 w7 ∧ w7.ownsRow 0 93 2 v1 ((heldOf m s).length + 1) ((heldOf m s).flatMap kcB ++ kcB ⟨k0, k1⟩) ∧ ∀ g, v1.ownBlock = some g → v0.ownBlock = some g ∨ w6.heap.size ≤ g := by rw [← HGE.out] at hg; exact hg
  obtain ⟨hu7, hown7, hnear7⟩ := hg'
  have HH7 := HH.out.upd hu7 RH.out
  have HR7 := HR.out.add ⟨k0, k1⟩ s v1 (by rw [HV0.out]; exact hu7) hown7 (by rw [HV0.out]; exact hnear7)
  obtain ⟨w8, hrun, hH8, hu8⟩ := keyN.update Tryz.underlying81 HH7 s v1
  have hh7 : ∃ es clk, w7.heap[bh]? = some (.map es clk) := by obtain ⟨es, clk, h, _⟩ := HH7; exact ⟨es, clk, h⟩
  have HR8 := Hi (HR7.upd hu8 (fun t v g ht hv hg => by
   obtain ⟨es, clk, hes⟩ := hh7
   exact HR7.ne_map (s := t) hes (by rw [ht]; exact hv) hg))
  have HM8 := Hi ((HM.out.upd hu7 (fun h => by obtain ⟨es, clk, hes, _⟩ := HM.out; exact HR.out.ne_map (s := s) hes (by rw [HV0.out]; exact h) rfl)).upd hu8 HBH.out)
  have HP8 := Hi (blk_upd hu8 HPH.out (blk_upd hu7 RP.out HP.out))
  have HU8 := Hi ((HU.out.then hu7 (fun x hx h => .inl (HR.out.own_F (s := s) (by rw [HV0.out]; exact h) |> HF2.out x hx))).then hu8 (fun x hx h => HFH.out x hx h))
  have HH8 := Hi hH8
  have HN7 := Hi hnear7
  have HSZ := Hi (show w6.heap.size ≤ w7.heap.size from hu7.size)
  have HS8 := Hi (show w7.heap.size ≤ w8.heap.size from hu8.size)
  have HS1 := Hi (show ∀ g, v1.ownBlock = some g → g < w7.heap.size from fun g hg => by
   rcases hown7.2 with ⟨e, _⟩ | ⟨g', c, cur, e, _, hh, _⟩
   ·
    rw [e] at hg; cases hg
   ·
    rw [e] at hg; cases hg; exact (Array.getElem?_eq_some_iff.1 hh).1)
  have HS0 := Hi (show w.heap.size ≤ w6.heap.size from HU.out.size)
  clear hg hu7 hown7 hnear7 HH7 HR7 hH8 hu8 hh7 c0 hl g38 neΓ x0 x1
  simp only [Act.put, l_T, l_S, l_Z, List.drop]
  go_wp2
  go_end0
  rw [show [((⟨k0, k1⟩ : Bk), s)] = m ++ [(⟨k0, k1⟩, s)] by rw [← HMM.out]; rfl]
  refine ⟨rfl, .map (some bo), .map (some bh), fun b => (F b ∨ v1.ownBlock = some b) ∨ b = bo ∨ b = bh, HP8.out, ⟨keys_app HND.out HK.out, fun b hb => ?_, .inr ⟨bo, bh, _, rfl, rfl, HBH.out, .inr (.inl rfl), .inr (.inr rfl), HM8.out, HH8.out, HR8.out.mono (fun b h => .inl h)⟩⟩, fun b hb => ?_, HU8.out⟩
  ·
   rcases hb with (hb | hb) | hb | hb
   ·
    exact Nat.lt_of_lt_of_le (HBD.out b hb) HU8.out.size
   ·
    exact Nat.lt_of_lt_of_le (HS1.out b hb) HS8.out
   ·
    rw [hb]; exact HM8.out.lt
   ·
    rw [hb]; exact HH8.out.lt
  ·
   rcases hb with (hb | hb) | hb | hb
   ·
    exact .inl hb
   ·
    rcases HN7.out b hb with h | h
    ·
     exact .inl (HR.out.own_F (s := s) (by rw [HV0.out]; exact h))
    ·
     exact .inr (Nat.le_trans HS0.out h)
   ·
    have := HWS.out; exact .inr (by omega)
   ·
    have := HWS.out; have := HBH2.out; exact .inr (by omega)
 ·
  have HB := Hi hb
  have HM := Hi (hM.stay hb)
  have HH := Hi (hH.stay hb)
  have HR := Hi (hR.upd (Upd.of_below (F := fun _ => False) hb) (fun _ _ _ _ _ h => h))
  have HU0 := Hi (Upd.of_below (F := fun b => F b ∨ b = p) hb)
  have HND := Hi ht.nodup
  have HBD := Hi ht.bound
  have HBH := Hi hne
  have HBP := Hi (show p ≠ bo from fun e => hFp (e ▸ hFo))
  have HPH := Hi (show p ≠ bh from fun e => hFp (e ▸ hFh))
  have HFB := Hi (show ∀ x, x < w.heap.size → x = bo → F x ∨ x = p from fun x _ e => .inl (e ▸ hFo))
  have HFH := Hi (show ∀ x, x < w.heap.size → x = bh → F x ∨ x = p from fun x _ e => .inl (e ▸ hFh))
  have HF2 := Hi (show ∀ x, x < w.heap.size → F x → F x from fun x _ h => h)
  have HFX := Hi (show ¬ F w.heap.size from fun h => Nat.lt_irrefl _ (ht.bound _ h))
  have HFO := Hi hFo
  have HFHH := Hi hFh
  replace HBX := Hi (HBX.out bo (ht.bound _ hFo))
  clear hb hp hk hlen ht hne hFo hFh hM hH hR hFp hpl
  go_enter Tryz.func33, Tryz.ntmps33
  generalize hW : w.alloc (.cells #[.int .i64 k0, .int .i64 k1] 93) = W at HX HP HM HH HR HU0
  obtain ⟨bx, hbx⟩ : ∃ bx, w.heap.size = bx := ⟨_, rfl⟩
  have p0 : W.cell? ⟨p, 2, none⟩ = some (.map (some bo)) := blk_cell HP.out 2
  have e0 : (binOp .eql 80 (.map (some bo)) (.map none)).run Tryz.prog W = .ok (.bool false) W := by kernel_rfl
  go_wp2
  clear p0 e0
  rw [hbx] at HX HBX HFX
  have c0 := cell_regrown (show W.cell? ⟨p, 2, none⟩ = some (.map (some bo)) from blk_cell HP.out 2)
  have x0 := cell_regrown (show W.cell? ⟨bx, 0, none⟩ = some (.int .i64 k0) from blk_cell HX.out 0)
  have x1 := cell_regrown (show W.cell? ⟨bx, 1, none⟩ = some (.int .i64 k1) from blk_cell HX.out 1)
  go_wp2
  refine wp_region_R 6 (by kernel_rfl) (by kernel_rfl) ?_
  simp only [List.take, List.drop]
  iterate 6 (first | (refine wpR_want (by kernel_rfl) rfl rfl ?_; intro K hK; go_big_quiet_op; go_big_quiet_on) | (refine wpR_is (by kernel_rfl) rfl _ (fun w _ => rfl) ?_; simp only [Act.put, l_T, l_S, l_Z]))
  refine wpR_nil (by kernel_rfl) (by simp) ?_
  rintro w5 hb5
  simp only [exAll]
  clear c0 x0 x1
  have hm5 : ∃ es clk, w5.heap[bo]? = some (.map es clk) := by obtain ⟨es, clk, h, _⟩ := HM.out.stay hb5; exact ⟨es, clk, h⟩
  obtain ⟨w6, hrun, hM6, hu6⟩ := keyB.update Tryz.underlying80 (HM.out.stay hb5) ⟨k0, k1⟩ (.int .i64 s)
  rw [mset_new HK.out] at hM6
  replace HM := Hi hM6
  replace HP := Hi (blk_upd hu6 HBP.out (blk_stay hb5 HP.out))
  replace HX := Hi (blk_upd hu6 HBX.out (blk_stay hb5 HX.out))
  replace HH := Hi ((HH.out.stay hb5).upd hu6 (Ne.symm HBH.out))
  replace HR := Hi ((HR.out.upd (Upd.of_below (F := fun _ => False) hb5) (fun _ _ _ _ _ h => h)).upd hu6 (fun t v g ht hv hg => by
   have hHR := HR.out.upd (Upd.of_below (F := fun _ => False) hb5) (fun _ _ _ _ _ h => h)
   obtain ⟨es5, clk5, hes5⟩ := hm5
   exact hHR.ne_map (s := t) hes5 (by rw [ht]; exact hv) hg))
  have HU := Hi (Upd.then HU0.out (Upd.then (Upd.of_below (F := fun b => b = bo) hb5) hu6 (fun _ _ h => h)) HFB.out)
  clear hM6 hu6 hb5 hm5
  simp only [List.drop]
  obtain ⟨v0, hv0⟩ : ∃ v0, (asc s hm).getD (.slice none 0 0) = v0 := ⟨_, rfl⟩
  go_wp2
  clear hrun
  generalize hΓ : ghA (93) w6 v0 ((heldOf m s).length + 1) ((heldOf m s).flatMap kcB ++ kcB ⟨k0, k1⟩) 2 = Γ
  have HΓ : ∀ vs w, Γ.inv vs w → Upd (fun b => v0.ownBlock = some b) w6 w := fun vs w h => by rw [← hΓ] at h; exact ghA_upd h
  have rp : ¬ v0.ownBlock = some p := fun h => HR.out.ne_cells (s := s) (by decide) HP.out (by rw [hv0]; exact h) rfl
  have rx : ¬ v0.ownBlock = some bx := fun h => by
   have hF := HR.out.own_F (s := s) (by rw [hv0]; exact h)
   exact HFX.out hF
  have rh : ¬ v0.ownBlock = some bh := fun h => by
   obtain ⟨es, clk, hes, _⟩ := HH.out
   exact HR.out.ne_map (s := s) hes (by rw [hv0]; exact h) rfl
  have c0 : ∀ q : Γ.Wd, q.w.cell? ⟨p, 3, none⟩ = some (.map (some bh)) := fun q => (HΓ _ _ q.h).keep rp (blk_cell HP.out 3)
  have x0 : ∀ q : Γ.Wd, q.w.cell? ⟨bx, 0, none⟩ = some (.int .i64 k0) := fun q => (HΓ _ _ q.h).keep rx (blk_cell HX.out 0)
  have x1 : ∀ q : Γ.Wd, q.w.cell? ⟨bx, 1, none⟩ = some (.int .i64 k1) := fun q => (HΓ _ _ q.h).keep rx (blk_cell HX.out 1)
  have hl : ∀ q : Γ.Wd, (Instr.lookup 81 (.map (some bh)) (.int .i64 s) false).run Tryz.prog q.w = .ok v0 q.w := fun q => by
   have := keyN.lookup Tryz.underlying81 (zeroRB q.w) (HH.out.upd (HΓ _ _ q.h) rh) s false
   rw [← hv0]; exact this
  have hst : Γ.inv [] w6 := by rw [← hΓ]; exact Below.refl _ _
  have HGE := Hi hΓ
  have HGU := Hi HΓ
  have HV0 := Hi hv0
  have RP := Hi rp
  have RX := Hi rx
  have RH := Hi rh
  have neΓ : Nonempty Γ.Wd := ⟨⟨[], w6, hst⟩⟩
  have hno : ∀ vs b, Γ.own vs b → b < w6.heap.size := fun vs b h => by
   rw [← hΓ] at h
   exact HR.out.own_lt (s := s) (by rw [hv0]; exact ghA_own h)
  have HNO := Hi hno
  clear hΓ HΓ hv0 rp rx rh hno
  refine wp_region_H Γ 14 [13] (by kernel_rfl) (by kernel_rfl) (by kernel_rfl) (by kernel_rfl) hst ?_
  clear hst
  simp only [List.take, List.drop]
  iterate 12 (first | (refine wpH_want (by kernel_rfl) (by kernel_rfl) rfl rfl ?_; intro K hK; go_big_quiet_op; go_big_quiet_on) | (refine wpH_is (by kernel_rfl) (by kernel_rfl) rfl _ (fun _ w _ => rfl) ?_; simp only [Act.put, l_T, l_S, l_Z]))
  refine wpH_ex (gblk Γ w6.heap.size (fun b => .slice (some ⟨b, 0, none⟩) 1 1) (.cells #[.int .i64 k0, .int .i64 k1] 93)) (gblk_lasts _ _ _ _) (by kernel_rfl) (by kernel_rfl) (fun a' g hg he => ?_) (fun d hd => ?_)
  ·
   obtain ⟨h36, _⟩ := he
   have h36' : a'.eval (.tmp 36) = .agg #[.int .i64 k0, .int .i64 k1] := h36
   refine wp_of_value (v := .slice (some ⟨g.w.heap.size, 0, none⟩) 1 1) (w' := g.w.alloc (.cells #[.int .i64 k0, .int .i64 k1] 93)) (run_v_ok ?_) ⟨_, rfl, (Below.refl _ _).alloc (Nat.le_refl _) _, gblk_new (V := fun b => .slice (some ⟨b, 0, none⟩) 1 1) _ (fun b hb => Nat.lt_of_lt_of_le (HNO.out _ _ hb) (HGU.out _ _ hg).size) (HGU.out _ _ hg).size⟩
   simp only [List.map_toArray, List.map_cons, List.map_nil, h36']
   exact run_bsB _ _ _
  cases hd
  simp only [List.nil_append]
  refine wpH_chainX 0 (gnth 0) (gnth_lasts _ _) (by kernel_rfl) (by kernel_rfl) (fun a' g hg hgl he => ?_) (fun d hd => ?_)
  ·
   obtain ⟨h35, ⟨b, h37, hB, hcell, hno⟩, _⟩ := he
   have h35' : a'.eval (.tmp 35) = v0 := h35
   have h37' : a'.eval (.tmp 37) = .slice (some ⟨b, 0, none⟩) 1 1 := h37
   have hvs : g.vs = [] := List.eq_nil_of_length_eq_zero hgl
   have hup := HGU.out _ _ hg
   have hbe : Below w6.heap.size w6 g.w := by rw [← HGE.out, hvs] at hg; exact hg
   have hrow : g.w.ownsRow 0 93 2 v0 (heldOf m s).length ((heldOf m s).flatMap kcB) := ownsRow_below hbe (by have := HR.out.get s; rw [HV0.out] at this; exact this)
   obtain ⟨i0, hi, hz0, hz1, hz2⟩ := info_parts infoB
   refine wp_next (wp_app (.tmp 35) (.tmp 37) 152 rfl Tryz.underlying152 hi hz0 hz1 hz2 rfl (by decide) h35' hrow (kcB ⟨k0, k1⟩) h37' rfl (news_blk hcell) (kcB_one _) (by have := HLEN.out; unfold maxLen; omega) (by have := HLEN.out; omega) (Nat.zero_le _)) ?_
   rintro a'' w' ⟨v', rfl, hown, hu, hnear⟩
   refine ⟨v', rfl, ?_, by rw [hvs]; rfl⟩
   rw [hvs, ← HGE.out]
   refine ⟨⟨Upd.then (Upd.of_below hbe) hu (fun _ _ h => h), hown, fun g2 hg2 => ?_⟩, hu.size, fun b2 hb2 hn2 => hu.block b2 hb2 hn2, fun b2 hb2 => hb2.elim⟩
   rcases hnear with h | h | ⟨g3, h, h3⟩
   ·
    rw [h] at hg2; cases hg2
   ·
    exact .inl (h ▸ hg2)
   ·
    rw [h] at hg2; cases hg2; exact .inr (Nat.le_trans hbe.size h3)
  cases hd
  simp only [List.cons_append, List.nil_append]
  refine wpH_nil (by kernel_rfl) (by simp) ?_
  rintro ⟨vs, w7⟩ hg hgl
  obtain ⟨v1, rfl⟩ : ∃ v1, vs = [v1] := List.length_eq_one_iff.1 hgl
  simp only [gexAll]
  rintro u37 - u38 g38
  obtain rfl : v1 = u38 := by simpa [gnth] using g38
  have hg' : Upd (fun b => v0.ownBlock = some b) w6 w7 ∧ w7.ownsRow 0 93 2 v1 ((heldOf m s).length + 1) ((heldOf m s).flatMap kcB ++ kcB ⟨k0, k1⟩) ∧ ∀ g, v1.ownBlock = some g → v0.ownBlock = some g ∨ w6.heap.size ≤ g := by rw [← HGE.out] at hg; exact hg
  obtain ⟨hu7, hown7, hnear7⟩ := hg'
  have HH7 := HH.out.upd hu7 RH.out
  have HR7 := HR.out.add ⟨k0, k1⟩ s v1 (by rw [HV0.out]; exact hu7) hown7 (by rw [HV0.out]; exact hnear7)
  obtain ⟨w8, hrun, hH8, hu8⟩ := keyN.update Tryz.underlying81 HH7 s v1
  have hh7 : ∃ es clk, w7.heap[bh]? = some (.map es clk) := by obtain ⟨es, clk, h, _⟩ := HH7; exact ⟨es, clk, h⟩
  have HR8 := Hi (HR7.upd hu8 (fun t v g ht hv hg => by
   obtain ⟨es, clk, hes⟩ := hh7
   exact HR7.ne_map (s := t) hes (by rw [ht]; exact hv) hg))
  have HM8 := Hi ((HM.out.upd hu7 (fun h => by obtain ⟨es, clk, hes, _⟩ := HM.out; exact HR.out.ne_map (s := s) hes (by rw [HV0.out]; exact h) rfl)).upd hu8 HBH.out)
  have HP8 := Hi (blk_upd hu8 HPH.out (blk_upd hu7 RP.out HP.out))
  have HU8 := Hi ((HU.out.then hu7 (fun x hx h => .inl (HR.out.own_F (s := s) (by rw [HV0.out]; exact h) |> HF2.out x hx))).then hu8 (fun x hx h => HFH.out x hx h))
  have HH8 := Hi hH8
  have HN7 := Hi hnear7
  have HSZ := Hi (show w6.heap.size ≤ w7.heap.size from hu7.size)
  have HS8 := Hi (show w7.heap.size ≤ w8.heap.size from hu8.size)
  have HS1 := Hi (show ∀ g, v1.ownBlock = some g → g < w7.heap.size from fun g hg => by
   rcases hown7.2 with ⟨e, _⟩ | ⟨g', c, cur, e, _, hh, _⟩
   ·
    rw [e] at hg; cases hg
   ·
    rw [e] at hg; cases hg; exact (Array.getElem?_eq_some_iff.1 hh).1)
  have HS0 := Hi (show w.heap.size ≤ w6.heap.size from HU.out.size)
  clear hg hu7 hown7 hnear7 HH7 HR7 hH8 hu8 hh7 c0 hl g38 neΓ x0 x1
  simp only [Act.put, l_T, l_S, l_Z, List.drop]
  go_wp2
  go_end0
  refine ⟨rfl, .map (some bo), .map (some bh), fun b => F b ∨ v1.ownBlock = some b, HP8.out, ⟨keys_app HND.out HK.out, fun b hb => ?_, .inr ⟨bo, bh, _, rfl, rfl, HBH.out, .inl HFO.out, .inl HFHH.out, HM8.out, HH8.out, HR8.out⟩⟩, fun b hb => ?_, HU8.out⟩
  ·
   rcases hb with hb | hb
   ·
    exact Nat.lt_of_lt_of_le (HBD.out b hb) HU8.out.size
   ·
    exact Nat.lt_of_lt_of_le (HS1.out b hb) HS8.out
  ·
   rcases hb with hb | hb
   ·
    exact .inl hb
   ·
    rcases HN7.out b hb with h | h
    ·
     exact .inl (HR.out.own_F (s := s) (by rw [HV0.out]; exact h))
    ·
     exact .inr (Nat.le_trans HS0.out h)
def AddPostC (w : World) (p : Nat) (s0 s1 s2 s3 s4 s5 s6 : Value) (m : List (Ck × Int)) (F : Nat → Prop) (e : Ending) (w' : World) : Prop :=
 e = .returned (.tuple #[]) ∧ ∃ o h F', w'.heap[p]? = some (.cells #[s0, s1, s2, s3, o, h, s6] 90) ∧ TabAt encC kcC 112 3 w' o h m F' ∧ (∀ b, F' b → F b ∨ w.heap.size ≤ b) ∧ Upd (fun b => F b ∨ b = p) w w'
theorem addC_any (k : Ck) (s : Int) (p : Nat) (s0 s1 s2 s3 s4 s5 s6 : Value) (m : List (Ck × Int)) (F : Nat → Prop) (w : World) (hp : w.heap[p]? = some (.cells #[s0, s1, s2, s3, s4, s5, s6] 90)) (ht : TabAt encC kcC 112 3 w s4 s5 m F) (hFp : ¬ F p) (hk : k ∉ keys m) (hlen : m.length ≤ 1000000) :
  Calls Tryz.prog 73 #[.pointer (some ⟨p, 4, none⟩), encC k, .int .i64 s] w (AddPostC w p s0 s1 s2 s3 s4 s5 s6 (m ++ [(k, s)]) F) := by
 obtain ⟨k0, k1, k2⟩ := k
 have hb := below_one w (.cells #[.int .i64 k0, .int .i64 k1, .int .i64 k2] 112)
 have HX := Hi (show (w.alloc (.cells #[.int .i64 k0, .int .i64 k1, .int .i64 k2] 112)).heap[w.heap.size]? = some (.cells #[.int .i64 k0, .int .i64 k1, .int .i64 k2] 112) by show (w.heap.push _)[w.heap.size]? = _; simp)
 have HP := Hi (blk_stay hb hp)
 have HK := Hi hk
 have HLEN := Hi (show (heldOf m s).length ≤ 1000000 from Nat.le_trans (by simp only [heldOf, List.length_map]; exact List.length_filter_le _ _) hlen)
 have hpl := blk_lt hp
 have HBX := Hi (show ∀ b, b < w.heap.size → w.heap.size ≠ b from fun b h e => by omega)
 rcases ht.is with ⟨rfl, rfl, rfl⟩ | ⟨bo, bh, hm, rfl, rfl, hne, hFo, hFh, hM, hH, hR⟩
 ·
  have HND := Hi (show (keys ([] : List (Ck × Int))).Nodup by simp [keys])
  have HBD := Hi ht.bound
  have HFX0 := Hi (show ¬ F w.heap.size from fun h => Nat.lt_irrefl _ (ht.bound _ h))
  have HHFP := Hi hFp
  have HPL := Hi hpl
  have HB := Hi hb
  clear hb hp hk hlen ht hFp hpl HBX
  go_enter Tryz.func73, Tryz.ntmps73
  generalize hW : w.alloc (.cells #[.int .i64 k0, .int .i64 k1, .int .i64 k2] 112) = W at HX HP HB
  have HWS := Hi (show W.heap.size = w.heap.size + 1 by rw [← hW]; simp)
  obtain ⟨bx, hbx⟩ : ∃ bx, w.heap.size = bx := ⟨_, rfl⟩
  have p0 : W.cell? ⟨p, 4, none⟩ = some (.map none) := blk_cell HP.out 4
  have e0 : (binOp .eql 84 (.map none) (.map none)).run Tryz.prog W = .ok (.bool true) W := by kernel_rfl
  have hmk := @run_makeMap Tryz.prog
  obtain ⟨W2, hW2⟩ : ∃ y, (W.alloc (.map #[] 0)).alloc (.map #[] 0) = y := ⟨_, rfl⟩
  have HB1 := Hi (below_one W (.map #[] 0))
  have HB2 := Hi (show Below (W.alloc (.map #[] 0)).heap.size (W.alloc (.map #[] 0)) W2 by rw [← hW2]; exact below_one _ _)
  have HP2 := Hi (blk_stay (below_mid HB1.out HB2.out) HP.out)
  have HX2 := Hi (blk_stay (below_mid HB1.out HB2.out) HX.out)
  have HM2 := Hi ((mapB_new encC W).stay HB2.out)
  have HH2 := Hi (show MapB encI W2 (W.heap.size + 1) [] by have := mapB_new encI (W.alloc (.map #[] 0)); rw [hW2] at this; simpa using this)
  have q0 : W2.cell? ⟨p, 4, none⟩ = some (.map none) := blk_cell HP2.out 4
  have q1 : W2.cell? ⟨p, 5, none⟩ = some (.map none) := blk_cell HP2.out 5
  have z0 : W2.frozen? ⟨p, 4, none⟩ = false := blk_frz HP2.out 4
  have z1 : W2.frozen? ⟨p, 5, none⟩ = false := blk_frz HP2.out 5
  go_wp2
  clear p0 e0 hmk q0 q1 z0 z1
  have HBO := Hi (show W.heap.size ≠ W.heap.size + 1 by omega)
  have hb2 : Below W.heap.size W W2 := below_mid HB1.out HB2.out
  have hu3 : Upd (fun b => b = p) W2 ((W2.setCell ⟨p, 4, none⟩ (.map (some W.heap.size))).setCell ⟨p, 5, none⟩ (.map (some (W.heap.size + 1)))) := Upd.setCell (p := ⟨p, 5, none⟩) (Upd.setCell (p := ⟨p, 4, none⟩) (Upd.refl (fun b => b = p) W2) (fun _ => rfl) _) (fun _ => rfl) _
  have HU0 := Hi (show Upd (fun b => F b ∨ b = p) w ((W2.setCell ⟨p, 4, none⟩ (.map (some W.heap.size))).setCell ⟨p, 5, none⟩ (.map (some (W.heap.size + 1)))) from (Upd.of_below (below_mid HB.out hb2)).then hu3 (fun x _ h => .inr h))
  have hpw : p < W.heap.size := by have := HWS.out; have := HPL.out; omega
  have HM := Hi (HM2.out.upd hu3 (by intro h; omega))
  have HH := Hi (HH2.out.upd hu3 (by intro h; omega))
  replace HX := Hi (blk_upd hu3 (by rw [hbx]; intro h; have := HPL.out; omega) HX2.out)
  replace HP := Hi (show ((W2.setCell ⟨p, 4, none⟩ (.map (some W.heap.size))).setCell ⟨p, 5, none⟩ (.map (some (W.heap.size + 1)))).heap[p]? = some (.cells #[s0, s1, s2, s3, .map (some W.heap.size), .map (some (W.heap.size + 1)), s6] 90) from blk_set (blk_set HP2.out 4 _) 5 _)
  have HR := Hi (heldR_nil kcC 112 3 ((W2.setCell ⟨p, 4, none⟩ (.map (some W.heap.size))).setCell ⟨p, 5, none⟩ (.map (some (W.heap.size + 1)))) F)
  have HBH := HBO
  have HBP := Hi (show p ≠ W.heap.size by omega)
  have HPH := Hi (show p ≠ W.heap.size + 1 by omega)
  have HBX := Hi (show bx ≠ W.heap.size by have := HWS.out; omega)
  have HFB := Hi (show ∀ x, x < w.heap.size → x = W.heap.size → F x ∨ x = p from fun x hx e => by have := HWS.out; omega)
  have HFH := Hi (show ∀ x, x < w.heap.size → x = W.heap.size + 1 → F x ∨ x = p from fun x hx e => by have := HWS.out; omega)
  have HF2 := Hi (show ∀ x, x < w.heap.size → F x → F x from fun x _ h => h)
  have HFX := HFX0
  rw [hbx] at HX HFX
  have HSW := Hi (show W.heap.size + 2 ≤ ((W2.setCell ⟨p, 4, none⟩ (.map (some W.heap.size))).setCell ⟨p, 5, none⟩ (.map (some (W.heap.size + 1)))).heap.size by rw [← hW2]; simp [World.setCell])
  clear hb2 hu3 hpw HB HB1 HB2 HP2 HX2 HM2 HH2 HBO HPL HHFP HFX0
  clear hW2
  generalize hW3 : (W2.setCell ⟨p, 4, none⟩ (.map (some W.heap.size))).setCell ⟨p, 5, none⟩ (.map (some (W.heap.size + 1))) = W3 at *
  clear hW3
  obtain ⟨bo, hbo⟩ : ∃ bo, W.heap.size = bo := ⟨_, rfl⟩
  rw [hbo] at HSW HFH HFB HBX HPH HBP HBH HP HH HM HWS ⊢
  obtain ⟨bh, hbh⟩ : ∃ bh, bo + 1 = bh := ⟨_, rfl⟩
  rw [hbh] at HFH HPH HBH HP HH ⊢
  have HBO2 := Hi hbo
  have HBH2 := Hi hbh
  clear hbo hbh
  obtain ⟨hm, hhm⟩ : ∃ hm : List (Int × Value), [] = hm := ⟨_, rfl⟩
  obtain ⟨m, hmm⟩ : ∃ m : List (Ck × Int), [] = m := ⟨_, rfl⟩
  rw [hhm] at HH HR
  replace HM := Hi (show MapB encC W3 bo (ownM m) by rw [← hmm]; exact HM.out)
  rw [hmm] at HR HLEN HK HND
  have HMM := Hi hmm
  clear hmm hhm
  have c0 := cell_regrown (show W3.cell? ⟨p, 4, none⟩ = some (.map (some bo)) from blk_cell HP.out 4)
  have x0 := cell_regrown (show W3.cell? ⟨bx, 0, none⟩ = some (.int .i64 k0) from blk_cell HX.out 0)
  have x1 := cell_regrown (show W3.cell? ⟨bx, 1, none⟩ = some (.int .i64 k1) from blk_cell HX.out 1)
  have x2 := cell_regrown (show W3.cell? ⟨bx, 2, none⟩ = some (.int .i64 k2) from blk_cell HX.out 2)
  go_wp2
  refine wp_region_R 6 (by kernel_rfl) (by kernel_rfl) ?_
  simp only [List.take, List.drop]
  iterate 6 (first | (refine wpR_want (by kernel_rfl) rfl rfl ?_; intro K hK; go_big_quiet_op; go_big_quiet_on) | (refine wpR_is (by kernel_rfl) rfl _ (fun w _ => rfl) ?_; simp only [Act.put, l_T, l_S, l_Z]))
  refine wpR_nil (by kernel_rfl) (by simp) ?_
  rintro w5 hb5
  simp only [exAll]
  clear c0 x0 x1 x2
  have hm5 : ∃ es clk, w5.heap[bo]? = some (.map es clk) := by obtain ⟨es, clk, h, _⟩ := HM.out.stay hb5; exact ⟨es, clk, h⟩
  obtain ⟨w6, hrun, hM6, hu6⟩ := keyC.update Tryz.underlying84 (HM.out.stay hb5) ⟨k0, k1, k2⟩ (.int .i64 s)
  rw [mset_new HK.out] at hM6
  replace HM := Hi hM6
  replace HP := Hi (blk_upd hu6 HBP.out (blk_stay hb5 HP.out))
  replace HX := Hi (blk_upd hu6 HBX.out (blk_stay hb5 HX.out))
  replace HH := Hi ((HH.out.stay hb5).upd hu6 (Ne.symm HBH.out))
  replace HR := Hi ((HR.out.upd (Upd.of_below (F := fun _ => False) hb5) (fun _ _ _ _ _ h => h)).upd hu6 (fun t v g ht hv hg => by
   have hHR := HR.out.upd (Upd.of_below (F := fun _ => False) hb5) (fun _ _ _ _ _ h => h)
   obtain ⟨es5, clk5, hes5⟩ := hm5
   exact hHR.ne_map (s := t) hes5 (by rw [ht]; exact hv) hg))
  have HU := Hi (Upd.then HU0.out (Upd.then (Upd.of_below (F := fun b => b = bo) hb5) hu6 (fun _ _ h => h)) HFB.out)
  clear hM6 hu6 hb5 hm5
  simp only [List.drop]
  obtain ⟨v0, hv0⟩ : ∃ v0, (asc s hm).getD (.slice none 0 0) = v0 := ⟨_, rfl⟩
  go_wp2
  clear hrun
  generalize hΓ : ghA (112) w6 v0 ((heldOf m s).length + 1) ((heldOf m s).flatMap kcC ++ kcC ⟨k0, k1, k2⟩) 3 = Γ
  have HΓ : ∀ vs w, Γ.inv vs w → Upd (fun b => v0.ownBlock = some b) w6 w := fun vs w h => by rw [← hΓ] at h; exact ghA_upd h
  have rp : ¬ v0.ownBlock = some p := fun h => HR.out.ne_cells (s := s) (by decide) HP.out (by rw [hv0]; exact h) rfl
  have rx : ¬ v0.ownBlock = some bx := fun h => by
   have hF := HR.out.own_F (s := s) (by rw [hv0]; exact h)
   exact HFX.out hF
  have rh : ¬ v0.ownBlock = some bh := fun h => by
   obtain ⟨es, clk, hes, _⟩ := HH.out
   exact HR.out.ne_map (s := s) hes (by rw [hv0]; exact h) rfl
  have c0 : ∀ q : Γ.Wd, q.w.cell? ⟨p, 5, none⟩ = some (.map (some bh)) := fun q => (HΓ _ _ q.h).keep rp (blk_cell HP.out 5)
  have x0 : ∀ q : Γ.Wd, q.w.cell? ⟨bx, 0, none⟩ = some (.int .i64 k0) := fun q => (HΓ _ _ q.h).keep rx (blk_cell HX.out 0)
  have x1 : ∀ q : Γ.Wd, q.w.cell? ⟨bx, 1, none⟩ = some (.int .i64 k1) := fun q => (HΓ _ _ q.h).keep rx (blk_cell HX.out 1)
  have x2 : ∀ q : Γ.Wd, q.w.cell? ⟨bx, 2, none⟩ = some (.int .i64 k2) := fun q => (HΓ _ _ q.h).keep rx (blk_cell HX.out 2)
  have hl : ∀ q : Γ.Wd, (Instr.lookup 85 (.map (some bh)) (.int .i64 s) false).run Tryz.prog q.w = .ok v0 q.w := fun q => by
   have := keyN.lookup Tryz.underlying85 (zeroRC q.w) (HH.out.upd (HΓ _ _ q.h) rh) s false
   rw [← hv0]; exact this
  have hst : Γ.inv [] w6 := by rw [← hΓ]; exact Below.refl _ _
  have HGE := Hi hΓ
  have HGU := Hi HΓ
  have HV0 := Hi hv0
  have RP := Hi rp
  have RX := Hi rx
  have RH := Hi rh
  have neΓ : Nonempty Γ.Wd := ⟨⟨[], w6, hst⟩⟩
  have hno : ∀ vs b, Γ.own vs b → b < w6.heap.size := fun vs b h => by
   rw [← hΓ] at h
   exact HR.out.own_lt (s := s) (by rw [hv0]; exact ghA_own h)
  have HNO := Hi hno
  clear hΓ HΓ hv0 rp rx rh hno
  refine wp_region_H Γ 14 [13] (by kernel_rfl) (by kernel_rfl) (by kernel_rfl) (by kernel_rfl) hst ?_
  clear hst
  simp only [List.take, List.drop]
  iterate 12 (first | (refine wpH_want (by kernel_rfl) (by kernel_rfl) rfl rfl ?_; intro K hK; go_big_quiet_op; go_big_quiet_on) | (refine wpH_is (by kernel_rfl) (by kernel_rfl) rfl _ (fun _ w _ => rfl) ?_; simp only [Act.put, l_T, l_S, l_Z]))
  refine wpH_ex (gblk Γ w6.heap.size (fun b => .slice (some ⟨b, 0, none⟩) 1 1) (.cells #[.int .i64 k0, .int .i64 k1, .int .i64 k2] 112)) (gblk_lasts _ _ _ _) (by kernel_rfl) (by kernel_rfl) (fun a' g hg he => ?_) (fun d hd => ?_)
  ·
   obtain ⟨h36, _⟩ := he
   have h36' : a'.eval (.tmp 36) = .agg #[.int .i64 k0, .int .i64 k1, .int .i64 k2] := h36
   refine wp_of_value (v := .slice (some ⟨g.w.heap.size, 0, none⟩) 1 1) (w' := g.w.alloc (.cells #[.int .i64 k0, .int .i64 k1, .int .i64 k2] 112)) (run_v_ok ?_) ⟨_, rfl, (Below.refl _ _).alloc (Nat.le_refl _) _, gblk_new (V := fun b => .slice (some ⟨b, 0, none⟩) 1 1) _ (fun b hb => Nat.lt_of_lt_of_le (HNO.out _ _ hb) (HGU.out _ _ hg).size) (HGU.out _ _ hg).size⟩
   simp only [List.map_toArray, List.map_cons, List.map_nil, h36']
   exact run_bsC _ _ _ _
  cases hd
  simp only [List.nil_append]
  refine wpH_chainX 0 (gnth 0) (gnth_lasts _ _) (by kernel_rfl) (by kernel_rfl) (fun a' g hg hgl he => ?_) (fun d hd => ?_)
  ·
   obtain ⟨h35, ⟨b, h37, hB, hcell, hno⟩, _⟩ := he
   have h35' : a'.eval (.tmp 35) = v0 := h35
   have h37' : a'.eval (.tmp 37) = .slice (some ⟨b, 0, none⟩) 1 1 := h37
   have hvs : g.vs = [] := List.eq_nil_of_length_eq_zero hgl
   have hup := HGU.out _ _ hg
   have hbe : Below w6.heap.size w6 g.w := by rw [← HGE.out, hvs] at hg; exact hg
   have hrow : g.w.ownsRow 0 112 3 v0 (heldOf m s).length ((heldOf m s).flatMap kcC) := ownsRow_below hbe (by have := HR.out.get s; rw [HV0.out] at this; exact this)
   obtain ⟨i0, hi, hz0, hz1, hz2⟩ := info_parts infoC
   refine wp_next (wp_app (.tmp 35) (.tmp 37) 113 rfl Tryz.underlying113 hi hz0 hz1 hz2 rfl (by decide) h35' hrow (kcC ⟨k0, k1, k2⟩) h37' rfl (news_blk hcell) (kcC_one _) (by have := HLEN.out; unfold maxLen; omega) (by have := HLEN.out; omega) (Nat.zero_le _)) ?_
   rintro a'' w' ⟨v', rfl, hown, hu, hnear⟩
   refine ⟨v', rfl, ?_, by rw [hvs]; rfl⟩
   rw [hvs, ← HGE.out]
   refine ⟨⟨Upd.then (Upd.of_below hbe) hu (fun _ _ h => h), hown, fun g2 hg2 => ?_⟩, hu.size, fun b2 hb2 hn2 => hu.block b2 hb2 hn2, fun b2 hb2 => hb2.elim⟩
   rcases hnear with h | h | ⟨g3, h, h3⟩
   ·
    rw [h] at hg2; cases hg2
   ·
    exact .inl (h ▸ hg2)
   ·
    rw [h] at hg2; cases hg2; exact .inr (Nat.le_trans hbe.size h3)
  cases hd
  simp only [List.cons_append, List.nil_append]
  refine wpH_nil (by kernel_rfl) (by simp) ?_
  rintro ⟨vs, w7⟩ hg hgl
  obtain ⟨v1, rfl⟩ : ∃ v1, vs = [v1] := List.length_eq_one_iff.1 hgl
  simp only [gexAll]
  rintro u37 - u38 g38
  obtain rfl : v1 = u38 := by simpa [gnth] using g38
  have hg' : Upd (fun b => v0.ownBlock = some b) w6 w7 ∧ w7.ownsRow 0 112 3 v1 ((heldOf m s).length + 1) ((heldOf m s).flatMap kcC ++ kcC ⟨k0, k1, k2⟩) ∧ ∀ g, v1.ownBlock = some g → v0.ownBlock = some g ∨ w6.heap.size ≤ g := by rw [← HGE.out] at hg; exact hg
  obtain ⟨hu7, hown7, hnear7⟩ := hg'
  have HH7 := HH.out.upd hu7 RH.out
  have HR7 := HR.out.add ⟨k0, k1, k2⟩ s v1 (by rw [HV0.out]; exact hu7) hown7 (by rw [HV0.out]; exact hnear7)
  obtain ⟨w8, hrun, hH8, hu8⟩ := keyN.update Tryz.underlying85 HH7 s v1
  have hh7 : ∃ es clk, w7.heap[bh]? = some (.map es clk) := by obtain ⟨es, clk, h, _⟩ := HH7; exact ⟨es, clk, h⟩
  have HR8 := Hi (HR7.upd hu8 (fun t v g ht hv hg => by
   obtain ⟨es, clk, hes⟩ := hh7
   exact HR7.ne_map (s := t) hes (by rw [ht]; exact hv) hg))
  have HM8 := Hi ((HM.out.upd hu7 (fun h => by obtain ⟨es, clk, hes, _⟩ := HM.out; exact HR.out.ne_map (s := s) hes (by rw [HV0.out]; exact h) rfl)).upd hu8 HBH.out)
  have HP8 := Hi (blk_upd hu8 HPH.out (blk_upd hu7 RP.out HP.out))
  have HU8 := Hi ((HU.out.then hu7 (fun x hx h => .inl (HR.out.own_F (s := s) (by rw [HV0.out]; exact h) |> HF2.out x hx))).then hu8 (fun x hx h => HFH.out x hx h))
  have HH8 := Hi hH8
  have HN7 := Hi hnear7
  have HSZ := Hi (show w6.heap.size ≤ w7.heap.size from hu7.size)
  have HS8 := Hi (show w7.heap.size ≤ w8.heap.size from hu8.size)
  have HS1 := Hi (show ∀ g, v1.ownBlock = some g → g < w7.heap.size from fun g hg => by
   rcases hown7.2 with ⟨e, _⟩ | ⟨g', c, cur, e, _, hh, _⟩
   ·
    rw [e] at hg; cases hg
   ·
    rw [e] at hg; cases hg; exact (Array.getElem?_eq_some_iff.1 hh).1)
  have HS0 := Hi (show w.heap.size ≤ w6.heap.size from HU.out.size)
  clear hg hu7 hown7 hnear7 HH7 HR7 hH8 hu8 hh7 c0 hl g38 neΓ x0 x1 x2
  simp only [Act.put, l_T, l_S, l_Z, List.drop]
  go_wp2
  go_end0
  rw [show [((⟨k0, k1, k2⟩ : Ck), s)] = m ++ [(⟨k0, k1, k2⟩, s)] by rw [← HMM.out]; rfl]
  refine ⟨rfl, .map (some bo), .map (some bh), fun b => (F b ∨ v1.ownBlock = some b) ∨ b = bo ∨ b = bh, HP8.out, ⟨keys_app HND.out HK.out, fun b hb => ?_, .inr ⟨bo, bh, _, rfl, rfl, HBH.out, .inr (.inl rfl), .inr (.inr rfl), HM8.out, HH8.out, HR8.out.mono (fun b h => .inl h)⟩⟩, fun b hb => ?_, HU8.out⟩
  ·
   rcases hb with (hb | hb) | hb | hb
   ·
    exact Nat.lt_of_lt_of_le (HBD.out b hb) HU8.out.size
   ·
    exact Nat.lt_of_lt_of_le (HS1.out b hb) HS8.out
   ·
    rw [hb]; exact HM8.out.lt
   ·
    rw [hb]; exact HH8.out.lt
  ·
   rcases hb with (hb | hb) | hb | hb
   ·
    exact .inl hb
   ·
    rcases HN7.out b hb with h | h
    ·
     exact .inl (HR.out.own_F (s := s) (by rw [HV0.out]; exact h))
    ·
     exact .inr (Nat.le_trans HS0.out h)
   ·
    have := HWS.out; exact .inr (by omega)
   ·
    have := HWS.out; have := HBH2.out; exact .inr (by omega)
 ·
  have HB := Hi hb
  have HM := Hi (hM.stay hb)
  have HH := Hi (hH.stay hb)
  have HR := Hi (hR.upd (Upd.of_below (F := fun _ => False) hb) (fun _ _ _ _ _ h => h))
  have HU0 := Hi (Upd.of_below (F := fun b => F b ∨ b = p) hb)
  have HND := Hi ht.nodup
  have HBD := Hi ht.bound
  have HBH := Hi hne
  have HBP := Hi (show p ≠ bo from fun e => hFp (e ▸ hFo))
  have HPH := Hi (show p ≠ bh from fun e => hFp (e ▸ hFh))
  have HFB := Hi (show ∀ x, x < w.heap.size → x = bo → F x ∨ x = p from fun x _ e => .inl (e ▸ hFo))
  have HFH := Hi (show ∀ x, x < w.heap.size → x = bh → F x ∨ x = p from fun x _ e => .inl (e ▸ hFh))
  have HF2 := Hi (show ∀ x, x < w.heap.size → F x → F x from fun x _ h => h)
  have HFX := Hi (show ¬ F w.heap.size from fun h => Nat.lt_irrefl _ (ht.bound _ h))
  have HFO := Hi hFo
  have HFHH := Hi hFh
  replace HBX := Hi (HBX.out bo (ht.bound _ hFo))
  clear hb hp hk hlen ht hne hFo hFh hM hH hR hFp hpl
  go_enter Tryz.func73, Tryz.ntmps73
  generalize hW : w.alloc (.cells #[.int .i64 k0, .int .i64 k1, .int .i64 k2] 112) = W at HX HP HM HH HR HU0
  obtain ⟨bx, hbx⟩ : ∃ bx, w.heap.size = bx := ⟨_, rfl⟩
  have p0 : W.cell? ⟨p, 4, none⟩ = some (.map (some bo)) := blk_cell HP.out 4
  have e0 : (binOp .eql 84 (.map (some bo)) (.map none)).run Tryz.prog W = .ok (.bool false) W := by kernel_rfl
  go_wp2
  clear p0 e0
  rw [hbx] at HX HBX HFX
  have c0 := cell_regrown (show W.cell? ⟨p, 4, none⟩ = some (.map (some bo)) from blk_cell HP.out 4)
  have x0 := cell_regrown (show W.cell? ⟨bx, 0, none⟩ = some (.int .i64 k0) from blk_cell HX.out 0)
  have x1 := cell_regrown (show W.cell? ⟨bx, 1, none⟩ = some (.int .i64 k1) from blk_cell HX.out 1)
  have x2 := cell_regrown (show W.cell? ⟨bx, 2, none⟩ = some (.int .i64 k2) from blk_cell HX.out 2)
  go_wp2
  refine wp_region_R 6 (by kernel_rfl) (by kernel_rfl) ?_
  simp only [List.take, List.drop]
  iterate 6 (first | (refine wpR_want (by kernel_rfl) rfl rfl ?_; intro K hK; go_big_quiet_op; go_big_quiet_on) | (refine wpR_is (by kernel_rfl) rfl _ (fun w _ => rfl) ?_; simp only [Act.put, l_T, l_S, l_Z]))
  refine wpR_nil (by kernel_rfl) (by simp) ?_
  rintro w5 hb5
  simp only [exAll]
  clear c0 x0 x1 x2
  have hm5 : ∃ es clk, w5.heap[bo]? = some (.map es clk) := by obtain ⟨es, clk, h, _⟩ := HM.out.stay hb5; exact ⟨es, clk, h⟩
  obtain ⟨w6, hrun, hM6, hu6⟩ := keyC.update Tryz.underlying84 (HM.out.stay hb5) ⟨k0, k1, k2⟩ (.int .i64 s)
  rw [mset_new HK.out] at hM6
  replace HM := Hi hM6
  replace HP := Hi (blk_upd hu6 HBP.out (blk_stay hb5 HP.out))
  replace HX := Hi (blk_upd hu6 HBX.out (blk_stay hb5 HX.out))
  replace HH := Hi ((HH.out.stay hb5).upd hu6 (Ne.symm HBH.out))
  replace HR := Hi ((HR.out.upd (Upd.of_below (F := fun _ => False) hb5) (fun _ _ _ _ _ h => h)).upd hu6 (fun t v g ht hv hg => by
   have hHR := HR.out.upd (Upd.of_below (F := fun _ => False) hb5) (fun _ _ _ _ _ h => h)
   obtain ⟨es5, clk5, hes5⟩ := hm5
   exact hHR.ne_map (s := t) hes5 (by rw [ht]; exact hv) hg))
  have HU := Hi (Upd.then HU0.out (Upd.then (Upd.of_below (F := fun b => b = bo) hb5) hu6 (fun _ _ h => h)) HFB.out)
  clear hM6 hu6 hb5 hm5
  simp only [List.drop]
  obtain ⟨v0, hv0⟩ : ∃ v0, (asc s hm).getD (.slice none 0 0) = v0 := ⟨_, rfl⟩
  go_wp2
  clear hrun
  generalize hΓ : ghA (112) w6 v0 ((heldOf m s).length + 1) ((heldOf m s).flatMap kcC ++ kcC ⟨k0, k1, k2⟩) 3 = Γ
  have HΓ : ∀ vs w, Γ.inv vs w → Upd (fun b => v0.ownBlock = some b) w6 w := fun vs w h => by rw [← hΓ] at h; exact ghA_upd h
  have rp : ¬ v0.ownBlock = some p := fun h => HR.out.ne_cells (s := s) (by decide) HP.out (by rw [hv0]; exact h) rfl
  have rx : ¬ v0.ownBlock = some bx := fun h => by
   have hF := HR.out.own_F (s := s) (by rw [hv0]; exact h)
   exact HFX.out hF
  have rh : ¬ v0.ownBlock = some bh := fun h => by
   obtain ⟨es, clk, hes, _⟩ := HH.out
   exact HR.out.ne_map (s := s) hes (by rw [hv0]; exact h) rfl
  have c0 : ∀ q : Γ.Wd, q.w.cell? ⟨p, 5, none⟩ = some (.map (some bh)) := fun q => (HΓ _ _ q.h).keep rp (blk_cell HP.out 5)
  have x0 : ∀ q : Γ.Wd, q.w.cell? ⟨bx, 0, none⟩ = some (.int .i64 k0) := fun q => (HΓ _ _ q.h).keep rx (blk_cell HX.out 0)
  have x1 : ∀ q : Γ.Wd, q.w.cell? ⟨bx, 1, none⟩ = some (.int .i64 k1) := fun q => (HΓ _ _ q.h).keep rx (blk_cell HX.out 1)
  have x2 : ∀ q : Γ.Wd, q.w.cell? ⟨bx, 2, none⟩ = some (.int .i64 k2) := fun q => (HΓ _ _ q.h).keep rx (blk_cell HX.out 2)
  have hl : ∀ q : Γ.Wd, (Instr.lookup 85 (.map (some bh)) (.int .i64 s) false).run Tryz.prog q.w = .ok v0 q.w := fun q => by
   have := keyN.lookup Tryz.underlying85 (zeroRC q.w) (HH.out.upd (HΓ _ _ q.h) rh) s false
   rw [← hv0]; exact this
  have hst : Γ.inv [] w6 := by rw [← hΓ]; exact Below.refl _ _
  have HGE := Hi hΓ
  have HGU := Hi HΓ
  have HV0 := Hi hv0
  have RP := Hi rp
  have RX := Hi rx
  have RH := Hi rh
  have neΓ : Nonempty Γ.Wd := ⟨⟨[], w6, hst⟩⟩
  have hno : ∀ vs b, Γ.own vs b → b < w6.heap.size := fun vs b h => by
   rw [← hΓ] at h
   exact HR.out.own_lt (s := s) (by rw [hv0]; exact ghA_own h)
  have HNO := Hi hno
  clear hΓ HΓ hv0 rp rx rh hno
  refine wp_region_H Γ 14 [13] (by kernel_rfl) (by kernel_rfl) (by kernel_rfl) (by kernel_rfl) hst ?_
  clear hst
  simp only [List.take, List.drop]
  iterate 12 (first | (refine wpH_want (by kernel_rfl) (by kernel_rfl) rfl rfl ?_; intro K hK; go_big_quiet_op; go_big_quiet_on) | (refine wpH_is (by kernel_rfl) (by kernel_rfl) rfl _ (fun _ w _ => rfl) ?_; simp only [Act.put, l_T, l_S, l_Z]))
  refine wpH_ex (gblk Γ w6.heap.size (fun b => .slice (some ⟨b, 0, none⟩) 1 1) (.cells #[.int .i64 k0, .int .i64 k1, .int .i64 k2] 112)) (gblk_lasts _ _ _ _) (by kernel_rfl) (by kernel_rfl) (fun a' g hg he => ?_) (fun d hd => ?_)
  ·
   obtain ⟨h36, _⟩ := he
   have h36' : a'.eval (.tmp 36) = .agg #[.int .i64 k0, .int .i64 k1, .int .i64 k2] := h36
   refine wp_of_value (v := .slice (some ⟨g.w.heap.size, 0, none⟩) 1 1) (w' := g.w.alloc (.cells #[.int .i64 k0, .int .i64 k1, .int .i64 k2] 112)) (run_v_ok ?_) ⟨_, rfl, (Below.refl _ _).alloc (Nat.le_refl _) _, gblk_new (V := fun b => .slice (some ⟨b, 0, none⟩) 1 1) _ (fun b hb => Nat.lt_of_lt_of_le (HNO.out _ _ hb) (HGU.out _ _ hg).size) (HGU.out _ _ hg).size⟩
   simp only [List.map_toArray, List.map_cons, List.map_nil, h36']
   exact run_bsC _ _ _ _
  cases hd
  simp only [List.nil_append]
  refine wpH_chainX 0 (gnth 0) (gnth_lasts _ _) (by kernel_rfl) (by kernel_rfl) (fun a' g hg hgl he => ?_) (fun d hd => ?_)
  ·
   obtain ⟨h35, ⟨b, h37, hB, hcell, hno⟩, _⟩ := he
   have h35' : a'.eval (.tmp 35) = v0 := h35
   have h37' : a'.eval (.tmp 37) = .slice (some ⟨b, 0, none⟩) 1 1 := h37
   have hvs : g.vs = [] := List.eq_nil_of_length_eq_zero hgl
   have hup := HGU.out _ _ hg
   have hbe : Below w6.heap.size w6 g.w := by rw [← HGE.out, hvs] at hg; exact hg
   have hrow : g.w.ownsRow 0 112 3 v0 (heldOf m s).length ((heldOf m s).flatMap kcC) := ownsRow_below hbe (by have := HR.out.get s; rw [HV0.out] at this; exact this)
   obtain ⟨i0, hi, hz0, hz1, hz2⟩ := info_parts infoC
   refine wp_next (wp_app (.tmp 35) (.tmp 37) 113 rfl Tryz.underlying113 hi hz0 hz1 hz2 rfl (by decide) h35' hrow (kcC ⟨k0, k1, k2⟩) h37' rfl (news_blk hcell) (kcC_one _) (by have := HLEN.out; unfold maxLen; omega) (by have := HLEN.out; omega) (Nat.zero_le _)) ?_
   rintro a'' w' ⟨v', rfl, hown, hu, hnear⟩
   refine ⟨v', rfl, ?_, by rw [hvs]; rfl⟩
   rw [hvs, ← HGE.out]
   refine ⟨⟨Upd.then (Upd.of_below hbe) hu (fun _ _ h => h), hown, fun g2 hg2 => ?_⟩, hu.size, fun b2 hb2 hn2 => hu.block b2 hb2 hn2, fun b2 hb2 => hb2.elim⟩
   rcases hnear with h | h | ⟨g3, h, h3⟩
   ·
    rw [h] at hg2; cases hg2
   ·
    exact .inl (h ▸ hg2)
   ·
    rw [h] at hg2; cases hg2; exact .inr (Nat.le_trans hbe.size h3)
  cases hd
  simp only [List.cons_append, List.nil_append]
  refine wpH_nil (by kernel_rfl) (by simp) ?_
  rintro ⟨vs, w7⟩ hg hgl
  obtain ⟨v1, rfl⟩ : ∃ v1, vs = [v1] := List.length_eq_one_iff.1 hgl
  simp only [gexAll]
  rintro u37 - u38 g38
  obtain rfl : v1 = u38 := by simpa [gnth] using g38
  have hg' : Upd (fun b => v0.ownBlock = some b) w6 w7 ∧ w7.ownsRow 0 112 3 v1 ((heldOf m s).length + 1) ((heldOf m s).flatMap kcC ++ kcC ⟨k0, k1, k2⟩) ∧ ∀ g, v1.ownBlock = some g → v0.ownBlock = some g ∨ w6.heap.size ≤ g := by rw [← HGE.out] at hg; exact hg
  obtain ⟨hu7, hown7, hnear7⟩ := hg'
  have HH7 := HH.out.upd hu7 RH.out
  have HR7 := HR.out.add ⟨k0, k1, k2⟩ s v1 (by rw [HV0.out]; exact hu7) hown7 (by rw [HV0.out]; exact hnear7)
  obtain ⟨w8, hrun, hH8, hu8⟩ := keyN.update Tryz.underlying85 HH7 s v1
  have hh7 : ∃ es clk, w7.heap[bh]? = some (.map es clk) := by obtain ⟨es, clk, h, _⟩ := HH7; exact ⟨es, clk, h⟩
  have HR8 := Hi (HR7.upd hu8 (fun t v g ht hv hg => by
   obtain ⟨es, clk, hes⟩ := hh7
   exact HR7.ne_map (s := t) hes (by rw [ht]; exact hv) hg))
  have HM8 := Hi ((HM.out.upd hu7 (fun h => by obtain ⟨es, clk, hes, _⟩ := HM.out; exact HR.out.ne_map (s := s) hes (by rw [HV0.out]; exact h) rfl)).upd hu8 HBH.out)
  have HP8 := Hi (blk_upd hu8 HPH.out (blk_upd hu7 RP.out HP.out))
  have HU8 := Hi ((HU.out.then hu7 (fun x hx h => .inl (HR.out.own_F (s := s) (by rw [HV0.out]; exact h) |> HF2.out x hx))).then hu8 (fun x hx h => HFH.out x hx h))
  have HH8 := Hi hH8
  have HN7 := Hi hnear7
  have HSZ := Hi (show w6.heap.size ≤ w7.heap.size from hu7.size)
  have HS8 := Hi (show w7.heap.size ≤ w8.heap.size from hu8.size)
  have HS1 := Hi (show ∀ g, v1.ownBlock = some g → g < w7.heap.size from fun g hg => by
   rcases hown7.2 with ⟨e, _⟩ | ⟨g', c, cur, e, _, hh, _⟩
   ·
    rw [e] at hg; cases hg
   ·
    rw [e] at hg; cases hg; exact (Array.getElem?_eq_some_iff.1 hh).1)
  have HS0 := Hi (show w.heap.size ≤ w6.heap.size from HU.out.size)
  clear hg hu7 hown7 hnear7 HH7 HR7 hH8 hu8 hh7 c0 hl g38 neΓ x0 x1 x2
  simp only [Act.put, l_T, l_S, l_Z, List.drop]
  go_wp2
  go_end0
  refine ⟨rfl, .map (some bo), .map (some bh), fun b => F b ∨ v1.ownBlock = some b, HP8.out, ⟨keys_app HND.out HK.out, fun b hb => ?_, .inr ⟨bo, bh, _, rfl, rfl, HBH.out, .inl HFO.out, .inl HFHH.out, HM8.out, HH8.out, HR8.out⟩⟩, fun b hb => ?_, HU8.out⟩
  ·
   rcases hb with hb | hb
   ·
    exact Nat.lt_of_lt_of_le (HBD.out b hb) HU8.out.size
   ·
    exact Nat.lt_of_lt_of_le (HS1.out b hb) HS8.out
  ·
   rcases hb with hb | hb
   ·
    exact .inl hb
   ·
    rcases HN7.out b hb with h | h
    ·
     exact .inl (HR.out.own_F (s := s) (by rw [HV0.out]; exact h))
    ·
     exact .inr (Nat.le_trans HS0.out h)
end Go.Proofs.YtbhglemolpfnkaaGreatDoor
