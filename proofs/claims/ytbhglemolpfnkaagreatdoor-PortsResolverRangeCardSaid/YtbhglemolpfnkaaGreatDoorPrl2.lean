/- Contract of release, of both tables. Printed by wip/tools/gen23.py. -/
import Derived.Test.YtbhglemolpfnkaaGreatDoorPrel
set_option linter.unusedVariables false
set_option maxRecDepth 100000
set_option maxHeartbeats 32000000
namespace Go.Proofs.YtbhglemolpfnkaaGreatDoor
open Go.RowKit Go.Sort

theorem flat_get {κ : Type} (kc : κ → List Value) (sz : Nat) (h : ∀ k, (kc k).length = sz) : ∀ (l : List κ) (j : Nat) (hj : j < l.length) (i : Nat), i < sz → (l.flatMap kc)[j * sz + i]? = (kc l[j])[i]?
 | [], j, hj, i, _ => by simp at hj
 | a :: l, 0, hj, i, hi => by
  simp only [List.flatMap_cons, Nat.zero_mul, Nat.zero_add, List.getElem_cons_zero]
  rw [List.getElem?_append_left (by rw [h]; exact hi)]
 | a :: l, j + 1, hj, i, hi => by
  simp only [List.flatMap_cons, List.getElem_cons_succ]
  rw [List.getElem?_append_right (by rw [h, Nat.add_mul]; omega), h, show (j + 1) * sz + i - sz = j * sz + i by rw [Nat.add_mul]; omega]
  exact flat_get kc sz h l j (by simpa using hj) i hi
theorem cntP_cons (x : Ck × Int) (l : List (Ck × Int)) (y : Int) : cntP (x :: l) y = (if x.1.po = y then 1 else 0) + cntP l y := by
 unfold cntP
 by_cases h : x.1.po = y
 ·
  rw [List.filter_cons_of_pos (by simp [h]), if_pos h]; simp; omega
 ·
  rw [List.filter_cons_of_neg (by simp [h]), if_neg h]; simp
theorem cntP_nonneg (l : List (Ck × Int)) (y : Int) : 0 ≤ cntP l y := by unfold cntP; omega
theorem cntP_le (l : List (Ck × Int)) (y : Int) : cntP l y ≤ l.length := by unfold cntP; have := List.length_filter_le (fun x : Ck × Int => decide (x.1.po = y)) l; omega
theorem cntP_pos {l : List (Ck × Int)} {k : Ck} {s : Int} (h : (k, s) ∈ l) : 1 ≤ cntP l k.po := by
 unfold cntP
 have : (k, s) ∈ l.filter fun x => decide (x.1.po = k.po) := List.mem_filter.2 ⟨h, by simp⟩
 have := List.length_pos_of_mem this
 omega
theorem dele_absent {κ : Type} [DecidableEq κ] {k : κ} {l : List (κ × Int)} (h : k ∉ keys l) : dele k l = l := by
 unfold dele
 rw [List.filter_eq_self]
 intro y hy
 have : y.1 ≠ k := fun e => h (e ▸ List.mem_map_of_mem hy)
 simp [this]
theorem cnt_dele {k : Ck} : ∀ {l : List (Ck × Int)}, (keys l).Nodup → k ∈ keys l → ∀ y, cntP (dele k l) y = less (cntP l) k.po y
 | [], _, h, _ => by simp [keys] at h
 | x :: l, hn, hk, y => by
  simp only [keys, List.map_cons, List.nodup_cons] at hn
  by_cases hx : x.1 = k
  ·
   have : dele k (x :: l) = l := by
    unfold dele
    rw [List.filter_cons_of_neg (by simp [hx])]
    exact dele_absent (by rw [← hx]; exact hn.1)
   rw [this]
   unfold less
   rw [cntP_cons, hx]
   by_cases hy : y = k.po
   ·
    rw [if_pos hy, if_pos hy.symm]; omega
   ·
    rw [if_neg hy, if_neg (fun e => hy e.symm)]; omega
  ·
   have hk' : k ∈ keys l := by
    rcases List.mem_cons.1 hk with h | h
    ·
     exact absurd h.symm hx
    ·
     exact h
   have : dele k (x :: l) = x :: dele k l := by
    unfold dele
    rw [List.filter_cons_of_pos (by simp [hx])]
   rw [this, cntP_cons, cnt_dele hn.2 hk' y]
   unfold less
   rw [cntP_cons]
   by_cases hy : y = k.po
   ·
    rw [if_pos hy, if_pos hy]; omega
   ·
    rw [if_neg hy, if_neg hy]
def left {κ : Type} [DecidableEq κ] (m : List (κ × Int)) (s : Int) (j : Nat) : List (κ × Int) := m.filter fun x => x.1 ∉ (heldOf m s).take j
theorem left_zero {κ : Type} [DecidableEq κ] (m : List (κ × Int)) (s : Int) : left m s 0 = m := by simp [left]
theorem left_all {κ : Type} [DecidableEq κ] {m : List (κ × Int)} (hn : (keys m).Nodup) (s : Int) {j : Nat} (hj : (heldOf m s).length ≤ j) : left m s j = rel s m := by
 unfold left; rw [List.take_of_length_le hj]; exact dele_held hn s
theorem left_succ {κ : Type} [DecidableEq κ] (m : List (κ × Int)) (s : Int) {j : Nat} (hj : j < (heldOf m s).length) : dele (heldOf m s)[j] (left m s j) = left m s (j + 1) := by
 unfold left; rw [dele_step, List.take_succ_eq_append_getElem hj]
theorem left_nodup {κ : Type} [DecidableEq κ] {m : List (κ × Int)} (hn : (keys m).Nodup) (s : Int) (j : Nat) : (keys (left m s j)).Nodup := keys_filter _ hn
theorem left_mem {κ : Type} [DecidableEq κ] {m : List (κ × Int)} (hn : (keys m).Nodup) {s : Int} {j : Nat} (hj : j < (heldOf m s).length) : ((heldOf m s)[j], s) ∈ left m s j := by
 have h1 : (heldOf m s)[j] ∈ heldOf m s := List.getElem_mem _
 refine List.mem_filter.2 ⟨held_mem.1 h1, ?_⟩
 simp only [decide_eq_true_eq]
 intro h
 have hnd : (heldOf m s).Nodup := by unfold heldOf; exact keys_filter _ hn
 obtain ⟨i, hi, e⟩ := List.mem_take_iff_getElem.1 h
 exact List.pairwise_iff_getElem.1 hnd i j (by omega) hj (by omega) e
theorem row_lt {w : World} {base E sz n : Nat} {v : Value} {xs : List Value} (h : w.ownsRow base E sz v n xs) {g : Nat} (hg : v.ownBlock = some g) : g < w.heap.size := by
 rcases h.2 with ⟨e, _⟩ | ⟨g', c, cur, e, _, hh, _⟩
 ·
  rw [e] at hg; cases hg
 ·
  rw [e] at hg; cases hg; exact (Array.getElem?_eq_some_iff.1 hh).1

def RelPostB (w : World) (s6 : Value) (m : List (Bk × Int)) (s : Int) (so sh : Value) (F FL : Nat → Prop) (e : Ending) (w' : World) : Prop :=
 e = .returned (.tuple #[]) ∧ TabAt encB kcB 93 2 w' so sh (rel s m) F ∧ Upd (F) w w'
theorem relB_any (s : Int) (p : Nat) (s0 s1 s2 s3 s4 s5 s6 : Value) (m : List (Bk × Int)) (F : Nat → Prop) (w : World) (hp : w.heap[p]? = some (.cells #[s0, s1, s2, s3, s4, s5, s6] 90)) (ht : TabAt encB kcB 93 2 w s2 s3 m F) (hFp : ¬ F p) (hlen : m.length ≤ 1000000) :
  Calls Tryz.prog 74 #[.pointer (some ⟨p, 2, none⟩), .int .i64 s, .func (.func 75) #[] #[]] w (RelPostB w s6 m s s2 s3 F (fun _ => False)) := by
 have HND := Hi ht.nodup
 have HBD := Hi ht.bound
 rcases ht.is with ⟨rfl, rfl, rfl⟩ | ⟨bo, bh, hm, rfl, rfl, hne, hFo, hFh, hM, hH, hR⟩
 ·
  have c1 : w.cell? ⟨p, 3, none⟩ = some (.map none) := blk_cell hp 3
  have hl := keyN.lookup_nil Tryz.underlying81 (zeroRB w) s false
  have hdl := keyN.delete_nil Tryz.underlying81 w s 0 3
  simp only [lookV, Option.getD_none, if_neg (show ¬ (false = true) by decide), encI] at hl hdl
  go_enter Tryz.func74, Tryz.ntmps74
  go_wp2
  go_loopw [7, 15] (fun _ i wr => i = .int .i64 0 ∧ wr = w) (fun _ _ _ => 0)
  case atStart => exact ⟨rfl, rfl⟩
  case round =>
   obtain ⟨rfl, rfl⟩ := hrel
   go_wp2
   go_end0
   exact ⟨rfl, ht, Upd.refl _ _⟩
 ·
  have HM := Hi hM
  have HH := Hi hH
  have HR := Hi hR
  have HP := Hi hp
  have HBH := Hi hne
  have HFO := Hi hFo
  have HFH := Hi hFh
  have HBP := Hi (show p ≠ bo from fun e => hFp (e ▸ hFo))
  have HPH := Hi (show p ≠ bh from fun e => hFp (e ▸ hFh))
  have hn0 : (heldOf m s).length ≤ 1000000 := Nat.le_trans (by simp only [heldOf, List.length_map]; exact List.length_filter_le _ _) hlen
  have HLN := Hi hlen

  have c1 : w.cell? ⟨p, 3, none⟩ = some (.map (some bh)) := blk_cell hp 3
  have hl := keyN.lookup Tryz.underlying81 (zeroRB w) hH s false
  simp only [lookV, if_neg (show ¬ (false = true) by decide), encI] at hl
  have hrow := hR.get s
  have hno : ∀ g, ((asc s hm).getD (.slice none 0 0)).ownBlock = some g → g ≠ bo := fun g h => by
   obtain ⟨es, clk, hes, _⟩ := hM
   exact hR.ne_map (s := s) hes h
  obtain ⟨v0, hv0⟩ : ∃ v0, (asc s hm).getD (.slice none 0 0) = v0 := ⟨_, rfl⟩
  rw [hv0] at hl hrow hno
  obtain ⟨a0, cap0, rfl⟩ := row_slice hrow
  have HROW := Hi hrow
  have HNO := Hi hno
  have HV0 := Hi hv0
  clear hp ht hFp hlen hne hFo hFh hM hH hR hrow hno hv0
  go_enter Tryz.func74, Tryz.ntmps74
  go_wp2
  clear c1 hl
  go_loopw [7, 15] (fun _ i wr => ∃ j : Nat, j ≤ (heldOf m s).length ∧ i = .int .i64 j ∧ MapB encB wr bo (ownM (left m s j)) ∧ Upd (fun b => b = bo) w wr) (fun _ i _ => (heldOf m s).length - (intOf i).toNat)
  case atStart => exact ⟨0, Nat.zero_le _, rfl, by rw [left_zero]; exact HM.out, Upd.refl _ _⟩
  case round =>
   obtain ⟨j, hj, rfl, hMj, huj⟩ := hrel
   have HMJ := Hi hMj
   have HUJ := Hi huj
   clear hMj huj

   by_cases hlt : j < (heldOf m s).length
   ·
    obtain ⟨g, cap, e, hcap, hcell⟩ := row_cell HROW.out (by omega)
    cases e
    have hkey : ∀ i, i < 2 → wr.cell? ⟨g, j * 2 + i, none⟩ = (kcB (heldOf m s)[j])[i]? := fun i hi => by
     have h1 := hcell (j * 2 + i) (by omega)
     rw [flat_get kcB 2 (fun _ => rfl) _ j hlt i hi] at h1
     rw [World.cell?_of_block (HUJ.out.block g (row_lt HROW.out rfl) (HNO.out g rfl))]
     exact h1
    have hdel := left_succ m s hlt
    have hin := left_mem HND.out hlt
    have HDEL := Hi hdel
    have HIN := Hi hin
    clear hcell hdel hin
    have y0 : wr.cell? ⟨g, j * 2, none⟩ = some (.int .i64 (heldOf m s)[j].pr) := hkey 0 (by omega)
    have y1 : wr.cell? ⟨g, j * 2 + 1, none⟩ = some (.int .i64 (heldOf m s)[j].po) := hkey 1 (by omega)
    clear hkey
    generalize (heldOf m s)[j] = k at *
    obtain ⟨k0, k1⟩ := k
    generalize (heldOf m s).length = n at *
    have HP1 := Hi (blk_upd HUJ.out HBP.out HP.out)
    have hb := below_one wr (.cells #[.int .i64 k0, .int .i64 k1] 93)
    have HX := Hi (show (wr.alloc (.cells #[.int .i64 k0, .int .i64 k1] 93)).heap[wr.heap.size]? = some (.cells #[.int .i64 k0, .int .i64 k1] 93) by show (wr.heap.push _)[wr.heap.size]? = _; simp)
    replace HP1 := Hi (blk_stay hb HP1.out)
    have NX := Hi (show wr.heap.size ≠ bo from fun e => by have := HMJ.out.lt; omega)
    replace HMJ := Hi (HMJ.out.stay hb)
    replace HUJ := Hi (HUJ.out.thenB hb)
    clear hb
    go_wp2
    clear y0 y1
    generalize hW : wr.alloc (.cells #[.int .i64 k0, .int .i64 k1] 93) = W at HX HP1 HMJ HUJ
    obtain ⟨bx, hbx⟩ : ∃ bx, wr.heap.size = bx := ⟨_, rfl⟩
    rw [hbx] at HX NX
    have c0 := cell_regrown (show W.cell? ⟨p, 2, none⟩ = some (.map (some bo)) from blk_cell HP1.out 2)
    have x0 := cell_regrown (show W.cell? ⟨bx, 0, none⟩ = some (.int .i64 k0) from blk_cell HX.out 0)
    have x1 := cell_regrown (show W.cell? ⟨bx, 1, none⟩ = some (.int .i64 k1) from blk_cell HX.out 1)
    refine wp_region_R 5 (by kernel_rfl) (by kernel_rfl) ?_
    simp only [List.take, List.drop]
    iterate 5 (first | (refine wpR_want (by kernel_rfl) rfl rfl ?_; intro K hK; go_big_quiet_op; go_big_quiet_on) | (refine wpR_is (by kernel_rfl) rfl _ (fun w _ => rfl) ?_; simp only [Act.put, l_T, l_S, l_Z]))
    refine wpR_nil (by kernel_rfl) (by simp) ?_
    rintro w5 hb5
    simp only [exAll, List.drop]
    clear c0 x0 x1
    obtain ⟨w6, hrun, hM6, hu6⟩ := keyB.delete Tryz.underlying80 (HMJ.out.stay hb5) ⟨k0, k1⟩ 0 93
    rw [mdel_ownM (left_nodup HND.out s j), HDEL.out] at hM6
    replace HMJ := Hi hM6
    replace HX := Hi (blk_upd hu6 NX.out (blk_stay hb5 HX.out))
    replace HP1 := Hi (blk_upd hu6 HBP.out (blk_stay hb5 HP1.out))
    replace HUJ := Hi ((HUJ.out.thenB hb5).then hu6 (fun _ _ h => h))
    clear hM6 hu6 hb5
    have x0 := (show w6.cell? ⟨bx, 0, none⟩ = some (.int .i64 k0) from blk_cell HX.out 0)
    have x1 := (show w6.cell? ⟨bx, 1, none⟩ = some (.int .i64 k1) from blk_cell HX.out 1)
    go_wp2_with fail
    clear hrun x0 x1
    refine (gone1_any ⟨k0, k1⟩ _).mono ?_
    rintro e w7 ⟨rfl, hb7⟩
    replace HMJ := Hi (HMJ.out.stay hb7)
    replace HUJ := Hi (HUJ.out.thenB hb7)
    clear hb7
    go_wp2
    go_roundw
    case rel => exact ⟨j + 1, by omega, by go_num, HMJ.out, HUJ.out⟩
    case measure => simp [intOf]; omega
   ·
    obtain rfl : j = (heldOf m s).length := by omega
    rw [left_all HND.out s (Nat.le_refl _)] at HMJ
    have nh : ¬ (bh = bo) := Ne.symm HBH.out
    obtain ⟨w6, hrun, hH6, hu6⟩ := keyN.delete Tryz.underlying81 (HH.out.upd HUJ.out nh) s 0 3
    have hp1 := blk_upd HUJ.out HBP.out HP.out
    have c1 : wr.cell? ⟨p, 3, none⟩ = some (.map (some bh)) := blk_cell hp1 3
    have HR1 := HR.out.upd HUJ.out (fun t v g ht hv hg => by obtain ⟨es, clk, hes, _⟩ := HM.out; exact HR.out.ne_map (s := t) hes (by rw [ht]; exact hv) hg)
    have HR2 := Hi ((HR1.upd hu6 (fun t v g ht hv hg => by
     obtain ⟨es, clk, hes, _⟩ := HH.out.upd HUJ.out nh
     exact HR1.ne_map (s := t) hes (by rw [ht]; exact hv) hg)).del s)
    have HM6 := Hi (HMJ.out.upd hu6 HBH.out)
    have HH6 := Hi hH6
    have HU6 := Hi (show Upd (fun b => (b = bo) ∨ b = bh) w w6 from (HUJ.out.mono (fun _ _ h => .inl h)).then hu6 (fun _ _ h => .inr h))
    have HS6 := Hi hu6.size
    clear hH6 hu6 HR1 hp1 nh
    go_wp2
    go_end0
    refine ⟨rfl, ⟨keys_filter _ HND.out, fun b hb => Nat.lt_of_lt_of_le (HBD.out b hb) (Nat.le_trans HUJ.out.size HS6.out), .inr ⟨bo, bh, _, rfl, rfl, HBH.out, HFO.out, HFH.out, HM6.out, HH6.out, HR2.out⟩⟩, HU6.out.mono (fun b _ h => ?_)⟩
    rcases h with rfl | rfl
    ·
     exact HFO.out
    ·
     exact HFH.out
def RelPostC (w : World) (s6 : Value) (m : List (Ck × Int)) (s : Int) (so sh : Value) (F FL : Nat → Prop) (e : Ending) (w' : World) : Prop :=
 e = .returned (.tuple #[]) ∧ TabAt encC kcC 112 3 w' so sh (rel s m) F ∧ LocAt w' s6 (cntP (rel s m)) FL ∧ Upd (fun b => F b ∨ FL b) w w'
theorem relC_any (s : Int) (p : Nat) (b2 : Nat) (FL : Nat → Prop) (s0 s1 s2 s3 s4 s5 s6 : Value) (m : List (Ck × Int)) (F : Nat → Prop) (w : World) (hp : w.heap[p]? = some (.cells #[s0, s1, s2, s3, s4, s5, s6] 90)) (ht : TabAt encC kcC 112 3 w s4 s5 m F) (hFp : ¬ F p) (hlen : m.length ≤ 1000000) (hb2 : w.heap[b2]? = some (.cells #[.pointer (some ⟨p, 0, none⟩)] 23)) (hL : LocAt w s6 (cntP m) FL) (hFL : ∀ b, F b → ¬ FL b) (hLp : ¬ FL p) (hL2 : ¬ FL b2) :
  Calls Tryz.prog 76 #[.pointer (some ⟨p, 4, none⟩), .int .i64 s, .func (.func 77) #[] #[.pointer (some ⟨b2, 0, none⟩)]] w (RelPostC w s6 m s s4 s5 F FL) := by
 have HND := Hi ht.nodup
 have HBD := Hi ht.bound
 rcases ht.is with ⟨rfl, rfl, rfl⟩ | ⟨bo, bh, hm, rfl, rfl, hne, hFo, hFh, hM, hH, hR⟩
 ·
  have c1 : w.cell? ⟨p, 5, none⟩ = some (.map none) := blk_cell hp 5
  have hl := keyN.lookup_nil Tryz.underlying85 (zeroRC w) s false
  have hdl := keyN.delete_nil Tryz.underlying85 w s 0 3
  simp only [lookV, Option.getD_none, if_neg (show ¬ (false = true) by decide), encI] at hl hdl
  go_enter Tryz.func76, Tryz.ntmps76
  go_wp2
  go_loopw [7, 15] (fun _ i wr => i = .int .i64 0 ∧ wr = w) (fun _ _ _ => 0)
  case atStart => exact ⟨rfl, rfl⟩
  case round =>
   obtain ⟨rfl, rfl⟩ := hrel
   go_wp2
   go_end0
   exact ⟨rfl, ht, hL, Upd.refl _ _⟩
 ·
  have HM := Hi hM
  have HH := Hi hH
  have HR := Hi hR
  have HP := Hi hp
  have HBH := Hi hne
  have HFO := Hi hFo
  have HFH := Hi hFh
  have HBP := Hi (show p ≠ bo from fun e => hFp (e ▸ hFo))
  have HPH := Hi (show p ≠ bh from fun e => hFp (e ▸ hFh))
  have hn0 : (heldOf m s).length ≤ 1000000 := Nat.le_trans (by simp only [heldOf, List.length_map]; exact List.length_filter_le _ _) hlen
  have HLN := Hi hlen
  have HL := Hi hL
  have H2 := Hi hb2
  have HFLP := Hi hLp
  have HB2F := Hi hL2
  have HFLR := Hi (show ∀ (t : Int) (g : Nat), ((asc t hm).getD (.slice none 0 0)).ownBlock = some g → ¬ FL g from fun t g h => hFL g (hR.own_F h))
  have HFLH := Hi (hFL bh hFh)
  have HFLO := Hi (hFL bo hFo)
  have c1 : w.cell? ⟨p, 5, none⟩ = some (.map (some bh)) := blk_cell hp 5
  have hl := keyN.lookup Tryz.underlying85 (zeroRC w) hH s false
  simp only [lookV, if_neg (show ¬ (false = true) by decide), encI] at hl
  have hrow := hR.get s
  have hno : ∀ g, ((asc s hm).getD (.slice none 0 0)).ownBlock = some g → g ≠ bo := fun g h => by
   obtain ⟨es, clk, hes, _⟩ := hM
   exact hR.ne_map (s := s) hes h
  obtain ⟨v0, hv0⟩ : ∃ v0, (asc s hm).getD (.slice none 0 0) = v0 := ⟨_, rfl⟩
  rw [hv0] at hl hrow hno
  obtain ⟨a0, cap0, rfl⟩ := row_slice hrow
  have HROW := Hi hrow
  have HNO := Hi hno
  have HV0 := Hi hv0
  clear hp ht hFp hlen hne hFo hFh hM hH hR hrow hno hv0 hb2 hL hFL hLp hL2
  go_enter Tryz.func76, Tryz.ntmps76
  go_wp2
  clear c1 hl
  go_loopw [7, 15] (fun _ i wr => ∃ j : Nat, j ≤ (heldOf m s).length ∧ i = .int .i64 j ∧ MapB encC wr bo (ownM (left m s j)) ∧ Upd (fun b => b = bo ∨ FL b) w wr ∧ LocAt wr s6 (cntP (left m s j)) FL) (fun _ i _ => (heldOf m s).length - (intOf i).toNat)
  case atStart => exact ⟨0, Nat.zero_le _, rfl, by rw [left_zero]; exact HM.out, Upd.refl _ _, by rw [left_zero]; exact HL.out⟩
  case round =>
   obtain ⟨j, hj, rfl, hMj, huj, hLj⟩ := hrel
   have HMJ := Hi hMj
   have HUJ := Hi huj
   clear hMj huj
   have HLJ := Hi hLj
   clear hLj
   by_cases hlt : j < (heldOf m s).length
   ·
    obtain ⟨g, cap, e, hcap, hcell⟩ := row_cell HROW.out (by omega)
    cases e
    have hkey : ∀ i, i < 3 → wr.cell? ⟨g, j * 3 + i, none⟩ = (kcC (heldOf m s)[j])[i]? := fun i hi => by
     have h1 := hcell (j * 3 + i) (by omega)
     rw [flat_get kcC 3 (fun _ => rfl) _ j hlt i hi] at h1
     rw [World.cell?_of_block (HUJ.out.block g (row_lt HROW.out rfl) (fun h => h.elim (fun e => HNO.out g rfl e) (HFLR.out s g (by rw [HV0.out]; rfl))))]
     exact h1
    have hdel := left_succ m s hlt
    have hin := left_mem HND.out hlt
    have HDEL := Hi hdel
    have HIN := Hi hin
    clear hcell hdel hin
    have y0 : wr.cell? ⟨g, j * 3, none⟩ = some (.int .i64 (heldOf m s)[j].po) := hkey 0 (by omega)
    have y1 : wr.cell? ⟨g, j * 3 + 1, none⟩ = some (.int .i64 (heldOf m s)[j].th) := hkey 1 (by omega)
    have y2 : wr.cell? ⟨g, j * 3 + 2, none⟩ = some (.int .i64 (heldOf m s)[j].tp) := hkey 2 (by omega)
    clear hkey
    generalize (heldOf m s)[j] = k at *
    obtain ⟨k0, k1, k2⟩ := k
    generalize (heldOf m s).length = n at *
    have HP1 := Hi (blk_upd HUJ.out (fun h => h.elim HBP.out HFLP.out) HP.out)
    have hb := below_one wr (.cells #[.int .i64 k0, .int .i64 k1, .int .i64 k2] 112)
    have HX := Hi (show (wr.alloc (.cells #[.int .i64 k0, .int .i64 k1, .int .i64 k2] 112)).heap[wr.heap.size]? = some (.cells #[.int .i64 k0, .int .i64 k1, .int .i64 k2] 112) by show (wr.heap.push _)[wr.heap.size]? = _; simp)
    replace HP1 := Hi (blk_stay hb HP1.out)
    have NX := Hi (show wr.heap.size ≠ bo from fun e => by have := HMJ.out.lt; omega)
    replace HMJ := Hi (HMJ.out.stay hb)
    have NXL := Hi (show ¬ FL wr.heap.size from fun h => by have := HLJ.out.bound _ h; omega)
    have HN2 := Hi (show b2 ≠ bo ∧ ¬ FL b2 from ⟨(fun e => by
     obtain ⟨es, clk, h, _⟩ := HM.out
     rw [← e, H2.out] at h; cases h), HB2F.out⟩)
    have H21 := Hi (blk_stay hb (blk_upd HUJ.out (fun h => h.elim HN2.out.1 HN2.out.2) H2.out))
    replace HLJ := Hi (HLJ.out.upd (G := fun _ => False) (Upd.of_below hb) (fun _ _ h => h))
    replace HUJ := Hi (HUJ.out.thenB hb)
    clear hb
    go_wp2
    clear y0 y1 y2
    generalize hW : wr.alloc (.cells #[.int .i64 k0, .int .i64 k1, .int .i64 k2] 112) = W at HX HP1 HMJ HUJ HLJ H21
    obtain ⟨bx, hbx⟩ : ∃ bx, wr.heap.size = bx := ⟨_, rfl⟩
    rw [hbx] at HX NX NXL
    have c0 := cell_regrown (show W.cell? ⟨p, 4, none⟩ = some (.map (some bo)) from blk_cell HP1.out 4)
    have x0 := cell_regrown (show W.cell? ⟨bx, 0, none⟩ = some (.int .i64 k0) from blk_cell HX.out 0)
    have x1 := cell_regrown (show W.cell? ⟨bx, 1, none⟩ = some (.int .i64 k1) from blk_cell HX.out 1)
    have x2 := cell_regrown (show W.cell? ⟨bx, 2, none⟩ = some (.int .i64 k2) from blk_cell HX.out 2)
    refine wp_region_R 5 (by kernel_rfl) (by kernel_rfl) ?_
    simp only [List.take, List.drop]
    iterate 5 (first | (refine wpR_want (by kernel_rfl) rfl rfl ?_; intro K hK; go_big_quiet_op; go_big_quiet_on) | (refine wpR_is (by kernel_rfl) rfl _ (fun w _ => rfl) ?_; simp only [Act.put, l_T, l_S, l_Z]))
    refine wpR_nil (by kernel_rfl) (by simp) ?_
    rintro w5 hb5
    simp only [exAll, List.drop]
    clear c0 x0 x1 x2
    obtain ⟨w6, hrun, hM6, hu6⟩ := keyC.delete Tryz.underlying84 (HMJ.out.stay hb5) ⟨k0, k1, k2⟩ 0 112
    rw [mdel_ownM (left_nodup HND.out s j), HDEL.out] at hM6
    replace HMJ := Hi hM6
    replace HX := Hi (blk_upd hu6 NX.out (blk_stay hb5 HX.out))
    replace HP1 := Hi (blk_upd hu6 HBP.out (blk_stay hb5 HP1.out))
    replace HUJ := Hi ((HUJ.out.thenB hb5).then hu6 (fun _ _ h => .inl h))
    replace HLJ := Hi ((HLJ.out.upd (G := fun _ => False) (Upd.of_below hb5) (fun _ _ h => h)).upd hu6 (fun b hb e => HFLO.out (e ▸ hb)))
    replace H21 := Hi (blk_upd hu6 HN2.out.1 (blk_stay hb5 H21.out))
    clear hM6 hu6 hb5
    have x0 := (show w6.cell? ⟨bx, 0, none⟩ = some (.int .i64 k0) from blk_cell HX.out 0)
    have x1 := (show w6.cell? ⟨bx, 1, none⟩ = some (.int .i64 k1) from blk_cell HX.out 1)
    have x2 := (show w6.cell? ⟨bx, 2, none⟩ = some (.int .i64 k2) from blk_cell HX.out 2)
    go_wp2_with fail
    clear hrun x0 x1 x2
    have hge : 1 ≤ cntP (left m s j) k0 := cntP_pos HIN.out
    have hle := cntP_le (left m s j) k0
    have hll : (left m s j).length ≤ m.length := List.length_filter_le _ _
    have hmm := HLN.out
    rcases HLJ.out.is with ⟨_, hz⟩ | ⟨lo, lm, e6, hlo, hml, hlr⟩
    ·
     exact absurd (hz k0) (by omega)
    have HLR := Hi hlr
    have HML := Hi hml
    have HLO := Hi hlo
    have h1 := Hi hge
    have h2 := Hi (show cntP (left m s j) k0 ≤ 1000000 by omega)
    have HE6 := Hi e6
    clear hge hle hll hmm e6 hlo hml hlr
    refine (gone2_any ⟨k0, k1, k2⟩ p b2 lo s0 s1 s2 s3 (.map (some bo)) (.map (some bh)) lm (cntP (left m s j)) _ (HE6.out ▸ HP1.out) H21.out HML.out HLR.out h1.out h2.out).mono ?_
    rintro e w7 ⟨rfl, ⟨lm', hml', hlr'⟩, hu7⟩
    have hfun : less (cntP (left m s j)) k0 = cntP (left m s (j + 1)) := by
     funext y
     rw [← HDEL.out]
     exact (cnt_dele (left_nodup HND.out s j) (List.mem_map_of_mem (f := (·.1)) HIN.out) y).symm
    have HL7 := Hi (show LocAt w7 s6 (cntP (left m s (j + 1))) FL from ⟨fun b hb => Nat.lt_of_lt_of_le (HLJ.out.bound b hb) hu7.size, .inr ⟨lo, lm', HE6.out, HLO.out, hml', hfun ▸ hlr'⟩⟩)
    replace HMJ := Hi (HMJ.out.upd hu7 (fun e => HFLO.out (e ▸ HLO.out)))
    replace HUJ := Hi (HUJ.out.then hu7 (fun x _ h => .inr (h ▸ HLO.out)))
    clear hu7 hml' hlr' hfun
    go_wp2
    go_roundw
    case rel => exact ⟨j + 1, by omega, by go_num, HMJ.out, HUJ.out, HL7.out⟩
    case measure => simp [intOf]; omega
   ·
    obtain rfl : j = (heldOf m s).length := by omega
    rw [left_all HND.out s (Nat.le_refl _)] at HMJ HLJ
    have nh : ¬ (bh = bo ∨ FL bh) := (fun h => h.elim (fun e => HBH.out e.symm) HFLH.out)
    obtain ⟨w6, hrun, hH6, hu6⟩ := keyN.delete Tryz.underlying85 (HH.out.upd HUJ.out nh) s 0 3
    have hp1 := blk_upd HUJ.out (fun h => h.elim HBP.out HFLP.out) HP.out
    have c1 : wr.cell? ⟨p, 5, none⟩ = some (.map (some bh)) := blk_cell hp1 5
    have HR1 := HR.out.upd HUJ.out (fun t v g ht hv hg => hg.elim (fun e => by obtain ⟨es, clk, hes, _⟩ := HM.out; exact HR.out.ne_map (s := t) hes (by rw [ht]; exact hv) e) (HFLR.out t g (by rw [ht]; exact hv)))
    have HR2 := Hi ((HR1.upd hu6 (fun t v g ht hv hg => by
     obtain ⟨es, clk, hes, _⟩ := HH.out.upd HUJ.out nh
     exact HR1.ne_map (s := t) hes (by rw [ht]; exact hv) hg)).del s)
    have HM6 := Hi (HMJ.out.upd hu6 HBH.out)
    have HH6 := Hi hH6
    have HU6 := Hi (show Upd (fun b => (b = bo ∨ FL b) ∨ b = bh) w w6 from (HUJ.out.mono (fun _ _ h => .inl h)).then hu6 (fun _ _ h => .inr h))
    have HS6 := Hi hu6.size
    have HL6 := Hi (HLJ.out.upd hu6 (fun b hb e => HFLH.out (e ▸ hb)))
    clear hH6 hu6 HR1 hp1 nh
    go_wp2
    go_end0
    refine ⟨rfl, ⟨keys_filter _ HND.out, fun b hb => Nat.lt_of_lt_of_le (HBD.out b hb) (Nat.le_trans HUJ.out.size HS6.out), .inr ⟨bo, bh, _, rfl, rfl, HBH.out, HFO.out, HFH.out, HM6.out, HH6.out, HR2.out⟩⟩, HL6.out, HU6.out.mono (fun b _ h => ?_)⟩
    rcases h with (rfl | h) | rfl
    ·
     exact .inl HFO.out
    ·
     exact .inr h
    ·
     exact .inl HFH.out
end Go.Proofs.YtbhglemolpfnkaaGreatDoor
