/- Contract of BindAny. Printed by wip/tools/gen23.py. -/
import Derived.Test.YtbhglemolpfnkaaGreatDoorPw3
set_option linter.unusedVariables false
set_option maxRecDepth 100000
set_option maxHeartbeats 32000000
namespace Go.Proofs.YtbhglemolpfnkaaGreatDoor
open Go.RowKit Go.Sort

def anyP (st : PSt) (i : Int) : Int := 49152 + (st.seed + st.given + i) % 64
def freeP (st : PSt) (pr po : Int) : Bool := !(look ⟨pr, po⟩ st.B).isSome && !(decide (pr = 6) && decide (0 < cntP st.J po))
def firstP (st : PSt) (pr : Int) : Option Int := ((List.range 64).find? fun i => freeP st pr (anyP st (i : Nat))).map fun i => anyP st (i : Nat)
def anyR (st : PSt) (pr s : Int) : Int × Int × PSt :=
 if vpr pr then (if bindOf st.B s != ⟨0, 0⟩ then (0, 231, st) else match firstP st pr with
  | some po => (po, 0, { addB st ⟨pr, po⟩ s with given := st.given + 1 })
  | none => (0, 231, st)) else (0, 230, st)
theorem find_range_some {f : Nat → Bool} {n j : Nat} (hj : j < n) (h1 : f j = true) (h2 : ∀ i, i < j → f i = false) : (List.range n).find? f = some j := by
 rw [List.find?_range_eq_some]
 exact ⟨h1, by simpa using hj, fun i hi => by simp [h2 i hi]⟩
theorem find_range_none {f : Nat → Bool} {n : Nat} (h : ∀ i, i < n → f i = false) : (List.range n).find? f = none := by
 rw [List.find?_eq_none]
 intro x hx
 simp [h x (List.mem_range.1 hx)]
theorem bindany_nil (pr s : Int) (w : World) : Calls Tryz.prog 7 #[.pointer none, .int .i64 pr, .int .i64 s] w fun e w' => e = .returned (.tuple #[.int .i64 0, .int .i64 1]) ∧ Below w.heap.size w w' := by
 go_enter Tryz.func7, Tryz.ntmps7
 go_wp2
 go_ret2
 exact ⟨rfl, Below.refl _ _⟩
theorem any_no1 {pr s : Int} {p : Nat} {st : PSt} {F : Nat → Prop} {w : World} (h : PAt w p st F) (h1 : vpr pr = false) :
  Calls Tryz.prog 7 #[.pointer (some ⟨p, 0, none⟩), .int .i64 pr, .int .i64 s] w fun e w' => e = .returned (.tuple #[.int .i64 0, .int .i64 230]) ∧ Below w.heap.size w w' := by
 have H1 := Hi h1
 clear h1
 go_enter Tryz.func7, Tryz.ntmps7
 go_wp2_with fail
 refine (vpr_r H1.out _).mono ?_
 rintro e w1 ⟨rfl, rfl⟩
 go_wp2
 go_ret2
 exact ⟨rfl, Below.refl _ _⟩
section
attribute [local go_sem ↓] run_neB
theorem any_no2 {pr s : Int} {p : Nat} {st : PSt} {F : Nat → Prop} {w : World} (h : PAt w p st F) (hlen : st.B.length ≤ 1000000) (h1 : vpr pr = true) (h4 : (bindOf st.B s != ⟨0, 0⟩) = true) :
  Calls Tryz.prog 7 #[.pointer (some ⟨p, 0, none⟩), .int .i64 pr, .int .i64 s] w fun e w' => e = .returned (.tuple #[.int .i64 0, .int .i64 231]) ∧ Below w.heap.size w w' := by
 have H1 := Hi h1
 have HP := Hi h
 have HLN := Hi (Nat.le_trans (held_le st.B s) hlen)
 obtain ⟨⟨k0, k1⟩, hk⟩ : ∃ k, bindOf st.B s = k := ⟨_, rfl⟩
 have HK := Hi hk
 have h5 : ((k0 == 0) && (k1 == 0)) = false := by
  rw [hk] at h4
  rw [Bool.and_eq_false_iff, beq_eq_false_iff_ne, beq_eq_false_iff_ne]
  have : ¬ ((⟨k0, k1⟩ : Bk) = ⟨0, 0⟩) := by simpa using h4
  rw [Bk.mk.injEq] at this
  omega
 clear h1 h h4 hk
 go_enter Tryz.func7, Tryz.ntmps7
 go_wp2_with fail
 refine (vpr_r H1.out _).mono ?_
 rintro e w1 ⟨rfl, rfl⟩
 go_wp2_with fail
 refine (binding_r HK.out _ HP.out HLN.out).mono ?_
 rintro e w2 ⟨rfl, hb⟩
 have HB2 := Hi hb
 clear hb
 go_wp2
 go_ret2
 exact ⟨rfl, HB2.out⟩
def AnyPost (w : World) (p : Nat) (st : PSt) (pr s : Int) (F : Nat → Prop) (e : Ending) (w' : World) : Prop := match firstP st pr with
 | some po => PPost w p { addB st ⟨pr, po⟩ s with given := st.given + 1 } F (.tuple #[.int .i64 po, .int .i64 0]) e w'
 | none => PPost w p st F (.tuple #[.int .i64 0, .int .i64 231]) e w'
theorem start_eq (a b : Int) (hb : 0 ≤ b) : (a.tmod 64 + b % 64 + 64) % 64 = (a + b) % 64 := by
 have h1 := Int.tmod_add_mul_tdiv a 64
 omega
theorem tmod_bd (a : Int) : -64 < a.tmod 64 ∧ a.tmod 64 < 64 := by
 have h1 := Int.tmod_add_mul_tdiv a 64
 constructor
 ·
  have := Int.tmod_lt_of_pos (-a) (show (0 : Int) < 64 by decide); rw [Int.neg_tmod] at this; omega
 ·
  exact Int.tmod_lt_of_pos a (by decide)

theorem any_yes {pr s : Int} {p : Nat} {st : PSt} {F : Nat → Prop} {w : World} (h : PAt w p st F) (hlen : st.B.length ≤ 1000000) (hlj : st.J.length ≤ 1000000) (hg0 : 0 ≤ st.given) (hg1 : st.given ≤ 1000000) (h1 : vpr pr = true) (h4 : bindOf st.B s = ⟨0, 0⟩) :
  Calls Tryz.prog 7 #[.pointer (some ⟨p, 0, none⟩), .int .i64 pr, .int .i64 s] w (AnyPost w p st pr s F) := by
 have H1 := Hi h1
 have H4 := Hi h4
 have HP0 := Hi h
 have HPP := Hi h
 have HLN := Hi (Nat.le_trans (held_le st.B s) hlen)
 have HLE := Hi hlen
 have HLJ := Hi hlj
 have HG0 := Hi hg0
 have HG1 := Hi hg1
 have HTM := Hi (tmod_bd st.seed)
 have HST := Hi (start_eq st.seed st.given hg0)
 have HPO := Hi (show ∀ i : Nat, anyP st i = 49152 + ((st.seed + st.given) % 64 + i) % 64 from fun i => by unfold anyP; omega)
 have HST2 := Hi (show 0 ≤ (st.seed + st.given) % 64 ∧ (st.seed + st.given) % 64 < 64 from ⟨Int.emod_nonneg _ (by decide), Int.emod_lt_of_pos _ (by decide)⟩)
 clear h1 h h4 hg0 hg1 hlen hlj
 go_enter Tryz.func7, Tryz.ntmps7
 go_wp2_with fail
 refine (vpr_r H1.out _).mono ?_
 rintro e w1 ⟨rfl, rfl⟩
 go_wp2_with fail
 refine (binding_r H4.out _ HPP.out HLN.out).mono ?_
 rintro e w1 ⟨rfl, hb⟩
 replace HPP := Hi (HPP.out.stay hb)
 have HB := Hi hb
 clear hb
 go_wp2
 obtain ⟨_, _, _, _, _, _, _, _, hp, _⟩ := HPP.out.is
 have c0 := cell_regrown (show w1.cell? ⟨p, 0, none⟩ = some (.int .i64 st.seed) from blk_cell hp 0)
 have c1 := cell_regrown (show w1.cell? ⟨p, 1, none⟩ = some (.int .i64 st.given) from blk_cell hp 1)
 clear hp
 have hg0 := HG0.out
 have hg1 := HG1.out
 have htm := HTM.out
 obtain ⟨sm, hsm⟩ : ∃ sm, st.seed.tmod 64 = sm := ⟨_, rfl⟩
 rw [hsm] at htm
 obtain ⟨tm1, tm2⟩ := htm
 have HSM := Hi hsm
 refine wp_region_R 14 (by kernel_rfl) (by kernel_rfl) ?_
 simp only [List.take, List.drop]
 iterate 14 (first | (refine wpR_want (by kernel_rfl) rfl rfl ?_; intro K hK; go_big_quiet_op; go_big_quiet_on) | (refine wpR_is (by kernel_rfl) rfl _ (fun w _ => rfl) ?_; simp only [Act.put, l_T, l_S, l_Z]))
 refine wpR_nil (by kernel_rfl) (by simp) ?_
 rintro w1' hb5
 simp only [exAll, List.drop]
 clear c0 c1
 replace HPP := Hi (HPP.out.stay hb5)
 replace HB := Hi (below_mid HB.out hb5)
 clear hb5
 go_wp2
 rw [hsm] at HST
 obtain ⟨S, hS⟩ : ∃ S, (st.seed + st.given) % 64 = S := ⟨_, rfl⟩
 rw [hS] at HST HST2 HPO
 rw [HST.out]
 clear hsm hS HSM HTM HST tm1 tm2 hg0 hg1
 obtain ⟨hs0, hs1⟩ := HST2.out
 clear HST2
 go_loopw [9, 10, 11, 38] (fun _ _ _ i wr => ∃ j : Nat, j ≤ 64 ∧ i = .int .i64 j ∧ (∀ i : Nat, i < j → freeP st pr (anyP st i) = false) ∧ Below w1'.heap.size w1' wr) (fun _ _ _ i _ => 64 - (intOf i).toNat)
 case atStart => exact ⟨0, by omega, rfl, fun i hi => by omega, Below.refl _ _⟩
 case round =>
  obtain ⟨j, hj, rfl, hno, hb⟩ := hrel
  have HNO := Hi hno
  replace HPP := Hi (HPP.out.stay hb)
  have HBR := Hi hb
  replace HB := Hi (below_mid HB.out hb)
  clear hno hb
  by_cases hlt : j < 64
  ·
   obtain ⟨po, hpo⟩ : ∃ po, 49152 + (S + (j : Int)) % 64 = po := ⟨_, rfl⟩
   have HPJ := Hi (show anyP st j = po by rw [HPO.out j, hpo])
   have hb := below_one wr (.cells #[.int .i64 pr, .int .i64 po] 93)
   have HX := Hi (new2 wr (.int .i64 pr) (.int .i64 po) 93)
   replace HPP := Hi (HPP.out.stay hb)
   replace HB := Hi (below_mid HB.out hb)
   replace HBR := Hi (below_mid HBR.out hb)
   clear hb
   have HDI : True := trivial
   go_wp2_with fail
   generalize hW : wr.alloc (.cells #[.int .i64 pr, .int .i64 po] 93) = W at HX HPP HB HBR ⊢
   obtain ⟨bx, hbx⟩ : ∃ bx, wr.heap.size = bx := ⟨_, rfl⟩
   rw [hbx] at HX ⊢
   have nxt : freeP st pr po = false → ∀ i : Nat, i < j + 1 → freeP st pr (anyP st i) = false := fun hf i hi => by
    by_cases e : i = j
    ·
     subst e; rw [HPJ.out]; exact hf
    ·
     exact HNO.out i (by omega)
   have NXT := Hi nxt
   have fst : freeP st pr po = true → firstP st pr = some po := fun hf => by
    unfold firstP
    rw [find_range_some hlt (by simpa [HPJ.out] using hf) HNO.out]
    simp [HPJ.out]
   have FST := Hi fst
   clear nxt fst
   cases hbd : (look ⟨pr, po⟩ st.B).isSome with
   | true =>
    have HBD := Hi hbd
    have HFR := Hi (show freeP st pr po = false by simp [freeP, hbd])
    clear hbd
    refine (bound_r (k := ⟨pr, po⟩) HBD.out _ HPP.out).mono ?_
    rintro e w2 ⟨rfl, hb⟩
    replace HBR := Hi (below_mid HBR.out hb)
    clear hb
    go_wp2
    go_roundw
    case rel => exact ⟨j + 1, by omega, by go_num, NXT.out HFR.out, HBR.out⟩
    case measure => simp [intOf]; omega
   | false =>
    have HBD := Hi hbd
    refine (bound_r (k := ⟨pr, po⟩) HBD.out _ HPP.out).mono ?_
    rintro e w2 ⟨rfl, hb⟩
    replace HBR := Hi (below_mid HBR.out hb)
    replace HB := Hi (below_mid HB.out hb)
    replace HPP := Hi (HPP.out.stay hb)
    replace HX := Hi (blk_stay hb HX.out)
    clear hb
    by_cases h6 : pr = 6
    ·
     have h6' : (pr == 6) = true := by simp [h6]
     have H6 := Hi h6
     clear h6
     obtain ⟨_, _, _, _, o6, _, _, _, hp, _, _, hTL, _⟩ := HPP.out.is
     have c6 := (show w2.cell? ⟨p, 6, none⟩ = some o6 from blk_cell hp 6)
     have hl := hTL.look po
     clear hp hTL
     by_cases hc : 0 < cntP st.J po
     ·
      have HFR := Hi (show freeP st pr po = false by simp [freeP, hc, H6.out])
      generalize cntP st.J po = cn at hl hc
      have hc' : decide (0 < cn) = true := by simp [hc]
      clear hbd
      go_wp2
      go_roundw
      case rel => exact ⟨j + 1, by omega, by go_num, NXT.out HFR.out, HBR.out⟩
      case measure => simp [intOf]; omega
     ·
      have HFR := Hi (FST.out (by simp [freeP, hbd, hc]))
      generalize cntP st.J po = cn at hl hc
      have hc' : decide (0 < cn) = false := by simpa using hc
      clear hbd hc
      go_wp2
      clear c6 hl hc'
      have x0 := cell_regrown (show w2.cell? ⟨bx, 0, none⟩ = some (.int .i64 pr) from blk_cell HX.out 0)
      have x1 := cell_regrown (show w2.cell? ⟨bx, 1, none⟩ = some (.int .i64 po) from blk_cell HX.out 1)
      refine wp_region_R 5 (by kernel_rfl) (by kernel_rfl) ?_
      simp only [List.take, List.drop]
      iterate 5 (first | (refine wpR_want (by kernel_rfl) rfl rfl ?_; intro K hK; go_big_quiet_op; go_big_quiet_on) | (refine wpR_is (by kernel_rfl) rfl _ (fun w _ => rfl) ?_; simp only [Act.put, l_T, l_S, l_Z]))
      refine wpR_nil (by kernel_rfl) (by simp) ?_
      rintro w5 hb5
      simp only [exAll, List.drop]
      clear x0 x1
      replace HPP := Hi (HPP.out.stay hb5)
      replace HB := Hi (below_mid HB.out hb5)
      clear hb5
      obtain ⟨o2, o3, o4, o5, o6, FB, FC, FL, hp, hTB, hTC, hTL, hF, g1, g2, g3⟩ := HPP.out.is
      have G1 := Hi g1
      have G2 := Hi g2
      have G3 := Hi g3
      have HF := Hi hF
      have HTC := Hi hTC
      have HTL := Hi hTL
      have HPL := Hi (blk_lt hp)
      have HA := Hi (addB_any ⟨pr, po⟩ s p _ _ _ _ _ _ _ st.B FB w5 hp hTB (fun h => (g1 p h).1 rfl) (look_none.1 (by simpa using HBD.out)) HLE.out)
      clear hp hTB hTC hTL hF g1 g2 g3
      go_wp2_with fail
      refine HA.out.mono ?_
      rintro e w6 ⟨rfl, o, h', F', hp6, ht6, hF6, hu6⟩
      have hFb : ∀ b, FC b ∨ FL b → ¬ (FB b ∨ b = p) := fun b hb h => by
       rcases hb with hb | hb
       ·
        rcases h with h | h
        ·
         exact (G1.out b h).2.1 hb
        ·
         exact (G2.out b hb).1 h
       ·
        rcases h with h | h
        ·
         exact (G1.out b h).2.2 hb
        ·
         exact G3.out b hb h
      have hC6 := HTC.out.upd hu6 (fun b hb => hFb b (.inl hb))
      have hL6 := HTL.out.upd hu6 (fun b hb => hFb b (.inr hb))
      have hnew : ∀ b, F' b → b ≠ p ∧ ¬ FC b ∧ ¬ FL b := fun b hb => by
       rcases hF6 b hb with h | h
       ·
        exact G1.out b h
       ·
        refine ⟨fun e => ?_, fun e => ?_, fun e => ?_⟩
        ·
         have := HPL.out; omega
        ·
         have := HTC.out.bound b e; omega
        ·
         have := HTL.out.bound b e; omega
      have hu7 : Upd (fun b => b = p) w6 (w6.setCell ⟨p, 1, none⟩ (.int .i64 (st.given + 1))) := Upd.setCell (p := ⟨p, 1, none⟩) (Upd.refl (fun b => b = p) w6) (fun _ => rfl) _
      have hp7 : (w6.setCell ⟨p, 1, none⟩ (.int .i64 (st.given + 1))).heap[p]? = some (.cells #[.int .i64 st.seed, .int .i64 (st.given + 1), o, h', o4, o5, o6] 90) := blk_set hp6 1 _
      have q1 : w6.cell? ⟨p, 1, none⟩ = some (.int .i64 st.given) := blk_cell hp6 1
      have z1 : w6.frozen? ⟨p, 1, none⟩ = false := blk_frz hp6 1
      have HFIN := Hi (show PPost w p { addB st ⟨pr, po⟩ s with given := st.given + 1 } F (.tuple #[.int .i64 po, .int .i64 0]) (.returned (.tuple #[.int .i64 po, .int .i64 0])) (w6.setCell ⟨p, 1, none⟩ (.int .i64 (st.given + 1))) from ⟨rfl, fun b => b = p ∨ F' b ∨ FC b ∨ FL b, ⟨_, _, _, _, _, F', FC, FL, hp7, ht6.upd hu7 (fun b hb => (hnew b hb).1), hC6.upd hu7 (fun b hb => (G2.out b hb).1), hL6.upd hu7 (fun b hb => G3.out b hb), fun b => Iff.rfl, hnew, G2.out, G3.out⟩, fun b hb => by
        rcases hb with h | h | h | h
        ·
         exact .inl ((HF.out b).2 (.inl h))
        ·
         rcases hF6 b h with h | h
         ·
          exact .inl ((HF.out b).2 (.inr (.inl h)))
         ·
          exact .inr (Nat.le_trans HB.out.size h)
        ·
         exact .inl ((HF.out b).2 (.inr (.inr (.inl h))))
        ·
         exact .inl ((HF.out b).2 (.inr (.inr (.inr h)))), ((Upd.of_below HB.out).then hu6 (fun x _ h => (HF.out x).2 (by rcases h with h | h; exact .inr (.inl h); exact .inl h))).then hu7 (fun x _ h => (HF.out x).2 (.inl h))⟩)
      clear hp6 ht6 hF6 hu6 hFb hC6 hL6 hnew hu7 hp7
      have hg0 := HG0.out
      have hg1 := HG1.out
      go_wp2
      go_ret2
      unfold AnyPost
      rw [HFR.out]
      exact HFIN.out
    ·
     have h6' : (pr == 6) = false := by simp [h6]
     have HFR := Hi (FST.out (by simp [freeP, hbd, h6]))
     clear hbd
     go_wp2
     have x0 := cell_regrown (show w2.cell? ⟨bx, 0, none⟩ = some (.int .i64 pr) from blk_cell HX.out 0)
     have x1 := cell_regrown (show w2.cell? ⟨bx, 1, none⟩ = some (.int .i64 po) from blk_cell HX.out 1)
     refine wp_region_R 5 (by kernel_rfl) (by kernel_rfl) ?_
     simp only [List.take, List.drop]
     iterate 5 (first | (refine wpR_want (by kernel_rfl) rfl rfl ?_; intro K hK; go_big_quiet_op; go_big_quiet_on) | (refine wpR_is (by kernel_rfl) rfl _ (fun w _ => rfl) ?_; simp only [Act.put, l_T, l_S, l_Z]))
     refine wpR_nil (by kernel_rfl) (by simp) ?_
     rintro w5 hb5
     simp only [exAll, List.drop]
     clear x0 x1
     replace HPP := Hi (HPP.out.stay hb5)
     replace HB := Hi (below_mid HB.out hb5)
     clear hb5
     obtain ⟨o2, o3, o4, o5, o6, FB, FC, FL, hp, hTB, hTC, hTL, hF, g1, g2, g3⟩ := HPP.out.is
     have G1 := Hi g1
     have G2 := Hi g2
     have G3 := Hi g3
     have HF := Hi hF
     have HTC := Hi hTC
     have HTL := Hi hTL
     have HPL := Hi (blk_lt hp)
     have HA := Hi (addB_any ⟨pr, po⟩ s p _ _ _ _ _ _ _ st.B FB w5 hp hTB (fun h => (g1 p h).1 rfl) (look_none.1 (by simpa using HBD.out)) HLE.out)
     clear hp hTB hTC hTL hF g1 g2 g3
     go_wp2_with fail
     refine HA.out.mono ?_
     rintro e w6 ⟨rfl, o, h', F', hp6, ht6, hF6, hu6⟩
     have hFb : ∀ b, FC b ∨ FL b → ¬ (FB b ∨ b = p) := fun b hb h => by
      rcases hb with hb | hb
      ·
       rcases h with h | h
       ·
        exact (G1.out b h).2.1 hb
       ·
        exact (G2.out b hb).1 h
      ·
       rcases h with h | h
       ·
        exact (G1.out b h).2.2 hb
       ·
        exact G3.out b hb h
     have hC6 := HTC.out.upd hu6 (fun b hb => hFb b (.inl hb))
     have hL6 := HTL.out.upd hu6 (fun b hb => hFb b (.inr hb))
     have hnew : ∀ b, F' b → b ≠ p ∧ ¬ FC b ∧ ¬ FL b := fun b hb => by
      rcases hF6 b hb with h | h
      ·
       exact G1.out b h
      ·
       refine ⟨fun e => ?_, fun e => ?_, fun e => ?_⟩
       ·
        have := HPL.out; omega
       ·
        have := HTC.out.bound b e; omega
       ·
        have := HTL.out.bound b e; omega
     have hu7 : Upd (fun b => b = p) w6 (w6.setCell ⟨p, 1, none⟩ (.int .i64 (st.given + 1))) := Upd.setCell (p := ⟨p, 1, none⟩) (Upd.refl (fun b => b = p) w6) (fun _ => rfl) _
     have hp7 : (w6.setCell ⟨p, 1, none⟩ (.int .i64 (st.given + 1))).heap[p]? = some (.cells #[.int .i64 st.seed, .int .i64 (st.given + 1), o, h', o4, o5, o6] 90) := blk_set hp6 1 _
     have q1 : w6.cell? ⟨p, 1, none⟩ = some (.int .i64 st.given) := blk_cell hp6 1
     have z1 : w6.frozen? ⟨p, 1, none⟩ = false := blk_frz hp6 1
     have HFIN := Hi (show PPost w p { addB st ⟨pr, po⟩ s with given := st.given + 1 } F (.tuple #[.int .i64 po, .int .i64 0]) (.returned (.tuple #[.int .i64 po, .int .i64 0])) (w6.setCell ⟨p, 1, none⟩ (.int .i64 (st.given + 1))) from ⟨rfl, fun b => b = p ∨ F' b ∨ FC b ∨ FL b, ⟨_, _, _, _, _, F', FC, FL, hp7, ht6.upd hu7 (fun b hb => (hnew b hb).1), hC6.upd hu7 (fun b hb => (G2.out b hb).1), hL6.upd hu7 (fun b hb => G3.out b hb), fun b => Iff.rfl, hnew, G2.out, G3.out⟩, fun b hb => by
       rcases hb with h | h | h | h
       ·
        exact .inl ((HF.out b).2 (.inl h))
       ·
        rcases hF6 b h with h | h
        ·
         exact .inl ((HF.out b).2 (.inr (.inl h)))
        ·
         exact .inr (Nat.le_trans HB.out.size h)
       ·
        exact .inl ((HF.out b).2 (.inr (.inr (.inl h))))
       ·
        exact .inl ((HF.out b).2 (.inr (.inr (.inr h)))), ((Upd.of_below HB.out).then hu6 (fun x _ h => (HF.out x).2 (by rcases h with h | h; exact .inr (.inl h); exact .inl h))).then hu7 (fun x _ h => (HF.out x).2 (.inl h))⟩)
     clear hp6 ht6 hF6 hu6 hFb hC6 hL6 hnew hu7 hp7
     have hg0 := HG0.out
     have hg1 := HG1.out
     go_wp2
     go_ret2
     unfold AnyPost
     rw [HFR.out]
     exact HFIN.out
  ·
   obtain rfl : j = 64 := by omega
   have HNN := Hi (show firstP st pr = none by unfold firstP; rw [find_range_none HNO.out]; rfl)
   go_wp2
   go_ret2
   unfold AnyPost
   rw [HNN.out]
   exact PPost.still HP0.out HB.out
end
theorem bindany_any (pr s : Int) (p : Nat) (st : PSt) (F : Nat → Prop) (w : World) (h : PAt w p st F) (hlen : st.B.length ≤ 1000000) (hlj : st.J.length ≤ 1000000) (hg0 : 0 ≤ st.given) (hg1 : st.given ≤ 1000000) :
  Calls Tryz.prog 7 #[.pointer (some ⟨p, 0, none⟩), .int .i64 pr, .int .i64 s] w (PPost w p (anyR st pr s).2.2 F (.tuple #[.int .i64 (anyR st pr s).1, .int .i64 (anyR st pr s).2.1])) := by
 unfold anyR
 cases h1 : vpr pr with
 | false => exact (any_no1 h h1).mono fun e w' ⟨he, hb⟩ => he ▸ PPost.still h hb
 | true =>
  cases h4 : (bindOf st.B s != ⟨0, 0⟩) with
  | true => exact (any_no2 h hlen h1 h4).mono fun e w' ⟨he, hb⟩ => he ▸ PPost.still h hb
  | false =>
   refine (any_yes h hlen hlj hg0 hg1 h1 (by simpa using h4)).mono fun e w' hp => ?_
   cases hf : firstP st pr with
   | none => unfold AnyPost at hp; rw [hf] at hp; exact hp
   | some po => unfold AnyPost at hp; rw [hf] at hp; exact hp

end Go.Proofs.YtbhglemolpfnkaaGreatDoor
