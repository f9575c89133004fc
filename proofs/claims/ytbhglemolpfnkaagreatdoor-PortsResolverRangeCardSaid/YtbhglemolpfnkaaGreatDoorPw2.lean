/- Contracts of package ports, second part: New, Bind, Connect, Release. -/
import Derived.Test.YtbhglemolpfnkaaGreatDoorPrl2
set_option linter.unusedVariables false
set_option maxRecDepth 100000
set_option maxHeartbeats 32000000
namespace Go.Proofs.YtbhglemolpfnkaaGreatDoor
open Go.RowKit Go.Sort

def PPost (w : World) (p : Nat) (st : PSt) (F : Nat → Prop) (v : Value) (e : Ending) (w' : World) : Prop :=
 e = .returned v ∧ ∃ F', PAt w' p st F' ∧ (∀ b, F' b → F b ∨ w.heap.size ≤ b) ∧ Upd F w w'
theorem PPost.still {w w' : World} {p : Nat} {st : PSt} {F : Nat → Prop} {v : Value} (h : PAt w p st F) (hb : Below w.heap.size w w') : PPost w p st F v (.returned v) w' :=
 ⟨rfl, F, h.stay hb, fun _ h => .inl h, Upd.of_below hb⟩

theorem run_neB (a b c d : Int) (w : World) : (binOp .neq 93 (.agg #[.int .i64 a, .int .i64 b]) (.agg #[.int .i64 c, .int .i64 d])).run Tryz.prog w = .ok (.bool (!((a == c) && (b == d)))) w := by
 rw [run_neq_struct, run_eqB]; rfl
theorem vpr_r {n : Int} {b : Bool} (h : vpr n = b) (w : World) : Calls Tryz.prog 30 #[.int .i64 n] w fun e w' => e = .returned (.bool b) ∧ w = w' := h ▸ vpr_any n w
theorem vpo_r {n : Int} {b : Bool} (h : vpo n = b) (w : World) : Calls Tryz.prog 43 #[.int .i64 n] w fun e w' => e = .returned (.bool b) ∧ w = w' := h ▸ vpo_any n w
theorem vad_r {n : Int} {b : Bool} (h : vad n = b) (w : World) : Calls Tryz.prog 72 #[.int .i64 n] w fun e w' => e = .returned (.bool b) ∧ w = w' := h ▸ vad_any n w
theorem bound_r {k : Bk} {p : Nat} {st : PSt} {F : Nat → Prop} {b : Bool} (hb : (look k st.B).isSome = b) (w : World) (h : PAt w p st F) :
  Calls Tryz.prog 32 #[.pointer (some ⟨p, 0, none⟩), encB k] w fun e w' => e = .returned (.bool b) ∧ Below w.heap.size w w' := hb ▸ bound_any k p st F w h
theorem binding_r {s : Int} {p : Nat} {st : PSt} {F : Nat → Prop} {k : Bk} (hk : bindOf st.B s = k) (w : World) (h : PAt w p st F) (hlen : (heldOf st.B s).length ≤ 1000000) :
  Calls Tryz.prog 31 #[.pointer (some ⟨p, 0, none⟩), .int .i64 s] w fun e w' => e = .returned (.agg #[.int .i64 k.pr, .int .i64 k.po]) ∧ Below w.heap.size w w' := hk ▸ binding_any s p st F w h hlen

def addB (st : PSt) (k : Bk) (s : Int) : PSt := { st with B := st.B ++ [(k, s)] }
def addJ (st : PSt) (k : Ck) (s : Int) : PSt := { st with J := st.J ++ [(k, s)] }
def bindE (st : PSt) (pr po s : Int) : Int :=
 if vpr pr && vpo po then (if (look ⟨pr, po⟩ st.B).isSome || bindOf st.B s != ⟨0, 0⟩ then 231 else 0) else 230
def bindS (st : PSt) (pr po s : Int) : PSt := if bindE st pr po s = 0 then addB st ⟨pr, po⟩ s else st

theorem held_le {κ : Type} (m : List (κ × Int)) (s : Int) : (heldOf m s).length ≤ m.length := by simp only [heldOf, List.length_map]; exact List.length_filter_le _ _

theorem bind_nil (pr po s : Int) (w : World) : Calls Tryz.prog 14 #[.pointer none, .int .i64 pr, .int .i64 po, .int .i64 s] w fun e w' => e = .returned (.int .i64 1) ∧ Below w.heap.size w w' := by
 go_enter Tryz.func14, Tryz.ntmps14
 go_wp2
 go_ret
 exact ⟨rfl, (Below.refl _ _).alloc (Nat.le_refl _) _⟩
theorem bind_no1 {pr po s : Int} {p : Nat} {st : PSt} {F : Nat → Prop} {w : World} (h : PAt w p st F) (h1 : vpr pr = false) :
  Calls Tryz.prog 14 #[.pointer (some ⟨p, 0, none⟩), .int .i64 pr, .int .i64 po, .int .i64 s] w fun e w' => e = .returned (.int .i64 230) ∧ Below w.heap.size w w' := by
 have H1 := Hi h1
 clear h1
 go_enter Tryz.func14, Tryz.ntmps14
 go_wp2_with fail
 refine (vpr_r H1.out _).mono ?_
 rintro e w1 ⟨rfl, rfl⟩
 go_wp2
 go_ret
 exact ⟨rfl, (Below.refl _ _).alloc (Nat.le_refl _) _⟩
theorem bind_no2 {pr po s : Int} {p : Nat} {st : PSt} {F : Nat → Prop} {w : World} (h : PAt w p st F) (h1 : vpr pr = true) (h2 : vpo po = false) :
  Calls Tryz.prog 14 #[.pointer (some ⟨p, 0, none⟩), .int .i64 pr, .int .i64 po, .int .i64 s] w fun e w' => e = .returned (.int .i64 230) ∧ Below w.heap.size w w' := by
 have H1 := Hi h1
 have H2 := Hi h2
 clear h1 h2
 go_enter Tryz.func14, Tryz.ntmps14
 go_wp2_with fail
 refine (vpr_r H1.out _).mono ?_
 rintro e w1 ⟨rfl, rfl⟩
 go_wp2_with fail
 refine (vpo_r H2.out _).mono ?_
 rintro e w1 ⟨rfl, rfl⟩
 go_wp2
 go_ret
 exact ⟨rfl, (Below.refl _ _).alloc (Nat.le_refl _) _⟩
section
attribute [local go_sem ↓] run_neB
theorem bind_no3 {pr po s : Int} {p : Nat} {st : PSt} {F : Nat → Prop} {w : World} (h : PAt w p st F) (h1 : vpr pr = true) (h2 : vpo po = true) (h3 : (look ⟨pr, po⟩ st.B).isSome = true) :
  Calls Tryz.prog 14 #[.pointer (some ⟨p, 0, none⟩), .int .i64 pr, .int .i64 po, .int .i64 s] w fun e w' => e = .returned (.int .i64 231) ∧ Below w.heap.size w w' := by
 have H1 := Hi h1
 have H2 := Hi h2
 have H3 := Hi h3
 have hb := below_one w (.cells #[.int .i64 pr, .int .i64 po] 93)
 have HP := Hi (h.stay hb)
 have HB := Hi hb
 clear h1 h2 h3 hb h
 go_enter Tryz.func14, Tryz.ntmps14
 go_wp2_with fail
 refine (vpr_r H1.out _).mono ?_
 rintro e w1 ⟨rfl, rfl⟩
 go_wp2_with fail
 refine (vpo_r H2.out _).mono ?_
 rintro e w1 ⟨rfl, rfl⟩
 go_wp2_with fail
 refine (bound_r (k := ⟨pr, po⟩) H3.out _ HP.out).mono ?_
 rintro e w1 ⟨rfl, hb⟩
 have HB1 := Hi (below_mid HB.out hb)
 clear hb
 go_wp2
 go_ret
 exact ⟨rfl, HB1.out⟩
theorem bind_no4 {pr po s : Int} {p : Nat} {st : PSt} {F : Nat → Prop} {w : World} (h : PAt w p st F) (hlen : st.B.length ≤ 1000000) (h1 : vpr pr = true) (h2 : vpo po = true) (h3 : (look ⟨pr, po⟩ st.B).isSome = false) (h4 : (bindOf st.B s != ⟨0, 0⟩) = true) :
  Calls Tryz.prog 14 #[.pointer (some ⟨p, 0, none⟩), .int .i64 pr, .int .i64 po, .int .i64 s] w fun e w' => e = .returned (.int .i64 231) ∧ Below w.heap.size w w' := by
 have H1 := Hi h1
 have H2 := Hi h2
 have H3 := Hi h3
 have hb := below_one w (.cells #[.int .i64 pr, .int .i64 po] 93)
 have HP := Hi (h.stay hb)
 have HB := Hi hb
 have HLN := Hi (Nat.le_trans (held_le st.B s) hlen)
 obtain ⟨⟨k0, k1⟩, hk⟩ : ∃ k, bindOf st.B s = k := ⟨_, rfl⟩
 have HK := Hi hk
 have h5 : ((k0 == 0) && (k1 == 0)) = false := by
  rw [hk] at h4
  rw [Bool.and_eq_false_iff, beq_eq_false_iff_ne, beq_eq_false_iff_ne]
  have : ¬ ((⟨k0, k1⟩ : Bk) = ⟨0, 0⟩) := by simpa using h4
  rw [Bk.mk.injEq] at this
  omega
 clear h1 h2 h3 hb h h4 hk
 go_enter Tryz.func14, Tryz.ntmps14
 go_wp2_with fail
 refine (vpr_r H1.out _).mono ?_
 rintro e w1 ⟨rfl, rfl⟩
 go_wp2_with fail
 refine (vpo_r H2.out _).mono ?_
 rintro e w1 ⟨rfl, rfl⟩
 go_wp2_with fail
 refine (bound_r (k := ⟨pr, po⟩) H3.out _ HP.out).mono ?_
 rintro e w1 ⟨rfl, hb⟩
 replace HP := Hi (HP.out.stay hb)
 have HB1 := Hi (below_mid HB.out hb)
 clear hb
 go_wp2_with fail
 refine (binding_r HK.out _ HP.out HLN.out).mono ?_
 rintro e w2 ⟨rfl, hb⟩
 have HB2 := Hi (below_mid HB1.out hb)
 clear hb
 go_wp2
 go_ret
 exact ⟨rfl, HB2.out⟩
theorem bind_yes {pr po s : Int} {p : Nat} {st : PSt} {F : Nat → Prop} {w : World} (h : PAt w p st F) (hlen : st.B.length ≤ 1000000) (h1 : vpr pr = true) (h2 : vpo po = true) (h3 : (look ⟨pr, po⟩ st.B).isSome = false) (h4 : bindOf st.B s = ⟨0, 0⟩) :
  Calls Tryz.prog 14 #[.pointer (some ⟨p, 0, none⟩), .int .i64 pr, .int .i64 po, .int .i64 s] w (PPost w p (addB st ⟨pr, po⟩ s) F (.int .i64 0)) := by
 have H1 := Hi h1
 have H2 := Hi h2
 have H3 := Hi h3
 have H4 := Hi h4
 have hb := below_one w (.cells #[.int .i64 pr, .int .i64 po] 93)
 have HP := Hi (h.stay hb)
 have HB := Hi hb
 have HX := Hi (new2 w (.int .i64 pr) (.int .i64 po) 93)
 have HLN := Hi (Nat.le_trans (held_le st.B s) hlen)
 have HLE := Hi hlen
 clear h1 h2 h3 hb h h4
 go_enter Tryz.func14, Tryz.ntmps14
 go_wp2_with fail
 refine (vpr_r H1.out _).mono ?_
 rintro e w1 ⟨rfl, rfl⟩
 go_wp2_with fail
 refine (vpo_r H2.out _).mono ?_
 rintro e w1 ⟨rfl, rfl⟩
 go_wp2_with fail
 refine (bound_r (k := ⟨pr, po⟩) H3.out _ HP.out).mono ?_
 rintro e w1 ⟨rfl, hb⟩
 replace HP := Hi (HP.out.stay hb)
 replace HX := Hi (blk_stay hb HX.out)
 replace HB := Hi (below_mid HB.out hb)
 clear hb
 go_wp2_with fail
 refine (binding_r H4.out _ HP.out HLN.out).mono ?_
 rintro e w2 ⟨rfl, hb⟩
 replace HP := Hi (HP.out.stay hb)
 replace HX := Hi (blk_stay hb HX.out)
 replace HB := Hi (below_mid HB.out hb)
 clear hb
 go_wp2
 have x0 := cell_regrown (show w2.cell? ⟨w.heap.size, 0, none⟩ = some (.int .i64 pr) from blk_cell HX.out 0)
 have x1 := cell_regrown (show w2.cell? ⟨w.heap.size, 1, none⟩ = some (.int .i64 po) from blk_cell HX.out 1)
 refine wp_region_R 5 (by kernel_rfl) (by kernel_rfl) ?_
 simp only [List.take, List.drop]
 iterate 5 (first | (refine wpR_want (by kernel_rfl) rfl rfl ?_; intro K hK; go_big_quiet_op; go_big_quiet_on) | (refine wpR_is (by kernel_rfl) rfl _ (fun w _ => rfl) ?_; simp only [Act.put, l_T, l_S, l_Z]))
 refine wpR_nil (by kernel_rfl) (by simp) ?_
 rintro w5 hb5
 simp only [exAll, List.drop]
 clear x0 x1
 replace HP := Hi (HP.out.stay hb5)
 replace HB := Hi (below_mid HB.out hb5)
 clear hb5
 obtain ⟨o2, o3, o4, o5, o6, FB, FC, FL, hp, hTB, hTC, hTL, hF, g1, g2, g3⟩ := HP.out.is
 have G1 := Hi g1
 have G2 := Hi g2
 have G3 := Hi g3
 have HF := Hi hF
 have HTC := Hi hTC
 have HTL := Hi hTL
 have HA := Hi (addB_any ⟨pr, po⟩ s p _ _ _ _ _ _ _ st.B FB w5 hp hTB (fun h => (g1 p h).1 rfl) (look_none.1 (by simpa using H3.out)) HLE.out)
 clear hp hTB hTC hTL hF g1 g2 g3
 go_wp2_with fail
 refine HA.out.mono ?_
 rintro e w6 ⟨rfl, o, h', F', hp6, ht6, hF6, hu6⟩
 have hFb : ∀ b, FC b ∨ FL b → ¬ (FB b ∨ b = p) := fun b hb h => by
  rcases hb with hb | hb
  ·
   rcases h with h | h
   ·
    exact (G1.out b h).2.1 hb
   ·
    exact (G2.out b hb).1 h
  ·
   rcases h with h | h
   ·
    exact (G1.out b h).2.2 hb
   ·
    exact G3.out b hb h
 have hC6 := HTC.out.upd hu6 (fun b hb => hFb b (.inl hb))
 have hL6 := HTL.out.upd hu6 (fun b hb => hFb b (.inr hb))
 have hnew : ∀ b, F' b → b ≠ p ∧ ¬ FC b ∧ ¬ FL b := fun b hb => by
  rcases hF6 b hb with h | h
  ·
   exact G1.out b h
  ·
   refine ⟨fun e => ?_, fun e => ?_, fun e => ?_⟩
   ·
    obtain ⟨_, _, _, _, _, _, _, _, hp, _⟩ := HP.out.is
    have := blk_lt hp; omega
   ·
    have := HTC.out.bound b e; omega
   ·
    have := HTL.out.bound b e; omega
 have HFIN := Hi (show PPost w p (addB st ⟨pr, po⟩ s) F (.int .i64 0) (.returned (.int .i64 0)) w6 from ⟨rfl, fun b => b = p ∨ F' b ∨ FC b ∨ FL b, ⟨_, _, _, _, _, F', FC, FL, hp6, ht6, hC6, hL6, fun b => Iff.rfl, hnew, G2.out, G3.out⟩, fun b hb => by
   rcases hb with h | h | h | h
   ·
    exact .inl ((HF.out b).2 (.inl h))
   ·
    rcases hF6 b h with h | h
    ·
     exact .inl ((HF.out b).2 (.inr (.inl h)))
    ·
     exact .inr (Nat.le_trans HB.out.size h)
   ·
    exact .inl ((HF.out b).2 (.inr (.inr (.inl h))))
   ·
    exact .inl ((HF.out b).2 (.inr (.inr (.inr h)))), (Upd.of_below HB.out).then hu6 (fun x _ h => (HF.out x).2 (by rcases h with h | h; exact .inr (.inl h); exact .inl h))⟩)
 clear hp6 ht6 hF6 hu6 hFb hC6 hL6 hnew
 go_wp2
 go_ret
 exact HFIN.out
end

theorem bind_any (pr po s : Int) (p : Nat) (st : PSt) (F : Nat → Prop) (w : World) (h : PAt w p st F) (hlen : st.B.length ≤ 1000000) :
  Calls Tryz.prog 14 #[.pointer (some ⟨p, 0, none⟩), .int .i64 pr, .int .i64 po, .int .i64 s] w (PPost w p (bindS st pr po s) F (.int .i64 (bindE st pr po s))) := by
 by_cases hne : bindE st pr po s = 0
 ·
  unfold bindS
  rw [if_pos hne, hne]
  unfold bindE at hne
  split at hne
  ·
   rename_i hv
   simp only [Bool.and_eq_true] at hv
   split at hne
   ·
    simp at hne
   ·
    rename_i hx
    simp only [Bool.or_eq_true, not_or, Bool.not_eq_true] at hx
    exact bind_yes h hlen hv.1 hv.2 hx.1 (by simpa using hx.2)
  ·
   simp at hne
 ·
  unfold bindS
  rw [if_neg hne]
  have key : ∀ v : Int, Calls Tryz.prog 14 #[.pointer (some ⟨p, 0, none⟩), .int .i64 pr, .int .i64 po, .int .i64 s] w (fun e w' => e = .returned (.int .i64 v) ∧ Below w.heap.size w w') → bindE st pr po s = v → Calls Tryz.prog 14 #[.pointer (some ⟨p, 0, none⟩), .int .i64 pr, .int .i64 po, .int .i64 s] w (PPost w p st F (.int .i64 (bindE st pr po s))) := by
   intro v hc e
   rw [e]
   exact hc.mono fun e w' ⟨he, hb⟩ => he ▸ PPost.still h hb
  cases h1 : vpr pr with
  | false => exact key 230 (bind_no1 h h1) (by simp [bindE, h1])
  | true =>
   cases h2 : vpo po with
   | false => exact key 230 (bind_no2 h h1 h2) (by simp [bindE, h1, h2])
   | true =>
    cases h3 : (look ⟨pr, po⟩ st.B).isSome with
    | true => exact key 231 (bind_no3 h h1 h2 h3) (by simp [bindE, h1, h2, h3])
    | false =>
     cases h4 : (bindOf st.B s != ⟨0, 0⟩) with
     | true => exact key 231 (bind_no4 h hlen h1 h2 h3 h4) (by simp [bindE, h1, h2, h3, h4])
     | false => exact absurd (by simp [bindE, h1, h2, h3, h4]) hne

end Go.Proofs.YtbhglemolpfnkaaGreatDoor
