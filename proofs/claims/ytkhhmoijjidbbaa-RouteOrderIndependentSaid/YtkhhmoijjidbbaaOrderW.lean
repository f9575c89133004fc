/- The law RouteOrderIndependent returns true for every input: the walk. -/
import Derived.Test.YtkhhmoijjidbbaaOrder
import Derived.Test.YtkhhmoijjidbbaaOnLink
import Derived.Test.YtkhhmoijjidbbaaCopy
import Derived.Laws.StructEq
namespace Go.Proofs.Ytkhhmoijjidbbaa
open Go.RowKit Go.Sort
set_option linter.unusedVariables false

theorem spP : Try.prog.stoodInHeld 25 = false := by kernel_rfl
theorem egP : Try.prog.eqGuardType Try.prog.depth 25 = false := by kernel_rfl
theorem run_eqP (a b c d : Int) (w : World) : (binOp .eql 25 (.agg #[.int .i64 a, .int .i64 b]) (.agg #[.int .i64 c, .int .i64 d])).run Try.prog w = .ok (.bool ((a == c) && (b == d))) w := by
  have hu : Try.prog.underlying 25 = some (.struct (Try.prog.fieldsOf 25)) := by kernel_rfl
  rw [run_eql_struct, run_equalIn_agg w 9999 25 _ _ hu spP]
  have hf : ∃ f1 f2 : Field, (Try.prog.fieldsOf 25).toList = [f1, f2] ∧ f1.name ≠ "_" ∧ f2.name ≠ "_" ∧ f1.type = 3 ∧ f2.type = 3 ∧ f1.offset = 0 ∧ f2.offset = 1 := ⟨_, _, rfl, by decide, by decide, rfl, rfl, rfl, rfl⟩
  obtain ⟨f1, f2, e, n1, n2, t1, t2, o1, o2⟩ := hf
  rw [e]
  have p1 : ∀ x y : Int, (part 3 #[.int .i64 x, .int .i64 y] 0).run Try.prog w = .ok (.int .i64 x) w := fun x y => by kernel_rfl
  have p2 : ∀ x y : Int, (part 3 #[.int .i64 x, .int .i64 y] 1).run Try.prog w = .ok (.int .i64 y) w := fun x y => by kernel_rfl
  cases h1 : (a == c) <;> cases h2 : (b == d) <;> simp [Op.eqFields, n1, n2, t1, t2, o1, o2, p1, p2, run_equalIn_int w _ 3 .i64 .i64 _ _ Try.underlying3, h1, h2]
attribute [local go_sem ↓] run_eqP

def anyTo (us : List Rt) (r : Rt) (k : Nat) : Bool := (us.take k).any (fun s => decide (sameNet s r))
theorem any_succ (us : List Rt) (r : Rt) (k : Nat) (h : k < us.length) : anyTo us r (k + 1) = (anyTo us r k || decide (sameNet (rtAt us k) r)) := by
  unfold anyTo
  rw [List.take_succ_eq_append_getElem h, List.any_append, ← rtAt_eq us k h]
  simp
theorem any_all (us : List Rt) (r : Rt) : anyTo us r us.length = us.any (fun s => decide (sameNet s r)) := by
  unfold anyTo; rw [List.take_length]
theorem uq_yes (rs : List Rt) (k : Nat) (h : anyTo (uqTo rs k) (rtAt rs k) (uqTo rs k).length = true) : uqTo rs (k + 1) = uqTo rs k := by
  rw [any_all] at h; simp only [uqTo]; rw [if_pos h]
theorem uq_no (rs : List Rt) (k : Nat) (h : anyTo (uqTo rs k) (rtAt rs k) (uqTo rs k).length = false) : uqTo rs (k + 1) = uqTo rs k ++ [rtAt rs k] := by
  rw [any_all] at h; simp only [uqTo]; rw [if_neg (by rw [h]; simp)]

theorem own_grow {B : Nat} {w w1 w2 : World} {t : TypeId} {sz n : Nat} {v : Value} {xs : List Value} (hb : Below B w w1) (ho : w1.ownsRow B t sz v n xs) (hg : w1.grownBy w2 v.ownBlock) (hB : B ≤ w1.heap.size := by first | assumption | omega) : Below B w w2 := by
  refine hb.grown hg hB (fun g e => ?_)
  obtain ⟨_, h2⟩ := ho
  rcases h2 with ⟨h, _⟩ | ⟨g', c', cu', h, hg', _⟩
  · rw [h] at e; cases e
  · rw [h] at e; simp [Value.ownBlock] at e; omega

set_option maxRecDepth 100000 in
set_option maxHeartbeats 8000000 in
theorem order_walk (n m : Nat) (x : Nat → Fr) (y : Nat → Rr) (v u : Value) (tgt : Int) (w : World) (hF : RdF w v n x) (hG : RdW w u m y) (h1 : i64 tgt) :
    Calls Try.prog 6 #[v, u, .int .i64 tgt] w fun e w' => e = .returned (.bool true) ∧ Below w.heap.size w w' := by
  obtain ⟨a0, cap0, rfl, hrest0⟩ := id hF
  obtain ⟨a1, cap1, rfl, hrest1⟩ := id hG
  clear hrest0 hrest1
  go_enter Try.func6, Try.ntmps6
  go_wp2_with fail
  refine (sanity_any _).mono ?_
  rintro e w1 ⟨rfl, hb⟩
  go_wp2_with fail
  refine (faces_any n x _ _ (hF.stay hb)).mono ?_
  rintro e w2 ⟨fv, rfl, hI, hb2⟩
  replace hb := below_mid hb hb2
  clear hb2 hF
  have hl := facesF_len n x
  have HPL := Lib.hid (fun tgt => order_plain n x m y (facesF n x) rfl (routesF (facesF n x) m y) rfl tgt)
  have HBD := Lib.hid (faces_bd n x)
  generalize facesF n x = fs at *
  obtain ⟨aI, capI, rfl, hcapI, _, hpI⟩ := id hI
  clear hpI
  go_wp2_with fail
  refine (routes_any fs m y _ _ _ hI (hG.stay hb) hl.1 hl.2 HBD.out).mono ?_
  rintro e w3 ⟨rv, rfl, hR, hb3⟩
  replace hb := below_mid hb hb3
  replace hI := hI.stay hb3
  clear hb3 hG HBD
  have hr8 := routes_len fs m y
  generalize routesF fs m y = rs at *
  obtain ⟨aR, capR, rfl, hcapR, hlR, hpR⟩ := id hR
  have HPR := Lib.hid hpR
  have HI3 := Lib.hid hI
  have HR3 := Lib.hid hR
  clear hpR hI hR
  obtain ⟨i0, hi, hz0, hz1, hz2⟩ := info_parts infoR
  have HI0 := Lib.hid hi
  have HZ0 := Lib.hid hz0
  have HZ1 := Lib.hid hz1
  have HZ2 := Lib.hid hz2
  clear hi hz0 hz1 hz2
  go_wp2
  go_loopw [10, 11] (fun out i wr => ∃ k : Nat, k ≤ rs.length ∧ i = .int .i64 k ∧ wr.ownsRow w3.heap.size 29 4 out (uqTo rs k).length (rtcs (uqTo rs k)) ∧ Below w3.heap.size w3 wr) (fun _ i _ => rs.length - (intOf i).toNat)
  case atStart => exact ⟨0, Nat.zero_le _, rfl, World.ownsRow_nil _ _ _ _, Below.refl _ _⟩
  case round =>
    obtain ⟨k, hk, rfl, hown, hb4⟩ := hrel
    have HW := Lib.hid hown
    clear hown
    have hul := uq_len rs k
    by_cases hlt : k < rs.length
    · have HY := Lib.hid (uq_yes rs k)
      have HN := Lib.hid (uq_no rs k)
      generalize uqTo rs k = us at *
      have HU := Lib.hid (RdR_of_owns HW.out (by omega))
      obtain ⟨aU, capU, rfl, hcapU, hlU, hpU⟩ := id HU.out
      have HPU := Lib.hid hpU
      clear hpU
      obtain ⟨bR, oR, rfl, hcR⟩ := HPR.out (by omega)
      have HCR := Lib.hid ((hcR k hlt).stay hb4)
      have hkc : k ≤ capR := by omega
      clear hcR
      generalize hrk : rtAt rs k = rk at *
      obtain ⟨rna, rnb, rvia, rfc⟩ := rk
      have HRK := Lib.hid hrk
      clear hrk
      obtain ⟨wo, rfl⟩ : ∃ wo : World, wo = wr := ⟨_, rfl⟩
      go_wp2
      go_loopw [12, 13] (fun tw i wr => ∃ j : Nat, j ≤ us.length ∧ i = .int .i64 j ∧ tw = .bool (anyTo us ⟨rna, rnb, rvia, rfc⟩ j) ∧ Below wo.heap.size wo wr) (fun _ i _ => us.length - (intOf i).toNat)
      case atStart => exact ⟨0, Nat.zero_le _, rfl, rfl, Below.refl _ _⟩
      case round =>
        obtain ⟨j, hj, rfl, rfl, hb5⟩ := hrel
        obtain ⟨c0, c1, c2, c3⟩ := HCR.out.stay hb5
        simp only at c0 c1 c2 c3
        by_cases hjl : j < us.length
        · obtain ⟨bU, oU, rfl, hcU⟩ := HPU.out (by omega)
          obtain ⟨d0, d1, d2, d3⟩ := (hcU j hjl).stay hb5
          clear hcU
          have hjc : j ≤ capU := by omega
          have HS := Lib.hid (any_succ us ⟨rna, rnb, rvia, rfc⟩ j hjl)
          generalize rtAt us j = s at *
          obtain ⟨sna, snb, svia, sfc⟩ := s
          simp only at d0 d1 d2 d3
          cases htw : anyTo us ⟨rna, rnb, rvia, rfc⟩ j
          case true =>
            go_wp2
            refine wp_region_B (by kernel_rfl) (by kernel_rfl) ?_
            repeat (go_big_quiet_step (fail))
            refine wpQuiet_nil ?_
            intro w6 hb6
            replace hb5 := below_mid hb5 hb6
            go_wp2
            go_roundw
            case rel => exact ⟨j + 1, by omega, by go_num, by rw [HS.out, htw]; rfl, hb5⟩
            case measure => simp [intOf]; omega
          case false =>
            go_wp2
            have k0 := cell_regrown c0
            have k1 := cell_regrown c1
            have k2 := cell_regrown d0
            have k3 := cell_regrown d1
            have eg := egP
            refine wp_region_B (by kernel_rfl) (by kernel_rfl) ?_
            repeat (go_big_quiet_step (fail))
            refine wpQuiet_nil ?_
            intro w6 hb6
            replace hb5 := below_mid hb5 hb6
            clear k0 k1 k2 k3 eg
            go_wp2
            go_roundw
            case rel => exact ⟨j + 1, by omega, by go_num, by rw [HS.out, htw]; simp only [sameNet, Bool.false_or]; exact congrArg Value.bool (by rw [Bool.eq_iff_iff, Bool.and_eq_true, beq_iff_eq, beq_iff_eq]; exact (@decide_eq_true_iff _ _).symm), hb5⟩
            case measure => simp [intOf]; omega
        · obtain rfl : j = us.length := by omega
          clear hjl hj
          have hb6 : Below w3.heap.size w3 wr := below_mid hb4 hb5
          have HW6 := Lib.hid (ownsRow_stay hb5 HW.out)
          cases htw : anyTo us ⟨rna, rnb, rvia, rfc⟩ us.length
          case true =>
            have HE := Lib.hid (HY.out htw)
            go_wp2
            go_roundw
            case rel => exact ⟨k + 1, by omega, by go_num, by rw [HE.out]; exact HW6.out, hb6⟩
            case measure => simp [intOf]; omega
          case false =>
            have HE := Lib.hid (HN.out htw)
            have rb1 := fun w => run_bsR1 rna rnb rvia rfc w
            have hmax : us.length + 1 ≤ maxLen := by unfold maxLen; omega
            have hbytes : (us.length + 1) * 32 ≤ 140737488355328 := by omega
            have HO6 := Lib.hid (ownsRow_stay ((Below.refl _ wr).alloc (Nat.le_refl _) (.cells #[.int .i64 rna, .int .i64 rnb, .int .i64 rvia, .int .i64 rfc] 29)) HW6.out)
            have hwz : w3.heap.size ≤ (wr.alloc (.cells #[.int .i64 rna, .int .i64 rnb, .int .i64 rvia, .int .i64 rfc] 29)).heap.size := by have := hb6.size; simp; omega
            go_wp2_with ((at_builtin; refine (show _ = True → _ from fun h => of_eq_true h) ?_))
            refine eq_true ?_
            refine wpList_append_own _ rfl (.tmp 60) (.tmp 65) 33 rfl w3.heap.size 29 i0 _ 4 32 Try.underlying33 HI0.out HZ0.out HZ1.out HZ2.out rfl (by decide) _ us.length _ rfl HO6.out ⟨wr.heap.size, 0, none⟩ 1 1 (rtc ⟨rna, rnb, rvia, rfc⟩) rfl rfl (news4 _ _ _) (rtc_one _) hmax hbytes hwz ?_
            intro v7 w7 hown7 hgrow7 _
            rw [← rtcs_snoc] at hown7
            have HO7 := Lib.hid hown7
            have HB7 := Lib.hid (own_grow (hb6.alloc hb6.size _) HO6.out hgrow7)
            clear hown7 hgrow7 rb1 hmax hbytes hwz
            go_wp2
            go_roundw
            case rel => exact ⟨k + 1, by omega, by go_num, by rw [HE.out]; simpa using HO7.out, HB7.out⟩
            case measure => simp [intOf]; omega
    · obtain rfl : k = rs.length := by omega
      clear hlt hk
      obtain ⟨hp1, hp2⟩ := HPL.out (toF tgt)
      have HP1 := Lib.hid hp1
      have HP2 := Lib.hid hp2
      clear hp1 hp2 HPL HPR
      generalize uqTo rs rs.length = us at *
      obtain ⟨w4, rfl⟩ : ∃ w4 : World, w4 = wr := ⟨_, rfl⟩
      have HU := Lib.hid (RdR_of_owns HW.out (by omega))
      obtain ⟨aU, capU, rfl, hcapU, hlU, hpU⟩ := id HU.out
      have HPU := Lib.hid hpU
      clear hpU HW
      have HI4 := Lib.hid (HI3.out.stay hb4)
      have HR4 := Lib.hid (HR3.out.stay hb4)
      replace hb := below_mid hb hb4
      clear HI3 HR3 hb4
      go_wp2
      go_loopw [14, 15] (fun out i wr => ∃ k : Nat, k ≤ us.length ∧ i = .int .i64 ((us.length : Int) - 1 - k) ∧ wr.ownsRow w4.heap.size 29 4 out k (rtcs (us.reverse.take k)) ∧ Below w4.heap.size w4 wr) (fun _ i _ => (intOf i + 1).toNat)
      case atStart => exact ⟨0, Nat.zero_le _, by simp, World.ownsRow_nil _ _ _ _, Below.refl _ _⟩
      case round =>
        obtain ⟨k, hk, rfl, hown, hb5⟩ := hrel
        have HW := Lib.hid hown
        clear hown
        by_cases hlt : k < us.length
        · obtain ⟨bU, oU, rfl, hcU⟩ := HPU.out (by omega)
          obtain ⟨j, hj⟩ : ∃ j : Nat, j + 1 + k = us.length := ⟨us.length - 1 - k, by omega⟩
          have hji : (us.length : Int) - 1 - k = j := by omega
          rw [hji]
          obtain ⟨d0, d1, d2, d3⟩ := (hcU j (by omega)).stay hb5
          clear hcU
          have HT := Lib.hid (show us.reverse.take (k + 1) = us.reverse.take k ++ [rtAt us j] by
            rw [List.take_succ_eq_append_getElem (by simp; omega), rtAt_eq us j (by omega)]
            congr 2
            rw [List.getElem_reverse]
            congr 1
            omega)
          have hjl : j < us.length := by omega
          have hjc : j ≤ capU := by omega
          have HJ := Lib.hid hj
          have HJI := Lib.hid hji
          clear hj hji
          generalize rtAt us j = s at *
          obtain ⟨sna, snb, svia, sfc⟩ := s
          simp only at d0 d1 d2 d3
          have hsl : ∃ a' c', u14 = .slice a' k c' := by
            rcases HW.out.2 with ⟨e', h'⟩ | ⟨_, _, _, e', _⟩
            · exact ⟨_, _, e'.trans (by rw [h'])⟩
            · exact ⟨_, _, e'⟩
          obtain ⟨a5, c5, rfl⟩ := hsl
          have rb1 := fun w => run_bsR1 sna snb svia sfc w
          have hmax : k + 1 ≤ maxLen := by unfold maxLen; omega
          have hbytes : (k + 1) * 32 ≤ 140737488355328 := by omega
          have HO6 := Lib.hid (ownsRow_stay ((Below.refl _ wr).alloc (Nat.le_refl _) (.cells #[.int .i64 sna, .int .i64 snb, .int .i64 svia, .int .i64 sfc] 29)) HW.out)
          have hwz : w4.heap.size ≤ (wr.alloc (.cells #[.int .i64 sna, .int .i64 snb, .int .i64 svia, .int .i64 sfc] 29)).heap.size := by have := hb5.size; simp; omega
          go_wp2_with ((at_builtin; refine (show _ = True → _ from fun h => of_eq_true h) ?_))
          refine eq_true ?_
          refine wpList_append_own _ rfl (.tmp 74) (.tmp 79) 33 rfl w4.heap.size 29 i0 _ 4 32 Try.underlying33 HI0.out HZ0.out HZ1.out HZ2.out rfl (by decide) _ k _ rfl HO6.out ⟨wr.heap.size, 0, none⟩ 1 1 (rtc ⟨sna, snb, svia, sfc⟩) rfl rfl (news4 _ _ _) (rtc_one _) hmax hbytes hwz ?_
          intro v7 w7 hown7 hgrow7 _
          rw [← rtcs_snoc] at hown7
          have HO7 := Lib.hid hown7
          have HB7 := Lib.hid (own_grow (hb5.alloc hb5.size _) HO6.out hgrow7)
          clear hown7 hgrow7 rb1 hmax hbytes hwz
          go_wp2
          go_roundw
          case rel => exact ⟨k + 1, by omega, by have := HJ.out; exact congrArg (Value.int .i64) (by omega), by rw [HT.out]; exact HO7.out, HB7.out⟩
          case measure => have := HJ.out; simp [intOf]
        · obtain rfl : k = us.length := by omega
          clear hlt hk
          have hneg : (us.length : Int) - 1 - us.length = -1 := by omega
          rw [hneg]
          clear hneg
          rw [show us.reverse.take us.length = us.reverse by rw [← List.length_reverse, List.take_length]] at HW
          have HV := Lib.hid (RdR_of_owns (fs := us.reverse) (by rw [List.length_reverse]; exact HW.out) (by simp; omega))
          obtain ⟨aV, capV, hvE, hcapV, hlV, hpV⟩ := id HV.out
          rw [List.length_reverse] at hvE hcapV hlV
          subst hvE
          clear hpV
          have hI := HI4.out.stay hb5
          have hR := HR4.out.stay hb5
          have hU := HU.out.stay hb5
          have hV := HV.out
          replace hb := below_mid hb hb5
          clear HI4 HR4 HU HV hb5 HPU
          go_wp2_with fail
          refine (to_any tgt _ h1).mono ?_
          rintro e w5 ⟨rfl, hb5⟩
          replace hb := below_mid hb hb5
          replace hI := hI.stay hb5
          replace hR := hR.stay hb5
          replace hU := hU.stay hb5
          replace hV := hV.stay hb5
          clear hb5
          generalize toF tgt = a at *
          generalize hlk : look fs rs a = r at HP1 HP2
          obtain ⟨face, next, er⟩ := r
          have HLK := Lib.hid hlk
          clear hlk
          go_wp2_with fail
          refine (lookup_r HP1.out _ _ _ hI hU).mono ?_
          rintro e w6 ⟨rfl, hb5⟩
          replace hb := below_mid hb hb5
          replace hI := hI.stay hb5
          replace hR := hR.stay hb5
          replace hV := hV.stay hb5
          clear hb5
          go_wp2_with fail
          refine (lookup_r HP2.out _ _ _ hI hV).mono ?_
          rintro e w7 ⟨rfl, hb5⟩
          replace hb := below_mid hb hb5
          replace hI := hI.stay hb5
          replace hR := hR.stay hb5
          clear hb5
          go_wp2_with fail
          refine (lookup_r HLK.out _ _ _ hI hR).mono ?_
          rintro e w8 ⟨rfl, hb5⟩
          replace hb := below_mid hb hb5
          clear hb5
          have e1 : (face == face) = true := by simp
          have e2 : (next == next) = true := by simp
          have e3 : (er == er) = true := by simp
          go_wp2
          go_ret
          exact ⟨rfl, hb⟩

end Go.Proofs.Ytkhhmoijjidbbaa
