/- The law RouteHostRoute returns true for every input: the walk. -/
import Derived.Test.YtkhhmoijjidbbaaHost
import Derived.Test.YtkhhmoijjidbbaaCopy
namespace Go.Proofs.Ytkhhmoijjidbbaa
open Go.RowKit Go.Sort
set_option linter.unusedVariables false

theorem host_grow {w7 w8 w9 : World} {b1 b2 : Obj} {a8 : Option Addr} {n c8 : Nat} {t : TypeId} {xs : List Value} (h8 : Below w7.heap.size (w7.alloc b1) w8) (ho : (w8.alloc b2).ownsRow w7.heap.size t 4 (.slice a8 n c8) n xs)
    (hg : (w8.alloc b2).grownBy w9 (Value.slice a8 n c8).ownBlock) : Below w7.heap.size w7 w9 := by
  have hs := h8.size
  simp at hs
  have e1 : Below w7.heap.size w7 (w8.alloc b2) := ((((Below.refl _ w7).alloc (Nat.le_refl _) b1).trans h8).alloc (by omega) b2)
  refine e1.grown hg e1.size (fun g e => ?_)
  obtain ⟨_, h2⟩ := ho
  rcases h2 with ⟨h, _⟩ | ⟨g', c', cu', h, hg', _⟩
  · rw [h] at e; cases e
  · rw [h] at e; simp [Value.ownBlock] at e; omega

set_option maxRecDepth 100000 in
set_option maxHeartbeats 8000000 in
theorem host_walk (n m : Nat) (x : Nat → Fr) (y : Nat → Rr) (v u : Value) (to via other : Int) (w : World) (hF : RdF w v n x) (hG : RdW w u m y) (h1 : i64 to) (h2 : i64 via) (h3 : i64 other) :
    Calls Try.prog 5 #[v, u, .int .i64 to, .int .i64 via, .int .i64 other] w fun e w' => e = .returned (.bool true) ∧ Below w.heap.size w w' := by
  obtain ⟨a0, cap0, rfl, hrest0⟩ := id hF
  obtain ⟨a1, cap1, rfl, hrest1⟩ := id hG
  clear hrest0 hrest1
  go_enter Try.func5, Try.ntmps5
  go_wp2_with fail
  refine (sanity_any _).mono ?_
  rintro e w1 ⟨rfl, hb⟩
  go_wp2_with fail
  refine (faces_any n x _ _ (hF.stay hb)).mono ?_
  rintro e w2 ⟨fv, rfl, hI, hb2⟩
  replace hb := below_mid hb hb2
  clear hb2 hF
  have hl := facesF_len n x
  have HPL := Lib.hid (fun k hk p q a b c d => host_plain n x m y k hk p q a b c d (facesF n x) rfl)
  have HBD := Lib.hid (faces_bd n x)
  generalize facesF n x = fs at *
  obtain ⟨aI, capI, rfl, hcapI, _, hpI⟩ := id hI
  obtain ⟨bI, oI, rfl, hcI⟩ := hpI (by omega)
  have HCI := Lib.hid hcI
  clear hcI hpI
  go_wp2_with fail
  refine (routes_any fs m y _ _ _ hI (hG.stay hb) hl.1 hl.2 HBD.out).mono ?_
  rintro e w3 ⟨rv, rfl, hR, hb3⟩
  replace hb := below_mid hb hb3
  have HC3 := Lib.hid (fun i hi => (HCI.out i hi).stay hb3)
  replace hI := hI.stay hb3
  clear hb3 hG HCI
  have hr8 := routes_len fs m y
  generalize routesF fs m y = rs at *
  obtain ⟨aR, capR, rfl, hcapR, hlR, _⟩ := id hR
  have qa := pk_bd to 1000 (by omega)
  go_wp2_with fail
  refine (pick_any to 1000 _ h1 (by omega)).mono ?_
  rintro e w4 ⟨rfl, hb4⟩
  replace hb := below_mid hb hb4
  have HC4 := Lib.hid (fun i hi => (HC3.out i hi).stay hb4)
  replace hI := hI.stay hb4
  replace hR := hR.stay hb4
  clear hb4 HC3
  generalize pk to 1000 = q at *
  go_wp2_with fail
  refine (pick_any via fs.length _ h2 (by omega)).mono ?_
  rintro e w5 ⟨rfl, hb5⟩
  have hpk := pk_bd via fs.length (by omega)
  obtain ⟨k, hk⟩ := Int.eq_ofNat_of_zero_le hpk.1
  rw [hk] at hpk ⊢
  have hkl : k < fs.length := by omega
  replace hb := below_mid hb hb5
  have HC5 := Lib.hid (fun i hi => (HC4.out i hi).stay hb5)
  replace hI := hI.stay hb5
  replace hR := hR.stay hb5
  clear hb5 hk HC4
  obtain ⟨bd1, bd2, bd3, bd4⟩ := HBD.out k hkl
  obtain ⟨_, _, d2, _, _⟩ := HC5.out k hkl
  have qp := pk_bd via 16 (by omega)
  have PV := Lib.hid (fun w => pick_any via 16 w h2 (by omega))
  obtain ⟨g1, g2, g3, g4⟩ := HPL.out k hkl (pk via 16) q qp.1 qp.2 qa.1 qa.2
  have G3 := Lib.hid g3
  have G4 := Lib.hid g4
  clear g1 g2 g3 g4 HPL HBD
  generalize pk via 16 = p at *
  go_wp2_with fail
  have k2 := cell_regrown d2
  refine wp_region_B (by kernel_rfl) (by kernel_rfl) ?_
  repeat (go_big_quiet_step ((go_at_call 11; exact Calls.regrown_of (PV.out _))))
  refine wpQuiet_nil ?_
  intro w6 hb6
  replace hb := below_mid hb hb6
  replace hI := hI.stay hb6
  replace hR := hR.stay hb6
  clear k2 hb6 d2 HC5 PV
  generalize hv0 : (ifAt fs k).na + p = v0 at *
  have hv0z : (v0 == 0) = false := by simp; omega
  have hv0n : v0 ≠ 0 := by omega
  clear hv0 bd1 bd2 bd3 bd4 qp
  go_wp2_with fail
  refine (rlocal_r (rfl : locI fs v0 = locI fs v0) (rfl : locB fs v0 = locB fs v0) _ _ hI).mono ?_
  rintro e w7 ⟨rfl, hb7⟩
  replace hb := below_mid hb hb7
  replace hI := hI.stay hb7
  replace hR := hR.stay hb7
  clear hb7
  have HV := Lib.hid (show hostV fs v0 = if locB fs v0 = true then 0 else v0 by simp [hostV, hv0n])
  clear hv0n
  cases hlo : locB fs v0
  case false =>
    rw [hlo] at HV
    simp only [Bool.false_eq_true, if_false] at HV
    have rb0 := run_bsR0
    have rb1 := fun w => run_bsR1 (184549376 + q) 32 v0 k w
    have hszw := hb.size
    obtain ⟨i0, hi, hz0, hz1, hz2⟩ := info_parts infoR
    have HI0 := Lib.hid hi
    have HZ0 := Lib.hid hz0
    have HZ1 := Lib.hid hz1
    have HZ2 := Lib.hid hz2
    clear hi hz0 hz1 hz2
    have hR7 := hR.stay ((Below.refl _ w7).alloc (Nat.le_refl _) (.cells #[] 29))
    have hgl : w7.heap.size ≤ (w7.alloc (.cells #[] 29)).heap.size := by simp
    have hmax : rs.length + 1 ≤ maxLen := by unfold maxLen; omega
    have hbytes : (rs.length + 1) * 32 ≤ 140737488355328 := by omega
    go_wp2_with (first
      | (at_builtin; refine wpList_copyR rfl (.tmp 63) (.tmp 64) rfl w7.heap.size w7.heap.size rfl (Nat.le_refl _) (new_block _ _) rs _ rfl hR7 hgl ?_; intro v8 w8 hown8 hb8; have HO8 := Lib.hid (ownsRow_stay ((Below.refl _ w8).alloc (Nat.le_refl _) (.cells #[.int .i64 (184549376 + q), .int .i64 32, .int .i64 v0, .int .i64 k] 29)) hown8); have hsl8 : ∃ a' c', v8 = .slice a' rs.length c' := (by rcases hown8.2 with ⟨e', h'⟩ | ⟨_, _, _, e', _⟩; exact ⟨_, _, e'.trans (by rw [h'])⟩; exact ⟨_, _, e'⟩); obtain ⟨a8, c8, rfl⟩ := hsl8; have HB8 := Lib.hid hb8; have hwz : w7.heap.size ≤ (w8.alloc (.cells #[.int .i64 (184549376 + q), .int .i64 32, .int .i64 v0, .int .i64 k] 29)).heap.size := (by have := hb8.size; simp at this ⊢; omega); clear hown8 hb8)
      | (at_builtin; refine (show _ = True → _ from fun h => of_eq_true h) ?_))
    refine eq_true ?_
    refine wpList_append_own _ rfl (.tmp 65) (.tmp 71) 33 rfl w7.heap.size 29 i0 _ 4 32 Try.underlying33 HI0.out HZ0.out HZ1.out HZ2.out rfl (by decide) _ rs.length _ rfl HO8.out ⟨w8.heap.size, 0, none⟩ 1 1 (rtc ⟨184549376 + q, 32, v0, k⟩) rfl rfl (news4 _ _ _) (rtc_one _) hmax hbytes hwz ?_
    intro v9 w9 hown9 hgrow9 _
    have HG9 := Lib.hid hgrow9
    rw [← rtcs_snoc] at hown9
    have HR9 := Lib.hid (RdR_of_owns (fs := rs ++ [⟨184549376 + q, 32, v0, k⟩]) (by rw [List.length_append]; exact hown9) (by simp; omega))
    have hsl9 : ∃ a' c', v9 = .slice a' (rs.length + 1) c' := (by rcases hown9.2 with ⟨_, h'⟩ | ⟨_, _, _, e', _⟩; omega; exact ⟨_, _, e'⟩)
    obtain ⟨a9, c9, rfl⟩ := hsl9
    clear hown9 hgrow9 rb0 rb1 hmax hbytes
    have hb9 : Below w7.heap.size w7 w9 := host_grow HB8.out HO8.out HG9.out
    clear HG9 HO8 HB8 hgl hwz HI0 HZ0 HZ1 HZ2 hR7
    replace hb := below_mid hb hb9
    replace hI := hI.stay hb9
    replace hR := hR.stay hb9
    have hM := HR9.out
    clear HR9 hb9 hszw
    have hL : look fs (rs ++ [⟨184549376 + q, 32, v0, k⟩]) (184549376 + q) = ((k : Int), v0, 0) := by
      have h := G3.out
      simp only [HV.out] at h
      simpa [show v0 ≠ 0 by simpa using hv0z] using h
    have HM4 := Lib.hid (show ∀ b, b ≠ 184549376 + q → look fs (rs ++ [⟨184549376 + q, 32, v0, k⟩]) b = look fs rs b by
      have h := G4.out
      simp only [HV.out] at h
      exact h)
    clear G3 G4 HV
    go_wp2_with fail
    refine (lookup_r hL _ _ _ hI hM).mono ?_
    rintro e w10 ⟨rfl, hb10⟩
    replace hb := below_mid hb hb10
    replace hI := hI.stay hb10
    replace hR := hR.stay hb10
    replace hM := hM.stay hb10
    clear hb10 hL
    go_wp2_with fail
    refine (to_any other _ h3).mono ?_
    rintro e w11 ⟨rfl, hb11⟩
    replace hb := below_mid hb hb11
    replace hI := hI.stay hb11
    replace hR := hR.stay hb11
    replace hM := hM.stay hb11
    clear hb11
    generalize toF other = b at *
    cases hba : (b == 184549376 + q)
    case true =>
      go_wp2_with fail
      go_ret
      exact ⟨rfl, hb⟩
    case false =>
      have hne : b ≠ 184549376 + q := by simpa using hba
      have HL2 := Lib.hid (HM4.out b hne)
      clear HM4 hne
      generalize hrb : look fs rs b = r at *
      obtain ⟨i1, i2, i3⟩ := r
      have HL1 := Lib.hid hrb
      clear hrb
      go_wp2_with fail
      refine (lookup_r HL1.out _ _ _ hI hR).mono ?_
      rintro e w12 ⟨rfl, hb12⟩
      replace hb := below_mid hb hb12
      replace hI := hI.stay hb12
      replace hM := hM.stay hb12
      clear hb12
      go_wp2_with fail
      refine (lookup_r HL2.out _ _ _ hI hM).mono ?_
      rintro e w13 ⟨rfl, hb13⟩
      replace hb := below_mid hb hb13
      clear hb13
      go_wp2_with fail
      go_ret
      exact ⟨rfl, hb⟩
  case true =>
    rw [hlo] at HV
    simp only [if_true] at HV
    have rb0 := run_bsR0
    have rb1 := fun w => run_bsR1 (184549376 + q) 32 0 k w
    have hszw := hb.size
    obtain ⟨i0, hi, hz0, hz1, hz2⟩ := info_parts infoR
    have HI0 := Lib.hid hi
    have HZ0 := Lib.hid hz0
    have HZ1 := Lib.hid hz1
    have HZ2 := Lib.hid hz2
    clear hi hz0 hz1 hz2
    have hR7 := hR.stay ((Below.refl _ w7).alloc (Nat.le_refl _) (.cells #[] 29))
    have hgl : w7.heap.size ≤ (w7.alloc (.cells #[] 29)).heap.size := by simp
    have hmax : rs.length + 1 ≤ maxLen := by unfold maxLen; omega
    have hbytes : (rs.length + 1) * 32 ≤ 140737488355328 := by omega
    go_wp2_with (first
      | (at_builtin; refine wpList_copyR rfl (.tmp 63) (.tmp 64) rfl w7.heap.size w7.heap.size rfl (Nat.le_refl _) (new_block _ _) rs _ rfl hR7 hgl ?_; intro v8 w8 hown8 hb8; have HO8 := Lib.hid (ownsRow_stay ((Below.refl _ w8).alloc (Nat.le_refl _) (.cells #[.int .i64 (184549376 + q), .int .i64 32, .int .i64 0, .int .i64 k] 29)) hown8); have hsl8 : ∃ a' c', v8 = .slice a' rs.length c' := (by rcases hown8.2 with ⟨e', h'⟩ | ⟨_, _, _, e', _⟩; exact ⟨_, _, e'.trans (by rw [h'])⟩; exact ⟨_, _, e'⟩); obtain ⟨a8, c8, rfl⟩ := hsl8; have HB8 := Lib.hid hb8; have hwz : w7.heap.size ≤ (w8.alloc (.cells #[.int .i64 (184549376 + q), .int .i64 32, .int .i64 0, .int .i64 k] 29)).heap.size := (by have := hb8.size; simp at this ⊢; omega); clear hown8 hb8)
      | (at_builtin; refine (show _ = True → _ from fun h => of_eq_true h) ?_))
    refine eq_true ?_
    refine wpList_append_own _ rfl (.tmp 65) (.tmp 71) 33 rfl w7.heap.size 29 i0 _ 4 32 Try.underlying33 HI0.out HZ0.out HZ1.out HZ2.out rfl (by decide) _ rs.length _ rfl HO8.out ⟨w8.heap.size, 0, none⟩ 1 1 (rtc ⟨184549376 + q, 32, 0, k⟩) rfl rfl (news4 _ _ _) (rtc_one _) hmax hbytes hwz ?_
    intro v9 w9 hown9 hgrow9 _
    have HG9 := Lib.hid hgrow9
    rw [← rtcs_snoc] at hown9
    have HR9 := Lib.hid (RdR_of_owns (fs := rs ++ [⟨184549376 + q, 32, 0, k⟩]) (by rw [List.length_append]; exact hown9) (by simp; omega))
    have hsl9 : ∃ a' c', v9 = .slice a' (rs.length + 1) c' := (by rcases hown9.2 with ⟨_, h'⟩ | ⟨_, _, _, e', _⟩; omega; exact ⟨_, _, e'⟩)
    obtain ⟨a9, c9, rfl⟩ := hsl9
    clear hown9 hgrow9 rb0 rb1 hmax hbytes
    have hb9 : Below w7.heap.size w7 w9 := host_grow HB8.out HO8.out HG9.out
    clear HG9 HO8 HB8 hgl hwz HI0 HZ0 HZ1 HZ2 hR7
    replace hb := below_mid hb hb9
    replace hI := hI.stay hb9
    replace hR := hR.stay hb9
    have hM := HR9.out
    clear HR9 hb9 hszw
    have hL : look fs (rs ++ [⟨184549376 + q, 32, 0, k⟩]) (184549376 + q) = ((k : Int), 184549376 + q, 0) := by
      have h := G3.out
      simp only [HV.out] at h
      simpa  using h
    have HM4 := Lib.hid (show ∀ b, b ≠ 184549376 + q → look fs (rs ++ [⟨184549376 + q, 32, 0, k⟩]) b = look fs rs b by
      have h := G4.out
      simp only [HV.out] at h
      exact h)
    clear G3 G4 HV
    go_wp2_with fail
    refine (lookup_r hL _ _ _ hI hM).mono ?_
    rintro e w10 ⟨rfl, hb10⟩
    replace hb := below_mid hb hb10
    replace hI := hI.stay hb10
    replace hR := hR.stay hb10
    replace hM := hM.stay hb10
    clear hb10 hL
    go_wp2_with fail
    refine (to_any other _ h3).mono ?_
    rintro e w11 ⟨rfl, hb11⟩
    replace hb := below_mid hb hb11
    replace hI := hI.stay hb11
    replace hR := hR.stay hb11
    replace hM := hM.stay hb11
    clear hb11
    generalize toF other = b at *
    cases hba : (b == 184549376 + q)
    case true =>
      go_wp2_with fail
      go_ret
      exact ⟨rfl, hb⟩
    case false =>
      have hne : b ≠ 184549376 + q := by simpa using hba
      have HL2 := Lib.hid (HM4.out b hne)
      clear HM4 hne
      generalize hrb : look fs rs b = r at *
      obtain ⟨i1, i2, i3⟩ := r
      have HL1 := Lib.hid hrb
      clear hrb
      go_wp2_with fail
      refine (lookup_r HL1.out _ _ _ hI hR).mono ?_
      rintro e w12 ⟨rfl, hb12⟩
      replace hb := below_mid hb hb12
      replace hI := hI.stay hb12
      replace hM := hM.stay hb12
      clear hb12
      go_wp2_with fail
      refine (lookup_r HL2.out _ _ _ hI hM).mono ?_
      rintro e w13 ⟨rfl, hb13⟩
      replace hb := below_mid hb hb13
      clear hb13
      go_wp2_with fail
      go_ret
      exact ⟨rfl, hb⟩

end Go.Proofs.Ytkhhmoijjidbbaa
