/- The law RouteLongestPrefix returns true for every input: the walk. -/
import Derived.Test.YtkhhmoijjidbbaaLong
import Derived.Test.YtkhhmoijjidbbaaOnLink
import Derived.Deep.DeepCutAuto
namespace Go.Proofs.Ytkhhmoijjidbbaa
open Go.RowKit Go.Sort
set_option linter.unusedVariables false
attribute [local go_sem ↓] run_mx

theorem con_r {a b x : Int} {r : Bool} (h : conB a b x = r) (w : World) :
    Calls Try.prog 21 #[.agg #[.int .i64 a, .int .i64 b], .int .i64 x] w fun e w' => e = .returned (.bool r) ∧ Below w.heap.size w w' := h ▸ contains_any a b x w

set_option maxRecDepth 100000 in
set_option maxHeartbeats 8000000 in
theorem long_walk (n m : Nat) (x : Nat → Fr) (y : Nat → Rr) (v u : Value) (tgt : Int) (w : World) (hF : RdF w v n x) (hG : RdW w u m y) (h1 : i64 tgt) :
    Calls Try.prog 4 #[v, u, .int .i64 tgt] w fun e w' => e = .returned (.bool true) ∧ Below w.heap.size w w' := by
  obtain ⟨a0, cap0, rfl, hrest0⟩ := id hF
  obtain ⟨a1, cap1, rfl, hrest1⟩ := id hG
  clear hrest0 hrest1
  go_enter Try.func4, Try.ntmps4
  go_wp2_with fail
  refine (sanity_any _).mono ?_
  rintro e w1 ⟨rfl, hb⟩
  go_wp2_with fail
  refine (faces_any n x _ _ (hF.stay hb)).mono ?_
  rintro e w2 ⟨fv, rfl, hI, hb2⟩
  replace hb := below_mid hb hb2
  clear hb2 hF
  have hl := facesF_len n x
  have HPL := Lib.hid (fun a B => long_plain n x m y a B (facesF n x) rfl (routesF (facesF n x) m y) rfl)
  have HBD := Lib.hid (faces_bd n x)
  generalize facesF n x = fs at *
  obtain ⟨aI, capI, rfl, hcapI, _, hpI⟩ := id hI
  obtain ⟨bI, oI, rfl, hcI⟩ := hpI (by omega)
  have HCI := Lib.hid hcI
  clear hcI hpI
  go_wp2_with fail
  refine (routes_any fs m y _ _ _ hI (hG.stay hb) hl.1 hl.2 HBD.out).mono ?_
  rintro e w3 ⟨rv, rfl, hR, hb3⟩
  replace hb := below_mid hb hb3
  have HC3 := Lib.hid (fun i hi => (HCI.out i hi).stay hb3)
  replace hI := hI.stay hb3
  clear hb3 hG HCI HBD
  have hr8 := routes_len fs m y
  have HRW := Lib.hid (routes_chk n x m y)
  generalize routesF fs m y = rs at *
  obtain ⟨aR, capR, rfl, hcapR, hlR, _⟩ := id hR
  go_wp2_with fail
  refine (to_any tgt _ h1).mono ?_
  rintro e w4 ⟨rfl, hb4⟩
  replace hb := below_mid hb hb4
  have HC4 := Lib.hid (fun i hi => (HC3.out i hi).stay hb4)
  replace hI := hI.stay hb4
  replace hR := hR.stay hb4
  clear hb4 HC3 HRW
  generalize toF tgt = a at *
  generalize hlk : look fs rs a = r
  obtain ⟨face, next, er⟩ := r
  have HLK := Lib.hid hlk
  clear hlk
  go_wp2_with fail
  refine (lookup_r HLK.out _ _ _ hI hR).mono ?_
  rintro e w5 ⟨rfl, hb5⟩
  replace hb := below_mid hb hb5
  have HC5 := Lib.hid (fun i hi => (HC4.out i hi).stay hb5)
  replace hR := hR.stay hb5
  obtain ⟨_, _, e, _, _, hpR⟩ := id hR
  cases e
  have HPR := Lib.hid hpR
  clear hb5 HC4 hI hpR
  by_cases hu : 1 ≤ a ∧ a ≤ 4294967294
  case neg =>
    have her : er = 90 := by
      have h := HLK.out
      simp only [look, uniB, hu, decide_false, Bool.false_eq_true, if_false, ite_self, Prod.mk.injEq] at h
      omega
    subst her
    by_cases h1 : a < 1
    · go_wp2
      go_ret
      exact ⟨rfl, hb⟩
    · have h2 : 4294967294 < a := by omega
      go_wp2
      go_ret
      exact ⟨rfl, hb⟩
  case pos =>
    have hu1 : 1 ≤ a := hu.1
    have hu2 : a ≤ 4294967294 := hu.2
    have HP := Lib.hid (fun B hT => HPL.out a B hu hT face next er HLK.out)
    clear HPL HLK hu
    go_wp2
    go_loopw [14, 15] (fun bv i wr => ∃ (k : Nat) (B : Int), k ≤ fs.length ∧ i = .int .i64 k ∧ bv = .int .i64 B ∧ Top fs rs a k B ∧ Below w5.heap.size w5 wr) (fun _ i _ => fs.length - (intOf i).toNat)
    case atStart => exact ⟨0, -1, Nat.zero_le _, rfl, rfl, top_zero fs rs a, Below.refl _ _⟩
    case round =>
      obtain ⟨k, B, hk, rfl, rfl, hT, hb6⟩ := hrel
      have HT := Lib.hid hT
      clear hT
      by_cases hlt : k < fs.length
      · obtain ⟨c0, c1, c2, c3, c4⟩ := (HC5.out k hlt).stay hb6
        have HC := Lib.hid (show ∀ r, conB (ifAt fs k).na (ifAt fs k).nb a = r → isCand fs rs a k = r from fun r h => by simp only [isCand, netA, netB, if_pos hlt]; exact h)
        have HN := Lib.hid (show netB fs rs k = (ifAt fs k).nb by simp only [netB, if_pos hlt])
        have hkc : k ≤ capI := by omega
        generalize ifAt fs k = f at *
        obtain ⟨mac, addr, na, nb, mtu⟩ := f
        simp only at c0 c1 c2 c3 c4 HC HN
        cases hc : conB na nb a
        case false =>
          go_wp2_with fail
          refine (con_r hc _).mono ?_
          rintro e w6 ⟨rfl, hb7⟩
          replace hb6 := below_mid hb6 hb7
          go_wp2
          go_roundw
          case rel => exact ⟨k + 1, B, by omega, by go_num, rfl, top_no HT.out (HC.out _ hc), hb6⟩
          case measure => simp [intOf]; omega
        case true =>
          go_wp2_with fail
          refine (con_r hc _).mono ?_
          rintro e w6 ⟨rfl, hb7⟩
          replace hb6 := below_mid hb6 hb7
          replace c3 := keep hb7 c3
          go_wp2
          go_roundw
          case rel => exact ⟨k + 1, mxF B nb, by omega, by go_num, rfl, HN.out ▸ top_yes HT.out (HC.out _ hc), hb6⟩
          case measure => simp [intOf]; omega
      · have hke : k = fs.length := by omega
        subst hke
        clear hlt hk
        go_wp2
        go_loopw [14, 16] (fun bv i wr => ∃ (k : Nat) (B : Int), k ≤ rs.length ∧ i = .int .i64 k ∧ bv = .int .i64 B ∧ Top fs rs a (fs.length + k) B ∧ Below w5.heap.size w5 wr) (fun _ i _ => rs.length - (intOf i).toNat)
        case atStart => exact ⟨0, B, Nat.zero_le _, rfl, rfl, HT.out, hb6⟩
        case round =>
          clear hb6 HT
          obtain ⟨k, B, hk, rfl, rfl, hT, hb6⟩ := hrel
          have HT := Lib.hid hT
          clear hT
          by_cases hlt : k < rs.length
          · obtain ⟨bR, oR, rfl, hcR⟩ := HPR.out (by omega)
            obtain ⟨c0, c1, c2, c3⟩ := (hcR k hlt).stay hb6
            have hnl : ¬ fs.length + k < fs.length := by omega
            have hnk : fs.length + k - fs.length = k := by omega
            have HC := Lib.hid (show ∀ r, conB (rtAt rs k).na (rtAt rs k).nb a = r → isCand fs rs a (fs.length + k) = r from fun r h => by simp only [isCand, netA, netB, if_neg hnl, hnk]; exact h)
            have HN := Lib.hid (show netB fs rs (fs.length + k) = (rtAt rs k).nb by simp only [netB, if_neg hnl, hnk])
            have hkc : k ≤ capR := by omega
            clear hcR hnl hnk
            generalize rtAt rs k = f at *
            obtain ⟨na, nb, via, fc⟩ := f
            simp only at c0 c1 c2 c3 HC HN
            cases hc : conB na nb a
            case false =>
              go_wp2_with fail
              refine (con_r hc _).mono ?_
              rintro e w6 ⟨rfl, hb7⟩
              replace hb6 := below_mid hb6 hb7
              go_wp2
              go_roundw
              case rel => exact ⟨k + 1, B, by omega, by go_num, rfl, top_no HT.out (HC.out _ hc), hb6⟩
              case measure => simp [intOf]; omega
            case true =>
              go_wp2_with fail
              refine (con_r hc _).mono ?_
              rintro e w6 ⟨rfl, hb7⟩
              replace hb6 := below_mid hb6 hb7
              replace c1 := keep hb7 c1
              go_wp2
              go_roundw
              case rel => exact ⟨k + 1, mxF B nb, by omega, by go_num, rfl, HN.out ▸ top_yes HT.out (HC.out _ hc), hb6⟩
              case measure => simp [intOf]; omega
          · have hke : k = rs.length := by omega
            subst hke
            clear hlt hk
            obtain ⟨hp1, hp2⟩ := HP.out B HT.out
            clear HP HT
            by_cases hB : B < 0
            · have her := hp1 hB
              subst her
              clear hp1 hp2
              go_wp2
              go_ret
              exact ⟨rfl, below_mid hb hb6⟩
            · obtain ⟨her, k, rfl, hkl, hnx, hor⟩ := hp2 (by omega)
              subst her
              have HOR := Lib.hid hor
              have HNX := Lib.hid hnx
              clear hor hnx hp1
              have HIK := Lib.hid (HC5.out k hkl)
              have hkc : k ≤ capI := by omega
              clear hp2 HC5
              generalize ifAt fs k = f at *
              obtain ⟨mac, addr, na, nb, mtu⟩ := f
              simp only at HOR HNX
              obtain ⟨c0, c1, c2, c3, c4⟩ := HIK.out.stay hb6
              simp only at c0 c1 c2 c3 c4
              go_upto_region 23 with (fail)
              go_cut [17] (fun s17 wx => ∃ ok0 : Bool, s17 = .bool ok0 ∧ ((nb = B ∧ next = a ∧ conB na nb a = true) → ok0 = true) ∧ Below w5.heap.size w5 wx)
              case first =>
                cases e1 : (nb == B)
                case false =>
                  go_wp2
                  go_meet
                  exact ⟨false, rfl, fun h => by simp [h.1] at e1, hb6⟩
                case true =>
                  cases e2 : (next == a)
                  case false =>
                    go_wp2
                    go_meet
                    exact ⟨false, rfl, fun h => by simp [h.2.1] at e2, hb6⟩
                  case true =>
                    go_wp2_with fail
                    refine (con_r (rfl : conB na nb a = conB na nb a) _).mono ?_
                    rintro e w6 ⟨rfl, hb7⟩
                    go_wp2
                    go_meet
                    exact ⟨conB na nb a, rfl, fun h => h.2.2, below_mid hb6 hb7⟩
              case rest =>
                obtain ⟨ok0, rfl, hok0, hb7⟩ := hcut
                have HOK := Lib.hid hok0
                clear hok0 hb6 c0 c1 c2 c3 c4
                go_wp2
                go_loopw [17, 18] (fun ov i wr => ∃ (j : Nat) (q : Bool), j ≤ rs.length ∧ i = .int .i64 j ∧ ov = .bool q ∧ ((ok0 = true ∨ ∃ l, l < j ∧ okR (rtAt rs l) B a k next = true) → q = true) ∧ Below w5.heap.size w5 wr) (fun _ i _ => rs.length - (intOf i).toNat)
                case atStart => exact ⟨0, ok0, Nat.zero_le _, rfl, rfl, fun h => by rcases h with h | ⟨l, hl, _⟩; exact h; omega, hb7⟩
                case round =>
                  clear hb7
                  obtain ⟨j, q, hj, rfl, rfl, hq, hb6⟩ := hrel
                  have HQ := Lib.hid hq
                  clear hq
                  by_cases hlt : j < rs.length
                  · obtain ⟨bR, oR, rfl, hcR⟩ := HPR.out (by omega)
                    obtain ⟨c0, c1, c2, c3⟩ := (hcR j hlt).stay hb6
                    have hjc : j ≤ capR := by omega
                    clear hcR
                    have HR1 := Lib.hid (show ∀ q' : Bool, (q = true → q' = true) → (okR (rtAt rs j) B a k next = true → q' = true) → ((ok0 = true ∨ ∃ l, l < j + 1 ∧ okR (rtAt rs l) B a k next = true) → q' = true) from fun q' h1 h2 h => by
                      rcases h with h | ⟨l, hl, h⟩
                      · exact h1 (HQ.out (.inl h))
                      · by_cases hlj : l = j
                        · subst hlj; exact h2 h
                        · exact h1 (HQ.out (.inr ⟨l, by omega, h⟩)))
                    clear HQ
                    generalize rtAt rs j = f at *
                    obtain ⟨rna, rnb, via, fc⟩ := f
                    simp only at c0 c1 c2 c3
                    cases q
                    case true =>
                      go_wp2
                      go_roundw
                      case rel => exact ⟨j + 1, true, by omega, by go_num, rfl, HR1.out true (fun _ => rfl) (fun _ => rfl), hb6.alloc hb6.size _⟩
                      case measure => simp [intOf]; omega
                    case false =>
                      cases e1 : (rnb == B)
                      case false =>
                        go_wp2
                        go_roundw
                        case rel => exact ⟨j + 1, false, by omega, by go_num, rfl, HR1.out false (fun h => h) (fun h => by simp [okR, e1] at h), hb6.alloc hb6.size _⟩
                        case measure => simp [intOf]; omega
                      case true =>
                        go_wp2_with fail
                        cases hc : conB rna rnb a
                        case false =>
                          refine (con_r hc _).mono ?_
                          rintro e w6 ⟨rfl, hb7⟩
                          have hb8 := below_mid (hb6.alloc hb6.size _) hb7
                          clear hb7
                          go_wp2
                          go_roundw
                          case rel => exact ⟨j + 1, false, by omega, by go_num, rfl, HR1.out false (fun h => h) (fun h => by simp [okR, hc] at h), hb8⟩
                          case measure => simp [intOf]; omega
                        case true =>
                          refine (con_r hc _).mono ?_
                          rintro e w6 ⟨rfl, hb7⟩
                          have hb8 := below_mid (hb6.alloc hb6.size _) hb7
                          have d1 := keep hb7 (a := ⟨wr.heap.size, 2, none⟩) (v := .int .i64 via) (by simp)
                          have d2 := keep hb7 (a := ⟨wr.heap.size, 3, none⟩) (v := .int .i64 fc) (by simp)
                          clear hb7 c0 c1 c2 c3
                          cases e2 : (fc == (k : Int))
                          case false =>
                            go_wp2
                            go_roundw
                            case rel => exact ⟨j + 1, false, by omega, by go_num, rfl, HR1.out false (fun h => h) (fun h => by simp [okR, e2] at h), hb8⟩
                            case measure => simp [intOf]; omega
                          case true =>
                            cases e3 : (via == next)
                            case true =>
                              go_wp2
                              go_roundw
                              case rel => exact ⟨j + 1, true, by omega, by go_num, rfl, HR1.out true (fun _ => rfl) (fun _ => rfl), hb8⟩
                              case measure => simp [intOf]; omega
                            case false =>
                              cases e4 : (via == 0)
                              case false =>
                                go_wp2
                                go_roundw
                                case rel => exact ⟨j + 1, false, by omega, by go_num, rfl, HR1.out false (fun h => h) (fun h => by simp [okR, e3, e4] at h), hb8⟩
                                case measure => simp [intOf]; omega
                              case true =>
                                cases e5 : (next == a)
                                case false =>
                                  go_wp2
                                  go_roundw
                                  case rel => exact ⟨j + 1, false, by omega, by go_num, rfl, HR1.out false (fun h => h) (fun h => by simp [okR, e3, e5] at h), hb8⟩
                                  case measure => simp [intOf]; omega
                                case true =>
                                  go_wp2
                                  go_roundw
                                  case rel => exact ⟨j + 1, true, by omega, by go_num, rfl, HR1.out true (fun _ => rfl) (fun _ => rfl), hb8⟩
                                  case measure => simp [intOf]; omega
                  · have hje : j = rs.length := by omega
                    subst hje
                    clear hlt hj
                    obtain rfl : q = true := HQ.out (by
                      rcases HOR.out with h | h
                      · exact .inl (HOK.out h)
                      · exact .inr h)
                    clear HQ
                    have hbb := below_mid hb hb6
                    obtain ⟨c0, c1, c2, c3, c4⟩ := HIK.out.stay hb6
                    simp only at c0 c1 c2 c3 c4
                    cases e1 : (next == a)
                    case true =>
                      go_wp2
                      go_ret
                      exact ⟨rfl, hbb⟩
                    case false =>
                      have hc : conB na nb next = true := by
                        rcases HNX.out with h | h
                        · simp [h] at e1
                        · exact h
                      go_wp2_with fail
                      refine (con_r hc _).mono ?_
                      rintro e w6 ⟨rfl, hb7⟩
                      go_wp2
                      go_ret
                      exact ⟨rfl, below_mid hbb hb7⟩

end Go.Proofs.Ytkhhmoijjidbbaa
