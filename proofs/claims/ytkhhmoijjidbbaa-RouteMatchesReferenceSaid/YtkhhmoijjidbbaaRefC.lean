/- Contract of the reference's Lookup. -/
import Derived.Test.YtkhhmoijjidbbaaRefB
namespace Go.Proofs.Ytkhhmoijjidbbaa
open Go.RowKit Go.Sort
set_option linter.unusedVariables false

def pk0 (fs : List If) (rs : List Rt) (to : Int) (j : Nat) : Option Nat := bestN fs rs ((List.range j).filter (fun i => isCand fs rs to i))
theorem pk0_no {fs : List If} {rs : List Rt} {to : Int} {j : Nat} (h : isCand fs rs to j = false) : pk0 fs rs to (j + 1) = pk0 fs rs to j := by
  unfold pk0; rw [List.range_succ, List.filter_append]; simp [h]
theorem pk0_yes {fs : List If} {rs : List Rt} {to : Int} {j : Nat} (h : isCand fs rs to j = true) : pk0 fs rs to (j + 1) = bstep fs rs (pk0 fs rs to j) j := by
  unfold pk0; rw [List.range_succ, List.filter_append]; simp [h, bestN]
def rB (fs : List If) (rs : List Rt) (t : Option Nat) : Int := match t with | none => -1 | some k => netB fs rs k
def rF (fs : List If) (rs : List Rt) (t : Option Nat) : Int := match t with | none => 0 | some k => if k < fs.length then (k : Int) else (rtAt rs (k - fs.length)).face
def rN (fs : List If) (rs : List Rt) (to : Int) (t : Option Nat) : Int := match t with | none => 0 | some k => if k < fs.length then to else if (rtAt rs (k - fs.length)).via = 0 then to else (rtAt rs (k - fs.length)).via

theorem cand_b {fs : List If} {rs : List Rt} {to : Int} {j : Nat} (h : isCand fs rs to j = true) : 0 ≤ netB fs rs j ∧ netB fs rs j ≤ 32 := by
  simp [isCand, conB, vpB] at h; omega
theorem pk0_some (fs : List If) (rs : List Rt) (to : Int) : ∀ (j k : Nat), pk0 fs rs to j = some k → isCand fs rs to k = true := by
  intro j
  induction j with
  | zero => intro k h; simp [pk0, bestN] at h
  | succ j ih =>
    intro k h
    cases hc : isCand fs rs to j with
    | false => rw [pk0_no hc] at h; exact ih k h
    | true =>
      rw [pk0_yes hc] at h
      cases ht : pk0 fs rs to j with
      | none => rw [ht] at h; simp [bstep] at h; subst h; exact hc
      | some y =>
        rw [ht] at h
        simp only [bstep] at h
        split at h
        · cases h; exact hc
        · cases h; exact ih _ ht
theorem rB_bd (fs : List If) (rs : List Rt) (to : Int) (j : Nat) : -1 ≤ rB fs rs (pk0 fs rs to j) ∧ rB fs rs (pk0 fs rs to j) ≤ 32 := by
  cases h : pk0 fs rs to j with
  | none => simp [rB]
  | some k => have := cand_b (pk0_some fs rs to j k h); simp only [rB]; omega
theorem pk0_up {fs : List If} {rs : List Rt} {to : Int} {j : Nat} (hc : isCand fs rs to j = true) (h : rB fs rs (pk0 fs rs to j) < netB fs rs j) : pk0 fs rs to (j + 1) = some j := by
  rw [pk0_yes hc]
  cases ht : pk0 fs rs to j with
  | none => rfl
  | some y => rw [ht] at h; simp only [rB] at h; simp [bstep, h]
theorem pk0_stay {fs : List If} {rs : List Rt} {to : Int} {j : Nat} (hc : isCand fs rs to j = true) (h : ¬ rB fs rs (pk0 fs rs to j) < netB fs rs j) : pk0 fs rs to (j + 1) = pk0 fs rs to j := by
  rw [pk0_yes hc]
  cases ht : pk0 fs rs to j with
  | none => rw [ht] at h; simp only [rB] at h; have := cand_b hc; omega
  | some y => rw [ht] at h; simp only [rB] at h; simp [bstep, h]

set_option maxRecDepth 100000 in
set_option maxHeartbeats 4000000 in
theorem rlookup_any (fs : List If) (rs : List Rt) (tgt : Int) (v u : Value) (w : World) (hF : RdI w v fs) (hG : RdR w u rs) :
    Calls Try.prog 16 #[v, u, .int .i64 tgt] w fun e w' => e = .returned (lookV (look fs rs tgt)) ∧ Below w.heap.size w w' := by
  have hF' := hF
  have hG' := hG
  obtain ⟨a, cap, rfl, hcap, hlen, hp⟩ := hF
  obtain ⟨a2, cap2, rfl, hcap2, hlen2, hp2⟩ := hG
  have HP := Lib.hid hp
  have HP2 := Lib.hid hp2
  clear hp hp2
  cases hck : chkB fs rs
  case false =>
    have HR := Lib.hid (show look fs rs tgt = (0, 0, 90) by simp [look, hck])
    have hce : chkE fs rs = 90 := by simp [chkE, hck]
    have HCE := Lib.hid hce
    clear hce hck
    go_enter Try.func16, Try.ntmps16
    go_wp2_with fail
    refine (rchk_r HCE.out _ hF' hG').mono ?_
    rintro e w1 ⟨rfl, hb⟩
    go_wp2
    go_ret3
    exact ⟨by rw [HR.out]; rfl, hb⟩
  case true =>
    have HCE := Lib.hid (show chkE fs rs = 0 by simp [chkE, hck])
    cases hu : uniB tgt
    case false =>
      have HR := Lib.hid (show look fs rs tgt = (0, 0, 90) by simp [look, hck, hu])
      clear hck
      go_enter Try.func16, Try.ntmps16
      go_wp2_with fail
      refine (rchk_r HCE.out _ hF' hG').mono ?_
      rintro e w1 ⟨rfl, hb⟩
      go_wp2_with fail
      refine (runi_r hu _).mono ?_
      rintro e w2 ⟨rfl, hb2⟩
      go_wp2
      go_ret3
      exact ⟨by rw [HR.out]; rfl, below_mid hb hb2⟩
    case true =>
      have HR := Lib.hid (show ∀ t, pk0 fs rs tgt (fs.length + rs.length) = t → (rB fs rs t < 0 → look fs rs tgt = (0, 0, 91)) ∧ (¬ rB fs rs t < 0 → look fs rs tgt = (rF fs rs t, rN fs rs tgt t, 0)) from fun t ht => by
        have hpk : pickOf fs rs tgt = t := by rw [pickOf_eq]; exact ht
        have hbd := rB_bd fs rs tgt (fs.length + rs.length)
        simp only [look, hck, hu, if_true, hpk]
        cases t with
        | none => simp [rB]
        | some k =>
          have := cand_b (pk0_some fs rs tgt _ k ht)
          simp only [rB, rF, rN]
          refine ⟨fun h => by omega, fun _ => ?_⟩
          by_cases hk : k < fs.length
          · simp [hk]
          · simp [hk])
      clear hck
      go_enter Try.func16, Try.ntmps16
      go_wp2_with fail
      refine (rchk_r HCE.out _ hF' hG').mono ?_
      rintro e w1 ⟨rfl, hb⟩
      go_wp2_with fail
      refine (runi_r hu _).mono ?_
      rintro e w2 ⟨rfl, hb2⟩
      replace hb := below_mid hb hb2
      clear hb2 HCE
      go_wp2
      go_loopw [10, 11, 12, 13] (fun bv fv nv i wr => ∃ k : Nat, k ≤ fs.length ∧ i = .int .i64 k ∧ bv = .int .i64 (rB fs rs (pk0 fs rs tgt k)) ∧ fv = .int .i64 (rF fs rs (pk0 fs rs tgt k)) ∧ nv = .int .i64 (rN fs rs tgt (pk0 fs rs tgt k)) ∧ Below w.heap.size w wr) (fun _ _ _ i _ => fs.length - (intOf i).toNat)
      case atStart => exact ⟨0, Nat.zero_le _, rfl, rfl, rfl, rfl, hb⟩
      case round =>
        clear hb
        obtain ⟨k, hk, rfl, rfl, rfl, rfl, hb⟩ := hrel
        by_cases hlt : k < fs.length
        · obtain ⟨b, o, rfl, hc⟩ := HP.out (by omega)
          have HC := Lib.hid (hc k hlt)
          clear hc
          have hkc : k ≤ cap := by omega
          have hbd := rB_bd fs rs tgt k
          have HN := Lib.hid (fun h => @pk0_no fs rs tgt k h)
          have HU := Lib.hid (fun h h' => @pk0_up fs rs tgt k h h')
          have HS := Lib.hid (fun h h' => @pk0_stay fs rs tgt k h h')
          have HCA := Lib.hid (@cand_fc fs rs tgt k hlt)
          have HNB := Lib.hid (@net_f fs rs k hlt)
          have H3 := Lib.hid (show rB fs rs (some k) = netB fs rs k ∧ rF fs rs (some k) = k ∧ rN fs rs tgt (some k) = tgt by simp [rB, rF, rN, hlt])
          generalize pk0 fs rs tgt k = t at *
          generalize ifAt fs k = f at *
          obtain ⟨mac, addr, na, nb, mtu⟩ := f
          obtain ⟨c0, c1, c2, c3, c4⟩ := HC.out.stay hb
          simp only at c0 c1 c2 c3 c4 HCA HNB
          cases hc : conB na nb tgt
          case false =>
            go_wp2_with fail
            refine (rcon_r hc _).mono ?_
            rintro e w3 ⟨rfl, hb3⟩
            replace hb := below_mid hb hb3
            have HE := Lib.hid (HN.out (HCA.out.trans hc))
            clear hb3 c0 c1 c2 c3 c4
            go_wp2
            go_roundw
            case rel => exact ⟨k + 1, by omega, by go_num, by rw [HE.out], by rw [HE.out], by rw [HE.out], hb⟩
            case measure => simp [intOf]; omega
          case true =>
            go_wp2_with fail
            refine (rcon_r hc _).mono ?_
            rintro e w3 ⟨rfl, hb3⟩
            replace hb := below_mid hb hb3
            clear hb3 c0 c1 c2 c3 c4
            obtain ⟨c0, c1, c2, c3, c4⟩ := HC.out.stay hb
            simp only at c0 c1 c2 c3 c4
            by_cases hgt : rB fs rs t < nb
            · have HE := Lib.hid (HU.out (HCA.out.trans hc) (by rw [HNB.out]; exact hgt))
              go_wp2
              go_roundw
              case rel => exact ⟨k + 1, by omega, by go_num, by rw [HE.out, H3.out.1, HNB.out], by rw [HE.out, H3.out.2.1], by rw [HE.out, H3.out.2.2], hb⟩
              case measure => simp [intOf]; omega
            · have HE := Lib.hid (HS.out (HCA.out.trans hc) (by rw [HNB.out]; omega))
              go_wp2
              go_roundw
              case rel => exact ⟨k + 1, by omega, by go_num, by rw [HE.out], by rw [HE.out], by rw [HE.out], hb⟩
              case measure => simp [intOf]; omega
        · obtain rfl : k = fs.length := by omega
          clear hlt hk
          go_wp2
          go_loopw [10, 11, 12, 14] (fun bv fv nv i wr => ∃ k : Nat, k ≤ rs.length ∧ i = .int .i64 k ∧ bv = .int .i64 (rB fs rs (pk0 fs rs tgt (fs.length + k))) ∧ fv = .int .i64 (rF fs rs (pk0 fs rs tgt (fs.length + k))) ∧ nv = .int .i64 (rN fs rs tgt (pk0 fs rs tgt (fs.length + k))) ∧ Below w.heap.size w wr) (fun _ _ _ i _ => rs.length - (intOf i).toNat)
          case atStart => exact ⟨0, Nat.zero_le _, rfl, rfl, rfl, rfl, hb⟩
          case round =>
            clear hb
            obtain ⟨k, hk, rfl, rfl, rfl, rfl, hb⟩ := hrel
            by_cases hlt : k < rs.length
            · obtain ⟨b, o, rfl, hc⟩ := HP2.out (by omega)
              have HC := Lib.hid (hc k hlt)
              clear hc
              have hkc : k ≤ cap2 := by omega
              have hbd := rB_bd fs rs tgt (fs.length + k)
              have HN := Lib.hid (fun h => @pk0_no fs rs tgt (fs.length + k) h)
              have HU := Lib.hid (fun h h' => @pk0_up fs rs tgt (fs.length + k) h h')
              have HS := Lib.hid (fun h h' => @pk0_stay fs rs tgt (fs.length + k) h h')
              have HCA := Lib.hid (@cand_rc fs rs tgt k)
              have HNB := Lib.hid (@net_r fs rs k)
              have hnl : ¬ fs.length + k < fs.length := by omega
              have H3 := Lib.hid (show rB fs rs (some (fs.length + k)) = netB fs rs (fs.length + k) ∧ rF fs rs (some (fs.length + k)) = (rtAt rs k).face ∧ rN fs rs tgt (some (fs.length + k)) = if (rtAt rs k).via = 0 then tgt else (rtAt rs k).via by simp only [rB, rF, rN, hnl, if_false, Nat.add_sub_cancel_left]; exact ⟨trivial, trivial, trivial⟩)
              clear hnl
              have HL := Lib.hid (show fs.length + (k + 1) = fs.length + k + 1 by omega)
              generalize pk0 fs rs tgt (fs.length + k) = t at *
              generalize rtAt rs k = f at *
              obtain ⟨na, nb, via, fc⟩ := f
              obtain ⟨c0, c1, c2, c3⟩ := HC.out.stay hb
              simp only at c0 c1 c2 c3 HCA HNB H3
              cases hc : conB na nb tgt
              case false =>
                go_wp2_with fail
                refine (rcon_r hc _).mono ?_
                rintro e w3 ⟨rfl, hb3⟩
                replace hb := below_mid hb hb3
                have HE := Lib.hid (HN.out (HCA.out.trans hc))
                clear hb3 c0 c1 c2 c3
                go_wp2
                go_roundw
                case rel => exact ⟨k + 1, by omega, by go_num, by rw [HL.out, HE.out], by rw [HL.out, HE.out], by rw [HL.out, HE.out], hb⟩
                case measure => simp [intOf]; omega
              case true =>
                go_wp2_with fail
                refine (rcon_r hc _).mono ?_
                rintro e w3 ⟨rfl, hb3⟩
                replace hb := below_mid hb hb3
                clear hb3 c0 c1 c2 c3
                obtain ⟨c0, c1, c2, c3⟩ := HC.out.stay hb
                simp only at c0 c1 c2 c3
                by_cases hgt : rB fs rs t < nb
                · have HE := Lib.hid (HU.out (HCA.out.trans hc) (by rw [HNB.out]; exact hgt))
                  cases hv : (via == 0)
                  case false =>
                    have HV := Lib.hid (show via ≠ 0 by simpa using hv)
                    go_wp2
                    go_roundw
                    case rel => exact ⟨k + 1, by omega, by go_num, by rw [HL.out, HE.out, H3.out.1, HNB.out], by rw [HL.out, HE.out, H3.out.2.1], by rw [HL.out, HE.out, H3.out.2.2, if_neg HV.out], hb⟩
                    case measure => simp [intOf]; omega
                  case true =>
                    have HV := Lib.hid (show via = 0 by simpa using hv)
                    go_wp2
                    go_roundw
                    case rel => exact ⟨k + 1, by omega, by go_num, by rw [HL.out, HE.out, H3.out.1, HNB.out], by rw [HL.out, HE.out, H3.out.2.1], by rw [HL.out, HE.out, H3.out.2.2, if_pos HV.out], hb⟩
                    case measure => simp [intOf]; omega
                · have HE := Lib.hid (HS.out (HCA.out.trans hc) (by rw [HNB.out]; omega))
                  go_wp2
                  go_roundw
                  case rel => exact ⟨k + 1, by omega, by go_num, by rw [HL.out, HE.out], by rw [HL.out, HE.out], by rw [HL.out, HE.out], hb⟩
                  case measure => simp [intOf]; omega
            · obtain rfl : k = rs.length := by omega
              clear hlt hk
              obtain ⟨hr1, hr2⟩ := HR.out _ rfl
              have HR1 := Lib.hid hr1
              have HR2 := Lib.hid hr2
              clear hr1 hr2 HR
              generalize pk0 fs rs tgt (fs.length + rs.length) = t at *
              by_cases hneg : rB fs rs t < 0
              · have HE := Lib.hid (HR1.out hneg)
                go_wp2
                go_ret3
                exact ⟨by rw [HE.out]; rfl, hb⟩
              · have HE := Lib.hid (HR2.out (by omega))
                go_wp2
                go_ret3
                exact ⟨by rw [HE.out]; rfl, hb⟩

end Go.Proofs.Ytkhhmoijjidbbaa
