/- Contracts of package route, third part: Check. -/
import Derived.Test.YtkhhmoijjidbbaaRoute2
namespace Go.Proofs.Ytkhhmoijjidbbaa
open Go.RowKit Go.Sort
set_option linter.unusedVariables false

def goodFace (fs : List If) (i : Nat) : Bool := !locB (fs.take i) (ifAt fs i).addr && viB (ifAt fs i)
def chkB (fs : List If) (rs : List Rt) : Bool :=
  decide (1 ≤ fs.length ∧ fs.length ≤ 4 ∧ rs.length ≤ 16) && (decide (∀ i, i < fs.length → goodFace fs i = true) && decide (∀ i, i < rs.length → vrB fs (rtAt rs i) = true))
def chkE (fs : List If) (rs : List Rt) : Int := if chkB fs rs = true then 0 else 90

theorem RdI.cut {w : World} {a : Option Addr} {fs : List If} {n cap k : Nat} (h : RdI w (.slice a n cap) fs) (hk : k ≤ fs.length) : RdI w (.slice a k cap) (fs.take k) := by
  obtain ⟨a', cap', e, h1, h2, h3⟩ := h
  cases e
  have hl : (fs.take k).length = k := by simp; omega
  refine ⟨a, cap, by rw [hl], by rw [hl]; omega, by rw [hl]; omega, fun hn => ?_⟩
  obtain ⟨b, o, rfl, hc⟩ := h3 (by omega)
  refine ⟨b, o, rfl, fun i hi => ?_⟩
  rw [hl] at hi
  have e : ifAt (fs.take k) i = ifAt fs i := by rw [ifAt_eq _ _ (by rw [hl]; exact hi), ifAt_eq _ _ (by omega)]; simp
  rw [e]
  exact hc i (by omega)

set_option maxHeartbeats 2000000 in
theorem check_any (fs : List If) (rs : List Rt) (v u : Value) (w : World) (hF : RdI w v fs) (hG : RdR w u rs) :
    Calls Try.prog 12 #[v, u] w fun e w' => e = .returned (.int .i64 (chkE fs rs)) ∧ Below w.heap.size w w' := by
  have hF' := hF
  have hG' := hG
  obtain ⟨a, cap, rfl, hcap, hlen, hp⟩ := hF
  obtain ⟨a2, cap2, rfl, hcap2, hlen2, hp2⟩ := hG
  have HP := Lib.hid hp
  have HP2 := Lib.hid hp2
  clear hp hp2
  by_cases hs : 1 ≤ fs.length ∧ fs.length ≤ 4 ∧ rs.length ≤ 16
  case neg =>
    have HR := Lib.hid (show chkE fs rs = 90 by simp [chkE, chkB, hs])
    by_cases h1 : fs.length < 1
    · go_enter Try.func12, Try.ntmps12
      go_wp2
      go_ret
      exact ⟨ret_i64 HR.out.symm, Below.refl _ _⟩
    · by_cases h2 : 4 < fs.length
      · go_enter Try.func12, Try.ntmps12
        go_wp2
        go_ret
        exact ⟨ret_i64 HR.out.symm, Below.refl _ _⟩
      · have h3 : 16 < rs.length := by omega
        go_enter Try.func12, Try.ntmps12
        go_wp2
        go_ret
        exact ⟨ret_i64 HR.out.symm, Below.refl _ _⟩
  case pos =>
    have HS := Lib.hid hs
    obtain ⟨s1, s2, s3⟩ := hs
    go_enter Try.func12, Try.ntmps12
    go_wp2
    go_loopw [26] (fun i wr => ∃ k : Nat, k ≤ fs.length ∧ i = .int .i64 k ∧ (∀ j, j < k → goodFace fs j = true) ∧ Below w.heap.size w wr) (fun i _ => fs.length - (intOf i).toNat)
    case atStart => exact ⟨0, Nat.zero_le _, rfl, fun j hj => by omega, Below.refl _ _⟩
    case round =>
      obtain ⟨k, hk, rfl, hno, hb⟩ := hrel
      have HN := Lib.hid hno
      clear hno
      by_cases hlt : k < fs.length
      · obtain ⟨b, o, rfl, hc⟩ := HP.out (by omega)
        obtain ⟨c0, c1, c2, c3, c4⟩ := (hc k hlt).stay hb
        have hRk := (hF'.cut (k := k) (by omega)).stay hb
        clear hc
        have hkc : k ≤ cap := by omega
        have HX := Lib.hid (rfl : ifV (ifAt fs k) = ifV (ifAt fs k))
        generalize hx : ifAt fs k = x at *
        have HXE := Lib.hid hx
        clear hx HX
        obtain ⟨mac, addr, na, nb, mtu⟩ := x
        simp only at c0 c1 c2 c3 c4
        go_wp2
        have hB := hb.alloc hb.size (.cells #[.int .i64 mac, .int .i64 addr, .int .i64 na, .int .i64 nb, .int .i64 mtu] 27)
        have k1 := cell_regrown (w := wr.alloc (.cells #[.int .i64 mac, .int .i64 addr, .int .i64 na, .int .i64 nb, .int .i64 mtu] 27)) (a := ⟨wr.heap.size, 1, none⟩) (v := .int .i64 addr) (by simp)
        have hRk' := hRk.stay ((Below.refl _ _).alloc (Nat.le_refl _) (.cells #[.int .i64 mac, .int .i64 addr, .int .i64 na, .int .i64 nb, .int .i64 mtu] 27))
        refine wp_region_B (by kernel_rfl) (by kernel_rfl) ?_
        repeat (go_big_quiet_step ((go_at_call 17; exact Calls.regrown_of (isLocal_any (fs.take k) _ _ _ (hRk'.stay (below_regrown _ _ _))))))
        refine wpQuiet_nil ?_
        intro w3 hb3
        have f0 := keep hb3 (a := ⟨wr.heap.size, 0, none⟩) (v := .int .i64 mac) (by simp)
        have f1 := keep hb3 (a := ⟨wr.heap.size, 1, none⟩) (v := .int .i64 addr) (by simp)
        have f2 := keep hb3 (a := ⟨wr.heap.size, 2, none⟩) (v := .int .i64 na) (by simp)
        have f3 := keep hb3 (a := ⟨wr.heap.size, 3, none⟩) (v := .int .i64 nb) (by simp)
        have f4 := keep hb3 (a := ⟨wr.heap.size, 4, none⟩) (v := .int .i64 mtu) (by simp)
        replace hB := below_mid hB hb3
        clear k1 hb3 hRk' hRk c0 c1 c2 c3 c4
        cases hl : locB (List.take k fs) addr
        case true =>
          have HR := Lib.hid (show chkE fs rs = 90 by
            have : ¬ ∀ i, i < fs.length → goodFace fs i = true := fun h => by have := h k hlt; simp [goodFace, HXE.out, hl] at this
            simp [chkE, chkB, this])
          go_wp2
          go_ret
          exact ⟨ret_i64 HR.out.symm, hB⟩
        case false =>
          cases hi : viB ⟨mac, addr, na, nb, mtu⟩
          case true =>
            go_wp2_with ((go_at_call 19; refine (validInterface_any ⟨mac, addr, na, nb, mtu⟩ _).mono ?_; rintro e w4 ⟨rfl, hb4⟩; replace hB := below_mid hB hb4; clear hb4))
            go_roundw
            case rel => exact ⟨k + 1, by omega, by go_num, fun j hj => by
              by_cases hjk : j = k
              · subst hjk; simp [goodFace, HXE.out, hl, hi]
              · exact HN.out j (by omega), hB⟩
            case measure => simp [intOf]; omega
          case false =>
            have HR := Lib.hid (show chkE fs rs = 90 by
              have : ¬ ∀ i, i < fs.length → goodFace fs i = true := fun h => by have := h k hlt; simp [goodFace, HXE.out, hi] at this
              simp [chkE, chkB, this])
            go_wp2_with ((go_at_call 19; refine (validInterface_any ⟨mac, addr, na, nb, mtu⟩ _).mono ?_; rintro e w4 ⟨rfl, hb4⟩; replace hB := below_mid hB hb4; clear hb4))
            go_ret
            exact ⟨ret_i64 HR.out.symm, hB⟩
      · have HG := Lib.hid (show ∀ j, j < fs.length → goodFace fs j = true from fun j hj => HN.out j (by omega))
        go_wp2
        clear hlt
        go_loopw [49] (fun i wr => ∃ k : Nat, k ≤ rs.length ∧ i = .int .i64 k ∧ (∀ j, j < k → vrB fs (rtAt rs j) = true) ∧ Below w.heap.size w wr) (fun i _ => rs.length - (intOf i).toNat)
        case atStart => exact ⟨0, Nat.zero_le _, rfl, fun j hj => by omega, hb⟩
        case round =>
          obtain ⟨m, hm, rfl, hno2, hb2⟩ := hrel
          have HN2 := Lib.hid hno2
          clear hno2 hb
          by_cases hlt : m < rs.length
          · obtain ⟨b, o, rfl, hc⟩ := HP2.out (by omega)
            obtain ⟨c0, c1, c2, c3⟩ := (hc m hlt).stay hb2
            clear hc
            generalize hx : rtAt rs m = x at *
            have HXE := Lib.hid hx
            clear hx
            obtain ⟨na, nb, via, face⟩ := x
            simp only at c0 c1 c2 c3
            have hB := hb2.alloc hb2.size (.cells #[.int .i64 na, .int .i64 nb, .int .i64 via, .int .i64 face] 29)
            cases hr : vrB fs ⟨na, nb, via, face⟩
            case true =>
              go_wp2_with ((go_at_call 24; refine (validRoute_any fs _ ⟨na, nb, via, face⟩ _ (hF'.stay hB)).mono ?_; rintro e w4 ⟨rfl, hb4⟩; replace hB := below_mid hB hb4; clear hb4))
              go_roundw
              case rel => exact ⟨m + 1, by omega, by go_num, fun j hj => by
                by_cases hjk : j = m
                · subst hjk; rw [HXE.out]; exact hr
                · exact HN2.out j (by omega), hB⟩
              case measure => simp [intOf]; omega
            case false =>
              have HR := Lib.hid (show chkE fs rs = 90 by
                have : ¬ ∀ i, i < rs.length → vrB fs (rtAt rs i) = true := fun h => by have := h m hlt; rw [HXE.out, hr] at this; cases this
                simp [chkE, chkB, this])
              go_wp2_with ((go_at_call 24; refine (validRoute_any fs _ ⟨na, nb, via, face⟩ _ (hF'.stay hB)).mono ?_; rintro e w4 ⟨rfl, hb4⟩; replace hB := below_mid hB hb4; clear hb4))
              go_ret
              exact ⟨ret_i64 HR.out.symm, hB⟩
          · have HR := Lib.hid (show chkE fs rs = 0 by
              have h1 := HG.out
              have h2 : ∀ i, i < rs.length → vrB fs (rtAt rs i) = true := fun j hj => HN2.out j (by omega)
              have h3 := HS.out
              simp only [chkE, chkB, Bool.and_eq_true, decide_eq_true_eq]
              rw [if_pos ⟨h3, h1, h2⟩])
            go_wp2
            go_ret
            exact ⟨ret_i64 HR.out.symm, hb2⟩

end Go.Proofs.Ytkhhmoijjidbbaa
