/- Contracts of the reference of package route: Check and Lookup. -/
import Derived.Test.YtkhhmoijjidbbaaRefA
namespace Go.Proofs.Ytkhhmoijjidbbaa
open Go.RowKit Go.Sort
set_option linter.unusedVariables false

theorem loc_lt (fs : List If) (k : Nat) (hk : k < fs.length) (x : Int) (hx : (ifAt fs k).addr = x) : ∃ j : Nat, locI fs x = j ∧ (decide (j < k)) = locB (fs.take k) x := by
  have hne : locIx fs x ≠ none := by
    intro h
    unfold locIx at h
    rw [List.findIdx?_eq_none_iff] at h
    have := h fs[k] (List.getElem_mem _)
    rw [← ifAt_eq fs k hk] at this
    simp [hx] at this
  obtain ⟨j, hj⟩ := Option.ne_none_iff_exists'.1 hne
  refine ⟨j, by simp [locI, hj], ?_⟩
  unfold locIx at hj
  rw [List.findIdx?_eq_some_iff_getElem] at hj
  obtain ⟨h1, h2, h3⟩ := hj
  rw [Bool.eq_iff_iff]
  simp only [decide_eq_true_eq]
  constructor
  · intro hlt
    rw [locB, loc_found (fs.take k) x j (by simp; omega) (fun i hi => ?_) ?_]
    · rfl
    · have e : ifAt (fs.take k) j = fs[j] := by rw [ifAt_eq _ _ (by simp; omega)]; simp
      rw [e]
      simpa using h2
    · have e : ifAt (fs.take k) i = fs[i] := by rw [ifAt_eq _ _ (by simp; omega)]; simp
      rw [e]
      simpa using h3 i hi
  · intro hb
    obtain ⟨i, hi⟩ := Option.isSome_iff_exists.1 hb
    unfold locIx at hi
    rw [List.findIdx?_eq_some_iff_getElem] at hi
    obtain ⟨g1, g2, _⟩ := hi
    simp at g1 g2
    rcases Nat.lt_or_ge j k with h | h
    · exact h
    · have := h3 i (by omega)
      simp [g2] at this

theorem rvif_r {x : If} {b : Bool} (h : viB x = b) (w : World) : Calls Try.prog 20 #[ifV x] w fun e w' => e = .returned (.bool b) ∧ Below w.heap.size w w' := h ▸ rvalidInterface_any x w
theorem rright_r {fs : List If} {r : Rt} {b : Bool} (h : vrB fs r = b) (v : Value) (w : World) (hR : RdI w v fs) :
    Calls Try.prog 25 #[v, rtV r] w fun e w' => e = .returned (.bool b) ∧ Below w.heap.size w w' := h ▸ rightRoute_any fs v r w hR

set_option maxHeartbeats 2000000 in
theorem rcheck_any (fs : List If) (rs : List Rt) (v u : Value) (w : World) (hF : RdI w v fs) (hG : RdR w u rs) :
    Calls Try.prog 13 #[v, u] w fun e w' => e = .returned (.int .i64 (chkE fs rs)) ∧ Below w.heap.size w w' := by
  have hF' := hF
  have hG' := hG
  obtain ⟨a, cap, rfl, hcap, hlen, hp⟩ := hF
  obtain ⟨a2, cap2, rfl, hcap2, hlen2, hp2⟩ := hG
  have HP := Lib.hid hp
  have HP2 := Lib.hid hp2
  clear hp hp2
  by_cases hs : 1 ≤ fs.length ∧ fs.length ≤ 4 ∧ rs.length ≤ 16
  case neg =>
    have HR := Lib.hid (show chkE fs rs = 90 by simp [chkE, chkB, hs])
    by_cases h1 : fs.length < 1
    · go_enter Try.func13, Try.ntmps13
      go_wp2
      go_ret
      exact ⟨ret_i64 HR.out.symm, Below.refl _ _⟩
    · by_cases h2 : 4 < fs.length
      · go_enter Try.func13, Try.ntmps13
        go_wp2
        go_ret
        exact ⟨ret_i64 HR.out.symm, Below.refl _ _⟩
      · have h3 : 16 < rs.length := by omega
        go_enter Try.func13, Try.ntmps13
        go_wp2
        go_ret
        exact ⟨ret_i64 HR.out.symm, Below.refl _ _⟩
  case pos =>
    have HS := Lib.hid hs
    obtain ⟨s1, s2, s3⟩ := hs
    go_enter Try.func13, Try.ntmps13
    go_wp2
    go_loopw [5] (fun i wr => ∃ k : Nat, k ≤ fs.length ∧ i = .int .i64 k ∧ (∀ j, j < k → goodFace fs j = true) ∧ Below w.heap.size w wr) (fun i _ => fs.length - (intOf i).toNat)
    case atStart => exact ⟨0, Nat.zero_le _, rfl, fun j hj => by omega, Below.refl _ _⟩
    case round =>
      obtain ⟨k, hk, rfl, hno, hb⟩ := hrel
      have HN := Lib.hid hno
      clear hno
      by_cases hlt : k < fs.length
      · obtain ⟨b, o, rfl, hc⟩ := HP.out (by omega)
        have HC := Lib.hid (hc k hlt)
        obtain ⟨c0, c1, c2, c3, c4⟩ := HC.out.stay hb
        clear hc
        have hkc : k ≤ cap := by omega
        generalize hx : ifAt fs k = x at *
        have HXE := Lib.hid hx
        obtain ⟨j, hj1, hj2⟩ := loc_lt fs k hlt x.addr (by rw [hx])
        clear hx
        obtain ⟨mac, addr, na, nb, mtu⟩ := x
        simp only at c0 c1 c2 c3 c4 hj1 hj2
        have HJ := Lib.hid hj1
        have HJ2 := Lib.hid hj2
        clear hj1 hj2
        go_wp2_with fail
        refine (rlocal_r HJ.out (rfl : locB fs addr = locB fs addr) _ _ (hF'.stay hb)).mono ?_
        rintro e w1 ⟨rfl, hb1⟩
        replace hb := below_mid hb hb1
        clear hb1 c0 c1 c2 c3 c4
        obtain ⟨c0, c1, c2, c3, c4⟩ := HC.out.stay hb
        simp only at c0 c1 c2 c3 c4
        go_wp2_with fail
        cases hi : viB ⟨mac, addr, na, nb, mtu⟩
        case false =>
          have HR := Lib.hid (show chkE fs rs = 90 by
            have : ¬ ∀ i, i < fs.length → goodFace fs i = true := fun h => by have := h k hlt; simp [goodFace, HXE.out, hi] at this
            simp [chkE, chkB, this])
          refine (rvif_r hi _).mono ?_
          rintro e w2 ⟨rfl, hb1⟩
          replace hb := below_mid hb hb1
          go_wp2
          go_ret
          exact ⟨ret_i64 HR.out.symm, hb⟩
        case true =>
          refine (rvif_r hi _).mono ?_
          rintro e w2 ⟨rfl, hb1⟩
          replace hb := below_mid hb hb1
          clear hb1 c0 c1 c2 c3 c4
          by_cases hjk : j < k
          · have hl : locB (fs.take k) addr = true := by rw [← HJ2.out]; simpa using hjk
            have HR := Lib.hid (show chkE fs rs = 90 by
              have : ¬ ∀ i, i < fs.length → goodFace fs i = true := fun h => by have := h k hlt; simp [goodFace, HXE.out, hl] at this
              simp [chkE, chkB, this])
            clear hl
            go_wp2
            go_ret
            exact ⟨ret_i64 HR.out.symm, hb⟩
          · have hl : locB (fs.take k) addr = false := by rw [← HJ2.out]; simpa using hjk
            have HL := Lib.hid hl
            clear hl
            go_wp2
            go_roundw
            case rel => exact ⟨k + 1, by omega, by go_num, fun m hm => by
              by_cases hmk : m = k
              · subst hmk; simp [goodFace, HXE.out, HL.out, hi]
              · exact HN.out m (by omega), hb⟩
            case measure => simp [intOf]; omega
      · have HG := Lib.hid (show ∀ j, j < fs.length → goodFace fs j = true from fun j hj => HN.out j (by omega))
        go_wp2
        clear hlt
        go_loopw [8] (fun i wr => ∃ k : Nat, k ≤ rs.length ∧ i = .int .i64 k ∧ (∀ j, j < k → vrB fs (rtAt rs j) = true) ∧ Below w.heap.size w wr) (fun i _ => rs.length - (intOf i).toNat)
        case atStart => exact ⟨0, Nat.zero_le _, rfl, fun j hj => by omega, hb⟩
        case round =>
          obtain ⟨m, hm, rfl, hno2, hb2⟩ := hrel
          have HN2 := Lib.hid hno2
          clear hno2 hb
          by_cases hlt : m < rs.length
          · obtain ⟨b, o, rfl, hc⟩ := HP2.out (by omega)
            obtain ⟨c0, c1, c2, c3⟩ := (hc m hlt).stay hb2
            have hmc : m ≤ cap2 := by omega
            clear hc
            generalize hx : rtAt rs m = x at *
            have HXE := Lib.hid hx
            clear hx
            obtain ⟨na, nb, via, face⟩ := x
            simp only at c0 c1 c2 c3
            cases hr : vrB fs ⟨na, nb, via, face⟩
            case true =>
              go_wp2_with fail
              refine (rright_r hr _ _ (hF'.stay hb2)).mono ?_
              rintro e w4 ⟨rfl, hb4⟩
              replace hb2 := below_mid hb2 hb4
              go_wp2
              go_roundw
              case rel => exact ⟨m + 1, by omega, by go_num, fun j hj => by
                by_cases hjk : j = m
                · subst hjk; rw [HXE.out]; exact hr
                · exact HN2.out j (by omega), hb2⟩
              case measure => simp [intOf]; omega
            case false =>
              have HR := Lib.hid (show chkE fs rs = 90 by
                have : ¬ ∀ i, i < rs.length → vrB fs (rtAt rs i) = true := fun h => by have := h m hlt; rw [HXE.out, hr] at this; cases this
                simp [chkE, chkB, this])
              go_wp2_with fail
              refine (rright_r hr _ _ (hF'.stay hb2)).mono ?_
              rintro e w4 ⟨rfl, hb4⟩
              replace hb2 := below_mid hb2 hb4
              go_wp2
              go_ret
              exact ⟨ret_i64 HR.out.symm, hb2⟩
          · have HR := Lib.hid (show chkE fs rs = 0 by
              have h2 : ∀ j, j < rs.length → vrB fs (rtAt rs j) = true := fun j hj => HN2.out j (by omega)
              have h1 := HG.out
              have h0 := HS.out
              simp only [chkE, chkB, h0]; simp; exact ⟨h1, h2⟩)
            go_wp2
            go_ret
            exact ⟨ret_i64 HR.out.symm, hb2⟩

theorem rchk_r {fs : List If} {rs : List Rt} {v u : Value} {x : Int} (h : chkE fs rs = x) (w : World) (hF : RdI w v fs) (hG : RdR w u rs) :
    Calls Try.prog 13 #[v, u] w fun e w' => e = .returned (.int .i64 x) ∧ Below w.heap.size w w' := h ▸ rcheck_any fs rs v u w hF hG

end Go.Proofs.Ytkhhmoijjidbbaa
