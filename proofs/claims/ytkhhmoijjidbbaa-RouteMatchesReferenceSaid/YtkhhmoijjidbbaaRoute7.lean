/- Contracts of package route, last part: Lookup. -/
import Derived.Laws.EntriesVeiled
import Derived.Test.YtkhhmoijjidbbaaRoute6
namespace Go.Proofs.Ytkhhmoijjidbbaa
open Go.RowKit Go.Sort
set_option linter.unusedVariables false

def pickOf (fs : List If) (rs : List Rt) (to : Int) : Option Nat := bestOf fs rs (candsTo fs rs to (fs.length + rs.length) (fs.length + rs.length))
/-- What Lookup hands back: interface, next hop, error number. -/
def look (fs : List If) (rs : List Rt) (to : Int) : Int × Int × Int :=
  if chkB fs rs = true then
    if uniB to = true then
      match pickOf fs rs to with
      | none => (0, 0, 91)
      | some k => if k < fs.length then ((k : Int), to, 0) else ((rtAt rs (k - fs.length)).face, if (rtAt rs (k - fs.length)).via = 0 then to else (rtAt rs (k - fs.length)).via, 0)
    else (0, 0, 90)
  else (0, 0, 90)
abbrev lookV (x : Int × Int × Int) : Value := .tuple #[.int .i64 x.1, .int .i64 x.2.1, .int .i64 x.2.2]

theorem pickOf_lt {fs : List If} {rs : List Rt} {to : Int} {k : Nat} (h : pickOf fs rs to = some k) : k < fs.length + rs.length := bestOf_lt fs rs _ k h

theorem chk_r {fs : List If} {rs : List Rt} {v u : Value} {x : Int} (h : chkE fs rs = x) (w : World) (hF : RdI w v fs) (hG : RdR w u rs) :
    Calls Try.prog 12 #[v, u] w fun e w' => e = .returned (.int .i64 x) ∧ Below w.heap.size w w' := h ▸ check_any fs rs v u w hF hG

set_option maxHeartbeats 2000000 in
theorem lookup_any (fs : List If) (rs : List Rt) (v u : Value) (to : Int) (w : World) (hF : RdI w v fs) (hG : RdR w u rs) :
    Calls Try.prog 15 #[v, u, .int .i64 to] w fun e w' => e = .returned (lookV (look fs rs to)) ∧ Below w.heap.size w w' := by
  have hF' := hF
  have hG' := hG
  obtain ⟨a, cap, rfl, hcap, hlen, hp⟩ := hF
  obtain ⟨a2, cap2, rfl, hcap2, hlen2, hp2⟩ := hG
  have HP := Lib.hid hp
  have HP2 := Lib.hid hp2
  clear hp hp2
  have hB0 : Below w.heap.size w ((w.alloc (.cells #[.slice a fs.length cap] 31)).alloc (.cells #[.slice a2 rs.length cap2] 33)) := ((Below.refl _ w).alloc (Nat.le_refl _) _).alloc (by simp) _
  cases hk : chkB fs rs
  case false =>
    have hE : chkE fs rs = 90 := by simp [chkE, hk]
    have HR := Lib.hid (show look fs rs to = (0, 0, 90) by simp [look, hk])
    have HE := Lib.hid hE
    clear hE
    go_enter Try.func15, Try.ntmps15
    go_wp2_with ((go_at_call 12; refine (chk_r HE.out _ (hF'.stay hB0) (hG'.stay hB0)).mono ?_; rintro e w1 ⟨rfl, hb⟩; have hB := below_mid hB0 hb))
    go_ret3
    exact ⟨by rw [HR.out]; rfl, hB⟩
  case true =>
    have hE : chkE fs rs = 0 := by simp [chkE, hk]
    have HE := Lib.hid hE
    clear hE
    cases hu : uniB to
    case false =>
      have HR := Lib.hid (show look fs rs to = (0, 0, 90) by simp [look, hk, hu])
      go_enter Try.func15, Try.ntmps15
      go_wp2_with (first
        | (go_at_call 12; refine (chk_r HE.out _ (hF'.stay hB0) (hG'.stay hB0)).mono ?_; rintro e w1 ⟨rfl, hb⟩; have hB := below_mid hB0 hb; clear hb)
        | (go_at_call 26; refine (uni_r hu _).mono ?_; rintro e w2 ⟨rfl, hb⟩; replace hB := below_mid hB hb))
      go_ret3
      exact ⟨by rw [HR.out]; rfl, hB⟩
    case true =>
      have HL := Lib.hid (show look fs rs to = (match pickOf fs rs to with
        | none => (0, 0, 91)
        | some k => if k < fs.length then ((k : Int), to, 0) else ((rtAt rs (k - fs.length)).face, if (rtAt rs (k - fs.length)).via = 0 then to else (rtAt rs (k - fs.length)).via, 0)) by simp [look, hk, hu])
      go_enter Try.func15, Try.ntmps15
      go_wp2_with (first
        | (go_at_call 12; refine (chk_r HE.out _ (hF'.stay hB0) (hG'.stay hB0)).mono ?_; rintro e w1 ⟨rfl, hb⟩; have hB := below_mid hB0 hb; have c0 := keep hb (a := ⟨w.heap.size, 0, none⟩) (v := .slice a fs.length cap) (by simp); have c1 := keep hb (a := ⟨w.heap.size + 1, 0, none⟩) (v := .slice a2 rs.length cap2) (by simp); clear hb)
        | (go_at_call 26; refine (uni_r hu _).mono ?_; rintro e w2 ⟨rfl, hb⟩; replace hB := below_mid hB hb; replace c0 := keep hb c0; replace c1 := keep hb c1; have l0 := block_lt_of_cell c0; have l1 := block_lt_of_cell c1; simp only at l0 l1; clear hb)
        | (go_at_call 30; refine (candidates_any _ _ _ _ _).mono ?_; rintro e w3 ⟨rfl, rfl⟩))
      have hB4 : Below w2.heap.size w2 ((((w2.alloc (.cells #[netV w.heap.size (w.heap.size + 1)] 62)).alloc (.cells #[.int .i64 ((fs.length : Int) + (rs.length : Int))] 3)).alloc (.cells #[netV w.heap.size (w.heap.size + 1)] 62)).alloc (.cells #[.int .i64 to] 3)) :=
        ((((Below.refl _ w2).alloc (Nat.le_refl _) _).alloc (by simp) _).alloc (by simp; omega) _).alloc (by simp; omega) _
      have HB := Lib.hid (best_any fs rs (.slice a fs.length cap) (.slice a2 rs.length cap2) w.heap.size (w.heap.size + 1) (w2.heap.size + 1) (w2.heap.size + 1 + 1) (w2.heap.size + 1 + 1 + 1) w2.heap.size (fs.length + rs.length) to rfl (by omega)
        ((((w2.alloc (.cells #[netV w.heap.size (w.heap.size + 1)] 62)).alloc (.cells #[.int .i64 ((fs.length : Int) + (rs.length : Int))] 3)).alloc (.cells #[netV w.heap.size (w.heap.size + 1)] 62)).alloc (.cells #[.int .i64 to] 3))
        (fun W' hb => ⟨keep hb (by simp [go_sem]), keep hb (by simp [go_sem]), keep hb (by simp [go_sem]), keep hb (keep hB4 c0), keep hb (keep hB4 c1), (hF'.stay hB).stay (below_mid hB4 hb), (hG'.stay hB).stay (below_mid hB4 hb)⟩)
        (fun W' hb => keep hb (by simp [go_sem])))
      refine HB.out.mono ?_
      rintro e w5 ⟨rfl, hb5⟩
      replace c0 := keep hb5 (keep hB4 c0)
      replace c1 := keep hb5 (keep hB4 c1)
      replace hB := below_mid (below_mid hB hB4) hb5
      clear HB hB4 hb5 l0 l1
      generalize hpk : bestOf fs rs (candsTo fs rs to (fs.length + rs.length) (fs.length + rs.length)) = pk
      have HPK := Lib.hid (show pickOf fs rs to = pk from hpk)
      clear hpk
      cases pk with
      | none =>
        have HR := Lib.hid (show look fs rs to = (0, 0, 91) by rw [HL.out, HPK.out])
        simp only [topI, Option.isSome]
        go_wp2
        go_ret3
        exact ⟨by rw [HR.out]; rfl, hB⟩
      | some k =>
        have hkl := pickOf_lt HPK.out
        simp only [topI, Option.isSome]
        by_cases hlt : k < fs.length
        · have HR := Lib.hid (show look fs rs to = ((k : Int), to, 0) by rw [HL.out, HPK.out]; simp [hlt])
          go_wp2
          go_ret3
          exact ⟨by rw [HR.out]; rfl, hB⟩
        · obtain ⟨m, rfl⟩ : ∃ m, k = fs.length + m := ⟨k - fs.length, by omega⟩
          have hm : m < rs.length := by omega
          have HR := Lib.hid (show look fs rs to = ((rtAt rs m).face, if (rtAt rs m).via = 0 then to else (rtAt rs m).via, 0) by rw [HL.out, HPK.out]; simp only [hlt, if_false, Nat.add_sub_cancel_left])
          obtain ⟨b, o, rfl, hc⟩ := HP2.out (by omega)
          obtain ⟨d0, d1, d2, d3⟩ := (hc m hm).stay hB
          clear hc hkl
          generalize rtAt rs m = x at *
          by_cases hv : x.via = 0
          · have HR2 := Lib.hid (show look fs rs to = (x.face, to, 0) by rw [HR.out]; simp [hv])
            rw [hv] at d2
            clear hv
            go_wp2
            go_ret3
            exact ⟨by rw [HR2.out]; rfl, hB⟩
          · have HR2 := Lib.hid (show look fs rs to = (x.face, x.via, 0) by rw [HR.out]; simp [hv])
            have hv' : (x.via == 0) = false := by simpa using hv
            clear hv
            go_wp2
            have k0 := cell_regrown c0
            have k1 := cell_regrown c1
            have k2 := cell_regrown d2
            have k3 := cell_regrown d3
            refine wp_region_B (by kernel_rfl) (by kernel_rfl) ?_
            repeat (go_big_quiet_step (fail))
            refine wpQuiet_nil ?_
            intro w6 hb6
            replace hB := below_mid hB hb6
            clear k0 k1 k2 k3
            go_wp2
            go_ret3
            exact ⟨by rw [HR2.out]; rfl, hB⟩

end Go.Proofs.Ytkhhmoijjidbbaa
