/- Contracts of the reference of package route: Ones, ValidInterface, rightRoute, Check, Lookup return what the same plain functions say. -/
import Derived.Test.YtkhhmoijjidbbaaPlainB
import Derived.Test.YtkhhmoijjidbbaaOrder
import Derived.Test.YtkhhmoijjidbbaaRef03
namespace Go.Proofs.Ytkhhmoijjidbbaa
open Go.RowKit Go.Sort
set_option linter.unusedVariables false

theorem runi_any (a : Int) (w : World) :
    Calls Try.prog 31 #[.int .i64 a] w fun e w' => e = .returned (.bool (uniB a)) ∧ Below w.heap.size w w' := by
  go_enter Try.func31, Try.ntmps31
  go_wp2
  all_goals go_ret
  all_goals exact ⟨by simp [uniB]; omega, Below.refl _ _⟩
theorem runi_r {a : Int} {r : Bool} (h : uniB a = r) (w : World) :
    Calls Try.prog 31 #[.int .i64 a] w fun e w' => e = .returned (.bool r) ∧ Below w.heap.size w w' := h ▸ runi_any a w
theorem rcon_r {a b x : Int} {r : Bool} (h : conB a b x = r) (w : World) :
    Calls Try.prog 32 #[.agg #[.int .i64 a, .int .i64 b], .int .i64 x] w fun e w' => e = .returned (.bool r) ∧ Below w.heap.size w w' := h ▸ rcontains_any a b x w

set_option maxHeartbeats 1000000 in
theorem rvalidInterface_any (x : If) (w : World) :
    Calls Try.prog 20 #[ifV x] w fun e w' => e = .returned (.bool (viB x)) ∧ Below w.heap.size w w' := by
  obtain ⟨mac, addr, na, nb, mtu⟩ := x
  go_enter Try.func20, Try.ntmps20
  have hB := (Below.refl w.heap.size w).alloc (Nat.le_refl _) (.cells #[.int .i64 mac, .int .i64 addr, .int .i64 na, .int .i64 nb, .int .i64 mtu] 27)
  go_wp2_with (first
    | (go_at_call 31; refine (runi_any _ _).mono ?_; rintro e w1 ⟨rfl, hb⟩; have c1 := keep hb (a := ⟨w.heap.size, 1, none⟩) (v := .int .i64 addr) (by simp); have c2 := keep hb (a := ⟨w.heap.size, 2, none⟩) (v := .int .i64 na) (by simp); have c3 := keep hb (a := ⟨w.heap.size, 3, none⟩) (v := .int .i64 nb) (by simp); have c4 := keep hb (a := ⟨w.heap.size, 4, none⟩) (v := .int .i64 mtu) (by simp); replace hB := below_mid hB hb; clear hb)
    | (go_at_call 34; refine (rvalidPrefix_any _ _ _).mono ?_; rintro e w2 ⟨rfl, hb⟩; replace c1 := keep hb c1; replace c2 := keep hb c2; replace c3 := keep hb c3; replace c4 := keep hb c4; replace hB := below_mid hB hb; clear hb)
    | (go_at_call 32; refine (rcontains_any _ _ _ _).mono ?_; rintro e w3 ⟨rfl, hb⟩; replace c1 := keep hb c1; replace c2 := keep hb c2; replace c3 := keep hb c3; replace c4 := keep hb c4; replace hB := below_mid hB hb; clear hb))
  all_goals go_ret
  all_goals refine ⟨ret_bool ?_, hB⟩
  all_goals rw [Bool.eq_iff_iff]
  all_goals simp only [viB, Bool.and_eq_true, decide_eq_true_eq]
  all_goals simp [*]
  all_goals omega


set_option maxHeartbeats 1000000 in
theorem rightRoute_in (fs : List If) (b o cap : Nat) (na nb via : Int) (n : Nat) (hn : n < fs.length) (w : World) (hR : RdI w (.slice (some ⟨b, o, none⟩) fs.length cap) fs) (hlen : fs.length ≤ 1000)
    (hc : IfCells w b (o + n * 5) (ifAt fs n)) (hv : vpB na nb = true) :
    Calls Try.prog 25 #[.slice (some ⟨b, o, none⟩) fs.length cap, rtV ⟨na, nb, via, n⟩] w fun e w' => e = .returned (.bool (vrB fs ⟨na, nb, via, n⟩)) ∧ Below w.heap.size w w' := by
  have HR := Lib.hid (show vrB fs ⟨na, nb, via, n⟩ = (decide (via = 0) || (!locB fs via && (uniB via && conB (ifAt fs n).na (ifAt fs n).nb via))) by simp [vrB, hv, hn])
  have hB := (Below.refl w.heap.size w).alloc (Nat.le_refl _) (.cells #[.int .i64 na, .int .i64 nb, .int .i64 via, .int .i64 n] 29)
  go_enter Try.func25, Try.ntmps25
  go_wp2_with (first
    | (go_at_call 34; refine (rvalidPrefix_r hv _).mono ?_; rintro e w1 ⟨rfl, hb⟩; have c2 := keep hb (a := ⟨w.heap.size, 2, none⟩) (v := .int .i64 via) (by simp); have c3 := keep hb (a := ⟨w.heap.size, 3, none⟩) (v := .int .i64 n) (by simp); replace hB := below_mid hB hb; clear hb)
    | (go_at_call 18; refine (rlocal_r (rfl : locI fs via = locI fs via) (rfl : locB fs via = locB fs via) _ _ (hR.stay hB)).mono ?_; rintro e w2 ⟨rfl, hb⟩; replace c2 := keep hb c2; replace c3 := keep hb c3; replace hB := below_mid hB hb; clear hb))
  obtain ⟨_, _, d2, d3, _⟩ := hc.stay hB
  have k2 := cell_regrown c2
  have k3 := cell_regrown c3
  have e2 := cell_regrown d2
  have e3 := cell_regrown d3
  clear c2 c3 d2 d3
  cases h0 : (via == 0)
  case true =>
    refine wp_region_B (by kernel_rfl) (by kernel_rfl) ?_
    repeat (go_big_quiet_step (fail))
    refine wpQuiet_nil ?_
    intro w3 hb3
    replace hB := below_mid hB hb3
    clear k2 k3 e2 e3
    go_wp2
    go_ret
    exact ⟨ret_bool (by rw [HR.out]; have : via = 0 := by simpa using h0
                        simp [this]), hB⟩
  case false =>
    cases hu : uniB via
    case false =>
      refine wp_region_B (by kernel_rfl) (by kernel_rfl) ?_
      repeat (go_big_quiet_step ((go_at_call 31; exact Calls.regrown_of (runi_r hu _))))
      refine wpQuiet_nil ?_
      intro w3 hb3
      replace hB := below_mid hB hb3
      clear k2 k3 e2 e3
      go_wp2
      go_ret
      exact ⟨ret_bool (by rw [HR.out]; have : via ≠ 0 := by simpa using h0
                          simp [this, hu]), hB⟩
    case true =>
      cases hl : locB fs via
      all_goals
        refine wp_region_B (by kernel_rfl) (by kernel_rfl) ?_
        repeat (go_big_quiet_step (first | (go_at_call 31; exact Calls.regrown_of (runi_r hu _)) | (go_at_call 32; exact Calls.regrown_of (rcontains_any _ _ _ _))))
        refine wpQuiet_nil ?_
        intro w3 hb3
        replace hB := below_mid hB hb3
        clear k2 k3 e2 e3
        go_wp2
        go_ret
        exact ⟨ret_bool (by rw [HR.out]; have : via ≠ 0 := by simpa using h0
                            simp [this, hu, hl]), hB⟩

set_option maxHeartbeats 1000000 in
theorem rightRoute_out (fs : List If) (a : Option Addr) (cap : Nat) (na nb via face : Int) (w : World) (hlen : fs.length ≤ 1000)
    (hno : vpB na nb = false ∨ face < 0 ∨ (fs.length : Int) ≤ face) :
    Calls Try.prog 25 #[.slice a fs.length cap, rtV ⟨na, nb, via, face⟩] w fun e w' => e = .returned (.bool (vrB fs ⟨na, nb, via, face⟩)) ∧ Below w.heap.size w w' := by
  have HR := Lib.hid (show vrB fs ⟨na, nb, via, face⟩ = false by
    rcases hno with h | h | h
    · simp [vrB, h]
    · simp [vrB]; omega
    · simp [vrB]; omega)
  have hB := (Below.refl w.heap.size w).alloc (Nat.le_refl _) (.cells #[.int .i64 na, .int .i64 nb, .int .i64 via, .int .i64 face] 29)
  cases hv : vpB na nb
  case false =>
    clear hno
    go_enter Try.func25, Try.ntmps25
    go_wp2_with (first
      | (go_at_call 34; refine (rvalidPrefix_any _ _ _).mono ?_; rintro e w1 ⟨rfl, hb⟩; replace hB := below_mid hB hb; clear hb))
    go_ret
    exact ⟨ret_bool (by rw [HR.out]), hB⟩
  case true =>
    by_cases h0 : face < 0
    · clear hno
      go_enter Try.func25, Try.ntmps25
      go_wp2_with (first
        | (go_at_call 34; refine (rvalidPrefix_any _ _ _).mono ?_; rintro e w1 ⟨rfl, hb⟩; have c3 := keep hb (a := ⟨w.heap.size, 3, none⟩) (v := .int .i64 face) (by simp); replace hB := below_mid hB hb; clear hb))
      go_ret
      exact ⟨ret_bool (by rw [HR.out]), hB⟩
    · have h1 : (fs.length : Int) ≤ face := by rcases hno with h | h | h; · rw [hv] at h; cases h
                                               · omega
                                               · exact h
      clear hno
      go_enter Try.func25, Try.ntmps25
      go_wp2_with (first
        | (go_at_call 34; refine (rvalidPrefix_any _ _ _).mono ?_; rintro e w1 ⟨rfl, hb⟩; have c3 := keep hb (a := ⟨w.heap.size, 3, none⟩) (v := .int .i64 face) (by simp); replace hB := below_mid hB hb; clear hb))
      go_ret
      exact ⟨ret_bool (by rw [HR.out]), hB⟩

theorem rightRoute_any (fs : List If) (v : Value) (r : Rt) (w : World) (hR : RdI w v fs) :
    Calls Try.prog 25 #[v, rtV r] w fun e w' => e = .returned (.bool (vrB fs r)) ∧ Below w.heap.size w w' := by
  have hR' := hR
  obtain ⟨a, cap, rfl, hcap, hlen, hp⟩ := hR
  obtain ⟨na, nb, via, face⟩ := r
  by_cases hno : vpB na nb = false ∨ face < 0 ∨ (fs.length : Int) ≤ face
  · exact rightRoute_out fs a cap na nb via face w hlen hno
  · have h1 : vpB na nb = true := by cases h : vpB na nb; · exact absurd (.inl h) hno
                                     · rfl
    have h2 : 0 ≤ face := by omega
    have h3 : face < fs.length := by omega
    obtain ⟨n, rfl⟩ := Int.eq_ofNat_of_zero_le h2
    obtain ⟨b, o, rfl, hc⟩ := hp (by omega)
    exact rightRoute_in fs b o cap na nb via n (by omega) w hR' hlen (hc n (by omega)) h1


end Go.Proofs.Ytkhhmoijjidbbaa
