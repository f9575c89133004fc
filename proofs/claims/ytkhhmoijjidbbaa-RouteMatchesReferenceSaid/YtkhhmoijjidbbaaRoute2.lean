/- Contracts of package route, second part: validRoute, Check. -/
import Derived.Test.YtkhhmoijjidbbaaRoute1
namespace Go.Proofs.Ytkhhmoijjidbbaa
open Go.RowKit Go.Sort
set_option linter.unusedVariables false

def vrB (fs : List If) (r : Rt) : Bool :=
  vpB r.na r.nb && (decide (0 ≤ r.face ∧ r.face < fs.length) && (decide (r.via = 0) || (!locB fs r.via && (uniB r.via && conB (ifAt fs r.face.toNat).na (ifAt fs r.face.toNat).nb r.via))))

theorem uni_r {a : Int} {r : Bool} (h : uniB a = r) (w : World) :
    Calls Try.prog 26 #[.int .i64 a] w fun e w' => e = .returned (.bool r) ∧ Below w.heap.size w w' := h ▸ uni_any a w

set_option maxHeartbeats 1000000 in
theorem validRoute_in (fs : List If) (b o cap : Nat) (na nb via : Int) (n : Nat) (hn : n < fs.length) (w : World) (hR : RdI w (.slice (some ⟨b, o, none⟩) fs.length cap) fs) (hlen : fs.length ≤ 1000)
    (hc : IfCells w b (o + n * 5) (ifAt fs n)) (hv : vpB na nb = true) :
    Calls Try.prog 24 #[.slice (some ⟨b, o, none⟩) fs.length cap, rtV ⟨na, nb, via, n⟩] w fun e w' => e = .returned (.bool (vrB fs ⟨na, nb, via, n⟩)) ∧ Below w.heap.size w w' := by
  have HR := Lib.hid (show vrB fs ⟨na, nb, via, n⟩ = (decide (via = 0) || (!locB fs via && (uniB via && conB (ifAt fs n).na (ifAt fs n).nb via))) by simp [vrB, hv, hn])
  have hB := (Below.refl w.heap.size w).alloc (Nat.le_refl _) (.cells #[.int .i64 na, .int .i64 nb, .int .i64 via, .int .i64 n] 29)
  by_cases h0 : via = 0
  · subst h0
    go_enter Try.func24, Try.ntmps24
    go_wp2_with (first
      | (go_at_call 33; refine (validPrefix_any _ _ _).mono ?_; rintro e w1 ⟨rfl, hb⟩; have c2 := keep hb (a := ⟨w.heap.size, 2, none⟩) (v := .int .i64 0) (by simp); have c3 := keep hb (a := ⟨w.heap.size, 3, none⟩) (v := .int .i64 n) (by simp); replace hB := below_mid hB hb; clear hb))
    go_ret
    exact ⟨ret_bool (by rw [HR.out]; simp), hB⟩
  · have h0' : (via == 0) = false := by simpa using h0
    cases hl : locB fs via
    case true =>
      go_enter Try.func24, Try.ntmps24
      go_wp2_with (first
        | (go_at_call 33; refine (validPrefix_any _ _ _).mono ?_; rintro e w1 ⟨rfl, hb⟩; have c2 := keep hb (a := ⟨w.heap.size, 2, none⟩) (v := .int .i64 via) (by simp); have c3 := keep hb (a := ⟨w.heap.size, 3, none⟩) (v := .int .i64 n) (by simp); replace hB := below_mid hB hb; clear hb)
        | (go_at_call 17; refine (isLocal_any fs _ _ _ (hR.stay hB)).mono ?_; rintro e w2 ⟨rfl, hb⟩; replace c2 := keep hb c2; replace c3 := keep hb c3; replace hB := below_mid hB hb; clear hb))
      go_ret
      exact ⟨ret_bool (by rw [HR.out]; simp [h0, hl]), hB⟩
    case false =>
      cases hu : uniB via
      all_goals
        go_enter Try.func24, Try.ntmps24
        go_wp2_with (first
          | (go_at_call 33; refine (validPrefix_any _ _ _).mono ?_; rintro e w1 ⟨rfl, hb⟩; have c2 := keep hb (a := ⟨w.heap.size, 2, none⟩) (v := .int .i64 via) (by simp); have c3 := keep hb (a := ⟨w.heap.size, 3, none⟩) (v := .int .i64 n) (by simp); replace hB := below_mid hB hb; clear hb)
          | (go_at_call 17; refine (isLocal_any fs _ _ _ (hR.stay hB)).mono ?_; rintro e w2 ⟨rfl, hb⟩; replace c2 := keep hb c2; replace c3 := keep hb c3; replace hB := below_mid hB hb; clear hb))
        obtain ⟨_, _, d2, d3, _⟩ := hc.stay hB
        have k2 := cell_regrown c2
        have k3 := cell_regrown c3
        have e2 := cell_regrown d2
        have e3 := cell_regrown d3
        clear c2 c3 d2 d3
        refine wp_region_B (by kernel_rfl) (by kernel_rfl) ?_
        repeat (go_big_quiet_step (first | (go_at_call 26; exact Calls.regrown_of (uni_r hu _)) | (go_at_call 21; exact Calls.regrown_of (contains_any _ _ _ _))))
        refine wpQuiet_nil ?_
        intro w3 hb3
        replace hB := below_mid hB hb3
        clear k2 k3 e2 e3
        go_wp2
        go_ret
        exact ⟨ret_bool (by rw [HR.out]; simp [h0, hl, hu]), hB⟩

set_option maxHeartbeats 1000000 in
theorem validRoute_out (fs : List If) (a : Option Addr) (cap : Nat) (na nb via face : Int) (w : World) (hlen : fs.length ≤ 1000)
    (hno : vpB na nb = false ∨ face < 0 ∨ (fs.length : Int) ≤ face) :
    Calls Try.prog 24 #[.slice a fs.length cap, rtV ⟨na, nb, via, face⟩] w fun e w' => e = .returned (.bool (vrB fs ⟨na, nb, via, face⟩)) ∧ Below w.heap.size w w' := by
  have HR := Lib.hid (show vrB fs ⟨na, nb, via, face⟩ = false by
    rcases hno with h | h | h
    · simp [vrB, h]
    · simp [vrB]; omega
    · simp [vrB]; omega)
  have hB := (Below.refl w.heap.size w).alloc (Nat.le_refl _) (.cells #[.int .i64 na, .int .i64 nb, .int .i64 via, .int .i64 face] 29)
  cases hv : vpB na nb
  case false =>
    clear hno
    go_enter Try.func24, Try.ntmps24
    go_wp2_with (first
      | (go_at_call 33; refine (validPrefix_any _ _ _).mono ?_; rintro e w1 ⟨rfl, hb⟩; replace hB := below_mid hB hb; clear hb))
    go_ret
    exact ⟨ret_bool (by rw [HR.out]), hB⟩
  case true =>
    by_cases h0 : face < 0
    · clear hno
      go_enter Try.func24, Try.ntmps24
      go_wp2_with (first
        | (go_at_call 33; refine (validPrefix_any _ _ _).mono ?_; rintro e w1 ⟨rfl, hb⟩; have c3 := keep hb (a := ⟨w.heap.size, 3, none⟩) (v := .int .i64 face) (by simp); replace hB := below_mid hB hb; clear hb))
      go_ret
      exact ⟨ret_bool (by rw [HR.out]), hB⟩
    · have h1 : (fs.length : Int) ≤ face := by rcases hno with h | h | h; · rw [hv] at h; cases h
                                               · omega
                                               · exact h
      clear hno
      go_enter Try.func24, Try.ntmps24
      go_wp2_with (first
        | (go_at_call 33; refine (validPrefix_any _ _ _).mono ?_; rintro e w1 ⟨rfl, hb⟩; have c3 := keep hb (a := ⟨w.heap.size, 3, none⟩) (v := .int .i64 face) (by simp); replace hB := below_mid hB hb; clear hb))
      go_ret
      exact ⟨ret_bool (by rw [HR.out]), hB⟩

theorem validRoute_any (fs : List If) (v : Value) (r : Rt) (w : World) (hR : RdI w v fs) :
    Calls Try.prog 24 #[v, rtV r] w fun e w' => e = .returned (.bool (vrB fs r)) ∧ Below w.heap.size w w' := by
  have hR' := hR
  obtain ⟨a, cap, rfl, hcap, hlen, hp⟩ := hR
  obtain ⟨na, nb, via, face⟩ := r
  by_cases hno : vpB na nb = false ∨ face < 0 ∨ (fs.length : Int) ≤ face
  · exact validRoute_out fs a cap na nb via face w hlen hno
  · have h1 : vpB na nb = true := by cases h : vpB na nb; · exact absurd (.inl h) hno
                                     · rfl
    have h2 : 0 ≤ face := by omega
    have h3 : face < fs.length := by omega
    obtain ⟨n, rfl⟩ := Int.eq_ofNat_of_zero_le h2
    obtain ⟨b, o, rfl, hc⟩ := hp (by omega)
    exact validRoute_in fs b o cap na nb via n (by omega) w hR' hlen (hc n (by omega)) h1

end Go.Proofs.Ytkhhmoijjidbbaa
