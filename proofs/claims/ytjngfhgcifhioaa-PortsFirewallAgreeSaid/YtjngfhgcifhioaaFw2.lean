/- Contracts of package firewall: the match of a rule, IndexFunc, Check. Printed by wip/tools/gen22b.py. -/
import Derived.Test.YtjngfhgcifhioaaFw1
import Derived.Test.YtjngfhgcifhioaaRowl
namespace Go.Proofs.Ytjngfhgcifhioaa
open Go.RowKit Go.Sort
set_option linter.unusedVariables false
set_option maxRecDepth 100000

/-- What a rule is held against: the direction, the flow's protocol and peer, the port. -/
structure Mt where
  inn : Bool
  pr : Int
  th : Int
  po : Int
def mtB (m : Mt) (r : Rl) : Bool := (r.inn == m.inn) && (r.pr == 0 || r.pr == m.pr) && conB r.na r.nb m.th && decide (r.lo ≤ m.po) && decide (m.po ≤ r.hi)
/-- The boxes that the match of a rule looks at. -/
def MtAt (w : World) (bi bf bp : Nat) (m : Mt) : Prop := w.cell? ⟨bi, 0, none⟩ = some (.bool m.inn) ∧ w.cell? ⟨bf, 0, none⟩ = some (.int .i64 m.pr) ∧ w.cell? ⟨bf, 3, none⟩ = some (.int .i64 m.th) ∧ w.cell? ⟨bp, 0, none⟩ = some (.int .i64 m.po)
theorem MtAt.stay {w w' : World} {bi bf bp : Nat} {m : Mt} (h : MtAt w bi bf bp m) (hb : Below w.heap.size w w') : MtAt w' bi bf bp m := ⟨keep hb h.1, keep hb h.2.1, keep hb h.2.2.1, keep hb h.2.2.2⟩
theorem contains_r {a b x : Int} {v : Bool} (h : conB a b x = v) (w : World) : Calls Try.prog 60 #[.agg #[.int .i64 a, .int .i64 b], .int .i64 x] w fun e w' => e = .returned (.bool v) ∧ Below w.heap.size w w' := h ▸ contains_any a b x w
set_option maxRecDepth 100000 in
set_option maxHeartbeats 4000000 in
theorem match_any (r : Rl) (m : Mt) (bi bf bp : Nat) (w : World) (hm : MtAt w bi bf bp m) : Calls Try.prog 59 #[rlV r, .pointer (some ⟨bi, 0, none⟩), .pointer (some ⟨bf, 0, none⟩), .pointer (some ⟨bp, 0, none⟩)] w fun e w' => e = .returned (.bool (mtB m r)) ∧ Below w.heap.size w w' := by
  obtain ⟨inn, pr, na, nb, lo, hi, ps⟩ := r
  obtain ⟨mi, mp, mh, mo⟩ := m
  have HM := Lib.hid hm
  clear hm
  have HO := Lib.hid (show Own w none0 w [] from Own.nil w none0)
  obtain ⟨x1, hx1⟩ : ∃ y, w.alloc (.cells #[.bool inn, .int .i64 pr, .int .i64 na, .int .i64 nb, .int .i64 lo, .int .i64 hi, .bool ps] 74) = y := ⟨_, rfl⟩
  obtain ⟨bx, hbx⟩ : ∃ y, w.heap.size = y := ⟨_, rfl⟩
  have hO := HO.out.alloc (.cells #[.bool inn, .int .i64 pr, .int .i64 na, .int .i64 nb, .int .i64 lo, .int .i64 hi, .bool ps] 74)
  rw [hx1, hbx] at hO
  replace HO := Lib.hid (show Own w none0 x1 [blkR bx (.cells #[.bool inn, .int .i64 pr, .int .i64 na, .int .i64 nb, .int .i64 lo, .int .i64 hi, .bool ps] 74)] from hO)
  clear hO
  cases h0 : (inn == mi) with
  | false =>
    have HV := Lib.hid (show mtB ⟨mi, mp, mh, mo⟩ ⟨inn, pr, na, nb, lo, hi, ps⟩ = false by simp [mtB, h0])
    have z0_0 : x1.cell? ⟨bx, 0, none⟩ = some (.bool inn) := HO.out.cell 0 rfl 0 rfl
    have z0_1 : x1.cell? ⟨bx, 1, none⟩ = some (.int .i64 pr) := HO.out.cell 0 rfl 1 rfl
    have z0_2 : x1.cell? ⟨bx, 2, none⟩ = some (.int .i64 na) := HO.out.cell 0 rfl 2 rfl
    have z0_3 : x1.cell? ⟨bx, 3, none⟩ = some (.int .i64 nb) := HO.out.cell 0 rfl 3 rfl
    have z0_4 : x1.cell? ⟨bx, 4, none⟩ = some (.int .i64 lo) := HO.out.cell 0 rfl 4 rfl
    have z0_5 : x1.cell? ⟨bx, 5, none⟩ = some (.int .i64 hi) := HO.out.cell 0 rfl 5 rfl
    have z0_6 : x1.cell? ⟨bx, 6, none⟩ = some (.bool ps) := HO.out.cell 0 rfl 6 rfl
    obtain ⟨q0, q1, q2, q3⟩ := HM.out.stay HO.out.below
    simp only at q0 q1 q2 q3
    go_enter Try.func59, Try.ntmps59
    go_wp2
    go_ret
    exact ⟨by rw [HV.out]; rfl, by first | exact HO.out.below | exact hbx ▸ HO.out.below⟩
  | true =>
    cases h1 : (pr == 0 || pr == mp) with
    | false =>
      have HV := Lib.hid (show mtB ⟨mi, mp, mh, mo⟩ ⟨inn, pr, na, nb, lo, hi, ps⟩ = false by simp [mtB, h1])
      obtain ⟨h1a, h1b⟩ : (pr == 0) = false ∧ (pr == mp) = false := by simpa only [Bool.or_eq_false_iff] using h1
      clear h1
      have z0_0 : x1.cell? ⟨bx, 0, none⟩ = some (.bool inn) := HO.out.cell 0 rfl 0 rfl
      have z0_1 : x1.cell? ⟨bx, 1, none⟩ = some (.int .i64 pr) := HO.out.cell 0 rfl 1 rfl
      have z0_2 : x1.cell? ⟨bx, 2, none⟩ = some (.int .i64 na) := HO.out.cell 0 rfl 2 rfl
      have z0_3 : x1.cell? ⟨bx, 3, none⟩ = some (.int .i64 nb) := HO.out.cell 0 rfl 3 rfl
      have z0_4 : x1.cell? ⟨bx, 4, none⟩ = some (.int .i64 lo) := HO.out.cell 0 rfl 4 rfl
      have z0_5 : x1.cell? ⟨bx, 5, none⟩ = some (.int .i64 hi) := HO.out.cell 0 rfl 5 rfl
      have z0_6 : x1.cell? ⟨bx, 6, none⟩ = some (.bool ps) := HO.out.cell 0 rfl 6 rfl
      obtain ⟨q0, q1, q2, q3⟩ := HM.out.stay HO.out.below
      simp only at q0 q1 q2 q3
      go_enter Try.func59, Try.ntmps59
      go_wp2
      go_ret
      exact ⟨by rw [HV.out]; rfl, by first | exact HO.out.below | exact hbx ▸ HO.out.below⟩
    | true =>
      cases h1a : (pr == 0) with
      | true =>
        cases h2 : conB na nb mh with
        | false =>
          have HV := Lib.hid (show mtB ⟨mi, mp, mh, mo⟩ ⟨inn, pr, na, nb, lo, hi, ps⟩ = false by simp [mtB, h2])
          clear h1
          have z0_0 : x1.cell? ⟨bx, 0, none⟩ = some (.bool inn) := HO.out.cell 0 rfl 0 rfl
          have z0_1 : x1.cell? ⟨bx, 1, none⟩ = some (.int .i64 pr) := HO.out.cell 0 rfl 1 rfl
          have z0_2 : x1.cell? ⟨bx, 2, none⟩ = some (.int .i64 na) := HO.out.cell 0 rfl 2 rfl
          have z0_3 : x1.cell? ⟨bx, 3, none⟩ = some (.int .i64 nb) := HO.out.cell 0 rfl 3 rfl
          have z0_4 : x1.cell? ⟨bx, 4, none⟩ = some (.int .i64 lo) := HO.out.cell 0 rfl 4 rfl
          have z0_5 : x1.cell? ⟨bx, 5, none⟩ = some (.int .i64 hi) := HO.out.cell 0 rfl 5 rfl
          have z0_6 : x1.cell? ⟨bx, 6, none⟩ = some (.bool ps) := HO.out.cell 0 rfl 6 rfl
          obtain ⟨q0, q1, q2, q3⟩ := HM.out.stay HO.out.below
          simp only at q0 q1 q2 q3
          go_enter Try.func59, Try.ntmps59
          go_wp2_with fail
          refine (contains_r h2 _).mono ?_
          rintro e x2 ⟨rfl, hb⟩
          replace HO := Lib.hid (show Own w none0 x2 [blkR bx (.cells #[.bool inn, .int .i64 pr, .int .i64 na, .int .i64 nb, .int .i64 lo, .int .i64 hi, .bool ps] 74)] from HO.out.stay hb)
          clear hb q0 q1 q2 q3
          clear hx1 hbx z0_0 z0_1 z0_2 z0_3 z0_4 z0_5 z0_6
          have z0_0 : x2.cell? ⟨bx, 0, none⟩ = some (.bool inn) := HO.out.cell 0 rfl 0 rfl
          have z0_1 : x2.cell? ⟨bx, 1, none⟩ = some (.int .i64 pr) := HO.out.cell 0 rfl 1 rfl
          have z0_2 : x2.cell? ⟨bx, 2, none⟩ = some (.int .i64 na) := HO.out.cell 0 rfl 2 rfl
          have z0_3 : x2.cell? ⟨bx, 3, none⟩ = some (.int .i64 nb) := HO.out.cell 0 rfl 3 rfl
          have z0_4 : x2.cell? ⟨bx, 4, none⟩ = some (.int .i64 lo) := HO.out.cell 0 rfl 4 rfl
          have z0_5 : x2.cell? ⟨bx, 5, none⟩ = some (.int .i64 hi) := HO.out.cell 0 rfl 5 rfl
          have z0_6 : x2.cell? ⟨bx, 6, none⟩ = some (.bool ps) := HO.out.cell 0 rfl 6 rfl
          obtain ⟨q0, q1, q2, q3⟩ := HM.out.stay HO.out.below
          simp only at q0 q1 q2 q3
          go_wp2
          go_ret
          exact ⟨by rw [HV.out]; rfl, HO.out.below⟩
        | true =>
          by_cases h3 : lo ≤ mo
          · by_cases h4 : mo ≤ hi
            · have HV := Lib.hid (show mtB ⟨mi, mp, mh, mo⟩ ⟨inn, pr, na, nb, lo, hi, ps⟩ = true by simp [mtB, h0, h1, h2, h3, h4])
              clear h1
              have z0_0 : x1.cell? ⟨bx, 0, none⟩ = some (.bool inn) := HO.out.cell 0 rfl 0 rfl
              have z0_1 : x1.cell? ⟨bx, 1, none⟩ = some (.int .i64 pr) := HO.out.cell 0 rfl 1 rfl
              have z0_2 : x1.cell? ⟨bx, 2, none⟩ = some (.int .i64 na) := HO.out.cell 0 rfl 2 rfl
              have z0_3 : x1.cell? ⟨bx, 3, none⟩ = some (.int .i64 nb) := HO.out.cell 0 rfl 3 rfl
              have z0_4 : x1.cell? ⟨bx, 4, none⟩ = some (.int .i64 lo) := HO.out.cell 0 rfl 4 rfl
              have z0_5 : x1.cell? ⟨bx, 5, none⟩ = some (.int .i64 hi) := HO.out.cell 0 rfl 5 rfl
              have z0_6 : x1.cell? ⟨bx, 6, none⟩ = some (.bool ps) := HO.out.cell 0 rfl 6 rfl
              obtain ⟨q0, q1, q2, q3⟩ := HM.out.stay HO.out.below
              simp only at q0 q1 q2 q3
              go_enter Try.func59, Try.ntmps59
              go_wp2_with fail
              refine (contains_r h2 _).mono ?_
              rintro e x2 ⟨rfl, hb⟩
              replace HO := Lib.hid (show Own w none0 x2 [blkR bx (.cells #[.bool inn, .int .i64 pr, .int .i64 na, .int .i64 nb, .int .i64 lo, .int .i64 hi, .bool ps] 74)] from HO.out.stay hb)
              clear hb q0 q1 q2 q3
              clear hx1 hbx z0_0 z0_1 z0_2 z0_3 z0_4 z0_5 z0_6
              have z0_0 : x2.cell? ⟨bx, 0, none⟩ = some (.bool inn) := HO.out.cell 0 rfl 0 rfl
              have z0_1 : x2.cell? ⟨bx, 1, none⟩ = some (.int .i64 pr) := HO.out.cell 0 rfl 1 rfl
              have z0_2 : x2.cell? ⟨bx, 2, none⟩ = some (.int .i64 na) := HO.out.cell 0 rfl 2 rfl
              have z0_3 : x2.cell? ⟨bx, 3, none⟩ = some (.int .i64 nb) := HO.out.cell 0 rfl 3 rfl
              have z0_4 : x2.cell? ⟨bx, 4, none⟩ = some (.int .i64 lo) := HO.out.cell 0 rfl 4 rfl
              have z0_5 : x2.cell? ⟨bx, 5, none⟩ = some (.int .i64 hi) := HO.out.cell 0 rfl 5 rfl
              have z0_6 : x2.cell? ⟨bx, 6, none⟩ = some (.bool ps) := HO.out.cell 0 rfl 6 rfl
              obtain ⟨q0, q1, q2, q3⟩ := HM.out.stay HO.out.below
              simp only at q0 q1 q2 q3
              go_wp2
              go_ret
              exact ⟨by rw [HV.out]; rfl, HO.out.below⟩
            · have HV := Lib.hid (show mtB ⟨mi, mp, mh, mo⟩ ⟨inn, pr, na, nb, lo, hi, ps⟩ = false by simp [mtB, h4])
              have d4 : decide (mo ≤ hi) = false := by simpa using h4
              clear h1 h4
              have z0_0 : x1.cell? ⟨bx, 0, none⟩ = some (.bool inn) := HO.out.cell 0 rfl 0 rfl
              have z0_1 : x1.cell? ⟨bx, 1, none⟩ = some (.int .i64 pr) := HO.out.cell 0 rfl 1 rfl
              have z0_2 : x1.cell? ⟨bx, 2, none⟩ = some (.int .i64 na) := HO.out.cell 0 rfl 2 rfl
              have z0_3 : x1.cell? ⟨bx, 3, none⟩ = some (.int .i64 nb) := HO.out.cell 0 rfl 3 rfl
              have z0_4 : x1.cell? ⟨bx, 4, none⟩ = some (.int .i64 lo) := HO.out.cell 0 rfl 4 rfl
              have z0_5 : x1.cell? ⟨bx, 5, none⟩ = some (.int .i64 hi) := HO.out.cell 0 rfl 5 rfl
              have z0_6 : x1.cell? ⟨bx, 6, none⟩ = some (.bool ps) := HO.out.cell 0 rfl 6 rfl
              obtain ⟨q0, q1, q2, q3⟩ := HM.out.stay HO.out.below
              simp only at q0 q1 q2 q3
              go_enter Try.func59, Try.ntmps59
              go_wp2_with fail
              refine (contains_r h2 _).mono ?_
              rintro e x2 ⟨rfl, hb⟩
              replace HO := Lib.hid (show Own w none0 x2 [blkR bx (.cells #[.bool inn, .int .i64 pr, .int .i64 na, .int .i64 nb, .int .i64 lo, .int .i64 hi, .bool ps] 74)] from HO.out.stay hb)
              clear hb q0 q1 q2 q3
              clear hx1 hbx z0_0 z0_1 z0_2 z0_3 z0_4 z0_5 z0_6
              have z0_0 : x2.cell? ⟨bx, 0, none⟩ = some (.bool inn) := HO.out.cell 0 rfl 0 rfl
              have z0_1 : x2.cell? ⟨bx, 1, none⟩ = some (.int .i64 pr) := HO.out.cell 0 rfl 1 rfl
              have z0_2 : x2.cell? ⟨bx, 2, none⟩ = some (.int .i64 na) := HO.out.cell 0 rfl 2 rfl
              have z0_3 : x2.cell? ⟨bx, 3, none⟩ = some (.int .i64 nb) := HO.out.cell 0 rfl 3 rfl
              have z0_4 : x2.cell? ⟨bx, 4, none⟩ = some (.int .i64 lo) := HO.out.cell 0 rfl 4 rfl
              have z0_5 : x2.cell? ⟨bx, 5, none⟩ = some (.int .i64 hi) := HO.out.cell 0 rfl 5 rfl
              have z0_6 : x2.cell? ⟨bx, 6, none⟩ = some (.bool ps) := HO.out.cell 0 rfl 6 rfl
              obtain ⟨q0, q1, q2, q3⟩ := HM.out.stay HO.out.below
              simp only at q0 q1 q2 q3
              go_wp2
              go_ret
              exact ⟨by rw [HV.out]; rfl, HO.out.below⟩
          · have HV := Lib.hid (show mtB ⟨mi, mp, mh, mo⟩ ⟨inn, pr, na, nb, lo, hi, ps⟩ = false by simp [mtB, h3])
            have d3 : decide (lo ≤ mo) = false := by simpa using h3
            clear h1 h3
            have z0_0 : x1.cell? ⟨bx, 0, none⟩ = some (.bool inn) := HO.out.cell 0 rfl 0 rfl
            have z0_1 : x1.cell? ⟨bx, 1, none⟩ = some (.int .i64 pr) := HO.out.cell 0 rfl 1 rfl
            have z0_2 : x1.cell? ⟨bx, 2, none⟩ = some (.int .i64 na) := HO.out.cell 0 rfl 2 rfl
            have z0_3 : x1.cell? ⟨bx, 3, none⟩ = some (.int .i64 nb) := HO.out.cell 0 rfl 3 rfl
            have z0_4 : x1.cell? ⟨bx, 4, none⟩ = some (.int .i64 lo) := HO.out.cell 0 rfl 4 rfl
            have z0_5 : x1.cell? ⟨bx, 5, none⟩ = some (.int .i64 hi) := HO.out.cell 0 rfl 5 rfl
            have z0_6 : x1.cell? ⟨bx, 6, none⟩ = some (.bool ps) := HO.out.cell 0 rfl 6 rfl
            obtain ⟨q0, q1, q2, q3⟩ := HM.out.stay HO.out.below
            simp only at q0 q1 q2 q3
            go_enter Try.func59, Try.ntmps59
            go_wp2_with fail
            refine (contains_r h2 _).mono ?_
            rintro e x2 ⟨rfl, hb⟩
            replace HO := Lib.hid (show Own w none0 x2 [blkR bx (.cells #[.bool inn, .int .i64 pr, .int .i64 na, .int .i64 nb, .int .i64 lo, .int .i64 hi, .bool ps] 74)] from HO.out.stay hb)
            clear hb q0 q1 q2 q3
            clear hx1 hbx z0_0 z0_1 z0_2 z0_3 z0_4 z0_5 z0_6
            have z0_0 : x2.cell? ⟨bx, 0, none⟩ = some (.bool inn) := HO.out.cell 0 rfl 0 rfl
            have z0_1 : x2.cell? ⟨bx, 1, none⟩ = some (.int .i64 pr) := HO.out.cell 0 rfl 1 rfl
            have z0_2 : x2.cell? ⟨bx, 2, none⟩ = some (.int .i64 na) := HO.out.cell 0 rfl 2 rfl
            have z0_3 : x2.cell? ⟨bx, 3, none⟩ = some (.int .i64 nb) := HO.out.cell 0 rfl 3 rfl
            have z0_4 : x2.cell? ⟨bx, 4, none⟩ = some (.int .i64 lo) := HO.out.cell 0 rfl 4 rfl
            have z0_5 : x2.cell? ⟨bx, 5, none⟩ = some (.int .i64 hi) := HO.out.cell 0 rfl 5 rfl
            have z0_6 : x2.cell? ⟨bx, 6, none⟩ = some (.bool ps) := HO.out.cell 0 rfl 6 rfl
            obtain ⟨q0, q1, q2, q3⟩ := HM.out.stay HO.out.below
            simp only at q0 q1 q2 q3
            go_wp2
            go_ret
            exact ⟨by rw [HV.out]; rfl, HO.out.below⟩
      | false =>
        cases h2 : conB na nb mh with
        | false =>
          have HV := Lib.hid (show mtB ⟨mi, mp, mh, mo⟩ ⟨inn, pr, na, nb, lo, hi, ps⟩ = false by simp [mtB, h2])
          have h1b : (pr == mp) = true := by simpa [h1a] using h1
          clear h1
          have z0_0 : x1.cell? ⟨bx, 0, none⟩ = some (.bool inn) := HO.out.cell 0 rfl 0 rfl
          have z0_1 : x1.cell? ⟨bx, 1, none⟩ = some (.int .i64 pr) := HO.out.cell 0 rfl 1 rfl
          have z0_2 : x1.cell? ⟨bx, 2, none⟩ = some (.int .i64 na) := HO.out.cell 0 rfl 2 rfl
          have z0_3 : x1.cell? ⟨bx, 3, none⟩ = some (.int .i64 nb) := HO.out.cell 0 rfl 3 rfl
          have z0_4 : x1.cell? ⟨bx, 4, none⟩ = some (.int .i64 lo) := HO.out.cell 0 rfl 4 rfl
          have z0_5 : x1.cell? ⟨bx, 5, none⟩ = some (.int .i64 hi) := HO.out.cell 0 rfl 5 rfl
          have z0_6 : x1.cell? ⟨bx, 6, none⟩ = some (.bool ps) := HO.out.cell 0 rfl 6 rfl
          obtain ⟨q0, q1, q2, q3⟩ := HM.out.stay HO.out.below
          simp only at q0 q1 q2 q3
          go_enter Try.func59, Try.ntmps59
          go_wp2_with fail
          refine (contains_r h2 _).mono ?_
          rintro e x2 ⟨rfl, hb⟩
          replace HO := Lib.hid (show Own w none0 x2 [blkR bx (.cells #[.bool inn, .int .i64 pr, .int .i64 na, .int .i64 nb, .int .i64 lo, .int .i64 hi, .bool ps] 74)] from HO.out.stay hb)
          clear hb q0 q1 q2 q3
          clear hx1 hbx z0_0 z0_1 z0_2 z0_3 z0_4 z0_5 z0_6
          have z0_0 : x2.cell? ⟨bx, 0, none⟩ = some (.bool inn) := HO.out.cell 0 rfl 0 rfl
          have z0_1 : x2.cell? ⟨bx, 1, none⟩ = some (.int .i64 pr) := HO.out.cell 0 rfl 1 rfl
          have z0_2 : x2.cell? ⟨bx, 2, none⟩ = some (.int .i64 na) := HO.out.cell 0 rfl 2 rfl
          have z0_3 : x2.cell? ⟨bx, 3, none⟩ = some (.int .i64 nb) := HO.out.cell 0 rfl 3 rfl
          have z0_4 : x2.cell? ⟨bx, 4, none⟩ = some (.int .i64 lo) := HO.out.cell 0 rfl 4 rfl
          have z0_5 : x2.cell? ⟨bx, 5, none⟩ = some (.int .i64 hi) := HO.out.cell 0 rfl 5 rfl
          have z0_6 : x2.cell? ⟨bx, 6, none⟩ = some (.bool ps) := HO.out.cell 0 rfl 6 rfl
          obtain ⟨q0, q1, q2, q3⟩ := HM.out.stay HO.out.below
          simp only at q0 q1 q2 q3
          go_wp2
          go_ret
          exact ⟨by rw [HV.out]; rfl, HO.out.below⟩
        | true =>
          by_cases h3 : lo ≤ mo
          · by_cases h4 : mo ≤ hi
            · have HV := Lib.hid (show mtB ⟨mi, mp, mh, mo⟩ ⟨inn, pr, na, nb, lo, hi, ps⟩ = true by simp [mtB, h0, h1, h2, h3, h4])
              have h1b : (pr == mp) = true := by simpa [h1a] using h1
              clear h1
              have z0_0 : x1.cell? ⟨bx, 0, none⟩ = some (.bool inn) := HO.out.cell 0 rfl 0 rfl
              have z0_1 : x1.cell? ⟨bx, 1, none⟩ = some (.int .i64 pr) := HO.out.cell 0 rfl 1 rfl
              have z0_2 : x1.cell? ⟨bx, 2, none⟩ = some (.int .i64 na) := HO.out.cell 0 rfl 2 rfl
              have z0_3 : x1.cell? ⟨bx, 3, none⟩ = some (.int .i64 nb) := HO.out.cell 0 rfl 3 rfl
              have z0_4 : x1.cell? ⟨bx, 4, none⟩ = some (.int .i64 lo) := HO.out.cell 0 rfl 4 rfl
              have z0_5 : x1.cell? ⟨bx, 5, none⟩ = some (.int .i64 hi) := HO.out.cell 0 rfl 5 rfl
              have z0_6 : x1.cell? ⟨bx, 6, none⟩ = some (.bool ps) := HO.out.cell 0 rfl 6 rfl
              obtain ⟨q0, q1, q2, q3⟩ := HM.out.stay HO.out.below
              simp only at q0 q1 q2 q3
              go_enter Try.func59, Try.ntmps59
              go_wp2_with fail
              refine (contains_r h2 _).mono ?_
              rintro e x2 ⟨rfl, hb⟩
              replace HO := Lib.hid (show Own w none0 x2 [blkR bx (.cells #[.bool inn, .int .i64 pr, .int .i64 na, .int .i64 nb, .int .i64 lo, .int .i64 hi, .bool ps] 74)] from HO.out.stay hb)
              clear hb q0 q1 q2 q3
              clear hx1 hbx z0_0 z0_1 z0_2 z0_3 z0_4 z0_5 z0_6
              have z0_0 : x2.cell? ⟨bx, 0, none⟩ = some (.bool inn) := HO.out.cell 0 rfl 0 rfl
              have z0_1 : x2.cell? ⟨bx, 1, none⟩ = some (.int .i64 pr) := HO.out.cell 0 rfl 1 rfl
              have z0_2 : x2.cell? ⟨bx, 2, none⟩ = some (.int .i64 na) := HO.out.cell 0 rfl 2 rfl
              have z0_3 : x2.cell? ⟨bx, 3, none⟩ = some (.int .i64 nb) := HO.out.cell 0 rfl 3 rfl
              have z0_4 : x2.cell? ⟨bx, 4, none⟩ = some (.int .i64 lo) := HO.out.cell 0 rfl 4 rfl
              have z0_5 : x2.cell? ⟨bx, 5, none⟩ = some (.int .i64 hi) := HO.out.cell 0 rfl 5 rfl
              have z0_6 : x2.cell? ⟨bx, 6, none⟩ = some (.bool ps) := HO.out.cell 0 rfl 6 rfl
              obtain ⟨q0, q1, q2, q3⟩ := HM.out.stay HO.out.below
              simp only at q0 q1 q2 q3
              go_wp2
              go_ret
              exact ⟨by rw [HV.out]; rfl, HO.out.below⟩
            · have HV := Lib.hid (show mtB ⟨mi, mp, mh, mo⟩ ⟨inn, pr, na, nb, lo, hi, ps⟩ = false by simp [mtB, h4])
              have h1b : (pr == mp) = true := by simpa [h1a] using h1
              have d4 : decide (mo ≤ hi) = false := by simpa using h4
              clear h1 h4
              have z0_0 : x1.cell? ⟨bx, 0, none⟩ = some (.bool inn) := HO.out.cell 0 rfl 0 rfl
              have z0_1 : x1.cell? ⟨bx, 1, none⟩ = some (.int .i64 pr) := HO.out.cell 0 rfl 1 rfl
              have z0_2 : x1.cell? ⟨bx, 2, none⟩ = some (.int .i64 na) := HO.out.cell 0 rfl 2 rfl
              have z0_3 : x1.cell? ⟨bx, 3, none⟩ = some (.int .i64 nb) := HO.out.cell 0 rfl 3 rfl
              have z0_4 : x1.cell? ⟨bx, 4, none⟩ = some (.int .i64 lo) := HO.out.cell 0 rfl 4 rfl
              have z0_5 : x1.cell? ⟨bx, 5, none⟩ = some (.int .i64 hi) := HO.out.cell 0 rfl 5 rfl
              have z0_6 : x1.cell? ⟨bx, 6, none⟩ = some (.bool ps) := HO.out.cell 0 rfl 6 rfl
              obtain ⟨q0, q1, q2, q3⟩ := HM.out.stay HO.out.below
              simp only at q0 q1 q2 q3
              go_enter Try.func59, Try.ntmps59
              go_wp2_with fail
              refine (contains_r h2 _).mono ?_
              rintro e x2 ⟨rfl, hb⟩
              replace HO := Lib.hid (show Own w none0 x2 [blkR bx (.cells #[.bool inn, .int .i64 pr, .int .i64 na, .int .i64 nb, .int .i64 lo, .int .i64 hi, .bool ps] 74)] from HO.out.stay hb)
              clear hb q0 q1 q2 q3
              clear hx1 hbx z0_0 z0_1 z0_2 z0_3 z0_4 z0_5 z0_6
              have z0_0 : x2.cell? ⟨bx, 0, none⟩ = some (.bool inn) := HO.out.cell 0 rfl 0 rfl
              have z0_1 : x2.cell? ⟨bx, 1, none⟩ = some (.int .i64 pr) := HO.out.cell 0 rfl 1 rfl
              have z0_2 : x2.cell? ⟨bx, 2, none⟩ = some (.int .i64 na) := HO.out.cell 0 rfl 2 rfl
              have z0_3 : x2.cell? ⟨bx, 3, none⟩ = some (.int .i64 nb) := HO.out.cell 0 rfl 3 rfl
              have z0_4 : x2.cell? ⟨bx, 4, none⟩ = some (.int .i64 lo) := HO.out.cell 0 rfl 4 rfl
              have z0_5 : x2.cell? ⟨bx, 5, none⟩ = some (.int .i64 hi) := HO.out.cell 0 rfl 5 rfl
              have z0_6 : x2.cell? ⟨bx, 6, none⟩ = some (.bool ps) := HO.out.cell 0 rfl 6 rfl
              obtain ⟨q0, q1, q2, q3⟩ := HM.out.stay HO.out.below
              simp only at q0 q1 q2 q3
              go_wp2
              go_ret
              exact ⟨by rw [HV.out]; rfl, HO.out.below⟩
          · have HV := Lib.hid (show mtB ⟨mi, mp, mh, mo⟩ ⟨inn, pr, na, nb, lo, hi, ps⟩ = false by simp [mtB, h3])
            have h1b : (pr == mp) = true := by simpa [h1a] using h1
            have d3 : decide (lo ≤ mo) = false := by simpa using h3
            clear h1 h3
            have z0_0 : x1.cell? ⟨bx, 0, none⟩ = some (.bool inn) := HO.out.cell 0 rfl 0 rfl
            have z0_1 : x1.cell? ⟨bx, 1, none⟩ = some (.int .i64 pr) := HO.out.cell 0 rfl 1 rfl
            have z0_2 : x1.cell? ⟨bx, 2, none⟩ = some (.int .i64 na) := HO.out.cell 0 rfl 2 rfl
            have z0_3 : x1.cell? ⟨bx, 3, none⟩ = some (.int .i64 nb) := HO.out.cell 0 rfl 3 rfl
            have z0_4 : x1.cell? ⟨bx, 4, none⟩ = some (.int .i64 lo) := HO.out.cell 0 rfl 4 rfl
            have z0_5 : x1.cell? ⟨bx, 5, none⟩ = some (.int .i64 hi) := HO.out.cell 0 rfl 5 rfl
            have z0_6 : x1.cell? ⟨bx, 6, none⟩ = some (.bool ps) := HO.out.cell 0 rfl 6 rfl
            obtain ⟨q0, q1, q2, q3⟩ := HM.out.stay HO.out.below
            simp only at q0 q1 q2 q3
            go_enter Try.func59, Try.ntmps59
            go_wp2_with fail
            refine (contains_r h2 _).mono ?_
            rintro e x2 ⟨rfl, hb⟩
            replace HO := Lib.hid (show Own w none0 x2 [blkR bx (.cells #[.bool inn, .int .i64 pr, .int .i64 na, .int .i64 nb, .int .i64 lo, .int .i64 hi, .bool ps] 74)] from HO.out.stay hb)
            clear hb q0 q1 q2 q3
            clear hx1 hbx z0_0 z0_1 z0_2 z0_3 z0_4 z0_5 z0_6
            have z0_0 : x2.cell? ⟨bx, 0, none⟩ = some (.bool inn) := HO.out.cell 0 rfl 0 rfl
            have z0_1 : x2.cell? ⟨bx, 1, none⟩ = some (.int .i64 pr) := HO.out.cell 0 rfl 1 rfl
            have z0_2 : x2.cell? ⟨bx, 2, none⟩ = some (.int .i64 na) := HO.out.cell 0 rfl 2 rfl
            have z0_3 : x2.cell? ⟨bx, 3, none⟩ = some (.int .i64 nb) := HO.out.cell 0 rfl 3 rfl
            have z0_4 : x2.cell? ⟨bx, 4, none⟩ = some (.int .i64 lo) := HO.out.cell 0 rfl 4 rfl
            have z0_5 : x2.cell? ⟨bx, 5, none⟩ = some (.int .i64 hi) := HO.out.cell 0 rfl 5 rfl
            have z0_6 : x2.cell? ⟨bx, 6, none⟩ = some (.bool ps) := HO.out.cell 0 rfl 6 rfl
            obtain ⟨q0, q1, q2, q3⟩ := HM.out.stay HO.out.below
            simp only at q0 q1 q2 q3
            go_wp2
            go_ret
            exact ⟨by rw [HV.out]; rfl, HO.out.below⟩

/-- The place of the first that p takes, or -1. -/
def ixF {α : Type} (p : α → Bool) (l : List α) : Int := match l.findIdx? p with
  | some i => i
  | none => -1
theorem ixF_hit {α : Type} {p : α → Bool} {l : List α} {k : Nat} (hk : k < l.length) (h : (l.take k).any p = false) (h2 : p l[k] = true) : ixF p l = k := by
  have : l.findIdx? p = some k := by
    rw [List.findIdx?_eq_some_iff_getElem]
    refine ⟨hk, h2, fun j hj => ?_⟩
    rw [List.any_eq_false] at h
    have := h l[j] (List.mem_take_iff_getElem.2 ⟨j, by omega, rfl⟩)
    simpa using this
  unfold ixF; rw [this]
theorem ixF_none {α : Type} {p : α → Bool} {l : List α} (h : l.any p = false) : ixF p l = -1 := by
  have : l.findIdx? p = none := by
    rw [List.findIdx?_eq_none_iff]
    intro y hy
    rw [List.any_eq_false] at h
    simpa using h y hy
  unfold ixF; rw [this]

set_option maxRecDepth 100000 in
set_option maxHeartbeats 2000000 in
theorem indexI {w : World} {v : Value} (l : List Rl) (hr : w.ownsRow 0 74 7 v l.length (l.flatMap cRl)) (hl : l.length ≤ 1000) :
    Calls Try.prog 55 #[v, .func (.func 39) #[] #[]] w fun e w' => e = .returned (.int .i64 (ixF (invalR) l)) ∧ Below w.heap.size w w' := by
  obtain ⟨a, cap, rfl, hcell⟩ := row_at (c := cRl) (fun x => rfl) hr rfl
  have HC := Lib.hid hcell
  clear hcell hr
  go_enter Try.func55, Try.ntmps55
  go_wp2
  go_loopw [5, 8] (fun _ i wr => ∃ k : Nat, k ≤ l.length ∧ i = .int .i64 k ∧ (l.take k).any (invalR) = false ∧ Below w.heap.size w wr) (fun _ i _ => l.length - (intOf i).toNat)
  case atStart => exact ⟨0, Nat.zero_le _, rfl, rfl, Below.refl _ _⟩
  case round =>
    obtain ⟨k, hk, rfl, hnone, hbw⟩ := hrel
    have HN := Lib.hid hnone
    have HB := Lib.hid hbw
    clear hnone hbw
    by_cases hlt : k < l.length
    · obtain ⟨g, rfl, hcc⟩ := HC.out (by omega)
      have hkl : k < l.length := hlt
      have hcc := hcc k hkl
      have HT := Lib.hid (any_take (p := invalR) hkl HN.out)
      have HY := Lib.hid (ixF_hit (p := invalR) hkl HN.out)
      have yc : ∀ j u, j < 7 → (cRl l[k])[j]? = some u → wr.cell? ⟨g, k * 7 + j, none⟩ = some u := fun j u hj hu => keep HB.out ((hcc j hj).trans hu)
      generalize l[k] = r at *
      obtain ⟨inn, pr, na, nb, lo, hi, ps⟩ := r
      have y0 : wr.cell? ⟨g, k * 7, none⟩ = some (.bool inn) := yc 0 _ (by decide) rfl
      have y1 : wr.cell? ⟨g, k * 7 + 1, none⟩ = some (.int .i64 pr) := yc 1 _ (by decide) rfl
      have y2 : wr.cell? ⟨g, k * 7 + 2, none⟩ = some (.int .i64 na) := yc 2 _ (by decide) rfl
      have y3 : wr.cell? ⟨g, k * 7 + 3, none⟩ = some (.int .i64 nb) := yc 3 _ (by decide) rfl
      have y4 : wr.cell? ⟨g, k * 7 + 4, none⟩ = some (.int .i64 lo) := yc 4 _ (by decide) rfl
      have y5 : wr.cell? ⟨g, k * 7 + 5, none⟩ = some (.int .i64 hi) := yc 5 _ (by decide) rfl
      have y6 : wr.cell? ⟨g, k * 7 + 6, none⟩ = some (.bool ps) := yc 6 _ (by decide) rfl
      clear hcc yc hkl
      go_wp2_with fail
      refine (invalid_any ⟨inn, pr, na, nb, lo, hi, ps⟩ _).mono ?_
      rintro e w1 ⟨rfl, hb⟩
      replace HB := Lib.hid (below_mid HB.out hb)
      clear hb y0 y1 y2 y3 y4 y5 y6
      cases he : invalR ⟨inn, pr, na, nb, lo, hi, ps⟩ with
      | true =>
        have HR := Lib.hid (HY.out he)
        clear HT HY HN he
        go_wp2
        go_ret
        exact ⟨by rw [HR.out]; rfl, HB.out⟩
      | false =>
        rw [he] at HT
        clear he
        go_wp2
        go_roundw
        case rel => exact ⟨k + 1, by omega, by go_num, HT.out, HB.out⟩
        case measure => simp [intOf]; omega
    · obtain rfl : k = l.length := by omega
      have HR := Lib.hid (ixF_none (p := invalR) (l := l) (by rw [← HN.out, List.take_length]))
      clear HN
      go_wp2
      go_ret
      exact ⟨by rw [HR.out]; rfl, HB.out⟩

set_option maxRecDepth 100000 in
set_option maxHeartbeats 2000000 in
theorem indexM {w : World} {v : Value} (l : List Rl) (m : Mt) (bi bf bp : Nat) (hm : MtAt w bi bf bp m) (hr : w.ownsRow 0 74 7 v l.length (l.flatMap cRl)) (hl : l.length ≤ 1000) :
    Calls Try.prog 55 #[v, .func (.func 59) #[] #[.pointer (some ⟨bi, 0, none⟩), .pointer (some ⟨bf, 0, none⟩), .pointer (some ⟨bp, 0, none⟩)]] w fun e w' => e = .returned (.int .i64 (ixF (mtB m) l)) ∧ Below w.heap.size w w' := by
  obtain ⟨a, cap, rfl, hcell⟩ := row_at (c := cRl) (fun x => rfl) hr rfl
  have HC := Lib.hid hcell
  clear hcell hr
  have HM := Lib.hid hm
  clear hm
  go_enter Try.func55, Try.ntmps55
  go_wp2
  go_loopw [5, 8] (fun _ i wr => ∃ k : Nat, k ≤ l.length ∧ i = .int .i64 k ∧ (l.take k).any (mtB m) = false ∧ Below w.heap.size w wr) (fun _ i _ => l.length - (intOf i).toNat)
  case atStart => exact ⟨0, Nat.zero_le _, rfl, rfl, Below.refl _ _⟩
  case round =>
    obtain ⟨k, hk, rfl, hnone, hbw⟩ := hrel
    have HN := Lib.hid hnone
    have HB := Lib.hid hbw
    clear hnone hbw
    by_cases hlt : k < l.length
    · obtain ⟨g, rfl, hcc⟩ := HC.out (by omega)
      have hkl : k < l.length := hlt
      have hcc := hcc k hkl
      have HT := Lib.hid (any_take (p := mtB m) hkl HN.out)
      have HY := Lib.hid (ixF_hit (p := mtB m) hkl HN.out)
      have yc : ∀ j u, j < 7 → (cRl l[k])[j]? = some u → wr.cell? ⟨g, k * 7 + j, none⟩ = some u := fun j u hj hu => keep HB.out ((hcc j hj).trans hu)
      generalize l[k] = r at *
      obtain ⟨inn, pr, na, nb, lo, hi, ps⟩ := r
      have y0 : wr.cell? ⟨g, k * 7, none⟩ = some (.bool inn) := yc 0 _ (by decide) rfl
      have y1 : wr.cell? ⟨g, k * 7 + 1, none⟩ = some (.int .i64 pr) := yc 1 _ (by decide) rfl
      have y2 : wr.cell? ⟨g, k * 7 + 2, none⟩ = some (.int .i64 na) := yc 2 _ (by decide) rfl
      have y3 : wr.cell? ⟨g, k * 7 + 3, none⟩ = some (.int .i64 nb) := yc 3 _ (by decide) rfl
      have y4 : wr.cell? ⟨g, k * 7 + 4, none⟩ = some (.int .i64 lo) := yc 4 _ (by decide) rfl
      have y5 : wr.cell? ⟨g, k * 7 + 5, none⟩ = some (.int .i64 hi) := yc 5 _ (by decide) rfl
      have y6 : wr.cell? ⟨g, k * 7 + 6, none⟩ = some (.bool ps) := yc 6 _ (by decide) rfl
      clear hcc yc hkl
      go_wp2_with fail
      refine (match_any ⟨inn, pr, na, nb, lo, hi, ps⟩ m bi bf bp _ (HM.out.stay HB.out)).mono ?_
      rintro e w1 ⟨rfl, hb⟩
      replace HB := Lib.hid (below_mid HB.out hb)
      clear hb y0 y1 y2 y3 y4 y5 y6
      cases he : mtB m ⟨inn, pr, na, nb, lo, hi, ps⟩ with
      | true =>
        have HR := Lib.hid (HY.out he)
        clear HT HY HN he
        go_wp2
        go_ret
        exact ⟨by rw [HR.out]; rfl, HB.out⟩
      | false =>
        rw [he] at HT
        clear he
        go_wp2
        go_roundw
        case rel => exact ⟨k + 1, by omega, by go_num, HT.out, HB.out⟩
        case measure => simp [intOf]; omega
    · obtain rfl : k = l.length := by omega
      have HR := Lib.hid (ixF_none (p := mtB m) (l := l) (by rw [← HN.out, List.take_length]))
      clear HN
      go_wp2
      go_ret
      exact ⟨by rw [HR.out]; rfl, HB.out⟩

theorem ixF_nonneg {α : Type} (p : α → Bool) (l : List α) : decide (0 ≤ ixF p l) = l.any p := by
  cases h : l.any p with
  | false => rw [ixF_none h]; rfl
  | true =>
    obtain ⟨i, hi⟩ : ∃ i, l.findIdx? p = some i := by
      cases hf : l.findIdx? p with
      | none =>
        rw [List.findIdx?_eq_none_iff] at hf
        obtain ⟨x, hx, hp⟩ := List.any_eq_true.1 h
        rw [hf x hx] at hp; cases hp
      | some i => exact ⟨i, rfl⟩
    unfold ixF; rw [hi]; simp
theorem containsI {w : World} {v : Value} (l : List Rl) (hr : w.ownsRow 0 74 7 v l.length (l.flatMap cRl)) (hl : l.length ≤ 1000) :
    Calls Try.prog 38 #[v, .func (.func 39) #[] #[]] w fun e w' => e = .returned (.bool (l.any invalR)) ∧ Below w.heap.size w w' := by
  have H := Lib.hid (indexI l hr hl)
  obtain ⟨a, cap, rfl, _⟩ := row_at (c := cRl) (fun x => rfl) hr rfl
  have HX := Lib.hid (ixF_nonneg invalR l)
  obtain ⟨k, hk⟩ : ∃ k, ixF invalR l = k := ⟨_, rfl⟩
  rw [hk] at H HX
  clear hk hr
  go_enter Try.func38, Try.ntmps38
  go_wp2_with fail
  refine H.out.mono ?_
  rintro e w1 ⟨rfl, hb⟩
  go_wp2
  go_ret
  exact ⟨by rw [← HX.out]; rfl, hb⟩
def checkE (l : List Rl) : Int := if 16 < l.length ∨ l.any invalR = true then 220 else 0
theorem check_any {w : World} {v : Value} (l : List Rl) (hr : w.ownsRow 0 74 7 v l.length (l.flatMap cRl)) (hl : l.length ≤ 1000) :
    Calls Try.prog 20 #[v] w fun e w' => e = .returned (.int .i64 (checkE l)) ∧ Below w.heap.size w w' := by
  have H := Lib.hid (containsI l hr hl)
  obtain ⟨a, cap, rfl, _⟩ := row_at (c := cRl) (fun x => rfl) hr rfl
  by_cases h16 : 16 < l.length
  · have HE := Lib.hid (show checkE l = 220 by unfold checkE; rw [if_pos (.inl h16)])
    obtain ⟨n, hn⟩ : ∃ n, l.length = n := ⟨_, rfl⟩
    rw [hn] at hl h16 ⊢
    have hd : decide (16 < n) = true := by simpa using h16
    clear hr hn H
    go_enter Try.func20, Try.ntmps20
    go_wp2
    go_ret
    exact ⟨by rw [HE.out]; rfl, Below.refl _ _⟩
  · cases ha : l.any invalR with
    | true =>
      have HE := Lib.hid (show checkE l = 220 by unfold checkE; rw [if_pos (.inr ha)])
      rw [ha] at H
      obtain ⟨n, hn⟩ : ∃ n, l.length = n := ⟨_, rfl⟩
      rw [hn] at hl h16 H ⊢
      clear hr hn ha
      go_enter Try.func20, Try.ntmps20
      go_wp2_with fail
      refine H.out.mono ?_
      rintro e w1 ⟨rfl, hb⟩
      go_wp2
      go_ret
      exact ⟨by rw [HE.out]; rfl, hb⟩
    | false =>
      have HE := Lib.hid (show checkE l = 0 by unfold checkE; rw [if_neg (by rintro (h | h); exact h16 h; rw [ha] at h; cases h)])
      rw [ha] at H
      obtain ⟨n, hn⟩ : ∃ n, l.length = n := ⟨_, rfl⟩
      rw [hn] at hl h16 H ⊢
      clear hr hn ha
      go_enter Try.func20, Try.ntmps20
      go_wp2_with fail
      refine H.out.mono ?_
      rintro e w1 ⟨rfl, hb⟩
      go_wp2
      go_ret
      exact ⟨by rw [HE.out]; rfl, hb⟩

end Go.Proofs.Ytjngfhgcifhioaa
