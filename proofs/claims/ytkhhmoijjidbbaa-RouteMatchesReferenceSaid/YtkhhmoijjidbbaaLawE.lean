/- Contract of the law's sanity: it returns true. -/
import Derived.Test.YtkhhmoijjidbbaaLawD
namespace Go.Proofs.Ytkhhmoijjidbbaa
open Go.RowKit Go.Sort
set_option linter.unusedVariables false

theorem lookup_r {fs : List If} {rs : List Rt} {to : Int} {a b c : Int} (h : look fs rs to = (a, b, c)) (v u : Value) (w : World) (hF : RdI w v fs) (hG : RdR w u rs) :
    Calls Try.prog 15 #[v, u, .int .i64 to] w fun e w' => e = .returned (.tuple #[.int .i64 a, .int .i64 b, .int .i64 c]) ∧ Below w.heap.size w w' := by
  have := lookup_any fs rs v u to w hF hG
  rw [h] at this
  exact this
theorem local_r {fs : List If} {x i : Int} {b : Bool} (h1 : locI fs x = i) (h2 : locB fs x = b) (v : Value) (w : World) (hF : RdI w v fs) :
    Calls Try.prog 17 #[v, .int .i64 x] w fun e w' => e = .returned (.tuple #[.int .i64 i, .bool b]) ∧ Below w.heap.size w w' := by
  have := isLocal_any fs v x w hF
  rw [h1, h2] at this
  exact this
theorem vif_r {x : If} {b : Bool} (h : viB x = b) (w : World) :
    Calls Try.prog 19 #[ifV x] w fun e w' => e = .returned (.bool b) ∧ Below w.heap.size w w' := h ▸ validInterface_any x w

theorem lk1 : look exF exR 167772167 = (0, 167772167, 0) := by decide +kernel
theorem lk2 : look exF exR 168362241 = (0, 167772169, 0) := by decide +kernel
theorem lk3 : look exF exR 134217728 = (0, 167772414, 0) := by decide +kernel
theorem lk4 : look exF [] 134217728 = (0, 0, 91) := by decide +kernel
theorem lk5 : look exF exR 0 = (0, 0, 90) := by decide +kernel
theorem lk6 : chkE [] [] = 90 := by decide +kernel
theorem lk7 : locI exF 167772161 = 0 := by decide +kernel
theorem lk8 : locB exF 167772161 = true := by decide +kernel
theorem lk9 : viB (ifAt exF 0) = true := by decide +kernel

set_option maxRecDepth 100000 in
set_option maxHeartbeats 4000000 in
theorem sanity_any (w : World) :
    Calls Try.prog 8 #[] w fun e w' => e = .returned (.bool true) ∧ Below w.heap.size w w' := by
  go_enter Try.func8, Try.ntmps8
  go_wp2_with fail
  refine (example_any _).mono ?_
  rintro e w1 ⟨u, b, rfl, hF, hR, hb⟩
  go_wp2_with fail
  refine (lookup_r lk1 _ _ _ hF hR).mono ?_
  rintro e w2 ⟨rfl, h2⟩
  replace hF := hF.stay h2; replace hR := hR.stay h2; replace hb := below_mid hb h2; clear h2
  go_wp2_with fail
  refine (lookup_r lk2 _ _ _ hF hR).mono ?_
  rintro e w3 ⟨rfl, h2⟩
  replace hF := hF.stay h2; replace hR := hR.stay h2; replace hb := below_mid hb h2; clear h2
  go_wp2_with fail
  refine (lookup_r lk3 _ _ _ hF hR).mono ?_
  rintro e w4 ⟨rfl, h2⟩
  replace hF := hF.stay h2; replace hR := hR.stay h2; replace hb := below_mid hb h2; clear h2
  go_wp2_with fail
  refine (lookup_r lk4 _ _ _ hF (RdR_nil _)).mono ?_
  rintro e w5 ⟨rfl, h2⟩
  replace hF := hF.stay h2; replace hR := hR.stay h2; replace hb := below_mid hb h2; clear h2
  go_wp2_with fail
  refine (lookup_r lk5 _ _ _ hF hR).mono ?_
  rintro e w6 ⟨rfl, h2⟩
  replace hF := hF.stay h2; replace hR := hR.stay h2; replace hb := below_mid hb h2; clear h2
  go_wp2_with fail
  refine (chk_r lk6 _ (RdI_nil _) (RdR_nil _)).mono ?_
  rintro e w7 ⟨rfl, h2⟩
  replace hF := hF.stay h2; replace hR := hR.stay h2; replace hb := below_mid hb h2; clear h2
  go_wp2_with fail
  refine (local_r lk7 lk8 _ _ hF).mono ?_
  rintro e w8 ⟨rfl, h2⟩
  replace hF := hF.stay h2; replace hR := hR.stay h2; replace hb := below_mid hb h2; clear h2
  obtain ⟨a', cap', e1, _, _, hp⟩ := hF
  obtain ⟨b', o', e2, hc⟩ := hp (by decide)
  have hc0 := hc 0 (by decide)
  cases e1
  cases e2
  obtain ⟨c0, c1, c2, c3, c4⟩ := hc0
  simp only [Nat.zero_mul, Nat.add_zero, Nat.zero_add] at c0 c1 c2 c3 c4
  clear hc hp hR
  have L9 := Lib.hid lk9
  generalize ifAt exF 0 = x at *
  go_wp2_with fail
  refine (vif_r (x := x) L9.out _).mono ?_
  rintro e w9 ⟨rfl, h2⟩
  replace hb := below_mid hb h2
  go_wp2
  go_ret
  exact ⟨rfl, hb⟩

end Go.Proofs.Ytkhhmoijjidbbaa
