/- RangesBounds, walked. -/
import Derived.Test.YthkkhgfdppbphaaLwB
namespace Go.Proofs.Ythkkhgfdppbphaa
open Go.RowKit Go.Sort Go.Shelf
set_option linter.unusedVariables false

theorem bd1 {n : Int} (h : 0 ≤ n ∧ n < 1000) : canF (-1) [⟨1099511627775 - n, 1099511627776⟩] = true := by simp [canF, okS]; omega
theorem bd2 (n : Int) : canF (-1) [⟨n, n⟩] = false := by simp [canF, okS]
theorem bd3 {n : Int} (h : 0 ≤ n) : canF (-1) [⟨-1 - n, 1⟩] = false := by simp [canF, okS]; omega
theorem bd4 {n : Int} (h : 0 ≤ n) : canF (-1) [⟨1099511627775, 1099511627777 + n⟩] = false := by simp [canF, okS]; omega
theorem bd5 {n : Int} (h : 0 ≤ n ∧ n < 1000) : cntF [⟨1099511627775 - n, 1099511627776⟩] = n + 1 := by simp [cntF, bd1 h, cntL]; omega
theorem bd6 (l : List Sp) : addF l ⟨5, 5⟩ = [] := by simp [addF, takB, okS]
theorem bd7 {n : Int} (h : 0 ≤ n ∧ n < 1000) : addF [] ⟨1099511627775 - n, 1099511627776⟩ = [⟨1099511627775 - n, 1099511627776⟩] := by
  have : okS (-1) ⟨1099511627775 - n, 1099511627776⟩ = true := by simp [okS]; omega
  simp [addF, takB, this, canF, addL]
theorem bd8 (n : Int) : canF (-1) [⟨0, n + 1⟩, ⟨n + 1, n + 2⟩] = false := by simp [canF, okS]

set_option maxHeartbeats 4000000 in
theorem bounds_walk (a : Int) (w : World) (ha : -9223372036854775808 ≤ a ∧ a ≤ 9223372036854775807) :
    Calls Try.prog 9 #[.int .i64 a] w fun e w' => e = .returned (.bool true) ∧ Below w.heap.size w w' := by
  have r1 := run_bsS1
  have r2 := run_bsS2
  have P0 := Lib.hid (fun w => pick_any a 1000 w ha (by decide))
  have hn := pk_bd a 1000 (by decide)
  have B := Lib.hid (Below.refl w.heap.size w)
  generalize pk a 1000 = n at *
  have HN := Lib.hid hn
  obtain ⟨hn1, hn2⟩ := hn
  go_enter Try.func9, Try.ntmps9
  go_wp2_with fail
  refine (sane_any _).mono ?_
  rintro e x1 ⟨rfl, hb⟩
  replace B := Lib.hid (below_mid B.out hb)
  clear hb
  go_wp2_with fail
  refine (P0.out _).mono ?_
  rintro e x2 ⟨rfl, hb⟩
  replace B := Lib.hid (below_mid B.out hb)
  clear hb
  obtain ⟨x3, hx3⟩ : ∃ y, x2.alloc (.cells #[.int .i64 (1099511627775 - n), .int .i64 1099511627776] 24) = y := ⟨_, rfl⟩
  have hb : Below x2.heap.size x2 x3 := hx3 ▸ bal x2 (.cells #[.int .i64 (1099511627775 - n), .int .i64 1099511627776] 24)
  replace B := Lib.hid (below_mid B.out hb)
  clear hb
  have D0 := Lib.hid (hx3 ▸ (box1 x2 (1099511627775 - n) 1099511627776 24).1)
  have D1 := Lib.hid (hx3 ▸ (box1 x2 (1099511627775 - n) 1099511627776 24).2)
  have pD0 := D0.out
  have pD1 := D1.out
  obtain ⟨x4, hx4⟩ : ∃ y, x3.alloc (.cells #[.int .i64 (1099511627775 - n), .int .i64 1099511627776] 24) = y := ⟨_, rfl⟩
  have hb : Below x3.heap.size x3 x4 := hx4 ▸ bal x3 (.cells #[.int .i64 (1099511627775 - n), .int .i64 1099511627776] 24)
  have R1 := Lib.hid (hx4 ▸ RdS_one' x3 (1099511627775 - n) 1099511627776)
  replace D0 := Lib.hid (keep hb D0.out)
  replace D1 := Lib.hid (keep hb D1.out)
  replace B := Lib.hid (below_mid B.out hb)
  clear hb
  have uD0 := D0.out
  have uD1 := D1.out
  go_wp2_with fail
  clear uD0 uD1 pD0 pD1
  refine (valid_r (bd1 HN.out) _ _ R1.out).mono ?_
  rintro e x5 ⟨rfl, hb⟩
  replace R1 := Lib.hid (R1.out.stay hb)
  replace D0 := Lib.hid (keep hb D0.out)
  replace D1 := Lib.hid (keep hb D1.out)
  replace B := Lib.hid (below_mid B.out hb)
  clear hb
  obtain ⟨x6, hx6⟩ : ∃ y, x5.alloc (.cells #[.int .i64 n, .int .i64 n] 24) = y := ⟨_, rfl⟩
  have hb : Below x5.heap.size x5 x6 := hx6 ▸ bal x5 (.cells #[.int .i64 n, .int .i64 n] 24)
  have R2 := Lib.hid (hx6 ▸ RdS_one' x5 n n)
  replace R1 := Lib.hid (R1.out.stay hb)
  replace D0 := Lib.hid (keep hb D0.out)
  replace D1 := Lib.hid (keep hb D1.out)
  replace B := Lib.hid (below_mid B.out hb)
  clear hb
  have uD0 := D0.out
  have uD1 := D1.out
  go_wp2_with fail
  clear uD0 uD1
  refine (valid_r (bd2 n) _ _ R2.out).mono ?_
  rintro e x7 ⟨rfl, hb⟩
  replace R1 := Lib.hid (R1.out.stay hb)
  replace R2 := Lib.hid (R2.out.stay hb)
  replace D0 := Lib.hid (keep hb D0.out)
  replace D1 := Lib.hid (keep hb D1.out)
  replace B := Lib.hid (below_mid B.out hb)
  clear hb
  clear R2
  obtain ⟨x8, hx8⟩ : ∃ y, x7.alloc (.cells #[.int .i64 (-1 - n), .int .i64 1] 24) = y := ⟨_, rfl⟩
  have hb : Below x7.heap.size x7 x8 := hx8 ▸ bal x7 (.cells #[.int .i64 (-1 - n), .int .i64 1] 24)
  have R2 := Lib.hid (hx8 ▸ RdS_one' x7 (-1 - n) 1)
  replace R1 := Lib.hid (R1.out.stay hb)
  replace D0 := Lib.hid (keep hb D0.out)
  replace D1 := Lib.hid (keep hb D1.out)
  replace B := Lib.hid (below_mid B.out hb)
  clear hb
  have uD0 := D0.out
  have uD1 := D1.out
  go_wp2_with fail
  clear uD0 uD1
  refine (valid_r (bd3 HN.out.1) _ _ R2.out).mono ?_
  rintro e x9 ⟨rfl, hb⟩
  replace R1 := Lib.hid (R1.out.stay hb)
  replace R2 := Lib.hid (R2.out.stay hb)
  replace D0 := Lib.hid (keep hb D0.out)
  replace D1 := Lib.hid (keep hb D1.out)
  replace B := Lib.hid (below_mid B.out hb)
  clear hb
  clear R2
  obtain ⟨x10, hx10⟩ : ∃ y, x9.alloc (.cells #[.int .i64 1099511627775, .int .i64 (1099511627777 + n)] 24) = y := ⟨_, rfl⟩
  have hb : Below x9.heap.size x9 x10 := hx10 ▸ bal x9 (.cells #[.int .i64 1099511627775, .int .i64 (1099511627777 + n)] 24)
  have R2 := Lib.hid (hx10 ▸ RdS_one' x9 1099511627775 (1099511627777 + n))
  replace R1 := Lib.hid (R1.out.stay hb)
  replace D0 := Lib.hid (keep hb D0.out)
  replace D1 := Lib.hid (keep hb D1.out)
  replace B := Lib.hid (below_mid B.out hb)
  clear hb
  have uD0 := D0.out
  have uD1 := D1.out
  go_wp2_with fail
  clear uD0 uD1
  refine (valid_r (bd4 HN.out.1) _ _ R2.out).mono ?_
  rintro e x11 ⟨rfl, hb⟩
  replace R1 := Lib.hid (R1.out.stay hb)
  replace R2 := Lib.hid (R2.out.stay hb)
  replace D0 := Lib.hid (keep hb D0.out)
  replace D1 := Lib.hid (keep hb D1.out)
  replace B := Lib.hid (below_mid B.out hb)
  clear hb
  clear R2
  have uD0 := D0.out
  have uD1 := D1.out
  go_wp2_with fail
  clear uD0 uD1
  refine (count_r (bd5 HN.out) _ _ R1.out).mono ?_
  rintro e x12 ⟨rfl, hb⟩
  replace R1 := Lib.hid (R1.out.stay hb)
  replace D0 := Lib.hid (keep hb D0.out)
  replace D1 := Lib.hid (keep hb D1.out)
  replace B := Lib.hid (below_mid B.out hb)
  clear hb
  have uD0 := D0.out
  have uD1 := D1.out
  go_wp2_with fail
  clear uD0 uD1
  refine (add_r (bd6 _) _ _ R1.out (by simp)).mono ?_
  rintro e x13 ⟨v2, rfl, r0, hb⟩
  replace R1 := Lib.hid (R1.out.stay hb)
  replace D0 := Lib.hid (keep hb D0.out)
  replace D1 := Lib.hid (keep hb D1.out)
  replace B := Lib.hid (below_mid B.out hb)
  have R2 := Lib.hid r0
  clear hb r0
  obtain ⟨a2, c2, rfl, hc2⟩ := R2.out
  clear R2
  clear hc2
  have uD0 := D0.out
  have uD1 := D1.out
  go_wp2_with fail
  clear uD0 uD1
  refine (add_r (bd7 HN.out) _ _ (RdS_nil _) (by simp)).mono ?_
  rintro e x14 ⟨v2, rfl, r0, hb⟩
  replace R1 := Lib.hid (R1.out.stay hb)
  replace D0 := Lib.hid (keep hb D0.out)
  replace D1 := Lib.hid (keep hb D1.out)
  replace B := Lib.hid (below_mid B.out hb)
  have R2 := Lib.hid r0
  clear hb r0
  have uD0 := D0.out
  have uD1 := D1.out
  go_wp2_with fail
  clear uD0 uD1
  refine (same_r (decide_eq_true rfl) _ _ _ R2.out R1.out).mono ?_
  rintro e x15 ⟨rfl, hb⟩
  replace R1 := Lib.hid (R1.out.stay hb)
  replace R2 := Lib.hid (R2.out.stay hb)
  replace D0 := Lib.hid (keep hb D0.out)
  replace D1 := Lib.hid (keep hb D1.out)
  replace B := Lib.hid (below_mid B.out hb)
  clear hb
  clear R2
  obtain ⟨x16, hx16⟩ : ∃ y, x15.alloc (.cells #[.int .i64 0, .int .i64 (n + 1), .int .i64 (n + 1), .int .i64 (n + 2)] 24) = y := ⟨_, rfl⟩
  have hb : Below x15.heap.size x15 x16 := hx16 ▸ bal x15 (.cells #[.int .i64 0, .int .i64 (n + 1), .int .i64 (n + 1), .int .i64 (n + 2)] 24)
  have R2 := Lib.hid (hx16 ▸ RdS_two x15 0 (n + 1) (n + 1) (n + 2) _)
  replace R1 := Lib.hid (R1.out.stay hb)
  replace D0 := Lib.hid (keep hb D0.out)
  replace D1 := Lib.hid (keep hb D1.out)
  replace B := Lib.hid (below_mid B.out hb)
  clear hb
  have uD0 := D0.out
  have uD1 := D1.out
  go_wp2_with fail
  clear uD0 uD1
  refine (valid_r (bd8 n) _ _ R2.out).mono ?_
  rintro e x17 ⟨rfl, hb⟩
  replace R1 := Lib.hid (R1.out.stay hb)
  replace R2 := Lib.hid (R2.out.stay hb)
  replace D0 := Lib.hid (keep hb D0.out)
  replace D1 := Lib.hid (keep hb D1.out)
  replace B := Lib.hid (below_mid B.out hb)
  clear hb
  have uD0 := D0.out
  have uD1 := D1.out
  go_wp2
  clear uD0 uD1
  go_ret
  exact ⟨rfl, B.out⟩

end Go.Proofs.Ythkkhgfdppbphaa
