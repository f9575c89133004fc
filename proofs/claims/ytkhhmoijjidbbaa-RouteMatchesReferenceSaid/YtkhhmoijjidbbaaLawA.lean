/- Contracts of the law's own helpers: pick, net, To. -/
import Derived.Test.YtkhhmoijjidbbaaRegion2
import Derived.Test.YtkhhmoijjidbbaaAddr
import Derived.Test.YtkhhmoijjidbbaaRouteData
namespace Go.Proofs.Ytkhhmoijjidbbaa
open Go.RowKit Go.Sort
set_option linter.unusedVariables false

def pk (c n : Int) : Int := (if c < 0 then -(c + 1) else c) % n
theorem pk_bd (c n : Int) (h : 0 < n) : 0 ≤ pk c n ∧ pk c n < n := by
  unfold pk; exact ⟨Int.emod_nonneg _ (by omega), Int.emod_lt_of_pos _ h⟩

theorem pick_any (c n : Int) (w : World) (hc : -9223372036854775808 ≤ c ∧ c ≤ 9223372036854775807) (hn : 0 < n) :
    Calls Try.prog 11 #[.int .i64 c, .int .i64 n] w fun e w' => e = .returned (.int .i64 (pk c n)) ∧ Below w.heap.size w w' := by
  obtain ⟨hc1, hc2⟩ := hc
  have hz : (n == 0) = false := by simp; omega
  by_cases h : c < 0
  · have HP := Lib.hid (show pk c n = (-(c + 1)) % n by simp [pk, h])
    go_enter Try.func11, Try.ntmps11
    go_wp2
    all_goals go_ret
    all_goals exact ⟨ret_i64 (by rw [HP.out, ← Int.neg_tmod, Int.tmod_eq_emod_of_nonneg (by omega)]), Below.refl _ _⟩
  · have HP := Lib.hid (show pk c n = c % n by simp [pk, h])
    go_enter Try.func11, Try.ntmps11
    go_wp2
    all_goals go_ret
    all_goals exact ⟨ret_i64 (by rw [HP.out]), Below.refl _ _⟩

def nt (a b : Int) : Int := a / (2:Int) ^ (32 - b).toNat * (2:Int) ^ (32 - b).toNat

theorem lnet_any (a b : Int) (w : World) (ha : 0 ≤ a ∧ a ≤ 4294967295) (hb : 0 ≤ b ∧ b ≤ 32) :
    Calls Try.prog 23 #[.int .i64 a, .int .i64 b] w fun e w' => e = .returned (.agg #[.int .i64 (nt a b), .int .i64 b]) ∧ Below w.heap.size w w' := by
  obtain ⟨ha1, ha2⟩ := ha
  obtain ⟨hb1, hb2⟩ := hb
  have hp := pow_bd b hb1 hb2
  have hwr : wrap64 ((2:Int) ^ (32 - b).toNat) = (2:Int) ^ (32 - b).toNat := wrap_in _ (by omega) (by omega)
  have hpz : ((2:Int) ^ (32 - b).toNat == 0) = false := by simp; omega
  have HN := Lib.hid (show nt a b = a / (2:Int) ^ (32 - b).toNat * (2:Int) ^ (32 - b).toNat from rfl)
  have h1 : 0 ≤ a / (2:Int) ^ (32 - b).toNat := Int.ediv_nonneg ha1 (by omega)
  have h2 : 0 ≤ a / (2:Int) ^ (32 - b).toNat * (2:Int) ^ (32 - b).toNat := Int.mul_nonneg h1 (by omega)
  have h3 : a / (2:Int) ^ (32 - b).toNat * (2:Int) ^ (32 - b).toNat ≤ a := Int.ediv_mul_le a (by omega)
  go_enter Try.func23, Try.ntmps23
  go_wp2
  refine bodyPost_ret (v := .agg #[.int .i64 (nt a b), .int .i64 b]) (by rw [HN.out]; simp [results, Try.results23, go_sem]) rfl ⟨rfl, ?_⟩
  exact (Below.refl _ _).alloc (Nat.le_refl _) _

theorem tdiv_bd (n k : Int) (hk : 0 < k) (h : -9223372036854775808 ≤ n ∧ n ≤ 9223372036854775807) : -9223372036854775808 ≤ n.tdiv k ∧ n.tdiv k ≤ 9223372036854775807 := by
  rcases Int.le_total 0 n with h0 | h0
  · rw [Int.tdiv_eq_ediv_of_nonneg h0]
    have h1 : 0 ≤ n / k := Int.ediv_nonneg h0 (by omega)
    have h2 : n / k ≤ n := Int.ediv_le_self _ h0
    omega
  · have e : n.tdiv k = -((-n) / k) := by
      rw [← Int.tdiv_eq_ediv_of_nonneg (show 0 ≤ -n by omega), Int.neg_tdiv]; omega
    rw [e]
    have h1 : 0 ≤ (-n) / k := Int.ediv_nonneg (by omega) (by omega)
    have h2 : (-n) / k ≤ -n := Int.ediv_le_self _ (by omega)
    omega

def toF (n : Int) : Int := if n.tmod 7 = 0 then n else 167772160 + pk (n.tdiv 4096) 8 * 65536 + pk (n.tdiv 64) 16 * 256 + pk n 64

theorem to_any (n : Int) (w : World) (hc : -9223372036854775808 ≤ n ∧ n ≤ 9223372036854775807) :
    Calls Try.prog 14 #[.int .i64 n] w fun e w' => e = .returned (.int .i64 (toF n)) ∧ Below w.heap.size w w' := by
  obtain ⟨hc1, hc2⟩ := hc
  by_cases h : n.tmod 7 = 0
  · have HT := Lib.hid (show toF n = n by simp [toF, h])
    have h' : (n.tmod 7 == 0) = true := by simpa using h
    go_enter Try.func14, Try.ntmps14
    go_wp2
    all_goals go_ret
    all_goals exact ⟨ret_i64 (by rw [HT.out]), Below.refl _ _⟩
  · have HT := Lib.hid (show toF n = 167772160 + pk (n.tdiv 4096) 8 * 65536 + pk (n.tdiv 64) 16 * 256 + pk n 64 by simp [toF, h])
    have h' : (n.tmod 7 == 0) = false := by simpa using h
    have hb1 := pk_bd (n.tdiv 4096) 8 (by omega)
    have hb2 := pk_bd (n.tdiv 64) 16 (by omega)
    have hb3 := pk_bd n 64 (by omega)
    have d1 : -9223372036854775808 ≤ n.tdiv 4096 ∧ n.tdiv 4096 ≤ 9223372036854775807 := tdiv_bd n 4096 (by omega) ⟨hc1, hc2⟩
    have d2 : -9223372036854775808 ≤ n.tdiv 64 ∧ n.tdiv 64 ≤ 9223372036854775807 := tdiv_bd n 64 (by omega) ⟨hc1, hc2⟩
    have p1 := Lib.hid (fun w => pick_any (n.tdiv 4096) 8 w d1 (by omega))
    have p2 := Lib.hid (fun w => pick_any (n.tdiv 64) 16 w d2 (by omega))
    have p3 := Lib.hid (fun w => pick_any n 64 w ⟨hc1, hc2⟩ (by omega))
    generalize pk (n.tdiv 4096) 8 = x1 at *
    generalize pk (n.tdiv 64) 16 = x2 at *
    generalize pk n 64 = x3 at *
    go_enter Try.func14, Try.ntmps14
    go_wp2_with fail
    refine (p1.out _).mono ?_
    rintro e w1 ⟨rfl, hb⟩
    go_wp2_with fail
    refine (p2.out _).mono ?_
    rintro e w2 ⟨rfl, hb'⟩
    replace hb := below_mid hb hb'
    clear hb'
    go_wp2_with fail
    refine (p3.out _).mono ?_
    rintro e w3 ⟨rfl, hb'⟩
    replace hb := below_mid hb hb'
    clear hb'
    go_wp2
    go_ret
    exact ⟨ret_i64 (by rw [HT.out]), hb⟩

end Go.Proofs.Ytkhhmoijjidbbaa
