/- Contracts of the laws' own helpers of chapter 23: pick, proto, near. -/
import Derived.Test.YtbhglemolpfnkaaGreatDoorPex
set_option linter.unusedVariables false
set_option maxRecDepth 100000
set_option maxHeartbeats 32000000
namespace Go.Proofs.YtbhglemolpfnkaaGreatDoor
open Go.RowKit Go.Sort

def pk (c n : Int) : Int := (if c < 0 then -(c + 1) else c) % n
theorem pk_bd (c n : Int) (h : 0 < n) : 0 ≤ pk c n ∧ pk c n < n := by
 unfold pk; exact ⟨Int.emod_nonneg _ (by omega), Int.emod_lt_of_pos _ h⟩
theorem pick_any (c n : Int) (w : World) (hc : -9223372036854775808 ≤ c ∧ c ≤ 9223372036854775807) (hn : 0 < n) :
  Calls Tryz.prog 9 #[.int .i64 c, .int .i64 n] w fun e w' => e = .returned (.int .i64 (pk c n)) ∧ w = w' := by
 obtain ⟨hc1, hc2⟩ := hc
 have hz : (n == 0) = false := by simp; omega
 by_cases h : c < 0
 ·
  have HP := Hi (show pk c n = (-(c + 1)) % n by simp [pk, h])
  go_enter Tryz.func9, Tryz.ntmps9
  go_wp2
  all_goals go_ret
  all_goals exact ⟨ret_i64 (by rw [HP.out, ← Int.neg_tmod, Int.tmod_eq_emod_of_nonneg (by omega)]), rfl⟩
 ·
  have HP := Hi (show pk c n = c % n by simp [pk, h])
  go_enter Tryz.func9, Tryz.ntmps9
  go_wp2
  all_goals go_ret
  all_goals exact ⟨ret_i64 (by rw [HP.out]), rfl⟩

def i64B (n : Int) : Prop := -9223372036854775808 ≤ n ∧ n ≤ 9223372036854775807
end Go.Proofs.YtbhglemolpfnkaaGreatDoor
