/- Contracts of the laws' own helpers of chapter 23: pick, proto, near. -/
import Derived.Test.YtjngfhgcifhioaaPex
namespace Go.Proofs.Ytjngfhgcifhioaa
open Go.RowKit Go.Sort
set_option linter.unusedVariables false
set_option maxRecDepth 100000

def pk (c n : Int) : Int := (if c < 0 then -(c + 1) else c) % n
theorem pk_bd (c n : Int) (h : 0 < n) : 0 ≤ pk c n ∧ pk c n < n := by
  unfold pk; exact ⟨Int.emod_nonneg _ (by omega), Int.emod_lt_of_pos _ h⟩
theorem pick_any (c n : Int) (w : World) (hc : -9223372036854775808 ≤ c ∧ c ≤ 9223372036854775807) (hn : 0 < n) :
    Calls Try.prog 14 #[.int .i64 c, .int .i64 n] w fun e w' => e = .returned (.int .i64 (pk c n)) ∧ w = w' := by
  obtain ⟨hc1, hc2⟩ := hc
  have hz : (n == 0) = false := by simp; omega
  by_cases h : c < 0
  · have HP := Lib.hid (show pk c n = (-(c + 1)) % n by simp [pk, h])
    go_enter Try.func14, Try.ntmps14
    go_wp2
    all_goals go_ret
    all_goals exact ⟨ret_i64 (by rw [HP.out, ← Int.neg_tmod, Int.tmod_eq_emod_of_nonneg (by omega)]), rfl⟩
  · have HP := Lib.hid (show pk c n = c % n by simp [pk, h])
    go_enter Try.func14, Try.ntmps14
    go_wp2
    all_goals go_ret
    all_goals exact ⟨ret_i64 (by rw [HP.out]), rfl⟩

/-- A generated call. -/
structure Cl where
  kd : Int
  ud : Bool
  po : Int
  so : Int
  th : Int
  ot : Int
abbrev clA (c : Cl) : Array Value := #[.int .u8 c.kd, .bool c.ud, .int .i64 c.po, .int .i64 c.so, .int .i64 c.th, .int .i64 c.ot]
abbrev clV (c : Cl) : Value := .agg (clA c)
def i64B (n : Int) : Prop := -9223372036854775808 ≤ n ∧ n ≤ 9223372036854775807
structure ClOk (c : Cl) : Prop where
  kd : 0 ≤ c.kd ∧ c.kd ≤ 255
  po : i64B c.po
  so : i64B c.so
  th : i64B c.th
  ot : i64B c.ot
def protoF (c : Cl) : Int := if c.ud then 17 else 6
theorem new_blk (w : World) (o : Obj) : (w.alloc o).heap[w.heap.size]? = some o := by show (w.heap.push _)[w.heap.size]? = _; simp
def tabP (i : Int) : Int := ([80, 81, 49152, 49153, 49154, 49215, 0, 65536] : List Int).getD i.toNat 0
theorem tab_cell {w : World} {b : Nat} {t : TypeId} (h : w.heap[b]? = some (.cells #[.int .i64 80, .int .i64 81, .int .i64 49152, .int .i64 49153, .int .i64 49154, .int .i64 49215, .int .i64 0, .int .i64 65536] t)) (i : Int) (h0 : 0 ≤ i) (h1 : i < 8) : w.cell? ⟨b, i.toNat, none⟩ = some (.int .i64 (tabP i)) := by
  rw [blk_cell h]
  obtain rfl | rfl | rfl | rfl | rfl | rfl | rfl | rfl : i = 0 ∨ i = 1 ∨ i = 2 ∨ i = 3 ∨ i = 4 ∨ i = 5 ∨ i = 6 ∨ i = 7 := by omega
  all_goals rfl
def nearC (c : Cl) : Cl := { c with po := tabP (pk c.po 8), so := pk c.so 6, th := 100 + pk c.th 3, ot := 900 + pk c.ot 3 }
theorem run_bsI8 (w : World) : (Instr.buildSlice 127 8 #[(0, .int .i64 80), (1, .int .i64 81), (2, .int .i64 49152), (3, .int .i64 49153), (4, .int .i64 49154), (5, .int .i64 49215), (6, .int .i64 0), (7, .int .i64 65536)]).run Try.prog w = .ok (.slice (some ⟨w.heap.size, 0, none⟩) 8 8) (w.alloc (.cells #[.int .i64 80, .int .i64 81, .int .i64 49152, .int .i64 49153, .int .i64 49154, .int .i64 49215, .int .i64 0, .int .i64 65536] 3)) := by kernel_rfl
end Go.Proofs.Ytjngfhgcifhioaa
