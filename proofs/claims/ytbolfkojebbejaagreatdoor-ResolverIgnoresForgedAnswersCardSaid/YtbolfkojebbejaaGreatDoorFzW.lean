/- The walk of ResolverFollowsZone. Printed by wip/tools/gen21z.py. -/
import Derived.Test.YtbolfkojebbejaaGreatDoorBp
import Derived.Test.YtbolfkojebbejaaGreatDoorBb
import Derived.Test.YtbolfkojebbejaaGreatDoorLr3
set_option linter.unusedVariables false
set_option maxRecDepth 100000
set_option maxHeartbeats 32000000
namespace Go.Proofs.YtbolfkojebbejaaGreatDoor
open Go.RowKit Go.Sort
attribute [local go_sem] Oper.semAt_some

theorem sv35_bd : ∀ j (hj : j < ([3, 5] : List Int).length), 1 ≤ ([3, 5] : List Int)[j] ∧ ([3, 5] : List Int)[j] < 4294967295 := by decide
theorem sv35_ne : ∀ j k (hj : j < ([3, 5] : List Int).length) (hk : k < ([3, 5] : List Int).length), j < k → ([3, 5] : List Int)[j] ≠ ([3, 5] : List Int)[k] := by
 intro j k hj hk h
 have hj' : j < 2 := hj
 have hk' : k < 2 := hk
 obtain ⟨rfl, rfl⟩ : j = 0 ∧ k = 1 := by omega
 show (3 : Int) ≠ 5; decide
section
variable {tt : Int} {l : List Rc} {es : List En} {now sd tk qn : Int} {a b : Nat} {want : RO} {ch : List ByteArray} {g : Glo} {w0 w : World} {D : Nat → Prop}
def FzS (l : List Rc) (want : RO) (now sd tk bd : Int) (m b a : Nat) (g : Glo) (A : List Res) (w0 : World) (D : Nat → Prop) (w : World) (u : Value) : Prop :=
 (∃ es qn ch, Pend l want ch ∧ m ≤ ch.length ∧ ZC l es ∧ CInv now es ∧ 0 ≤ qn ∧ qn ≤ bd ∧ Own w0 D w (A ++ [resZ a (pendZ sd es tk (qn + 1) b now ch), glR g, rowQs u [qyZ sd qn 3 (lastN ch)]])) ∨
 ∃ es qn, ZC l es ∧ CInv now es ∧ 0 ≤ qn ∧ qn ≤ bd ∧ Own w0 D w (A ++ [resZ a (doneZ sd es tk qn want), glR g, rowQs u []])
theorem FzS.stay {bd : Int} {m : Nat} {A : List Res} {w' : World} {u : Value} (h : FzS l want now sd tk bd m b a g A w0 D w u) (hb : Below w.heap.size w w') : FzS l want now sd tk bd m b a g A w0 D w' u := by
 rcases h with ⟨es, qn, ch, h1, h2, h3, h4, h5, h6, h7⟩ | ⟨es, qn, h1, h2, h3, h4, h5⟩
 ·
  exact .inl ⟨es, qn, ch, h1, h2, h3, h4, h5, h6, h7.stay hb⟩
 ·
  exact .inr ⟨es, qn, h1, h2, h3, h4, h5.stay hb⟩
end
theorem run_bdRsn (t er : Int) (x : Option Addr) (n c : Nat) (w : World) : (Instr.build 63 #[(0, .int .i64 t), (1, .int .i64 er), (2, .slice x n c)]).run Tryz.prog w = .ok (.agg #[.int .i64 t, .int .i64 er, .slice x n c]) w := by kernel_rfl
theorem run_bsRsn (t er : Int) (x : Option Addr) (n c : Nat) (w : World) : (Instr.buildSlice 58 1 #[(0, .agg #[.int .i64 t, .int .i64 er, .slice x n c])]).run Tryz.prog w = .ok (.slice (some ⟨w.heap.size, 0, none⟩) 1 1) (w.alloc (.cells #[.int .i64 t, .int .i64 er, .slice x n c] 63)) := by kernel_rfl
section
attribute [local go_sem ↓] run_bdRsn run_bsRsn
end
end Go.Proofs.YtbolfkojebbejaaGreatDoor
