/- Contract of Same of the reference of chapter 20. Printed by wip/tools/gen20q.py. -/
import Derived.Test.YtbolfkojebbejaaGreatDoorCdat
import Derived.Test.YtbolfkojebbejaaGreatDoorBb
set_option linter.unusedVariables false
set_option maxRecDepth 100000
set_option maxHeartbeats 32000000
namespace Go.Proofs.YtbolfkojebbejaaGreatDoor
open Go.RowKit Go.Sort

def rcEq (a b : Rc) : Bool := (a.nm.toList == b.nm.toList) && ((a.kd == b.kd) && ((a.tt == b.tt) && ((a.ad == b.ad) && (a.to.toList == b.to.toList))))
theorem stRc : Tryz.prog.stoodInHeld 49 = false := by kernel_rfl
theorem run_eqRc (a b : Rc) (w : World) : (Op.equalIn 10000 49 (rcV a) (rcV b)).run Tryz.prog w = .ok (rcEq a b) w := by
 have hu : Tryz.prog.underlying 49 = some (.struct (Tryz.prog.fieldsOf 49)) := by kernel_rfl
 rw [run_equalIn_agg w 9999 49 _ _ hu stRc]
 obtain ⟨a0, a1, a2, a3, a4⟩ := a
 obtain ⟨b0, b1, b2, b3, b4⟩ := b
 have hf : ∃ f1 f2 f3 f4 f5 : Field, (Tryz.prog.fieldsOf 49).toList = [f1, f2, f3, f4, f5] ∧ (f1.name ≠ "_" ∧ f2.name ≠ "_" ∧ f3.name ≠ "_" ∧ f4.name ≠ "_" ∧ f5.name ≠ "_") ∧ (f1.type = 9 ∧ f2.type = 3 ∧ f3.type = 3 ∧ f4.type = 3 ∧ f5.type = 9) ∧ f1.offset = 0 ∧ f2.offset = 1 ∧ f3.offset = 2 ∧ f4.offset = 3 ∧ f5.offset = 4 := ⟨_, _, _, _, _, rfl, ⟨by decide, by decide, by decide, by decide, by decide⟩, ⟨rfl, rfl, rfl, rfl, rfl⟩, rfl, rfl, rfl, rfl, rfl⟩
 obtain ⟨f1, f2, f3, f4, f5, e', ⟨n1, n2, n3, n4, n5⟩, ⟨t1, t2, t3, t4, t5⟩, o1, o2, o3, o4, o5⟩ := hf
 rw [e']
 have p1 : ∀ (x : ByteArray) (y z q : Int) (u : ByteArray), (part 9 #[.string x, .int .i64 y, .int .i64 z, .int .i64 q, .string u] 0).run Tryz.prog w = .ok (.string x) w := fun x y z q u => by kernel_rfl
 have p2 : ∀ (x : ByteArray) (y z q : Int) (u : ByteArray), (part 3 #[.string x, .int .i64 y, .int .i64 z, .int .i64 q, .string u] 1).run Tryz.prog w = .ok (.int .i64 y) w := fun x y z q u => by kernel_rfl
 have p3 : ∀ (x : ByteArray) (y z q : Int) (u : ByteArray), (part 3 #[.string x, .int .i64 y, .int .i64 z, .int .i64 q, .string u] 2).run Tryz.prog w = .ok (.int .i64 z) w := fun x y z q u => by kernel_rfl
 have p4 : ∀ (x : ByteArray) (y z q : Int) (u : ByteArray), (part 3 #[.string x, .int .i64 y, .int .i64 z, .int .i64 q, .string u] 3).run Tryz.prog w = .ok (.int .i64 q) w := fun x y z q u => by kernel_rfl
 have p5 : ∀ (x : ByteArray) (y z q : Int) (u : ByteArray), (part 9 #[.string x, .int .i64 y, .int .i64 z, .int .i64 q, .string u] 4).run Tryz.prog w = .ok (.string u) w := fun x y z q u => by kernel_rfl
 simp only [rcEq]
 cases h1 : (a0.toList == b0.toList) <;> cases h2 : (a1 == b1) <;> cases h3 : (a2 == b2) <;> cases h4 : (a3 == b3) <;> cases h5 : (a4.toList == b4.toList) <;>
  simp [Op.eqFields, n1, n2, n3, n4, n5, t1, t2, t3, t4, t5, o1, o2, o3, o4, o5, p1, p2, p3, p4, p5, run_equalIn_int w _ 3 .i64 .i64 _ _ Tryz.underlying3, run_equalIn_string w _ 9 _ _ Tryz.underlying9, h1, h2, h3, h4, h5]
theorem run_neRc (a0 : ByteArray) (a1 a2 a3 : Int) (a4 b0 : ByteArray) (b1 b2 b3 : Int) (b4 : ByteArray) (w : World) : (binOp .neq 49 (.agg #[.string a0, .int .i64 a1, .int .i64 a2, .int .i64 a3, .string a4]) (.agg #[.string b0, .int .i64 b1, .int .i64 b2, .int .i64 b3, .string b4])).run Tryz.prog w = .ok (.bool (!rcEq ⟨a0, a1, a2, a3, a4⟩ ⟨b0, b1, b2, b3, b4⟩)) w := by
 have := run_eqRc ⟨a0, a1, a2, a3, a4⟩ ⟨b0, b1, b2, b3, b4⟩ w
 rw [run_neq_struct, this]; rfl
attribute [local go_sem ↓] run_neRc
end Go.Proofs.YtbolfkojebbejaaGreatDoor
