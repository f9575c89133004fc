/- The types of keys of the ports tables. -/
import Derived.Laws.StructEq
import Derived.Test.YthdnonoheochhaaGreatDoorMapS
import Derived.Test.YthdnonoheochhaaGreatDoorProg
namespace Go.Proofs.YthdnonoheochhaaGreatDoor
open Go.RowKit Go.Sort
set_option linter.unusedVariables false
set_option maxRecDepth 100000
set_option linter.unusedSectionVars false
structure Bk where
  pr : Int
  po : Int
deriving DecidableEq
structure Ck where
  po : Int
  th : Int
  tp : Int
deriving DecidableEq
abbrev encB (k : Bk) : Value := .agg #[.int .i64 k.pr, .int .i64 k.po]
abbrev encC (k : Ck) : Value := .agg #[.int .i64 k.po, .int .i64 k.th, .int .i64 k.tp]
theorem kyStB : Tryz.prog.stoodInHeld 68 = false := by kernel_rfl
theorem kyStC : Tryz.prog.stoodInHeld 77 = false := by kernel_rfl
theorem run_eqB (a b c d : Int) (w : World) : (Op.equalIn 10000 68 (.agg #[.int .i64 a, .int .i64 b]) (.agg #[.int .i64 c, .int .i64 d])).run Tryz.prog w = .ok ((a == c) && (b == d)) w := by
  have hu : Tryz.prog.underlying 68 = some (.struct (Tryz.prog.fieldsOf 68)) := by kernel_rfl
  rw [run_equalIn_agg w 9999 68 _ _ hu kyStB]
  have hf : ∃ f1 f2 : Field, (Tryz.prog.fieldsOf 68).toList = [f1, f2] ∧ f1.name ≠ "_" ∧ f2.name ≠ "_" ∧ f1.type = 3 ∧ f2.type = 3 ∧ f1.offset = 0 ∧ f2.offset = 1 := ⟨_, _, rfl, by decide, by decide, rfl, rfl, rfl, rfl⟩
  obtain ⟨f1, f2, e, n1, n2, t1, t2, o1, o2⟩ := hf
  rw [e]
  have p1 : ∀ x y : Int, (part 3 #[.int .i64 x, .int .i64 y] 0).run Tryz.prog w = .ok (.int .i64 x) w := fun x y => by kernel_rfl
  have p2 : ∀ x y : Int, (part 3 #[.int .i64 x, .int .i64 y] 1).run Tryz.prog w = .ok (.int .i64 y) w := fun x y => by kernel_rfl
  cases h1 : (a == c) <;> cases h2 : (b == d) <;> simp [Op.eqFields, n1, n2, t1, t2, o1, o2, p1, p2, run_equalIn_int w _ 3 .i64 .i64 _ _ Tryz.underlying3, h1, h2]
theorem run_eqC (a b c d e f : Int) (w : World) : (Op.equalIn 10000 77 (.agg #[.int .i64 a, .int .i64 b, .int .i64 c]) (.agg #[.int .i64 d, .int .i64 e, .int .i64 f])).run Tryz.prog w = .ok ((a == d) && ((b == e) && (c == f))) w := by
  have hu : Tryz.prog.underlying 77 = some (.struct (Tryz.prog.fieldsOf 77)) := by kernel_rfl
  rw [run_equalIn_agg w 9999 77 _ _ hu kyStC]
  have hf : ∃ f1 f2 f3 : Field, (Tryz.prog.fieldsOf 77).toList = [f1, f2, f3] ∧ f1.name ≠ "_" ∧ f2.name ≠ "_" ∧ f3.name ≠ "_" ∧ f1.type = 3 ∧ f2.type = 3 ∧ f3.type = 3 ∧ f1.offset = 0 ∧ f2.offset = 1 ∧ f3.offset = 2 := ⟨_, _, _, rfl, by decide, by decide, by decide, rfl, rfl, rfl, rfl, rfl, rfl⟩
  obtain ⟨f1, f2, f3, e', n1, n2, n3, t1, t2, t3, o1, o2, o3⟩ := hf
  rw [e']
  have p1 : ∀ x y z : Int, (part 3 #[.int .i64 x, .int .i64 y, .int .i64 z] 0).run Tryz.prog w = .ok (.int .i64 x) w := fun x y z => by kernel_rfl
  have p2 : ∀ x y z : Int, (part 3 #[.int .i64 x, .int .i64 y, .int .i64 z] 1).run Tryz.prog w = .ok (.int .i64 y) w := fun x y z => by kernel_rfl
  have p3 : ∀ x y z : Int, (part 3 #[.int .i64 x, .int .i64 y, .int .i64 z] 2).run Tryz.prog w = .ok (.int .i64 z) w := fun x y z => by kernel_rfl
  cases h1 : (a == d) <;> cases h2 : (b == e) <;> cases h3 : (c == f) <;> simp [Op.eqFields, n1, n2, n3, t1, t2, t3, o1, o2, o3, p1, p2, p3, run_equalIn_int w _ 3 .i64 .i64 _ _ Tryz.underlying3, h1, h2, h3]
theorem keyB : KeyRun Tryz.prog 68 encB where
  check := fun e k w => by kernel_rfl
  find := ⟨.struct (Tryz.prog.fieldsOf 68), by kernel_rfl, .inr ⟨fun a b => rfl, fun a b w => by
    show (Op.equalIn 10000 68 _ _).run Tryz.prog w = _
    rw [run_eqB]
    congr 1
    cases a; cases b
    rw [Bool.eq_iff_iff]
    simp⟩⟩
  bits := fun a => by
    have : ∀ x y : Int, Instr.sameBits 10000 (.agg #[.int .i64 x, .int .i64 y]) (.agg #[.int .i64 x, .int .i64 y]) = ((x == x) && (y == y)) := fun x y => by
      simp [Instr.sameBits]
    rw [this]; simp
theorem keyC : KeyRun Tryz.prog 77 encC where
  check := fun e k w => by kernel_rfl
  find := ⟨.struct (Tryz.prog.fieldsOf 77), by kernel_rfl, .inr ⟨fun a b => rfl, fun a b w => by
    show (Op.equalIn 10000 77 _ _).run Tryz.prog w = _
    rw [run_eqC]
    congr 1
    cases a; cases b
    rw [Bool.eq_iff_iff]
    simp⟩⟩
  bits := fun a => by
    have : ∀ x y z : Int, Instr.sameBits 10000 (.agg #[.int .i64 x, .int .i64 y, .int .i64 z]) (.agg #[.int .i64 x, .int .i64 y, .int .i64 z]) = ((x == x) && ((y == y) && (z == z))) := fun x y z => by
      simp [Instr.sameBits]
    rw [this]; simp
theorem keyN : KeyRun Tryz.prog 3 encI := keyInt Tryz.prog 3 Tryz.underlying3
end Go.Proofs.YthdnonoheochhaaGreatDoor
