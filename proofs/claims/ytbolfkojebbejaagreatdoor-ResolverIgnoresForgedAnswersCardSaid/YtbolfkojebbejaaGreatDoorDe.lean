/- The reference of chapter 19: Decode at the encoding of a query. Printed by wip/tools/gen21q.py. -/
import Derived.Test.YtbolfkojebbejaaGreatDoorEn
import Derived.Test.YtbolfkojebbejaaGreatDoorDv
set_option linter.unusedVariables false
set_option maxRecDepth 100000
set_option maxHeartbeats 32000000
namespace Go.Proofs.YtbolfkojebbejaaGreatDoor
open Go.RowKit Go.Sort
attribute [local go_sem] Oper.semAt_some

def mn9 (x y : Int) : Int := if y < x then y else x
theorem run_mn9 (x y : Int) (w : World) : (Builtin.min_ #[3, 3] 3 #[.int .i64 x, .int .i64 y]).run Tryz.prog w = .ok (.int .i64 (mn9 x y)) w := by
 have e : mn9 x y = min x y := by unfold mn9; split <;> omega
 have e2 : mn9 x y = if y < x then y else x := rfl
 rw [e2]
 simp [go_sem]
 rw [← e2, e]
section
attribute [local go_sem ↓] run_mn9
end
def qryD (id : Int) (nm : ByteArray) : Dm := ⟨id, false, 0, nm, 1, []⟩
theorem qryD_ok {id : Int} {nm : ByteArray} (h0 : 0 ≤ id) (h1 : id ≤ 65535) (hn : vname nm = true) : DmV (qryD id nm) := ⟨⟨h0, h1⟩, ⟨by show (0 : Int) ≤ 0; decide, by show (0 : Int) ≤ 2; decide⟩, hn, .inl rfl, by show 0 ≤ 8; decide, fun r hr => (by cases hr), fun _ => ⟨rfl, rfl⟩⟩
end Go.Proofs.YtbolfkojebbejaaGreatDoor
