/- Contract of sane of chapter 20. Printed by wip/tools/gen20r.py. -/
import Derived.Test.YtbolfkojebbejaaGreatDoorBh
import Derived.Test.YtbolfkojebbejaaGreatDoorCsm
import Derived.Test.YtbolfkojebbejaaGreatDoorClk
namespace Go.Proofs.YtbolfkojebbejaaGreatDoor
open Go.RowKit Go.Sort
set_option linter.unusedVariables false
set_option maxRecDepth 100000

theorem last_get {α : Type} (L : List α) (x : α) : (L ++ [x])[L.length]? = some x := by simp
section
variable {w0 w : World} {D : Nat → Prop} {L : List Res} {c : Nat} {l l' : List En} {a : Addr}
theorem look_r (now : Int) (s : ByteArray) (h : Own w0 D w L) (i : Nat) (hi : L[i]? = some (resC c l)) (hl : l.length ≤ 1000) {rk : List Rc × Bool} (h1 : lookL now s l = rk) :
    Calls Tryz.prog 149 #[.pointer (some ⟨c, 0, none⟩), .int .i64 now, .string s] w (LookPost w0 D L rk w) := by
  subst h1
  exact look_o now s h i hi hl
end
end Go.Proofs.YtbolfkojebbejaaGreatDoor
