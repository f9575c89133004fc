/- Contract of sane of chapter 20. Printed by wip/tools/gen20r.py. -/
import Derived.Test.YtbolfkojebbejaaGreatDoorBh
import Derived.Test.YtbolfkojebbejaaGreatDoorCsm
import Derived.Test.YtbolfkojebbejaaGreatDoorClk
set_option linter.unusedVariables false
set_option maxRecDepth 100000
set_option maxHeartbeats 32000000
namespace Go.Proofs.YtbolfkojebbejaaGreatDoor
open Go.RowKit Go.Sort

theorem last_get {α : Type} (L : List α) (x : α) : (L ++ [x])[L.length]? = some x := by simp
section
variable {w0 w : World} {D : Nat → Prop} {L : List Res} {c : Nat} {l l' : List En} {a : Addr}
theorem put_r (now : Int) (r : Rc) (h : Own w0 D w L) (i : Nat) (hi : L[i]? = some (resC c l)) (hg : w.cell? ⟨errG, 0, none⟩ = some (errV a)) (hn : r.nm.size ≤ maxLen) (ht : r.to.size ≤ maxLen) (hl : l.length ≤ 32) {e : Int} (h1 : putF now r l = l') (h2 : putE now r = e) :
  Calls Tryz.prog 126 #[.pointer (some ⟨c, 0, none⟩), .int .i64 now, rcV r] w (OPost w0 D (L.set i (resC c l')) (.int .i64 e) w) := by
 subst h1
 subst h2
 exact put_o now r h i hi hg hn ht hl
theorem neg_r (now : Int) (nm : ByteArray) (tt : Int) (h : Own w0 D w L) (i : Nat) (hi : L[i]? = some (resC c l)) (hg : w.cell? ⟨errG, 0, none⟩ = some (errV a)) (hn : nm.size ≤ maxLen) (hl : l.length ≤ 32) {e : Int} (h1 : negF now nm tt l = l') (h2 : negE now nm tt = e) :
  Calls Tryz.prog 123 #[.pointer (some ⟨c, 0, none⟩), .int .i64 now, .string nm, .int .i64 tt] w (OPost w0 D (L.set i (resC c l')) (.int .i64 e) w) := by
 subst h1
 subst h2
 exact neg_o now nm tt h i hi hg hn hl
theorem look_r (now : Int) (s : ByteArray) (h : Own w0 D w L) (i : Nat) (hi : L[i]? = some (resC c l)) (hl : l.length ≤ 1000) {rk : List Rc × Bool} (h1 : lookL now s l = rk) :
  Calls Tryz.prog 149 #[.pointer (some ⟨c, 0, none⟩), .int .i64 now, .string s] w (LookPost w0 D L rk w) := by
 subst h1
 exact look_o now s h i hi hl
end
end Go.Proofs.YtbolfkojebbejaaGreatDoor
