/- Package segment: put, the checks, flagByte, write, at a segment without flags and blocks. Printed by wip/tools/gen23A.py. -/
import Derived.Test.YthdnonoheochhaaGreatDoorBld
import Derived.Test.YthdnonoheochhaaGreatDoorOwnH
import Derived.Test.YthdnonoheochhaaGreatDoorBase
import Derived.Test.YthdnonoheochhaaGreatDoorProg
namespace Go.Proofs.YthdnonoheochhaaGreatDoor
open Go.RowKit Go.Sort
set_option linter.unusedVariables false
set_option maxRecDepth 100000
attribute [local go_sem] Oper.semAt_some
theorem newBb {w0 w : World} {D : Nat → Prop} {L : List Res} (h : Own w0 D w L) : Own w0 D (w.alloc (.cells #[.pointer none, .slice none 0 0] 123)) (L ++ [resB w.heap.size []]) := by
  have h0 := (Own.nil w none0).alloc (.cells #[.pointer none, .slice none 0 0] 123)
  have h1 := h0.rowNew 5 1
  have h2 : Own w none0 (w.alloc (.cells #[.pointer none, .slice none 0 0] 123)) [resB w.heap.size []] := shutB (L := []) (.inl rfl) h1
  obtain ⟨F, hF, hb, _⟩ := h2.step (i := 0) rfl
  exact h.push hF (fun b h => (hb b h).elim (fun h => h.elim) id) h2.below
def putL (K : Nat) (ns : List Int) : List UInt8 := ns.flatMap (beN K)
theorem putL_len (K : Nat) : ∀ ns : List Int, (putL K ns).length = ns.length * K
  | [] => by simp [putL]
  | n :: ns => by
    have h := putL_len K ns
    unfold putL at h ⊢
    rw [List.flatMap_cons, List.length_append, beN_len, h, List.length_cons, Nat.add_mul]; omega
theorem putL_next (K : Nat) (ns : List Int) (k : Nat) (h : k < ns.length) : putL K (ns.take (k + 1)) = putL K (ns.take k) ++ beN K ns[k] := by
  unfold putL
  rw [List.take_succ_eq_append_getElem h, List.flatMap_append]; simp
theorem bytes_mk (l : List UInt8) : (⟨l.toArray⟩ : ByteArray).data.toList = l := rfl
theorem bytes_sz (l : List UInt8) : (⟨l.toArray⟩ : ByteArray).size = l.length := by show l.toArray.size = _; simp
end Go.Proofs.YthdnonoheochhaaGreatDoor
