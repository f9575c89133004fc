/- The contracts of package ports over what a walk owns. -/
import Derived.Test.YtbhglemolpfnkaaGreatDoorBb
import Derived.Test.YtbhglemolpfnkaaGreatDoorPlw
set_option linter.unusedVariables false
set_option maxRecDepth 100000
set_option maxHeartbeats 32000000
namespace Go.Proofs.YtbhglemolpfnkaaGreatDoor
open Go.RowKit Go.Sort

def resP (p : Nat) (st : PSt) : Res := ⟨fun w F => PAt w p st F, PAt.bound, fun h hu hF => h.upd hu hF⟩

variable {w0 w : World} {D : Nat → Prop} {L : List Res} {i p : Nat} {st st' : PSt}
theorem bind_o {pr po s e : Int} (h : Own w0 D w L) (i : Nat) (hi : L[i]? = some (resP p st)) (he : bindE st pr po s = e) (hs : bindS st pr po s = st') (hlen : st.B.length ≤ 1000000) :
  Calls Tryz.prog 14 #[.pointer (some ⟨p, 0, none⟩), .int .i64 pr, .int .i64 po, .int .i64 s] w (OPost w0 D (L.set i (resP p st')) (.int .i64 e) w) :=
 o_step h hi fun F hF => bind_l he hs w hF hlen
theorem any_o {pr s n e : Int} (h : Own w0 D w L) (i : Nat) (hi : L[i]? = some (resP p st)) (he : anyR st pr s = (n, e, st')) (hlen : st.B.length ≤ 1000000) (hlj : st.J.length ≤ 1000000) (hg0 : 0 ≤ st.given) (hg1 : st.given ≤ 1000000) :
  Calls Tryz.prog 7 #[.pointer (some ⟨p, 0, none⟩), .int .i64 pr, .int .i64 s] w (OPost w0 D (L.set i (resP p st')) (.tuple #[.int .i64 n, .int .i64 e]) w) :=
 o_step h hi fun F hF => any_l he w hF hlen hlj hg0 hg1
def NewO (w0 : World) (D : Nat → Prop) (L : List Res) (seed : Int) (w : World) (e : Ending) (w' : World) : Prop := ∃ p, e = .returned (.pointer (some ⟨p, 0, none⟩)) ∧ Own w0 D w' (L ++ [resP p ⟨seed, 0, [], []⟩]) ∧ w.heap.size ≤ w'.heap.size
theorem new_o (seed : Int) (h : Own w0 D w L) : Calls Tryz.prog 6 #[.int .i64 seed] w (NewO w0 D L seed w) :=
 (new_any seed w).mono fun e w' ⟨p, he, hP, hge, hb⟩ => ⟨p, he, h.push (R := resP p ⟨seed, 0, [], []⟩) hP (fun b hb => by rw [hb]; exact hge) hb, hb.size⟩
theorem examples_o (h : Own w0 D w L) : Calls Tryz.prog 5 #[] w (OPost w0 D L (.bool true) w) := o_still h (examples_any w)
end Go.Proofs.YtbhglemolpfnkaaGreatDoor
