/- Calls that change what is owned, and drawn regions of such calls. No program in sight. -/
import Derived.Test.YthdnonoheochhaaGreatDoorOwn
import Derived.Test.YthdnonoheochhaaGreatDoorVal
import Derived.Test.YthdnonoheochhaaGreatDoorApp
namespace Go.Proofs.YthdnonoheochhaaGreatDoor
open Go.RowKit
set_option linter.unusedVariables false
set_option maxRecDepth 100000
def OPost (w0 : World) (D : Nat → Prop) (L : List Res) (v : Value) (w : World) (e : Ending) (w' : World) : Prop := e = .returned v ∧ Own w0 D w' L ∧ w.heap.size ≤ w'.heap.size
section
variable {P : Program} {f : FuncId} {args : Array Value} {w0 w : World} {D : Nat → Prop} {v : Value} {L : List Res}
theorem o_still (h : Own w0 D w L) (hc : Calls P f args w fun e w' => e = .returned v ∧ Below w.heap.size w w') : Calls P f args w (OPost w0 D L v w) :=
  hc.mono fun e w' ⟨he, hb⟩ => ⟨he, h.stay hb, hb.size⟩
theorem o_step {i : Nat} {R R' : Res} (h : Own w0 D w L) (hi : L[i]? = some R)
    (hc : ∀ F, R.P w F → Calls P f args w fun e w' => e = .returned v ∧ ∃ F', R'.P w' F' ∧ (∀ b, F' b → F b ∨ w.heap.size ≤ b) ∧ Upd F w w') : Calls P f args w (OPost w0 D (L.set i R') v w) := by
  obtain ⟨F, h1, _, h3⟩ := h.step hi
  exact (hc F h1).mono fun e w' ⟨he, F', hR, hF, hu⟩ => ⟨he, h3 hR hF hu, hu.size⟩
theorem o_one {i : Nat} {R R' : Res} (h : Own w0 D w L) (hi : L[i]? = some R)
    (hc : ∀ D, Own w D w [R] → Calls P f args w (OPost w D [R'] v w)) : Calls P f args w (OPost w0 D (L.set i R') v w) :=
  o_step h hi fun F hF => (hc F (Own.one hF)).mono fun e w' ⟨he, ho, _⟩ => by
    obtain ⟨F', h1, h2, _⟩ := ho.step (i := 0) rfl
    exact ⟨he, F', h1, h2, ho.upd⟩
end
end Go.Proofs.YthdnonoheochhaaGreatDoor
