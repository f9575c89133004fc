/-
  DERIVED. GIVEN WITH THE SEED: THE CARDS: each row of YthdnonoheochhaaGreatDoorRows.lean that lists a variable, with what it lists TIED to the program's text (the seventh form; the later family's looks); each row that meets fmt, with fmt's text TOLD by the authors' own Lean function (tested against real Go, not proved from fmt's source: count such statements apart). THE CARD IS WHAT COUNTS. Prove the row's statement (the work); the ties are given (YthdnonoheochhaaGreatDoorTie.lean); close each card by the builder's one call (the guide's Derived/Test/ToyasCard.lean, 'card_holds'). Laid BY PROGRAM, IN A SANDBOX (cutbox-door.mjs). By AI agents, Wed Nov 11 2026. No macro, syntax, notation, axiom, sorry.
-/
import Derived.Test.YthdnonoheochhaaGreatDoorRows
import GoSem.ClaimSeven
namespace Go.Proofs.YthdnonoheochhaaGreatDoor
namespace Rows

/-- THE TIED CARD OF 'stagepostlaw23.PortsResetReachesOwner'. -/
def portsResetReachesOwnerCard : Claim7 := { stood := { row := portsResetReachesOwnerRow, standIns := [], harness := (true, "eea05f628e2dede205ee437ecbbe41721b0472ba273220490a80b6d08047ae5e"), looks := true }, kinds := [], alts := [], laidByText := true, laidKinds := [.data, .sentinel], laidTests := true, laidLooks := .later }
def PortsResetReachesOwnerCardSaid : Prop := Claim7.holds Tryz.pinned (.plain (OpenSpec.ofChange portsResetReachesOwnerSpec)) portsResetReachesOwnerCard

/-- THE SECOND FORM's CARD OF 'stagepostlaw23.PortsResetReachesOwner'. -/
def portsResetReachesOwnerUptoCard : Claim7 := { stood := { row := portsResetReachesOwnerUptoRow, standIns := [], harness := (true, "eea05f628e2dede205ee437ecbbe41721b0472ba273220490a80b6d08047ae5e"), looks := true }, kinds := [], alts := [], laidByText := true, laidKinds := [.data, .sentinel], laidTests := true, laidLooks := .later }
def PortsResetReachesOwnerUptoCardSaid : Prop := Claim7.holds Tryz.pinned (.plain (OpenSpec.upto portsResetReachesOwnerSpec)) portsResetReachesOwnerUptoCard
end Rows
end Go.Proofs.YthdnonoheochhaaGreatDoor
