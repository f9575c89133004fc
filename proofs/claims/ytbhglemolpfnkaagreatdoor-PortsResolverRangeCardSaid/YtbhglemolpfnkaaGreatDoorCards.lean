/-
  DERIVED. GIVEN WITH THE SEED: THE CARDS: each row of YtbhglemolpfnkaaGreatDoorRows.lean that lists a variable, with what it lists TIED to the program's text (the seventh form; the later family's looks); each row that meets fmt, with fmt's text TOLD by the authors' own Lean function (tested against real Go, not proved from fmt's source: count such statements apart). THE CARD IS WHAT COUNTS. Prove the row's statement (the work); the ties are given (YtbhglemolpfnkaaGreatDoorTie.lean); close each card by the builder's one call (the guide's Derived/Test/ToyasCard.lean, 'card_holds'). Laid BY PROGRAM, IN A SANDBOX (cutbox-door.mjs). By AI agents, Wed Nov 11 2026. No macro, syntax, notation, axiom, sorry.
-/
import Derived.Test.YtbhglemolpfnkaaGreatDoorRows
import GoSem.ClaimSeven
namespace Go.Proofs.YtbhglemolpfnkaaGreatDoor
namespace Rows

/-- THE TIED CARD OF 'stagepostlaw23.PortsResolverRange'. -/
def portsResolverRangeCard : Claim7 := { stood := { row := portsResolverRangeRow, standIns := [], harness := (true, "b88b8ca5b6c5fdfabc57fde22acad724ae5f8771f068b4865f2dd46aa722a1d9"), looks := true }, kinds := [], alts := [], laidByText := true, laidKinds := [.handle], laidTests := true, laidLooks := .later }
def PortsResolverRangeCardSaid : Prop := Claim7.holds Tryz.pinned (.plain (OpenSpec.ofChange portsResolverRangeSpec)) portsResolverRangeCard

/-- THE TIED CARD OF 'stagepostlaw21.ResolverReportsOnce'. -/
def resolverReportsOnceCard : Claim7 := { stood := { row := resolverReportsOnceRow, standIns := [], harness := (true, "b88b8ca5b6c5fdfabc57fde22acad724ae5f8771f068b4865f2dd46aa722a1d9"), looks := true }, kinds := [], alts := [], laidByText := true, laidKinds := [.handle, .sentinel], laidTests := true, laidLooks := .later }
def ResolverReportsOnceCardSaid : Prop := Claim7.holds Tryz.pinned (.plain (OpenSpec.ofChange resolverReportsOnceSpec)) resolverReportsOnceCard

/-- THE SECOND FORM's CARD OF 'stagepostlaw23.PortsResolverRange'. -/
def portsResolverRangeUptoCard : Claim7 := { stood := { row := portsResolverRangeUptoRow, standIns := [], harness := (true, "b88b8ca5b6c5fdfabc57fde22acad724ae5f8771f068b4865f2dd46aa722a1d9"), looks := true }, kinds := [], alts := [], laidByText := true, laidKinds := [.handle], laidTests := true, laidLooks := .later }
def PortsResolverRangeUptoCardSaid : Prop := Claim7.holds Tryz.pinned (.plain (OpenSpec.upto portsResolverRangeSpec)) portsResolverRangeUptoCard

/-- THE SECOND FORM's CARD OF 'stagepostlaw21.ResolverReportsOnce'. -/
def resolverReportsOnceUptoCard : Claim7 := { stood := { row := resolverReportsOnceUptoRow, standIns := [], harness := (true, "b88b8ca5b6c5fdfabc57fde22acad724ae5f8771f068b4865f2dd46aa722a1d9"), looks := true }, kinds := [], alts := [], laidByText := true, laidKinds := [.handle, .sentinel], laidTests := true, laidLooks := .later }
def ResolverReportsOnceUptoCardSaid : Prop := Claim7.holds Tryz.pinned (.plain (OpenSpec.upto resolverReportsOnceSpec)) resolverReportsOnceUptoCard
end Rows
end Go.Proofs.YtbhglemolpfnkaaGreatDoor
