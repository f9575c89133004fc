/-
  DERIVED. GIVEN WITH THE SEED: THE CARDS: each row of YtockaipodnapjaaGreatDoorRows.lean that lists a variable, with what it lists TIED to the program's text (the seventh form; the later family's looks); each row that meets fmt, with fmt's text TOLD by the authors' own Lean function (tested against real Go, not proved from fmt's source: count such statements apart). THE CARD IS WHAT COUNTS. Prove the row's statement (the work); the ties are given (YtockaipodnapjaaGreatDoorTie.lean); close each card by the builder's one call (the guide's Derived/Test/ToyasCard.lean, 'card_holds'). Laid BY PROGRAM, IN A SANDBOX (cutbox-door.mjs). By AI agents, Wed Nov 11 2026. No macro, syntax, notation, axiom, sorry.
-/
import Derived.Test.YtockaipodnapjaaGreatDoorRows
import GoSem.ClaimSeven
namespace Go.Proofs.YtockaipodnapjaaGreatDoor
namespace Rows

/-- THE TIED CARD OF 'stagepostlaw24.SocketCallsInOrder'. -/
def socketCallsInOrderCard : Claim7 := { stood := { row := socketCallsInOrderRow, standIns := [], harness := (true, "b2c6cf03689f923673a166e8bdb283f7deedaf7a3c8683d1e1c58adc3e56c8eb"), looks := true }, kinds := [], alts := [], laidByText := true, laidKinds := [.data, .handle, .sentinel], laidTests := true, laidLooks := .later }
def SocketCallsInOrderCardSaid : Prop := Claim7.holds Tryz.pinned (.plain (OpenSpec.ofChange socketCallsInOrderSpec)) socketCallsInOrderCard

/-- THE TIED CARD OF 'stagepostlaw24.SocketDatagrams'. -/
def socketDatagramsCard : Claim7 := { stood := { row := socketDatagramsRow, standIns := [], harness := (true, "b2c6cf03689f923673a166e8bdb283f7deedaf7a3c8683d1e1c58adc3e56c8eb"), looks := true }, kinds := [], alts := [], laidByText := true, laidKinds := [.data, .handle, .sentinel], laidTests := true, laidLooks := .later }
def SocketDatagramsCardSaid : Prop := Claim7.holds Tryz.pinned (.plain (OpenSpec.ofChange socketDatagramsSpec)) socketDatagramsCard

/-- THE TIED CARD OF 'stagepostlaw24.SocketBlindReset'. -/
def socketBlindResetCard : Claim7 := { stood := { row := socketBlindResetRow, standIns := [], harness := (true, "b2c6cf03689f923673a166e8bdb283f7deedaf7a3c8683d1e1c58adc3e56c8eb"), looks := true }, kinds := [], alts := [], laidByText := true, laidKinds := [.data, .handle, .sentinel], laidTests := true, laidLooks := .later }
def SocketBlindResetCardSaid : Prop := Claim7.holds Tryz.pinned (.plain (OpenSpec.ofChange socketBlindResetSpec)) socketBlindResetCard

/-- THE TIED CARD OF 'stagepostlaw24.SocketTimeout'. -/
def socketTimeoutCard : Claim7 := { stood := { row := socketTimeoutRow, standIns := [], harness := (true, "b2c6cf03689f923673a166e8bdb283f7deedaf7a3c8683d1e1c58adc3e56c8eb"), looks := true }, kinds := [], alts := [], laidByText := true, laidKinds := [.data, .handle, .sentinel], laidTests := true, laidLooks := .later }
def SocketTimeoutCardSaid : Prop := Claim7.holds Tryz.pinned (.plain (OpenSpec.ofChange socketTimeoutSpec)) socketTimeoutCard

/-- THE TIED CARD OF 'stagepostlaw24.SocketPortsExclusive'. -/
def socketPortsExclusiveCard : Claim7 := { stood := { row := socketPortsExclusiveRow, standIns := [], harness := (true, "b2c6cf03689f923673a166e8bdb283f7deedaf7a3c8683d1e1c58adc3e56c8eb"), looks := true }, kinds := [], alts := [], laidByText := true, laidKinds := [.data, .handle, .sentinel], laidTests := true, laidLooks := .later }
def SocketPortsExclusiveCardSaid : Prop := Claim7.holds Tryz.pinned (.plain (OpenSpec.ofChange socketPortsExclusiveSpec)) socketPortsExclusiveCard

/-- THE TIED CARD OF 'stagepostlaw24.SocketCloseCompletesCalls'. -/
def socketCloseCompletesCallsCard : Claim7 := { stood := { row := socketCloseCompletesCallsRow, standIns := [], harness := (true, "b2c6cf03689f923673a166e8bdb283f7deedaf7a3c8683d1e1c58adc3e56c8eb"), looks := true }, kinds := [], alts := [], laidByText := true, laidKinds := [.data, .handle, .sentinel], laidTests := true, laidLooks := .later }
def SocketCloseCompletesCallsCardSaid : Prop := Claim7.holds Tryz.pinned (.plain (OpenSpec.ofChange socketCloseCompletesCallsSpec)) socketCloseCompletesCallsCard

/-- THE TIED CARD OF 'stagepostlaw24.SocketBacklog'. -/
def socketBacklogCard : Claim7 := { stood := { row := socketBacklogRow, standIns := [], harness := (true, "b2c6cf03689f923673a166e8bdb283f7deedaf7a3c8683d1e1c58adc3e56c8eb"), looks := true }, kinds := [], alts := [], laidByText := true, laidKinds := [.data, .handle, .sentinel], laidTests := true, laidLooks := .later }
def SocketBacklogCardSaid : Prop := Claim7.holds Tryz.pinned (.plain (OpenSpec.ofChange socketBacklogSpec)) socketBacklogCard

/-- THE SECOND FORM's CARD OF 'stagepostlaw24.SocketCallsInOrder'. -/
def socketCallsInOrderUptoCard : Claim7 := { stood := { row := socketCallsInOrderUptoRow, standIns := [], harness := (true, "b2c6cf03689f923673a166e8bdb283f7deedaf7a3c8683d1e1c58adc3e56c8eb"), looks := true }, kinds := [], alts := [], laidByText := true, laidKinds := [.data, .handle, .sentinel], laidTests := true, laidLooks := .later }
def SocketCallsInOrderUptoCardSaid : Prop := Claim7.holds Tryz.pinned (.plain (OpenSpec.upto socketCallsInOrderSpec)) socketCallsInOrderUptoCard

/-- THE SECOND FORM's CARD OF 'stagepostlaw24.SocketDatagrams'. -/
def socketDatagramsUptoCard : Claim7 := { stood := { row := socketDatagramsUptoRow, standIns := [], harness := (true, "b2c6cf03689f923673a166e8bdb283f7deedaf7a3c8683d1e1c58adc3e56c8eb"), looks := true }, kinds := [], alts := [], laidByText := true, laidKinds := [.data, .handle, .sentinel], laidTests := true, laidLooks := .later }
def SocketDatagramsUptoCardSaid : Prop := Claim7.holds Tryz.pinned (.plain (OpenSpec.upto socketDatagramsSpec)) socketDatagramsUptoCard

/-- THE SECOND FORM's CARD OF 'stagepostlaw24.SocketBlindReset'. -/
def socketBlindResetUptoCard : Claim7 := { stood := { row := socketBlindResetUptoRow, standIns := [], harness := (true, "b2c6cf03689f923673a166e8bdb283f7deedaf7a3c8683d1e1c58adc3e56c8eb"), looks := true }, kinds := [], alts := [], laidByText := true, laidKinds := [.data, .handle, .sentinel], laidTests := true, laidLooks := .later }
def SocketBlindResetUptoCardSaid : Prop := Claim7.holds Tryz.pinned (.plain (OpenSpec.upto socketBlindResetSpec)) socketBlindResetUptoCard

/-- THE SECOND FORM's CARD OF 'stagepostlaw24.SocketTimeout'. -/
def socketTimeoutUptoCard : Claim7 := { stood := { row := socketTimeoutUptoRow, standIns := [], harness := (true, "b2c6cf03689f923673a166e8bdb283f7deedaf7a3c8683d1e1c58adc3e56c8eb"), looks := true }, kinds := [], alts := [], laidByText := true, laidKinds := [.data, .handle, .sentinel], laidTests := true, laidLooks := .later }
def SocketTimeoutUptoCardSaid : Prop := Claim7.holds Tryz.pinned (.plain (OpenSpec.upto socketTimeoutSpec)) socketTimeoutUptoCard

/-- THE SECOND FORM's CARD OF 'stagepostlaw24.SocketPortsExclusive'. -/
def socketPortsExclusiveUptoCard : Claim7 := { stood := { row := socketPortsExclusiveUptoRow, standIns := [], harness := (true, "b2c6cf03689f923673a166e8bdb283f7deedaf7a3c8683d1e1c58adc3e56c8eb"), looks := true }, kinds := [], alts := [], laidByText := true, laidKinds := [.data, .handle, .sentinel], laidTests := true, laidLooks := .later }
def SocketPortsExclusiveUptoCardSaid : Prop := Claim7.holds Tryz.pinned (.plain (OpenSpec.upto socketPortsExclusiveSpec)) socketPortsExclusiveUptoCard

/-- THE SECOND FORM's CARD OF 'stagepostlaw24.SocketCloseCompletesCalls'. -/
def socketCloseCompletesCallsUptoCard : Claim7 := { stood := { row := socketCloseCompletesCallsUptoRow, standIns := [], harness := (true, "b2c6cf03689f923673a166e8bdb283f7deedaf7a3c8683d1e1c58adc3e56c8eb"), looks := true }, kinds := [], alts := [], laidByText := true, laidKinds := [.data, .handle, .sentinel], laidTests := true, laidLooks := .later }
def SocketCloseCompletesCallsUptoCardSaid : Prop := Claim7.holds Tryz.pinned (.plain (OpenSpec.upto socketCloseCompletesCallsSpec)) socketCloseCompletesCallsUptoCard

/-- THE SECOND FORM's CARD OF 'stagepostlaw24.SocketBacklog'. -/
def socketBacklogUptoCard : Claim7 := { stood := { row := socketBacklogUptoRow, standIns := [], harness := (true, "b2c6cf03689f923673a166e8bdb283f7deedaf7a3c8683d1e1c58adc3e56c8eb"), looks := true }, kinds := [], alts := [], laidByText := true, laidKinds := [.data, .handle, .sentinel], laidTests := true, laidLooks := .later }
def SocketBacklogUptoCardSaid : Prop := Claim7.holds Tryz.pinned (.plain (OpenSpec.upto socketBacklogSpec)) socketBacklogUptoCard
end Rows
end Go.Proofs.YtockaipodnapjaaGreatDoor
