/-
  DERIVED. GIVEN WITH THE SEED: THE CARDS: each row of YtapeljiopbkjlaaGreatDoorRows.lean that lists a variable, with what it lists TIED to the program's text (the seventh form; the later family's looks); each row that meets fmt, with fmt's text TOLD by the authors' own Lean function (tested against real Go, not proved from fmt's source: count such statements apart). THE CARD IS WHAT COUNTS. Prove the row's statement (the work); the ties are given (YtapeljiopbkjlaaGreatDoorTie.lean); close each card by the builder's one call (the guide's Derived/Test/ToyasCard.lean, 'card_holds'). Laid BY PROGRAM, IN A SANDBOX (cutbox-door.mjs). By AI agents, Wed Nov 11 2026. No macro, syntax, notation, axiom, sorry.
-/
import Derived.Test.YtapeljiopbkjlaaGreatDoorRows
import GoSem.ClaimSeven
namespace Go.Proofs.YtapeljiopbkjlaaGreatDoor
namespace Rows

/-- THE TIED CARD OF 'stagepostlaw20.DNSCacheStoresAnswers'. -/
def dNSCacheStoresAnswersCard : Claim7 := { stood := { row := dNSCacheStoresAnswersRow, standIns := [], harness := (true, "b61af9abad139865126fba9e1b49047ccfc0d617178f58898663d4ae51f966f3"), looks := true }, kinds := [], alts := [], laidByText := true, laidKinds := [.sentinel], laidTests := true, laidLooks := .later }
def DNSCacheStoresAnswersCardSaid : Prop := Claim7.holds Tryz.pinned (.plain (OpenSpec.ofChange dNSCacheStoresAnswersSpec)) dNSCacheStoresAnswersCard

/-- THE SECOND FORM's CARD OF 'stagepostlaw20.DNSCacheStoresAnswers'. -/
def dNSCacheStoresAnswersUptoCard : Claim7 := { stood := { row := dNSCacheStoresAnswersUptoRow, standIns := [], harness := (true, "b61af9abad139865126fba9e1b49047ccfc0d617178f58898663d4ae51f966f3"), looks := true }, kinds := [], alts := [], laidByText := true, laidKinds := [.sentinel], laidTests := true, laidLooks := .later }
def DNSCacheStoresAnswersUptoCardSaid : Prop := Claim7.holds Tryz.pinned (.plain (OpenSpec.upto dNSCacheStoresAnswersSpec)) dNSCacheStoresAnswersUptoCard
end Rows
end Go.Proofs.YtapeljiopbkjlaaGreatDoor
