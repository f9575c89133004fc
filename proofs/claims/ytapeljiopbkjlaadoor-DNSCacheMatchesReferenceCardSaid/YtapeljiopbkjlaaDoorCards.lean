/-
  DERIVED. GIVEN WITH THE SEED: THE CARDS: each row of YtapeljiopbkjlaaDoorRows.lean that lists a variable, with what it lists TIED to the program's text (the seventh form; the later family's looks); each row that meets fmt, with fmt's text TOLD by the authors' own Lean function (tested against real Go, not proved from fmt's source: count such statements apart). THE CARD IS WHAT COUNTS. Prove the row's statement (the work); the ties are given (YtapeljiopbkjlaaDoorTie.lean); close each card by the builder's one call (the guide's Derived/Test/ToyasCard.lean, 'card_holds'). Laid BY PROGRAM, IN A SANDBOX (cutbox-door.mjs). By AI agents, Wed Nov 11 2026. No macro, syntax, notation, axiom, sorry.
-/
import Derived.Test.YtapeljiopbkjlaaDoorRows
import GoSem.ClaimSeven
namespace Go.Proofs.YtapeljiopbkjlaaDoor
namespace Rows

/-- THE TIED CARD OF 'stagepostlaw20.DNSCacheMatchesReference'. -/
def dNSCacheMatchesReferenceCard : Claim7 := { stood := { row := dNSCacheMatchesReferenceRow, standIns := [], harness := (true, "20d00583a35b088b7fed8b955eb7f807b0bd1b1284fcb16e87e5aaa6740a7585"), looks := true }, kinds := [], alts := [], laidByText := true, laidKinds := [.sentinel], laidTests := true, laidLooks := .later }
def DNSCacheMatchesReferenceCardSaid : Prop := Claim7.holds Tryd.pinned (.plain (OpenSpec.ofChange dNSCacheMatchesReferenceSpec)) dNSCacheMatchesReferenceCard

/-- THE TIED CARD OF 'stagepostlaw20.DNSCacheBounded'. -/
def dNSCacheBoundedCard : Claim7 := { stood := { row := dNSCacheBoundedRow, standIns := [], harness := (true, "20d00583a35b088b7fed8b955eb7f807b0bd1b1284fcb16e87e5aaa6740a7585"), looks := true }, kinds := [], alts := [], laidByText := true, laidKinds := [.sentinel], laidTests := true, laidLooks := .later }
def DNSCacheBoundedCardSaid : Prop := Claim7.holds Tryd.pinned (.plain (OpenSpec.ofChange dNSCacheBoundedSpec)) dNSCacheBoundedCard

/-- THE TIED CARD OF 'stagepostlaw20.DNSCacheTTL'. -/
def dNSCacheTTLCard : Claim7 := { stood := { row := dNSCacheTTLRow, standIns := [], harness := (true, "20d00583a35b088b7fed8b955eb7f807b0bd1b1284fcb16e87e5aaa6740a7585"), looks := true }, kinds := [], alts := [], laidByText := true, laidKinds := [.sentinel], laidTests := true, laidLooks := .later }
def DNSCacheTTLCardSaid : Prop := Claim7.holds Tryd.pinned (.plain (OpenSpec.ofChange dNSCacheTTLSpec)) dNSCacheTTLCard

/-- THE TIED CARD OF 'stagepostlaw20.DNSCacheLookupSorted'. -/
def dNSCacheLookupSortedCard : Claim7 := { stood := { row := dNSCacheLookupSortedRow, standIns := [], harness := (true, "20d00583a35b088b7fed8b955eb7f807b0bd1b1284fcb16e87e5aaa6740a7585"), looks := true }, kinds := [], alts := [], laidByText := true, laidKinds := [.sentinel], laidTests := true, laidLooks := .later }
def DNSCacheLookupSortedCardSaid : Prop := Claim7.holds Tryd.pinned (.plain (OpenSpec.ofChange dNSCacheLookupSortedSpec)) dNSCacheLookupSortedCard

/-- THE TIED CARD OF 'stagepostlaw20.DNSCacheNegative'. -/
def dNSCacheNegativeCard : Claim7 := { stood := { row := dNSCacheNegativeRow, standIns := [], harness := (true, "20d00583a35b088b7fed8b955eb7f807b0bd1b1284fcb16e87e5aaa6740a7585"), looks := true }, kinds := [], alts := [], laidByText := true, laidKinds := [.sentinel], laidTests := true, laidLooks := .later }
def DNSCacheNegativeCardSaid : Prop := Claim7.holds Tryd.pinned (.plain (OpenSpec.ofChange dNSCacheNegativeSpec)) dNSCacheNegativeCard

/-- THE TIED CARD OF 'stagepostlaw20.DNSCacheNamesIndependent'. -/
def dNSCacheNamesIndependentCard : Claim7 := { stood := { row := dNSCacheNamesIndependentRow, standIns := [], harness := (true, "20d00583a35b088b7fed8b955eb7f807b0bd1b1284fcb16e87e5aaa6740a7585"), looks := true }, kinds := [], alts := [], laidByText := true, laidKinds := [.sentinel], laidTests := true, laidLooks := .later }
def DNSCacheNamesIndependentCardSaid : Prop := Claim7.holds Tryd.pinned (.plain (OpenSpec.ofChange dNSCacheNamesIndependentSpec)) dNSCacheNamesIndependentCard

/-- THE TIED CARD OF 'stagepostlaw20.DNSCacheTickInvisible'. -/
def dNSCacheTickInvisibleCard : Claim7 := { stood := { row := dNSCacheTickInvisibleRow, standIns := [], harness := (true, "20d00583a35b088b7fed8b955eb7f807b0bd1b1284fcb16e87e5aaa6740a7585"), looks := true }, kinds := [], alts := [], laidByText := true, laidKinds := [.sentinel], laidTests := true, laidLooks := .later }
def DNSCacheTickInvisibleCardSaid : Prop := Claim7.holds Tryd.pinned (.plain (OpenSpec.ofChange dNSCacheTickInvisibleSpec)) dNSCacheTickInvisibleCard

/-- THE SECOND FORM's CARD OF 'stagepostlaw20.DNSCacheMatchesReference'. -/
def dNSCacheMatchesReferenceUptoCard : Claim7 := { stood := { row := dNSCacheMatchesReferenceUptoRow, standIns := [], harness := (true, "20d00583a35b088b7fed8b955eb7f807b0bd1b1284fcb16e87e5aaa6740a7585"), looks := true }, kinds := [], alts := [], laidByText := true, laidKinds := [.sentinel], laidTests := true, laidLooks := .later }
def DNSCacheMatchesReferenceUptoCardSaid : Prop := Claim7.holds Tryd.pinned (.plain (OpenSpec.upto dNSCacheMatchesReferenceSpec)) dNSCacheMatchesReferenceUptoCard

/-- THE SECOND FORM's CARD OF 'stagepostlaw20.DNSCacheBounded'. -/
def dNSCacheBoundedUptoCard : Claim7 := { stood := { row := dNSCacheBoundedUptoRow, standIns := [], harness := (true, "20d00583a35b088b7fed8b955eb7f807b0bd1b1284fcb16e87e5aaa6740a7585"), looks := true }, kinds := [], alts := [], laidByText := true, laidKinds := [.sentinel], laidTests := true, laidLooks := .later }
def DNSCacheBoundedUptoCardSaid : Prop := Claim7.holds Tryd.pinned (.plain (OpenSpec.upto dNSCacheBoundedSpec)) dNSCacheBoundedUptoCard

/-- THE SECOND FORM's CARD OF 'stagepostlaw20.DNSCacheTTL'. -/
def dNSCacheTTLUptoCard : Claim7 := { stood := { row := dNSCacheTTLUptoRow, standIns := [], harness := (true, "20d00583a35b088b7fed8b955eb7f807b0bd1b1284fcb16e87e5aaa6740a7585"), looks := true }, kinds := [], alts := [], laidByText := true, laidKinds := [.sentinel], laidTests := true, laidLooks := .later }
def DNSCacheTTLUptoCardSaid : Prop := Claim7.holds Tryd.pinned (.plain (OpenSpec.upto dNSCacheTTLSpec)) dNSCacheTTLUptoCard

/-- THE SECOND FORM's CARD OF 'stagepostlaw20.DNSCacheLookupSorted'. -/
def dNSCacheLookupSortedUptoCard : Claim7 := { stood := { row := dNSCacheLookupSortedUptoRow, standIns := [], harness := (true, "20d00583a35b088b7fed8b955eb7f807b0bd1b1284fcb16e87e5aaa6740a7585"), looks := true }, kinds := [], alts := [], laidByText := true, laidKinds := [.sentinel], laidTests := true, laidLooks := .later }
def DNSCacheLookupSortedUptoCardSaid : Prop := Claim7.holds Tryd.pinned (.plain (OpenSpec.upto dNSCacheLookupSortedSpec)) dNSCacheLookupSortedUptoCard

/-- THE SECOND FORM's CARD OF 'stagepostlaw20.DNSCacheNegative'. -/
def dNSCacheNegativeUptoCard : Claim7 := { stood := { row := dNSCacheNegativeUptoRow, standIns := [], harness := (true, "20d00583a35b088b7fed8b955eb7f807b0bd1b1284fcb16e87e5aaa6740a7585"), looks := true }, kinds := [], alts := [], laidByText := true, laidKinds := [.sentinel], laidTests := true, laidLooks := .later }
def DNSCacheNegativeUptoCardSaid : Prop := Claim7.holds Tryd.pinned (.plain (OpenSpec.upto dNSCacheNegativeSpec)) dNSCacheNegativeUptoCard

/-- THE SECOND FORM's CARD OF 'stagepostlaw20.DNSCacheNamesIndependent'. -/
def dNSCacheNamesIndependentUptoCard : Claim7 := { stood := { row := dNSCacheNamesIndependentUptoRow, standIns := [], harness := (true, "20d00583a35b088b7fed8b955eb7f807b0bd1b1284fcb16e87e5aaa6740a7585"), looks := true }, kinds := [], alts := [], laidByText := true, laidKinds := [.sentinel], laidTests := true, laidLooks := .later }
def DNSCacheNamesIndependentUptoCardSaid : Prop := Claim7.holds Tryd.pinned (.plain (OpenSpec.upto dNSCacheNamesIndependentSpec)) dNSCacheNamesIndependentUptoCard

/-- THE SECOND FORM's CARD OF 'stagepostlaw20.DNSCacheTickInvisible'. -/
def dNSCacheTickInvisibleUptoCard : Claim7 := { stood := { row := dNSCacheTickInvisibleUptoRow, standIns := [], harness := (true, "20d00583a35b088b7fed8b955eb7f807b0bd1b1284fcb16e87e5aaa6740a7585"), looks := true }, kinds := [], alts := [], laidByText := true, laidKinds := [.sentinel], laidTests := true, laidLooks := .later }
def DNSCacheTickInvisibleUptoCardSaid : Prop := Claim7.holds Tryd.pinned (.plain (OpenSpec.upto dNSCacheTickInvisibleSpec)) dNSCacheTickInvisibleUptoCard
end Rows
end Go.Proofs.YtapeljiopbkjlaaDoor
