/-
  DERIVED. GIVEN WITH THE SEED: THE CARDS: each row of YtbolfkojebbejaaGreatDoorRows.lean that lists a variable, with what it lists TIED to the program's text (the seventh form; the later family's looks); each row that meets fmt, with fmt's text TOLD by the authors' own Lean function (tested against real Go, not proved from fmt's source: count such statements apart). THE CARD IS WHAT COUNTS. Prove the row's statement (the work); the ties are given (YtbolfkojebbejaaGreatDoorTie.lean); close each card by the builder's one call (the guide's Derived/Test/ToyasCard.lean, 'card_holds'). Laid BY PROGRAM, IN A SANDBOX (cutbox-door.mjs). By AI agents, Wed Nov 11 2026. No macro, syntax, notation, axiom, sorry.
-/
import Derived.Test.YtbolfkojebbejaaGreatDoorRows
import GoSem.ClaimSeven
namespace Go.Proofs.YtbolfkojebbejaaGreatDoor
namespace Rows

/-- THE TIED CARD OF 'stagepostlaw22.FirewallPassesDNS'. -/
def firewallPassesDNSCard : Claim7 := { stood := { row := firewallPassesDNSRow, standIns := [], harness := (true, "961f243fc896834c2dd06fc356a9cce6b50a719b0844cd31c5a42f0f00c1376d"), looks := true }, kinds := [], alts := [], laidByText := true, laidKinds := [.handle], laidTests := true, laidLooks := .later }
def FirewallPassesDNSCardSaid : Prop := Claim7.holds Tryz.pinned (.plain (OpenSpec.ofChange firewallPassesDNSSpec)) firewallPassesDNSCard

/-- THE TIED CARD OF 'stagepostlaw21.ResolverUsesCache'. -/
def resolverUsesCacheCard : Claim7 := { stood := { row := resolverUsesCacheRow, standIns := [], harness := (true, "961f243fc896834c2dd06fc356a9cce6b50a719b0844cd31c5a42f0f00c1376d"), looks := true }, kinds := [], alts := [], laidByText := true, laidKinds := [.handle, .sentinel], laidTests := true, laidLooks := .later }
def ResolverUsesCacheCardSaid : Prop := Claim7.holds Tryz.pinned (.plain (OpenSpec.ofChange resolverUsesCacheSpec)) resolverUsesCacheCard

/-- THE TIED CARD OF 'stagepostlaw23.PortsResolverRange'. -/
def portsResolverRangeCard : Claim7 := { stood := { row := portsResolverRangeRow, standIns := [], harness := (true, "961f243fc896834c2dd06fc356a9cce6b50a719b0844cd31c5a42f0f00c1376d"), looks := true }, kinds := [], alts := [], laidByText := true, laidKinds := [.handle], laidTests := true, laidLooks := .later }
def PortsResolverRangeCardSaid : Prop := Claim7.holds Tryz.pinned (.plain (OpenSpec.ofChange portsResolverRangeSpec)) portsResolverRangeCard

/-- THE TIED CARD OF 'stagepostlaw21.ResolverFollowsZone'. -/
def resolverFollowsZoneCard : Claim7 := { stood := { row := resolverFollowsZoneRow, standIns := [], harness := (true, "961f243fc896834c2dd06fc356a9cce6b50a719b0844cd31c5a42f0f00c1376d"), looks := true }, kinds := [], alts := [], laidByText := true, laidKinds := [.handle, .sentinel], laidTests := true, laidLooks := .later }
def ResolverFollowsZoneCardSaid : Prop := Claim7.holds Tryz.pinned (.plain (OpenSpec.ofChange resolverFollowsZoneSpec)) resolverFollowsZoneCard

/-- THE TIED CARD OF 'stagepostlaw21.ResolverRetries'. -/
def resolverRetriesCard : Claim7 := { stood := { row := resolverRetriesRow, standIns := [], harness := (true, "961f243fc896834c2dd06fc356a9cce6b50a719b0844cd31c5a42f0f00c1376d"), looks := true }, kinds := [], alts := [], laidByText := true, laidKinds := [.handle, .sentinel], laidTests := true, laidLooks := .later }
def ResolverRetriesCardSaid : Prop := Claim7.holds Tryz.pinned (.plain (OpenSpec.ofChange resolverRetriesSpec)) resolverRetriesCard

/-- THE TIED CARD OF 'stagepostlaw21.ResolverIgnoresForgedAnswers'. -/
def resolverIgnoresForgedAnswersCard : Claim7 := { stood := { row := resolverIgnoresForgedAnswersRow, standIns := [], harness := (true, "961f243fc896834c2dd06fc356a9cce6b50a719b0844cd31c5a42f0f00c1376d"), looks := true }, kinds := [], alts := [], laidByText := true, laidKinds := [.handle, .sentinel], laidTests := true, laidLooks := .later }
def ResolverIgnoresForgedAnswersCardSaid : Prop := Claim7.holds Tryz.pinned (.plain (OpenSpec.ofChange resolverIgnoresForgedAnswersSpec)) resolverIgnoresForgedAnswersCard

/-- THE TIED CARD OF 'stagepostlaw21.ResolverReportsOnce'. -/
def resolverReportsOnceCard : Claim7 := { stood := { row := resolverReportsOnceRow, standIns := [], harness := (true, "961f243fc896834c2dd06fc356a9cce6b50a719b0844cd31c5a42f0f00c1376d"), looks := true }, kinds := [], alts := [], laidByText := true, laidKinds := [.handle, .sentinel], laidTests := true, laidLooks := .later }
def ResolverReportsOnceCardSaid : Prop := Claim7.holds Tryz.pinned (.plain (OpenSpec.ofChange resolverReportsOnceSpec)) resolverReportsOnceCard

/-- THE TIED CARD OF 'stagepostlaw21.ResolverNilAndInvalid'. -/
def resolverNilAndInvalidCard : Claim7 := { stood := { row := resolverNilAndInvalidRow, standIns := [], harness := (true, "961f243fc896834c2dd06fc356a9cce6b50a719b0844cd31c5a42f0f00c1376d"), looks := true }, kinds := [], alts := [], laidByText := true, laidKinds := [.handle, .sentinel], laidTests := true, laidLooks := .later }
def ResolverNilAndInvalidCardSaid : Prop := Claim7.holds Tryz.pinned (.plain (OpenSpec.ofChange resolverNilAndInvalidSpec)) resolverNilAndInvalidCard

/-- THE SECOND FORM's CARD OF 'stagepostlaw22.FirewallPassesDNS'. -/
def firewallPassesDNSUptoCard : Claim7 := { stood := { row := firewallPassesDNSUptoRow, standIns := [], harness := (true, "961f243fc896834c2dd06fc356a9cce6b50a719b0844cd31c5a42f0f00c1376d"), looks := true }, kinds := [], alts := [], laidByText := true, laidKinds := [.handle], laidTests := true, laidLooks := .later }
def FirewallPassesDNSUptoCardSaid : Prop := Claim7.holds Tryz.pinned (.plain (OpenSpec.upto firewallPassesDNSSpec)) firewallPassesDNSUptoCard

/-- THE SECOND FORM's CARD OF 'stagepostlaw21.ResolverUsesCache'. -/
def resolverUsesCacheUptoCard : Claim7 := { stood := { row := resolverUsesCacheUptoRow, standIns := [], harness := (true, "961f243fc896834c2dd06fc356a9cce6b50a719b0844cd31c5a42f0f00c1376d"), looks := true }, kinds := [], alts := [], laidByText := true, laidKinds := [.handle, .sentinel], laidTests := true, laidLooks := .later }
def ResolverUsesCacheUptoCardSaid : Prop := Claim7.holds Tryz.pinned (.plain (OpenSpec.upto resolverUsesCacheSpec)) resolverUsesCacheUptoCard

/-- THE SECOND FORM's CARD OF 'stagepostlaw23.PortsResolverRange'. -/
def portsResolverRangeUptoCard : Claim7 := { stood := { row := portsResolverRangeUptoRow, standIns := [], harness := (true, "961f243fc896834c2dd06fc356a9cce6b50a719b0844cd31c5a42f0f00c1376d"), looks := true }, kinds := [], alts := [], laidByText := true, laidKinds := [.handle], laidTests := true, laidLooks := .later }
def PortsResolverRangeUptoCardSaid : Prop := Claim7.holds Tryz.pinned (.plain (OpenSpec.upto portsResolverRangeSpec)) portsResolverRangeUptoCard

/-- THE SECOND FORM's CARD OF 'stagepostlaw21.ResolverFollowsZone'. -/
def resolverFollowsZoneUptoCard : Claim7 := { stood := { row := resolverFollowsZoneUptoRow, standIns := [], harness := (true, "961f243fc896834c2dd06fc356a9cce6b50a719b0844cd31c5a42f0f00c1376d"), looks := true }, kinds := [], alts := [], laidByText := true, laidKinds := [.handle, .sentinel], laidTests := true, laidLooks := .later }
def ResolverFollowsZoneUptoCardSaid : Prop := Claim7.holds Tryz.pinned (.plain (OpenSpec.upto resolverFollowsZoneSpec)) resolverFollowsZoneUptoCard

/-- THE SECOND FORM's CARD OF 'stagepostlaw21.ResolverRetries'. -/
def resolverRetriesUptoCard : Claim7 := { stood := { row := resolverRetriesUptoRow, standIns := [], harness := (true, "961f243fc896834c2dd06fc356a9cce6b50a719b0844cd31c5a42f0f00c1376d"), looks := true }, kinds := [], alts := [], laidByText := true, laidKinds := [.handle, .sentinel], laidTests := true, laidLooks := .later }
def ResolverRetriesUptoCardSaid : Prop := Claim7.holds Tryz.pinned (.plain (OpenSpec.upto resolverRetriesSpec)) resolverRetriesUptoCard

/-- THE SECOND FORM's CARD OF 'stagepostlaw21.ResolverIgnoresForgedAnswers'. -/
def resolverIgnoresForgedAnswersUptoCard : Claim7 := { stood := { row := resolverIgnoresForgedAnswersUptoRow, standIns := [], harness := (true, "961f243fc896834c2dd06fc356a9cce6b50a719b0844cd31c5a42f0f00c1376d"), looks := true }, kinds := [], alts := [], laidByText := true, laidKinds := [.handle, .sentinel], laidTests := true, laidLooks := .later }
def ResolverIgnoresForgedAnswersUptoCardSaid : Prop := Claim7.holds Tryz.pinned (.plain (OpenSpec.upto resolverIgnoresForgedAnswersSpec)) resolverIgnoresForgedAnswersUptoCard

/-- THE SECOND FORM's CARD OF 'stagepostlaw21.ResolverReportsOnce'. -/
def resolverReportsOnceUptoCard : Claim7 := { stood := { row := resolverReportsOnceUptoRow, standIns := [], harness := (true, "961f243fc896834c2dd06fc356a9cce6b50a719b0844cd31c5a42f0f00c1376d"), looks := true }, kinds := [], alts := [], laidByText := true, laidKinds := [.handle, .sentinel], laidTests := true, laidLooks := .later }
def ResolverReportsOnceUptoCardSaid : Prop := Claim7.holds Tryz.pinned (.plain (OpenSpec.upto resolverReportsOnceSpec)) resolverReportsOnceUptoCard

/-- THE SECOND FORM's CARD OF 'stagepostlaw21.ResolverNilAndInvalid'. -/
def resolverNilAndInvalidUptoCard : Claim7 := { stood := { row := resolverNilAndInvalidUptoRow, standIns := [], harness := (true, "961f243fc896834c2dd06fc356a9cce6b50a719b0844cd31c5a42f0f00c1376d"), looks := true }, kinds := [], alts := [], laidByText := true, laidKinds := [.handle, .sentinel], laidTests := true, laidLooks := .later }
def ResolverNilAndInvalidUptoCardSaid : Prop := Claim7.holds Tryz.pinned (.plain (OpenSpec.upto resolverNilAndInvalidSpec)) resolverNilAndInvalidUptoCard
end Rows
end Go.Proofs.YtbolfkojebbejaaGreatDoor
