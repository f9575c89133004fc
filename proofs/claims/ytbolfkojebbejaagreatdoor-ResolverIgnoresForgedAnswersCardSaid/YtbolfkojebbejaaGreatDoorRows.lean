/-
  NARROWER THAN 'FOR EVERY INPUT', by the rows' own cells (each row's printed sentence says how): FirewallPassesDNS: laid · ResolverUsesCache: laid · PortsResolverRange: laid · ResolverFollowsZone: laid · ResolverRetries: laid · ResolverIgnoresForgedAnswers: laid · ResolverReportsOnce: laid · ResolverNilAndInvalid: laid.
  DERIVED. THE GIVEN ROWS OF THIS SEAT. 8 by the template 'for every input the law returns true; each argument reads behind the call as it read before'; 0 by the template 'total and deterministic' (their statements: YtbolfkojebbejaaGreatDoorTotals.lean).
  GIVEN WITH THE SEED: the statements are not yours to turn. If you find one false, say at which input.
  Laid BY PROGRAM, IN A SANDBOX (cutbox-rows.mjs): the forced cells as the released guide's own fill.sh prints them over the translation a6380245e04c47b3… (all of the seat's roots in one cut). By AI agents, Wed Nov 11 2026. No macro, syntax, notation, axiom, sorry.
-/
import Derived.Test.YtbolfkojebbejaaGreatDoorChecked
import GoSem.Claim
import GoSem.ClaimJoined
import GoSem.ClaimMapViews
import Derived.JoinedTies
import Derived.KernelRfl
namespace Go.Proofs.YtbolfkojebbejaaGreatDoor
/- THE CELL 'sum', in the pinned program and in every row, IS THE sha256 OF THE DUMP (.gsa) THAT YtbolfkojebbejaaGreatDoorProg.lean LOADS. Nothing in Lean hashes anything: it is a label: what it is worth is what the hold of that sum in a sandbox is worth. -/
noncomputable def Tryz.pinned : Pinned := { name := "ytbolfkojebbejaagreatdoor", sum := "a6380245e04c47b3e0a2648194683feb2ae0bfd9d77c65d6aeb9ff40eedcccc1", checked := Tryz.checked }
namespace Rows
def none {H : Type} : Left H := { results := [], args := [] }

/- WHAT THE LISTED PACKAGE-LEVEL VARIABLES READ AS WHEN THE CALL BEGINS. Each datum BY PROGRAM (the guide's laid-datum.mjs) off the statement by which the dump's own 'gosem.cut.vars' lays the variable. In a bare row this is a premise. The card (YtbolfkojebbejaaGreatDoorCards.lean) ties it to the program's text. -/
def laid_errors_errorType {H : Type} : DataW H := .iface "internal/reflectlite.rtype" (.agg [.ptr (.lit (.string [101, 114, 114, 111, 114]))])
def laid_stagepost_dnscache_errInvalid {H : Type} : DataW H := .iface "*errors.errorString" (.ptr (.agg [.lit (.string [110, 111, 116, 32, 97, 32, 118, 97, 108, 105, 100, 32, 101, 110, 116, 114, 121])]))

/-- 'stagepostlaw22.FirewallPassesDNS': WHATEVER THE INPUT: true; the input reads as it did. -/
def firewallPassesDNSSpec : ChangeSpec := { name := "firewallPassesDNS", fn := fun _ => fun
  | [d1, d2] => { results := [.lit (.bool true)], args := [d1, d2] }
  | _ => none }
def firewallPassesDNSRow : OpenClaim := { program := "ytbolfkojebbejaagreatdoor", sum := "a6380245e04c47b3e0a2648194683feb2ae0bfd9d77c65d6aeb9ff40eedcccc1", func := "stagepost/stagepostlaw22.FirewallPassesDNS", spec := "firewallPassesDNS", inPlace := ["internal/bytealg.IndexByteString", "internal/bytealg.IndexString", "internal/reflectlite.ValueOf", "(internal/reflectlite.Value).Type", "(internal/reflectlite.Value).IsNil", "internal/reflectlite.TypeOf", "(internal/reflectlite.Value).Elem", "(internal/reflectlite.Value).Set", "internal/abi.NoEscape"], unfollowed := true, recurses := true, named := ["internal/bytealg.MaxLen", "errors.errorType"], plainKeys := false, apart := false, laid := [("errors.errorType", laid_errors_errorType)] }
def FirewallPassesDNSSaid : Prop := firewallPassesDNSRow.holds Tryz.pinned (OpenSpec.ofChange firewallPassesDNSSpec)

/-- ITS FALSE NEIGHBOUR: 'it returns false'. Refute it at one input. -/
def firewallPassesDNSWrong : ChangeSpec := { name := "firewallPassesDNS", fn := fun _ => fun
  | [d1, d2] => { results := [.lit (.bool false)], args := [d1, d2] }
  | _ => none }
def FirewallPassesDNSWrongFalsely : Prop := firewallPassesDNSRow.holds Tryz.pinned (OpenSpec.ofChange firewallPassesDNSWrong)

/-- 'stagepostlaw21.ResolverUsesCache': WHATEVER THE INPUT: true; the input reads as it did. -/
def resolverUsesCacheSpec : ChangeSpec := { name := "resolverUsesCache", fn := fun _ => fun
  | [d1, d2, d3, d4, d5] => { results := [.lit (.bool true)], args := [d1, d2, d3, d4, d5] }
  | _ => none }
def resolverUsesCacheRow : OpenClaim := { program := "ytbolfkojebbejaagreatdoor", sum := "a6380245e04c47b3e0a2648194683feb2ae0bfd9d77c65d6aeb9ff40eedcccc1", func := "stagepost/stagepostlaw21.ResolverUsesCache", spec := "resolverUsesCache", inPlace := ["internal/bytealg.IndexByteString", "internal/bytealg.IndexString", "internal/reflectlite.ValueOf", "(internal/reflectlite.Value).Type", "(internal/reflectlite.Value).IsNil", "internal/reflectlite.TypeOf", "(internal/reflectlite.Value).Elem", "(internal/reflectlite.Value).Set", "internal/abi.NoEscape"], unfollowed := true, recurses := true, named := ["internal/bytealg.MaxLen", "errors.errorType", "stagepost/dnscache.errInvalid"], plainKeys := false, apart := false, laid := [("errors.errorType", laid_errors_errorType), ("stagepost/dnscache.errInvalid", laid_stagepost_dnscache_errInvalid)] }
def ResolverUsesCacheSaid : Prop := resolverUsesCacheRow.holds Tryz.pinned (OpenSpec.ofChange resolverUsesCacheSpec)

/-- ITS FALSE NEIGHBOUR: 'it returns false'. Refute it at one input. -/
def resolverUsesCacheWrong : ChangeSpec := { name := "resolverUsesCache", fn := fun _ => fun
  | [d1, d2, d3, d4, d5] => { results := [.lit (.bool false)], args := [d1, d2, d3, d4, d5] }
  | _ => none }
def ResolverUsesCacheWrongFalsely : Prop := resolverUsesCacheRow.holds Tryz.pinned (OpenSpec.ofChange resolverUsesCacheWrong)

/-- 'stagepostlaw23.PortsResolverRange': WHATEVER THE INPUT: true; the input reads as it did. -/
def portsResolverRangeSpec : ChangeSpec := { name := "portsResolverRange", fn := fun _ => fun
  | [d1, d2, d3] => { results := [.lit (.bool true)], args := [d1, d2, d3] }
  | _ => none }
def portsResolverRangeRow : OpenClaim := { program := "ytbolfkojebbejaagreatdoor", sum := "a6380245e04c47b3e0a2648194683feb2ae0bfd9d77c65d6aeb9ff40eedcccc1", func := "stagepost/stagepostlaw23.PortsResolverRange", spec := "portsResolverRange", inPlace := ["internal/bytealg.IndexByteString", "internal/bytealg.IndexString", "internal/reflectlite.ValueOf", "(internal/reflectlite.Value).Type", "(internal/reflectlite.Value).IsNil", "internal/reflectlite.TypeOf", "(internal/reflectlite.Value).Elem", "(internal/reflectlite.Value).Set", "internal/abi.NoEscape", "internal/bytealg.MakeNoZero"], unfollowed := true, recurses := true, named := ["internal/bytealg.MaxLen", "errors.errorType"], plainKeys := false, apart := false, laid := [("errors.errorType", laid_errors_errorType)] }
def PortsResolverRangeSaid : Prop := portsResolverRangeRow.holds Tryz.pinned (OpenSpec.ofChange portsResolverRangeSpec)

/-- ITS FALSE NEIGHBOUR: 'it returns false'. Refute it at one input. -/
def portsResolverRangeWrong : ChangeSpec := { name := "portsResolverRange", fn := fun _ => fun
  | [d1, d2, d3] => { results := [.lit (.bool false)], args := [d1, d2, d3] }
  | _ => none }
def PortsResolverRangeWrongFalsely : Prop := portsResolverRangeRow.holds Tryz.pinned (OpenSpec.ofChange portsResolverRangeWrong)

/-- 'stagepostlaw21.ResolverFollowsZone': WHATEVER THE INPUT: true; the input reads as it did. -/
def resolverFollowsZoneSpec : ChangeSpec := { name := "resolverFollowsZone", fn := fun _ => fun
  | [d1, d2, d3, d4] => { results := [.lit (.bool true)], args := [d1, d2, d3, d4] }
  | _ => none }
def resolverFollowsZoneRow : OpenClaim := { program := "ytbolfkojebbejaagreatdoor", sum := "a6380245e04c47b3e0a2648194683feb2ae0bfd9d77c65d6aeb9ff40eedcccc1", func := "stagepost/stagepostlaw21.ResolverFollowsZone", spec := "resolverFollowsZone", inPlace := ["internal/bytealg.IndexByteString", "internal/bytealg.IndexString", "internal/reflectlite.ValueOf", "(internal/reflectlite.Value).Type", "(internal/reflectlite.Value).IsNil", "internal/reflectlite.TypeOf", "(internal/reflectlite.Value).Elem", "(internal/reflectlite.Value).Set", "internal/abi.NoEscape"], unfollowed := true, recurses := true, named := ["internal/bytealg.MaxLen", "errors.errorType", "stagepost/dnscache.errInvalid"], plainKeys := false, apart := false, laid := [("errors.errorType", laid_errors_errorType), ("stagepost/dnscache.errInvalid", laid_stagepost_dnscache_errInvalid)] }
def ResolverFollowsZoneSaid : Prop := resolverFollowsZoneRow.holds Tryz.pinned (OpenSpec.ofChange resolverFollowsZoneSpec)

/-- ITS FALSE NEIGHBOUR: 'it returns false'. Refute it at one input. -/
def resolverFollowsZoneWrong : ChangeSpec := { name := "resolverFollowsZone", fn := fun _ => fun
  | [d1, d2, d3, d4] => { results := [.lit (.bool false)], args := [d1, d2, d3, d4] }
  | _ => none }
def ResolverFollowsZoneWrongFalsely : Prop := resolverFollowsZoneRow.holds Tryz.pinned (OpenSpec.ofChange resolverFollowsZoneWrong)

/-- 'stagepostlaw21.ResolverRetries': WHATEVER THE INPUT: true; the input reads as it did. -/
def resolverRetriesSpec : ChangeSpec := { name := "resolverRetries", fn := fun _ => fun
  | [d1, d2, d3, d4] => { results := [.lit (.bool true)], args := [d1, d2, d3, d4] }
  | _ => none }
def resolverRetriesRow : OpenClaim := { program := "ytbolfkojebbejaagreatdoor", sum := "a6380245e04c47b3e0a2648194683feb2ae0bfd9d77c65d6aeb9ff40eedcccc1", func := "stagepost/stagepostlaw21.ResolverRetries", spec := "resolverRetries", inPlace := ["internal/bytealg.IndexByteString", "internal/bytealg.IndexString", "internal/reflectlite.ValueOf", "(internal/reflectlite.Value).Type", "(internal/reflectlite.Value).IsNil", "internal/reflectlite.TypeOf", "(internal/reflectlite.Value).Elem", "(internal/reflectlite.Value).Set", "internal/abi.NoEscape"], unfollowed := true, recurses := true, named := ["internal/bytealg.MaxLen", "errors.errorType", "stagepost/dnscache.errInvalid"], plainKeys := false, apart := false, laid := [("errors.errorType", laid_errors_errorType), ("stagepost/dnscache.errInvalid", laid_stagepost_dnscache_errInvalid)] }
def ResolverRetriesSaid : Prop := resolverRetriesRow.holds Tryz.pinned (OpenSpec.ofChange resolverRetriesSpec)

/-- ITS FALSE NEIGHBOUR: 'it returns false'. Refute it at one input. -/
def resolverRetriesWrong : ChangeSpec := { name := "resolverRetries", fn := fun _ => fun
  | [d1, d2, d3, d4] => { results := [.lit (.bool false)], args := [d1, d2, d3, d4] }
  | _ => none }
def ResolverRetriesWrongFalsely : Prop := resolverRetriesRow.holds Tryz.pinned (OpenSpec.ofChange resolverRetriesWrong)

/-- 'stagepostlaw21.ResolverIgnoresForgedAnswers': WHATEVER THE INPUT: true; the input reads as it did. -/
def resolverIgnoresForgedAnswersSpec : ChangeSpec := { name := "resolverIgnoresForgedAnswers", fn := fun _ => fun
  | [d1, d2, d3, d4, d5] => { results := [.lit (.bool true)], args := [d1, d2, d3, d4, d5] }
  | _ => none }
def resolverIgnoresForgedAnswersRow : OpenClaim := { program := "ytbolfkojebbejaagreatdoor", sum := "a6380245e04c47b3e0a2648194683feb2ae0bfd9d77c65d6aeb9ff40eedcccc1", func := "stagepost/stagepostlaw21.ResolverIgnoresForgedAnswers", spec := "resolverIgnoresForgedAnswers", inPlace := ["internal/bytealg.IndexByteString", "internal/bytealg.IndexString", "internal/reflectlite.ValueOf", "(internal/reflectlite.Value).Type", "(internal/reflectlite.Value).IsNil", "internal/reflectlite.TypeOf", "(internal/reflectlite.Value).Elem", "(internal/reflectlite.Value).Set", "internal/abi.NoEscape"], unfollowed := true, recurses := true, named := ["internal/bytealg.MaxLen", "errors.errorType", "stagepost/dnscache.errInvalid"], plainKeys := false, apart := false, laid := [("errors.errorType", laid_errors_errorType), ("stagepost/dnscache.errInvalid", laid_stagepost_dnscache_errInvalid)] }
def ResolverIgnoresForgedAnswersSaid : Prop := resolverIgnoresForgedAnswersRow.holds Tryz.pinned (OpenSpec.ofChange resolverIgnoresForgedAnswersSpec)

/-- ITS FALSE NEIGHBOUR: 'it returns false'. Refute it at one input. -/
def resolverIgnoresForgedAnswersWrong : ChangeSpec := { name := "resolverIgnoresForgedAnswers", fn := fun _ => fun
  | [d1, d2, d3, d4, d5] => { results := [.lit (.bool false)], args := [d1, d2, d3, d4, d5] }
  | _ => none }
def ResolverIgnoresForgedAnswersWrongFalsely : Prop := resolverIgnoresForgedAnswersRow.holds Tryz.pinned (OpenSpec.ofChange resolverIgnoresForgedAnswersWrong)

/-- 'stagepostlaw21.ResolverReportsOnce': WHATEVER THE INPUT: true; the input reads as it did. -/
def resolverReportsOnceSpec : ChangeSpec := { name := "resolverReportsOnce", fn := fun _ => fun
  | [d1, d2] => { results := [.lit (.bool true)], args := [d1, d2] }
  | _ => none }
def resolverReportsOnceRow : OpenClaim := { program := "ytbolfkojebbejaagreatdoor", sum := "a6380245e04c47b3e0a2648194683feb2ae0bfd9d77c65d6aeb9ff40eedcccc1", func := "stagepost/stagepostlaw21.ResolverReportsOnce", spec := "resolverReportsOnce", inPlace := ["internal/bytealg.IndexByteString", "internal/bytealg.IndexString", "internal/reflectlite.ValueOf", "(internal/reflectlite.Value).Type", "(internal/reflectlite.Value).IsNil", "internal/reflectlite.TypeOf", "(internal/reflectlite.Value).Elem", "(internal/reflectlite.Value).Set", "internal/abi.NoEscape"], unfollowed := true, recurses := true, named := ["internal/bytealg.MaxLen", "errors.errorType", "stagepost/dnscache.errInvalid"], plainKeys := false, apart := false, laid := [("errors.errorType", laid_errors_errorType), ("stagepost/dnscache.errInvalid", laid_stagepost_dnscache_errInvalid)] }
def ResolverReportsOnceSaid : Prop := resolverReportsOnceRow.holds Tryz.pinned (OpenSpec.ofChange resolverReportsOnceSpec)

/-- ITS FALSE NEIGHBOUR: 'it returns false'. Refute it at one input. -/
def resolverReportsOnceWrong : ChangeSpec := { name := "resolverReportsOnce", fn := fun _ => fun
  | [d1, d2] => { results := [.lit (.bool false)], args := [d1, d2] }
  | _ => none }
def ResolverReportsOnceWrongFalsely : Prop := resolverReportsOnceRow.holds Tryz.pinned (OpenSpec.ofChange resolverReportsOnceWrong)

/-- 'stagepostlaw21.ResolverNilAndInvalid': WHATEVER THE INPUT: true; the input reads as it did. -/
def resolverNilAndInvalidSpec : ChangeSpec := { name := "resolverNilAndInvalid", fn := fun _ => fun
  | [d1, d2] => { results := [.lit (.bool true)], args := [d1, d2] }
  | _ => none }
def resolverNilAndInvalidRow : OpenClaim := { program := "ytbolfkojebbejaagreatdoor", sum := "a6380245e04c47b3e0a2648194683feb2ae0bfd9d77c65d6aeb9ff40eedcccc1", func := "stagepost/stagepostlaw21.ResolverNilAndInvalid", spec := "resolverNilAndInvalid", inPlace := ["internal/bytealg.IndexByteString", "internal/bytealg.IndexString", "internal/reflectlite.ValueOf", "(internal/reflectlite.Value).Type", "(internal/reflectlite.Value).IsNil", "internal/reflectlite.TypeOf", "(internal/reflectlite.Value).Elem", "(internal/reflectlite.Value).Set", "internal/abi.NoEscape"], unfollowed := true, recurses := true, named := ["internal/bytealg.MaxLen", "errors.errorType", "stagepost/dnscache.errInvalid"], plainKeys := false, apart := false, laid := [("errors.errorType", laid_errors_errorType), ("stagepost/dnscache.errInvalid", laid_stagepost_dnscache_errInvalid)] }
def ResolverNilAndInvalidSaid : Prop := resolverNilAndInvalidRow.holds Tryz.pinned (OpenSpec.ofChange resolverNilAndInvalidSpec)

/-- ITS FALSE NEIGHBOUR: 'it returns false'. Refute it at one input. -/
def resolverNilAndInvalidWrong : ChangeSpec := { name := "resolverNilAndInvalid", fn := fun _ => fun
  | [d1, d2] => { results := [.lit (.bool false)], args := [d1, d2] }
  | _ => none }
def ResolverNilAndInvalidWrongFalsely : Prop := resolverNilAndInvalidRow.holds Tryz.pinned (OpenSpec.ofChange resolverNilAndInvalidWrong)

/- THE SECOND FORM. 'bulk': how many values and letters a reading holds, each counted each time it is reached (what is shared counts as often as it is met; a slice's spare places count too). A statement '..UptoSaid' is the law's where the arguments, and the package variables that the reading takes, are together of bulk at most 1048576: NARROWER than '..Said'. Prove '..Said' where nothing that the law and all that it calls make is longer than what came in: it says more and counts as full. Else prove '..UptoSaid'. A law counts once. -/
mutual
def uptoBulk {H : Type} : DataW H → Nat
  | .lit (.string bytes) => bytes.length + 1
  | .lit _ => 1
  | .nil => 1
  | .ptr d => uptoBulk d + 1
  | .slice elems spare => uptoBulkAll elems + uptoBulkAll spare + 1
  | .agg parts => uptoBulkAll parts + 1
  | .iface _ d => uptoBulk d + 1
  | .map entries => uptoBulkEntries entries + 1
  | .held _ => 1
def uptoBulkAll {H : Type} : List (DataW H) → Nat
  | [] => 0
  | d :: r => uptoBulk d + uptoBulkAll r
def uptoBulkEntries {H : Type} : List (Lit × DataW H) → Nat
  | [] => 0
  | x :: r => uptoBulkEntry x + uptoBulkEntries r
def uptoBulkEntry {H : Type} : Lit × DataW H → Nat
  | (.string bytes, d) => bytes.length + uptoBulk d + 1
  | (_, d) => uptoBulk d + 1
 end
def uptoSmall : (H : Type) → List (DataW H) → Bool := fun _ ds => decide (uptoBulkAll ds ≤ 1048576)
def OpenSpec.upto (s : _root_.Go.ChangeSpec) : _root_.Go.OpenSpec := { _root_.Go.OpenSpec.ofChange s with cond := some uptoSmall }

/-- 'stagepostlaw22.FirewallPassesDNS', WHERE WHAT IT READS IS OF BULK AT MOST 1048576: true; the input reads as it did. -/
def firewallPassesDNSUptoRow : OpenClaim := { program := "ytbolfkojebbejaagreatdoor", sum := "a6380245e04c47b3e0a2648194683feb2ae0bfd9d77c65d6aeb9ff40eedcccc1", func := "stagepost/stagepostlaw22.FirewallPassesDNS", spec := "firewallPassesDNS", inPlace := ["internal/bytealg.IndexByteString", "internal/bytealg.IndexString", "internal/reflectlite.ValueOf", "(internal/reflectlite.Value).Type", "(internal/reflectlite.Value).IsNil", "internal/reflectlite.TypeOf", "(internal/reflectlite.Value).Elem", "(internal/reflectlite.Value).Set", "internal/abi.NoEscape"], unfollowed := true, recurses := true, named := ["internal/bytealg.MaxLen", "errors.errorType"], plainKeys := false, apart := false, laid := [("errors.errorType", laid_errors_errorType)], narrowed := true }
def FirewallPassesDNSUptoSaid : Prop := firewallPassesDNSUptoRow.holds Tryz.pinned (OpenSpec.upto firewallPassesDNSSpec)

/-- 'stagepostlaw21.ResolverUsesCache', WHERE WHAT IT READS IS OF BULK AT MOST 1048576: true; the input reads as it did. -/
def resolverUsesCacheUptoRow : OpenClaim := { program := "ytbolfkojebbejaagreatdoor", sum := "a6380245e04c47b3e0a2648194683feb2ae0bfd9d77c65d6aeb9ff40eedcccc1", func := "stagepost/stagepostlaw21.ResolverUsesCache", spec := "resolverUsesCache", inPlace := ["internal/bytealg.IndexByteString", "internal/bytealg.IndexString", "internal/reflectlite.ValueOf", "(internal/reflectlite.Value).Type", "(internal/reflectlite.Value).IsNil", "internal/reflectlite.TypeOf", "(internal/reflectlite.Value).Elem", "(internal/reflectlite.Value).Set", "internal/abi.NoEscape"], unfollowed := true, recurses := true, named := ["internal/bytealg.MaxLen", "errors.errorType", "stagepost/dnscache.errInvalid"], plainKeys := false, apart := false, laid := [("errors.errorType", laid_errors_errorType), ("stagepost/dnscache.errInvalid", laid_stagepost_dnscache_errInvalid)], narrowed := true }
def ResolverUsesCacheUptoSaid : Prop := resolverUsesCacheUptoRow.holds Tryz.pinned (OpenSpec.upto resolverUsesCacheSpec)

/-- 'stagepostlaw23.PortsResolverRange', WHERE WHAT IT READS IS OF BULK AT MOST 1048576: true; the input reads as it did. -/
def portsResolverRangeUptoRow : OpenClaim := { program := "ytbolfkojebbejaagreatdoor", sum := "a6380245e04c47b3e0a2648194683feb2ae0bfd9d77c65d6aeb9ff40eedcccc1", func := "stagepost/stagepostlaw23.PortsResolverRange", spec := "portsResolverRange", inPlace := ["internal/bytealg.IndexByteString", "internal/bytealg.IndexString", "internal/reflectlite.ValueOf", "(internal/reflectlite.Value).Type", "(internal/reflectlite.Value).IsNil", "internal/reflectlite.TypeOf", "(internal/reflectlite.Value).Elem", "(internal/reflectlite.Value).Set", "internal/abi.NoEscape", "internal/bytealg.MakeNoZero"], unfollowed := true, recurses := true, named := ["internal/bytealg.MaxLen", "errors.errorType"], plainKeys := false, apart := false, laid := [("errors.errorType", laid_errors_errorType)], narrowed := true }
def PortsResolverRangeUptoSaid : Prop := portsResolverRangeUptoRow.holds Tryz.pinned (OpenSpec.upto portsResolverRangeSpec)

/-- 'stagepostlaw21.ResolverFollowsZone', WHERE WHAT IT READS IS OF BULK AT MOST 1048576: true; the input reads as it did. -/
def resolverFollowsZoneUptoRow : OpenClaim := { program := "ytbolfkojebbejaagreatdoor", sum := "a6380245e04c47b3e0a2648194683feb2ae0bfd9d77c65d6aeb9ff40eedcccc1", func := "stagepost/stagepostlaw21.ResolverFollowsZone", spec := "resolverFollowsZone", inPlace := ["internal/bytealg.IndexByteString", "internal/bytealg.IndexString", "internal/reflectlite.ValueOf", "(internal/reflectlite.Value).Type", "(internal/reflectlite.Value).IsNil", "internal/reflectlite.TypeOf", "(internal/reflectlite.Value).Elem", "(internal/reflectlite.Value).Set", "internal/abi.NoEscape"], unfollowed := true, recurses := true, named := ["internal/bytealg.MaxLen", "errors.errorType", "stagepost/dnscache.errInvalid"], plainKeys := false, apart := false, laid := [("errors.errorType", laid_errors_errorType), ("stagepost/dnscache.errInvalid", laid_stagepost_dnscache_errInvalid)], narrowed := true }
def ResolverFollowsZoneUptoSaid : Prop := resolverFollowsZoneUptoRow.holds Tryz.pinned (OpenSpec.upto resolverFollowsZoneSpec)

/-- 'stagepostlaw21.ResolverRetries', WHERE WHAT IT READS IS OF BULK AT MOST 1048576: true; the input reads as it did. -/
def resolverRetriesUptoRow : OpenClaim := { program := "ytbolfkojebbejaagreatdoor", sum := "a6380245e04c47b3e0a2648194683feb2ae0bfd9d77c65d6aeb9ff40eedcccc1", func := "stagepost/stagepostlaw21.ResolverRetries", spec := "resolverRetries", inPlace := ["internal/bytealg.IndexByteString", "internal/bytealg.IndexString", "internal/reflectlite.ValueOf", "(internal/reflectlite.Value).Type", "(internal/reflectlite.Value).IsNil", "internal/reflectlite.TypeOf", "(internal/reflectlite.Value).Elem", "(internal/reflectlite.Value).Set", "internal/abi.NoEscape"], unfollowed := true, recurses := true, named := ["internal/bytealg.MaxLen", "errors.errorType", "stagepost/dnscache.errInvalid"], plainKeys := false, apart := false, laid := [("errors.errorType", laid_errors_errorType), ("stagepost/dnscache.errInvalid", laid_stagepost_dnscache_errInvalid)], narrowed := true }
def ResolverRetriesUptoSaid : Prop := resolverRetriesUptoRow.holds Tryz.pinned (OpenSpec.upto resolverRetriesSpec)

/-- 'stagepostlaw21.ResolverIgnoresForgedAnswers', WHERE WHAT IT READS IS OF BULK AT MOST 1048576: true; the input reads as it did. -/
def resolverIgnoresForgedAnswersUptoRow : OpenClaim := { program := "ytbolfkojebbejaagreatdoor", sum := "a6380245e04c47b3e0a2648194683feb2ae0bfd9d77c65d6aeb9ff40eedcccc1", func := "stagepost/stagepostlaw21.ResolverIgnoresForgedAnswers", spec := "resolverIgnoresForgedAnswers", inPlace := ["internal/bytealg.IndexByteString", "internal/bytealg.IndexString", "internal/reflectlite.ValueOf", "(internal/reflectlite.Value).Type", "(internal/reflectlite.Value).IsNil", "internal/reflectlite.TypeOf", "(internal/reflectlite.Value).Elem", "(internal/reflectlite.Value).Set", "internal/abi.NoEscape"], unfollowed := true, recurses := true, named := ["internal/bytealg.MaxLen", "errors.errorType", "stagepost/dnscache.errInvalid"], plainKeys := false, apart := false, laid := [("errors.errorType", laid_errors_errorType), ("stagepost/dnscache.errInvalid", laid_stagepost_dnscache_errInvalid)], narrowed := true }
def ResolverIgnoresForgedAnswersUptoSaid : Prop := resolverIgnoresForgedAnswersUptoRow.holds Tryz.pinned (OpenSpec.upto resolverIgnoresForgedAnswersSpec)

/-- 'stagepostlaw21.ResolverReportsOnce', WHERE WHAT IT READS IS OF BULK AT MOST 1048576: true; the input reads as it did. -/
def resolverReportsOnceUptoRow : OpenClaim := { program := "ytbolfkojebbejaagreatdoor", sum := "a6380245e04c47b3e0a2648194683feb2ae0bfd9d77c65d6aeb9ff40eedcccc1", func := "stagepost/stagepostlaw21.ResolverReportsOnce", spec := "resolverReportsOnce", inPlace := ["internal/bytealg.IndexByteString", "internal/bytealg.IndexString", "internal/reflectlite.ValueOf", "(internal/reflectlite.Value).Type", "(internal/reflectlite.Value).IsNil", "internal/reflectlite.TypeOf", "(internal/reflectlite.Value).Elem", "(internal/reflectlite.Value).Set", "internal/abi.NoEscape"], unfollowed := true, recurses := true, named := ["internal/bytealg.MaxLen", "errors.errorType", "stagepost/dnscache.errInvalid"], plainKeys := false, apart := false, laid := [("errors.errorType", laid_errors_errorType), ("stagepost/dnscache.errInvalid", laid_stagepost_dnscache_errInvalid)], narrowed := true }
def ResolverReportsOnceUptoSaid : Prop := resolverReportsOnceUptoRow.holds Tryz.pinned (OpenSpec.upto resolverReportsOnceSpec)

/-- 'stagepostlaw21.ResolverNilAndInvalid', WHERE WHAT IT READS IS OF BULK AT MOST 1048576: true; the input reads as it did. -/
def resolverNilAndInvalidUptoRow : OpenClaim := { program := "ytbolfkojebbejaagreatdoor", sum := "a6380245e04c47b3e0a2648194683feb2ae0bfd9d77c65d6aeb9ff40eedcccc1", func := "stagepost/stagepostlaw21.ResolverNilAndInvalid", spec := "resolverNilAndInvalid", inPlace := ["internal/bytealg.IndexByteString", "internal/bytealg.IndexString", "internal/reflectlite.ValueOf", "(internal/reflectlite.Value).Type", "(internal/reflectlite.Value).IsNil", "internal/reflectlite.TypeOf", "(internal/reflectlite.Value).Elem", "(internal/reflectlite.Value).Set", "internal/abi.NoEscape"], unfollowed := true, recurses := true, named := ["internal/bytealg.MaxLen", "errors.errorType", "stagepost/dnscache.errInvalid"], plainKeys := false, apart := false, laid := [("errors.errorType", laid_errors_errorType), ("stagepost/dnscache.errInvalid", laid_stagepost_dnscache_errInvalid)], narrowed := true }
def ResolverNilAndInvalidUptoSaid : Prop := resolverNilAndInvalidUptoRow.holds Tryz.pinned (OpenSpec.upto resolverNilAndInvalidSpec)

end Rows
end Go.Proofs.YtbolfkojebbejaaGreatDoor
