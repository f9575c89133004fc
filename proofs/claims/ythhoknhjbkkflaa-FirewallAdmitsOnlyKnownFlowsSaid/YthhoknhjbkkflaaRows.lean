/-
  No cell of these rows narrows 'for every input' (looked for: loops, veiled, ifaces, maps, wideKeys, modest, calm, conditions, laid).
  DERIVED. THE GIVEN ROWS OF THIS SEAT. 4 by the template 'for every input the law returns true; each argument reads behind the call as it read before'; 0 by the template 'total and deterministic' (their statements: YthhoknhjbkkflaaTotals.lean).
  GIVEN WITH THE SEED: the statements are not yours to turn. If you find one false, say at which input.
  Laid BY PROGRAM, IN A SANDBOX (cutbox-rows.mjs): the forced cells as the released guide's own fill.sh prints them over the translation 78eda0a4d42dacc0… (all of the seat's roots in one cut). By AI agents, Wed Nov 11 2026. No macro, syntax, notation, axiom, sorry.
-/
import Derived.Test.YthhoknhjbkkflaaChecked
import GoSem.Claim
import GoSem.ClaimJoined
import GoSem.ClaimMapViews
import Derived.JoinedTies
import Derived.KernelRfl
namespace Go.Proofs.Ythhoknhjbkkflaa
/- THE CELL 'sum', in the pinned program and in every row, IS THE sha256 OF THE DUMP (.gsa) THAT YthhoknhjbkkflaaProg.lean LOADS. Nothing in Lean hashes anything: it is a label: what it is worth is what the hold of that sum in a sandbox is worth. -/
noncomputable def Try.pinned : Pinned := { name := "ythhoknhjbkkflaa", sum := "78eda0a4d42dacc02f897c7790dbad1019b9a01cadf742ebcfa870659e1ac0f6", checked := Try.checked }
namespace Rows
def none {H : Type} : Left H := { results := [], args := [] }

/-- 'stagepostlaw22.FirewallAdmitsOnlyKnownFlows': WHATEVER THE INPUT: true; the input reads as it did. -/
def firewallAdmitsOnlyKnownFlowsSpec : ChangeSpec := { name := "firewallAdmitsOnlyKnownFlows", fn := fun _ => fun
  | [d1, d2] => { results := [.lit (.bool true)], args := [d1, d2] }
  | _ => none }
def firewallAdmitsOnlyKnownFlowsRow : OpenClaim := { program := "ythhoknhjbkkflaa", sum := "78eda0a4d42dacc02f897c7790dbad1019b9a01cadf742ebcfa870659e1ac0f6", func := "stagepost/stagepostlaw22.FirewallAdmitsOnlyKnownFlows", spec := "firewallAdmitsOnlyKnownFlows", unfollowed := true, recurses := true, plainKeys := false, apart := false }
def FirewallAdmitsOnlyKnownFlowsSaid : Prop := firewallAdmitsOnlyKnownFlowsRow.holds Try.pinned (OpenSpec.ofChange firewallAdmitsOnlyKnownFlowsSpec)

/-- ITS FALSE NEIGHBOUR: 'it returns false'. Refute it at one input. -/
def firewallAdmitsOnlyKnownFlowsWrong : ChangeSpec := { name := "firewallAdmitsOnlyKnownFlows", fn := fun _ => fun
  | [d1, d2] => { results := [.lit (.bool false)], args := [d1, d2] }
  | _ => none }
def FirewallAdmitsOnlyKnownFlowsWrongFalsely : Prop := firewallAdmitsOnlyKnownFlowsRow.holds Try.pinned (OpenSpec.ofChange firewallAdmitsOnlyKnownFlowsWrong)

/-- 'stagepostlaw22.FirewallAdmitsReplies': WHATEVER THE INPUT: true; the input reads as it did. -/
def firewallAdmitsRepliesSpec : ChangeSpec := { name := "firewallAdmitsReplies", fn := fun _ => fun
  | [d1, d2, d3, d4] => { results := [.lit (.bool true)], args := [d1, d2, d3, d4] }
  | _ => none }
def firewallAdmitsRepliesRow : OpenClaim := { program := "ythhoknhjbkkflaa", sum := "78eda0a4d42dacc02f897c7790dbad1019b9a01cadf742ebcfa870659e1ac0f6", func := "stagepost/stagepostlaw22.FirewallAdmitsReplies", spec := "firewallAdmitsReplies", unfollowed := true, recurses := true, plainKeys := false, apart := false }
def FirewallAdmitsRepliesSaid : Prop := firewallAdmitsRepliesRow.holds Try.pinned (OpenSpec.ofChange firewallAdmitsRepliesSpec)

/-- ITS FALSE NEIGHBOUR: 'it returns false'. Refute it at one input. -/
def firewallAdmitsRepliesWrong : ChangeSpec := { name := "firewallAdmitsReplies", fn := fun _ => fun
  | [d1, d2, d3, d4] => { results := [.lit (.bool false)], args := [d1, d2, d3, d4] }
  | _ => none }
def FirewallAdmitsRepliesWrongFalsely : Prop := firewallAdmitsRepliesRow.holds Try.pinned (OpenSpec.ofChange firewallAdmitsRepliesWrong)

/-- 'stagepostlaw22.FirewallTableBound': WHATEVER THE INPUT: true; the input reads as it did. -/
def firewallTableBoundSpec : ChangeSpec := { name := "firewallTableBound", fn := fun _ => fun
  | [d1, d2] => { results := [.lit (.bool true)], args := [d1, d2] }
  | _ => none }
def firewallTableBoundRow : OpenClaim := { program := "ythhoknhjbkkflaa", sum := "78eda0a4d42dacc02f897c7790dbad1019b9a01cadf742ebcfa870659e1ac0f6", func := "stagepost/stagepostlaw22.FirewallTableBound", spec := "firewallTableBound", unfollowed := true, recurses := true, plainKeys := false, apart := false }
def FirewallTableBoundSaid : Prop := firewallTableBoundRow.holds Try.pinned (OpenSpec.ofChange firewallTableBoundSpec)

/-- ITS FALSE NEIGHBOUR: 'it returns false'. Refute it at one input. -/
def firewallTableBoundWrong : ChangeSpec := { name := "firewallTableBound", fn := fun _ => fun
  | [d1, d2] => { results := [.lit (.bool false)], args := [d1, d2] }
  | _ => none }
def FirewallTableBoundWrongFalsely : Prop := firewallTableBoundRow.holds Try.pinned (OpenSpec.ofChange firewallTableBoundWrong)

/-- 'stagepostlaw22.FirewallIgnoresFlags': WHATEVER THE INPUT: true; the input reads as it did. -/
def firewallIgnoresFlagsSpec : ChangeSpec := { name := "firewallIgnoresFlags", fn := fun _ => fun
  | [d1, d2, d3] => { results := [.lit (.bool true)], args := [d1, d2, d3] }
  | _ => none }
def firewallIgnoresFlagsRow : OpenClaim := { program := "ythhoknhjbkkflaa", sum := "78eda0a4d42dacc02f897c7790dbad1019b9a01cadf742ebcfa870659e1ac0f6", func := "stagepost/stagepostlaw22.FirewallIgnoresFlags", spec := "firewallIgnoresFlags", unfollowed := true, recurses := true, plainKeys := false, apart := false }
def FirewallIgnoresFlagsSaid : Prop := firewallIgnoresFlagsRow.holds Try.pinned (OpenSpec.ofChange firewallIgnoresFlagsSpec)

/-- ITS FALSE NEIGHBOUR: 'it returns false'. Refute it at one input. -/
def firewallIgnoresFlagsWrong : ChangeSpec := { name := "firewallIgnoresFlags", fn := fun _ => fun
  | [d1, d2, d3] => { results := [.lit (.bool false)], args := [d1, d2, d3] }
  | _ => none }
def FirewallIgnoresFlagsWrongFalsely : Prop := firewallIgnoresFlagsRow.holds Try.pinned (OpenSpec.ofChange firewallIgnoresFlagsWrong)

/- THE SECOND FORM. 'bulk': how many values and letters a reading holds, each counted each time it is reached (what is shared counts as often as it is met; a slice's spare places count too). A statement '..UptoSaid' is the law's where the arguments, and the package variables that the reading takes, are together of bulk at most 1048576: NARROWER than '..Said'. Prove '..Said' where nothing that the law and all that it calls make is longer than what came in: it says more and counts as full. Else prove '..UptoSaid'. A law counts once. -/
mutual
def uptoBulk {H : Type} : DataW H → Nat
  | .lit (.string bytes) => bytes.length + 1
  | .lit _ => 1
  | .nil => 1
  | .ptr d => uptoBulk d + 1
  | .slice elems spare => uptoBulkAll elems + uptoBulkAll spare + 1
  | .agg parts => uptoBulkAll parts + 1
  | .iface _ d => uptoBulk d + 1
  | .map entries => uptoBulkEntries entries + 1
  | .held _ => 1
def uptoBulkAll {H : Type} : List (DataW H) → Nat
  | [] => 0
  | d :: r => uptoBulk d + uptoBulkAll r
def uptoBulkEntries {H : Type} : List (Lit × DataW H) → Nat
  | [] => 0
  | x :: r => uptoBulkEntry x + uptoBulkEntries r
def uptoBulkEntry {H : Type} : Lit × DataW H → Nat
  | (.string bytes, d) => bytes.length + uptoBulk d + 1
  | (_, d) => uptoBulk d + 1
 end
def uptoSmall : (H : Type) → List (DataW H) → Bool := fun _ ds => decide (uptoBulkAll ds ≤ 1048576)
def OpenSpec.upto (s : _root_.Go.ChangeSpec) : _root_.Go.OpenSpec := { _root_.Go.OpenSpec.ofChange s with cond := some uptoSmall }

/-- 'stagepostlaw22.FirewallAdmitsOnlyKnownFlows', WHERE WHAT IT READS IS OF BULK AT MOST 1048576: true; the input reads as it did. -/
def firewallAdmitsOnlyKnownFlowsUptoRow : OpenClaim := { program := "ythhoknhjbkkflaa", sum := "78eda0a4d42dacc02f897c7790dbad1019b9a01cadf742ebcfa870659e1ac0f6", func := "stagepost/stagepostlaw22.FirewallAdmitsOnlyKnownFlows", spec := "firewallAdmitsOnlyKnownFlows", unfollowed := true, recurses := true, plainKeys := false, apart := false, narrowed := true }
def FirewallAdmitsOnlyKnownFlowsUptoSaid : Prop := firewallAdmitsOnlyKnownFlowsUptoRow.holds Try.pinned (OpenSpec.upto firewallAdmitsOnlyKnownFlowsSpec)

/-- 'stagepostlaw22.FirewallAdmitsReplies', WHERE WHAT IT READS IS OF BULK AT MOST 1048576: true; the input reads as it did. -/
def firewallAdmitsRepliesUptoRow : OpenClaim := { program := "ythhoknhjbkkflaa", sum := "78eda0a4d42dacc02f897c7790dbad1019b9a01cadf742ebcfa870659e1ac0f6", func := "stagepost/stagepostlaw22.FirewallAdmitsReplies", spec := "firewallAdmitsReplies", unfollowed := true, recurses := true, plainKeys := false, apart := false, narrowed := true }
def FirewallAdmitsRepliesUptoSaid : Prop := firewallAdmitsRepliesUptoRow.holds Try.pinned (OpenSpec.upto firewallAdmitsRepliesSpec)

/-- 'stagepostlaw22.FirewallTableBound', WHERE WHAT IT READS IS OF BULK AT MOST 1048576: true; the input reads as it did. -/
def firewallTableBoundUptoRow : OpenClaim := { program := "ythhoknhjbkkflaa", sum := "78eda0a4d42dacc02f897c7790dbad1019b9a01cadf742ebcfa870659e1ac0f6", func := "stagepost/stagepostlaw22.FirewallTableBound", spec := "firewallTableBound", unfollowed := true, recurses := true, plainKeys := false, apart := false, narrowed := true }
def FirewallTableBoundUptoSaid : Prop := firewallTableBoundUptoRow.holds Try.pinned (OpenSpec.upto firewallTableBoundSpec)

/-- 'stagepostlaw22.FirewallIgnoresFlags', WHERE WHAT IT READS IS OF BULK AT MOST 1048576: true; the input reads as it did. -/
def firewallIgnoresFlagsUptoRow : OpenClaim := { program := "ythhoknhjbkkflaa", sum := "78eda0a4d42dacc02f897c7790dbad1019b9a01cadf742ebcfa870659e1ac0f6", func := "stagepost/stagepostlaw22.FirewallIgnoresFlags", spec := "firewallIgnoresFlags", unfollowed := true, recurses := true, plainKeys := false, apart := false, narrowed := true }
def FirewallIgnoresFlagsUptoSaid : Prop := firewallIgnoresFlagsUptoRow.holds Try.pinned (OpenSpec.upto firewallIgnoresFlagsSpec)

end Rows
end Go.Proofs.Ythhoknhjbkkflaa
