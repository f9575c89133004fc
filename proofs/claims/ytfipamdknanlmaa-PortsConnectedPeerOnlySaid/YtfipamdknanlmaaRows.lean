/-
  No cell of these rows narrows 'for every input' (looked for: loops, veiled, ifaces, maps, wideKeys, modest, calm, conditions, laid).
  DERIVED. THE GIVEN ROWS OF THIS SEAT. 5 by the template 'for every input the law returns true; each argument reads behind the call as it read before'; 0 by the template 'total and deterministic' (their statements: YtfipamdknanlmaaTotals.lean).
  GIVEN WITH THE SEED: the statements are not yours to turn. If you find one false, say at which input.
  Laid BY PROGRAM, IN A SANDBOX (cutbox-rows.mjs): the forced cells as the released guide's own fill.sh prints them over the translation 7ce39c97d0cde2ff… (all of the seat's roots in one cut). By AI agents, Wed Nov 11 2026. No macro, syntax, notation, axiom, sorry.
-/
import Derived.Test.YtfipamdknanlmaaChecked
import GoSem.Claim
import GoSem.ClaimJoined
import GoSem.ClaimMapViews
import Derived.JoinedTies
import Derived.KernelRfl
namespace Go.Proofs.Ytfipamdknanlmaa
/- THE CELL 'sum', in the pinned program and in every row, IS THE sha256 OF THE DUMP (.gsa) THAT YtfipamdknanlmaaProg.lean LOADS. Nothing in Lean hashes anything: it is a label: what it is worth is what the hold of that sum in a sandbox is worth. -/
noncomputable def Try.pinned : Pinned := { name := "ytfipamdknanlmaa", sum := "7ce39c97d0cde2ff1ce8ddfbd645e4fc4ece41a7d59d8d6eeba2273a0fa20430", checked := Try.checked }
namespace Rows
def none {H : Type} : Left H := { results := [], args := [] }

/-- 'stagepostlaw23.PortsMatchReference': WHATEVER THE INPUT: true; the input reads as it did. -/
def portsMatchReferenceSpec : ChangeSpec := { name := "portsMatchReference", fn := fun _ => fun
  | [d1, d2, d3, d4] => { results := [.lit (.bool true)], args := [d1, d2, d3, d4] }
  | _ => none }
def portsMatchReferenceRow : OpenClaim := { program := "ytfipamdknanlmaa", sum := "7ce39c97d0cde2ff1ce8ddfbd645e4fc4ece41a7d59d8d6eeba2273a0fa20430", func := "stagepost/stagepostlaw23.PortsMatchReference", spec := "portsMatchReference", unfollowed := true, recurses := true, plainKeys := false, apart := false }
def PortsMatchReferenceSaid : Prop := portsMatchReferenceRow.holds Try.pinned (OpenSpec.ofChange portsMatchReferenceSpec)

/-- ITS FALSE NEIGHBOUR: 'it returns false'. Refute it at one input. -/
def portsMatchReferenceWrong : ChangeSpec := { name := "portsMatchReference", fn := fun _ => fun
  | [d1, d2, d3, d4] => { results := [.lit (.bool false)], args := [d1, d2, d3, d4] }
  | _ => none }
def PortsMatchReferenceWrongFalsely : Prop := portsMatchReferenceRow.holds Try.pinned (OpenSpec.ofChange portsMatchReferenceWrong)

/-- 'stagepostlaw23.PortsExhaustion': WHATEVER THE INPUT: true; the input reads as it did. -/
def portsExhaustionSpec : ChangeSpec := { name := "portsExhaustion", fn := fun _ => fun
  | [d1, d2, d3] => { results := [.lit (.bool true)], args := [d1, d2, d3] }
  | _ => none }
def portsExhaustionRow : OpenClaim := { program := "ytfipamdknanlmaa", sum := "7ce39c97d0cde2ff1ce8ddfbd645e4fc4ece41a7d59d8d6eeba2273a0fa20430", func := "stagepost/stagepostlaw23.PortsExhaustion", spec := "portsExhaustion", unfollowed := true, recurses := true, plainKeys := false, apart := false }
def PortsExhaustionSaid : Prop := portsExhaustionRow.holds Try.pinned (OpenSpec.ofChange portsExhaustionSpec)

/-- ITS FALSE NEIGHBOUR: 'it returns false'. Refute it at one input. -/
def portsExhaustionWrong : ChangeSpec := { name := "portsExhaustion", fn := fun _ => fun
  | [d1, d2, d3] => { results := [.lit (.bool false)], args := [d1, d2, d3] }
  | _ => none }
def PortsExhaustionWrongFalsely : Prop := portsExhaustionRow.holds Try.pinned (OpenSpec.ofChange portsExhaustionWrong)

/-- 'stagepostlaw23.PortsConnectedPeerOnly': WHATEVER THE INPUT: true; the input reads as it did. -/
def portsConnectedPeerOnlySpec : ChangeSpec := { name := "portsConnectedPeerOnly", fn := fun _ => fun
  | [d1, d2, d3, d4] => { results := [.lit (.bool true)], args := [d1, d2, d3, d4] }
  | _ => none }
def portsConnectedPeerOnlyRow : OpenClaim := { program := "ytfipamdknanlmaa", sum := "7ce39c97d0cde2ff1ce8ddfbd645e4fc4ece41a7d59d8d6eeba2273a0fa20430", func := "stagepost/stagepostlaw23.PortsConnectedPeerOnly", spec := "portsConnectedPeerOnly", unfollowed := true, recurses := true, plainKeys := false, apart := false }
def PortsConnectedPeerOnlySaid : Prop := portsConnectedPeerOnlyRow.holds Try.pinned (OpenSpec.ofChange portsConnectedPeerOnlySpec)

/-- ITS FALSE NEIGHBOUR: 'it returns false'. Refute it at one input. -/
def portsConnectedPeerOnlyWrong : ChangeSpec := { name := "portsConnectedPeerOnly", fn := fun _ => fun
  | [d1, d2, d3, d4] => { results := [.lit (.bool false)], args := [d1, d2, d3, d4] }
  | _ => none }
def PortsConnectedPeerOnlyWrongFalsely : Prop := portsConnectedPeerOnlyRow.holds Try.pinned (OpenSpec.ofChange portsConnectedPeerOnlyWrong)

/-- 'stagepostlaw23.PortsReleaseAll': WHATEVER THE INPUT: true; the input reads as it did. -/
def portsReleaseAllSpec : ChangeSpec := { name := "portsReleaseAll", fn := fun _ => fun
  | [d1, d2] => { results := [.lit (.bool true)], args := [d1, d2] }
  | _ => none }
def portsReleaseAllRow : OpenClaim := { program := "ytfipamdknanlmaa", sum := "7ce39c97d0cde2ff1ce8ddfbd645e4fc4ece41a7d59d8d6eeba2273a0fa20430", func := "stagepost/stagepostlaw23.PortsReleaseAll", spec := "portsReleaseAll", unfollowed := true, recurses := true, plainKeys := false, apart := false }
def PortsReleaseAllSaid : Prop := portsReleaseAllRow.holds Try.pinned (OpenSpec.ofChange portsReleaseAllSpec)

/-- ITS FALSE NEIGHBOUR: 'it returns false'. Refute it at one input. -/
def portsReleaseAllWrong : ChangeSpec := { name := "portsReleaseAll", fn := fun _ => fun
  | [d1, d2] => { results := [.lit (.bool false)], args := [d1, d2] }
  | _ => none }
def PortsReleaseAllWrongFalsely : Prop := portsReleaseAllRow.holds Try.pinned (OpenSpec.ofChange portsReleaseAllWrong)

/-- 'stagepostlaw23.PortsBindUnique': WHATEVER THE INPUT: true; the input reads as it did. -/
def portsBindUniqueSpec : ChangeSpec := { name := "portsBindUnique", fn := fun _ => fun
  | [d] => { results := [.lit (.bool true)], args := [d] }
  | _ => none }
def portsBindUniqueRow : OpenClaim := { program := "ytfipamdknanlmaa", sum := "7ce39c97d0cde2ff1ce8ddfbd645e4fc4ece41a7d59d8d6eeba2273a0fa20430", func := "stagepost/stagepostlaw23.PortsBindUnique", spec := "portsBindUnique", unfollowed := true, recurses := true, plainKeys := false, apart := false }
def PortsBindUniqueSaid : Prop := portsBindUniqueRow.holds Try.pinned (OpenSpec.ofChange portsBindUniqueSpec)

/-- ITS FALSE NEIGHBOUR: 'it returns false'. Refute it at one input. -/
def portsBindUniqueWrong : ChangeSpec := { name := "portsBindUnique", fn := fun _ => fun
  | [d] => { results := [.lit (.bool false)], args := [d] }
  | _ => none }
def PortsBindUniqueWrongFalsely : Prop := portsBindUniqueRow.holds Try.pinned (OpenSpec.ofChange portsBindUniqueWrong)

/- THE SECOND FORM. 'bulk': how many values and letters a reading holds, each counted each time it is reached (what is shared counts as often as it is met; a slice's spare places count too). A statement '..UptoSaid' is the law's where the arguments, and the package variables that the reading takes, are together of bulk at most 1048576: NARROWER than '..Said'. Prove '..Said' where nothing that the law and all that it calls make is longer than what came in: it says more and counts as full. Else prove '..UptoSaid'. A law counts once. -/
mutual
def uptoBulk {H : Type} : DataW H → Nat
  | .lit (.string bytes) => bytes.length + 1
  | .lit _ => 1
  | .nil => 1
  | .ptr d => uptoBulk d + 1
  | .slice elems spare => uptoBulkAll elems + uptoBulkAll spare + 1
  | .agg parts => uptoBulkAll parts + 1
  | .iface _ d => uptoBulk d + 1
  | .map entries => uptoBulkEntries entries + 1
  | .held _ => 1
def uptoBulkAll {H : Type} : List (DataW H) → Nat
  | [] => 0
  | d :: r => uptoBulk d + uptoBulkAll r
def uptoBulkEntries {H : Type} : List (Lit × DataW H) → Nat
  | [] => 0
  | x :: r => uptoBulkEntry x + uptoBulkEntries r
def uptoBulkEntry {H : Type} : Lit × DataW H → Nat
  | (.string bytes, d) => bytes.length + uptoBulk d + 1
  | (_, d) => uptoBulk d + 1
 end
def uptoSmall : (H : Type) → List (DataW H) → Bool := fun _ ds => decide (uptoBulkAll ds ≤ 1048576)
def OpenSpec.upto (s : _root_.Go.ChangeSpec) : _root_.Go.OpenSpec := { _root_.Go.OpenSpec.ofChange s with cond := some uptoSmall }

/-- 'stagepostlaw23.PortsMatchReference', WHERE WHAT IT READS IS OF BULK AT MOST 1048576: true; the input reads as it did. -/
def portsMatchReferenceUptoRow : OpenClaim := { program := "ytfipamdknanlmaa", sum := "7ce39c97d0cde2ff1ce8ddfbd645e4fc4ece41a7d59d8d6eeba2273a0fa20430", func := "stagepost/stagepostlaw23.PortsMatchReference", spec := "portsMatchReference", unfollowed := true, recurses := true, plainKeys := false, apart := false, narrowed := true }
def PortsMatchReferenceUptoSaid : Prop := portsMatchReferenceUptoRow.holds Try.pinned (OpenSpec.upto portsMatchReferenceSpec)

/-- 'stagepostlaw23.PortsExhaustion', WHERE WHAT IT READS IS OF BULK AT MOST 1048576: true; the input reads as it did. -/
def portsExhaustionUptoRow : OpenClaim := { program := "ytfipamdknanlmaa", sum := "7ce39c97d0cde2ff1ce8ddfbd645e4fc4ece41a7d59d8d6eeba2273a0fa20430", func := "stagepost/stagepostlaw23.PortsExhaustion", spec := "portsExhaustion", unfollowed := true, recurses := true, plainKeys := false, apart := false, narrowed := true }
def PortsExhaustionUptoSaid : Prop := portsExhaustionUptoRow.holds Try.pinned (OpenSpec.upto portsExhaustionSpec)

/-- 'stagepostlaw23.PortsConnectedPeerOnly', WHERE WHAT IT READS IS OF BULK AT MOST 1048576: true; the input reads as it did. -/
def portsConnectedPeerOnlyUptoRow : OpenClaim := { program := "ytfipamdknanlmaa", sum := "7ce39c97d0cde2ff1ce8ddfbd645e4fc4ece41a7d59d8d6eeba2273a0fa20430", func := "stagepost/stagepostlaw23.PortsConnectedPeerOnly", spec := "portsConnectedPeerOnly", unfollowed := true, recurses := true, plainKeys := false, apart := false, narrowed := true }
def PortsConnectedPeerOnlyUptoSaid : Prop := portsConnectedPeerOnlyUptoRow.holds Try.pinned (OpenSpec.upto portsConnectedPeerOnlySpec)

/-- 'stagepostlaw23.PortsReleaseAll', WHERE WHAT IT READS IS OF BULK AT MOST 1048576: true; the input reads as it did. -/
def portsReleaseAllUptoRow : OpenClaim := { program := "ytfipamdknanlmaa", sum := "7ce39c97d0cde2ff1ce8ddfbd645e4fc4ece41a7d59d8d6eeba2273a0fa20430", func := "stagepost/stagepostlaw23.PortsReleaseAll", spec := "portsReleaseAll", unfollowed := true, recurses := true, plainKeys := false, apart := false, narrowed := true }
def PortsReleaseAllUptoSaid : Prop := portsReleaseAllUptoRow.holds Try.pinned (OpenSpec.upto portsReleaseAllSpec)

/-- 'stagepostlaw23.PortsBindUnique', WHERE WHAT IT READS IS OF BULK AT MOST 1048576: true; the input reads as it did. -/
def portsBindUniqueUptoRow : OpenClaim := { program := "ytfipamdknanlmaa", sum := "7ce39c97d0cde2ff1ce8ddfbd645e4fc4ece41a7d59d8d6eeba2273a0fa20430", func := "stagepost/stagepostlaw23.PortsBindUnique", spec := "portsBindUnique", unfollowed := true, recurses := true, plainKeys := false, apart := false, narrowed := true }
def PortsBindUniqueUptoSaid : Prop := portsBindUniqueUptoRow.holds Try.pinned (OpenSpec.upto portsBindUniqueSpec)

end Rows
end Go.Proofs.Ytfipamdknanlmaa
