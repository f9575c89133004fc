/-
  NARROWER THAN 'FOR EVERY INPUT', by the rows' own cells (each row's printed sentence says how): PortsResetReachesOwner: laid.
  DERIVED. THE GIVEN ROWS OF THIS SEAT. 1 by the template 'for every input the law returns true; each argument reads behind the call as it read before'; 0 by the template 'total and deterministic' (their statements: YthdnonoheochhaaGreatDoorTotals.lean).
  GIVEN WITH THE SEED: the statements are not yours to turn. If you find one false, say at which input.
  Laid BY PROGRAM, IN A SANDBOX (cutbox-rows.mjs): the forced cells as the released guide's own fill.sh prints them over the translation e0278ea47a9ad279… (all of the seat's roots in one cut). By AI agents, Wed Nov 11 2026. No macro, syntax, notation, axiom, sorry.
-/
import Derived.Test.YthdnonoheochhaaGreatDoorChecked
import GoSem.Claim
import GoSem.ClaimJoined
import GoSem.ClaimMapViews
import Derived.JoinedTies
import Derived.KernelRfl
namespace Go.Proofs.YthdnonoheochhaaGreatDoor
/- THE CELL 'sum', in the pinned program and in every row, IS THE sha256 OF THE DUMP (.gsa) THAT YthdnonoheochhaaGreatDoorProg.lean LOADS. Nothing in Lean hashes anything: it is a label: what it is worth is what the hold of that sum in a sandbox is worth. -/
noncomputable def Tryz.pinned : Pinned := { name := "ythdnonoheochhaagreatdoor", sum := "e0278ea47a9ad279495c779357152308f734fa89f5574105924f139ca708d420", checked := Tryz.checked }
namespace Rows
def none {H : Type} : Left H := { results := [], args := [] }

/- WHAT THE LISTED PACKAGE-LEVEL VARIABLES READ AS WHEN THE CALL BEGINS. Each datum BY PROGRAM (the guide's laid-datum.mjs) off the statement by which the dump's own 'gosem.cut.vars' lays the variable. In a bare row this is a premise. The card (YthdnonoheochhaaGreatDoorCards.lean) ties it to the program's text. -/
def laid_stagepost_tcpstate_triples {H : Type} : DataW H := .agg [.agg [.lit (.int .i64 0), .lit (.int .i64 1), .lit (.int .i64 1)], .agg [.lit (.int .i64 0), .lit (.int .i64 2), .lit (.int .i64 2)], .agg [.lit (.int .i64 1), .lit (.int .i64 3), .lit (.int .i64 3)], .agg [.lit (.int .i64 1), .lit (.int .i64 2), .lit (.int .i64 2)], .agg [.lit (.int .i64 1), .lit (.int .i64 5), .lit (.int .i64 0)], .agg [.lit (.int .i64 2), .lit (.int .i64 4), .lit (.int .i64 3)], .agg [.lit (.int .i64 2), .lit (.int .i64 5), .lit (.int .i64 4)], .agg [.lit (.int .i64 2), .lit (.int .i64 6), .lit (.int .i64 6)], .agg [.lit (.int .i64 3), .lit (.int .i64 5), .lit (.int .i64 4)], .agg [.lit (.int .i64 3), .lit (.int .i64 6), .lit (.int .i64 6)], .agg [.lit (.int .i64 4), .lit (.int .i64 7), .lit (.int .i64 5)], .agg [.lit (.int .i64 4), .lit (.int .i64 6), .lit (.int .i64 7)], .agg [.lit (.int .i64 5), .lit (.int .i64 6), .lit (.int .i64 9)], .agg [.lit (.int .i64 6), .lit (.int .i64 5), .lit (.int .i64 8)], .agg [.lit (.int .i64 7), .lit (.int .i64 7), .lit (.int .i64 9)], .agg [.lit (.int .i64 8), .lit (.int .i64 7), .lit (.int .i64 0)]]
def laid_stagepost_congestion_errSize {H : Type} : DataW H := .iface "*errors.errorString" (.ptr (.agg [.lit (.string [115, 101, 103, 109, 101, 110, 116, 32, 115, 105, 122, 101, 32, 111, 117, 116, 32, 111, 102, 32, 114, 97, 110, 103, 101])]))

/-- 'stagepostlaw23.PortsResetReachesOwner': WHATEVER THE INPUT: true; the input reads as it did. -/
def portsResetReachesOwnerSpec : ChangeSpec := { name := "portsResetReachesOwner", fn := fun _ => fun
  | [d1, d2, d3, d4] => { results := [.lit (.bool true)], args := [d1, d2, d3, d4] }
  | _ => none }
def portsResetReachesOwnerRow : OpenClaim := { program := "ythdnonoheochhaagreatdoor", sum := "e0278ea47a9ad279495c779357152308f734fa89f5574105924f139ca708d420", func := "stagepost/stagepostlaw23.PortsResetReachesOwner", spec := "portsResetReachesOwner", inPlace := ["internal/reflectlite.TypeOf", "internal/abi.NoEscape"], unfollowed := true, recurses := true, named := ["stagepost/congestion.errSize", "stagepost/tcpstate.triples"], plainKeys := false, apart := false, laid := [("stagepost/tcpstate.triples", laid_stagepost_tcpstate_triples), ("stagepost/congestion.errSize", laid_stagepost_congestion_errSize)] }
def PortsResetReachesOwnerSaid : Prop := portsResetReachesOwnerRow.holds Tryz.pinned (OpenSpec.ofChange portsResetReachesOwnerSpec)

/-- ITS FALSE NEIGHBOUR: 'it returns false'. Refute it at one input. -/
def portsResetReachesOwnerWrong : ChangeSpec := { name := "portsResetReachesOwner", fn := fun _ => fun
  | [d1, d2, d3, d4] => { results := [.lit (.bool false)], args := [d1, d2, d3, d4] }
  | _ => none }
def PortsResetReachesOwnerWrongFalsely : Prop := portsResetReachesOwnerRow.holds Tryz.pinned (OpenSpec.ofChange portsResetReachesOwnerWrong)

/- THE SECOND FORM. 'bulk': how many values and letters a reading holds, each counted each time it is reached (what is shared counts as often as it is met; a slice's spare places count too). A statement '..UptoSaid' is the law's where the arguments, and the package variables that the reading takes, are together of bulk at most 1048576: NARROWER than '..Said'. Prove '..Said' where nothing that the law and all that it calls make is longer than what came in: it says more and counts as full. Else prove '..UptoSaid'. A law counts once. -/
mutual
def uptoBulk {H : Type} : DataW H → Nat
  | .lit (.string bytes) => bytes.length + 1
  | .lit _ => 1
  | .nil => 1
  | .ptr d => uptoBulk d + 1
  | .slice elems spare => uptoBulkAll elems + uptoBulkAll spare + 1
  | .agg parts => uptoBulkAll parts + 1
  | .iface _ d => uptoBulk d + 1
  | .map entries => uptoBulkEntries entries + 1
  | .held _ => 1
def uptoBulkAll {H : Type} : List (DataW H) → Nat
  | [] => 0
  | d :: r => uptoBulk d + uptoBulkAll r
def uptoBulkEntries {H : Type} : List (Lit × DataW H) → Nat
  | [] => 0
  | x :: r => uptoBulkEntry x + uptoBulkEntries r
def uptoBulkEntry {H : Type} : Lit × DataW H → Nat
  | (.string bytes, d) => bytes.length + uptoBulk d + 1
  | (_, d) => uptoBulk d + 1
 end
def uptoSmall : (H : Type) → List (DataW H) → Bool := fun _ ds => decide (uptoBulkAll ds ≤ 1048576)
def OpenSpec.upto (s : _root_.Go.ChangeSpec) : _root_.Go.OpenSpec := { _root_.Go.OpenSpec.ofChange s with cond := some uptoSmall }

/-- 'stagepostlaw23.PortsResetReachesOwner', WHERE WHAT IT READS IS OF BULK AT MOST 1048576: true; the input reads as it did. -/
def portsResetReachesOwnerUptoRow : OpenClaim := { program := "ythdnonoheochhaagreatdoor", sum := "e0278ea47a9ad279495c779357152308f734fa89f5574105924f139ca708d420", func := "stagepost/stagepostlaw23.PortsResetReachesOwner", spec := "portsResetReachesOwner", inPlace := ["internal/reflectlite.TypeOf", "internal/abi.NoEscape"], unfollowed := true, recurses := true, named := ["stagepost/congestion.errSize", "stagepost/tcpstate.triples"], plainKeys := false, apart := false, laid := [("stagepost/tcpstate.triples", laid_stagepost_tcpstate_triples), ("stagepost/congestion.errSize", laid_stagepost_congestion_errSize)], narrowed := true }
def PortsResetReachesOwnerUptoSaid : Prop := portsResetReachesOwnerUptoRow.holds Tryz.pinned (OpenSpec.upto portsResetReachesOwnerSpec)

end Rows
end Go.Proofs.YthdnonoheochhaaGreatDoor
