/-
  NARROWER THAN 'FOR EVERY INPUT', by the rows' own cells (each row's printed sentence says how): SocketCallsInOrder: laid · SocketDatagrams: laid · SocketBlindReset: laid · SocketTimeout: laid · SocketPortsExclusive: laid · SocketCloseCompletesCalls: laid · SocketBacklog: laid.
  DERIVED. THE GIVEN ROWS OF THIS SEAT. 7 by the template 'for every input the law returns true; each argument reads behind the call as it read before'; 0 by the template 'total and deterministic' (their statements: YtockaipodnapjaaGreatDoorTotals.lean).
  GIVEN WITH THE SEED: the statements are not yours to turn. If you find one false, say at which input.
  Laid BY PROGRAM, IN A SANDBOX (cutbox-rows.mjs): the forced cells as the released guide's own fill.sh prints them over the translation e8aabe4809cccd19… (all of the seat's roots in one cut). By AI agents, Wed Nov 11 2026. No macro, syntax, notation, axiom, sorry.
-/
import Derived.Test.YtockaipodnapjaaGreatDoorChecked
import GoSem.Claim
import GoSem.ClaimJoined
import GoSem.ClaimMapViews
import Derived.JoinedTies
import Derived.KernelRfl
namespace Go.Proofs.YtockaipodnapjaaGreatDoor
/- THE CELL 'sum', in the pinned program and in every row, IS THE sha256 OF THE DUMP (.gsa) THAT YtockaipodnapjaaGreatDoorProg.lean LOADS. Nothing in Lean hashes anything: it is a label: what it is worth is what the hold of that sum in a sandbox is worth. -/
noncomputable def Tryz.pinned : Pinned := { name := "ytockaipodnapjaagreatdoor", sum := "e8aabe4809cccd192080a275b2ae124ea4f7f59ad47f4a3c0d335d15349e9314", checked := Tryz.checked }
namespace Rows
def none {H : Type} : Left H := { results := [], args := [] }

/- WHAT THE LISTED PACKAGE-LEVEL VARIABLES READ AS WHEN THE CALL BEGINS. Each datum BY PROGRAM (the guide's laid-datum.mjs) off the statement by which the dump's own 'gosem.cut.vars' lays the variable. In a bare row this is a premise. The card (YtockaipodnapjaaGreatDoorCards.lean) ties it to the program's text. -/
def laid_stagepost_tcpstate_triples {H : Type} : DataW H := .agg [.agg [.lit (.int .i64 0), .lit (.int .i64 1), .lit (.int .i64 1)], .agg [.lit (.int .i64 0), .lit (.int .i64 2), .lit (.int .i64 2)], .agg [.lit (.int .i64 1), .lit (.int .i64 3), .lit (.int .i64 3)], .agg [.lit (.int .i64 1), .lit (.int .i64 2), .lit (.int .i64 2)], .agg [.lit (.int .i64 1), .lit (.int .i64 5), .lit (.int .i64 0)], .agg [.lit (.int .i64 2), .lit (.int .i64 4), .lit (.int .i64 3)], .agg [.lit (.int .i64 2), .lit (.int .i64 5), .lit (.int .i64 4)], .agg [.lit (.int .i64 2), .lit (.int .i64 6), .lit (.int .i64 6)], .agg [.lit (.int .i64 3), .lit (.int .i64 5), .lit (.int .i64 4)], .agg [.lit (.int .i64 3), .lit (.int .i64 6), .lit (.int .i64 6)], .agg [.lit (.int .i64 4), .lit (.int .i64 7), .lit (.int .i64 5)], .agg [.lit (.int .i64 4), .lit (.int .i64 6), .lit (.int .i64 7)], .agg [.lit (.int .i64 5), .lit (.int .i64 6), .lit (.int .i64 9)], .agg [.lit (.int .i64 6), .lit (.int .i64 5), .lit (.int .i64 8)], .agg [.lit (.int .i64 7), .lit (.int .i64 7), .lit (.int .i64 9)], .agg [.lit (.int .i64 8), .lit (.int .i64 7), .lit (.int .i64 0)]]
def laid_errors_errorType {H : Type} : DataW H := .iface "internal/reflectlite.rtype" (.agg [.ptr (.lit (.string [101, 114, 114, 111, 114]))])
def laid_stagepost_congestion_errSize {H : Type} : DataW H := .iface "*errors.errorString" (.ptr (.agg [.lit (.string [115, 101, 103, 109, 101, 110, 116, 32, 115, 105, 122, 101, 32, 111, 117, 116, 32, 111, 102, 32, 114, 97, 110, 103, 101])]))

/-- 'stagepostlaw24.SocketCallsInOrder': WHATEVER THE INPUT: true; the input reads as it did. -/
def socketCallsInOrderSpec : ChangeSpec := { name := "socketCallsInOrder", fn := fun _ => fun
  | [d1, d2, d3, d4] => { results := [.lit (.bool true)], args := [d1, d2, d3, d4] }
  | _ => none }
def socketCallsInOrderRow : OpenClaim := { program := "ytockaipodnapjaagreatdoor", sum := "e8aabe4809cccd192080a275b2ae124ea4f7f59ad47f4a3c0d335d15349e9314", func := "stagepost/stagepostlaw24.SocketCallsInOrder", spec := "socketCallsInOrder", inPlace := ["internal/reflectlite.TypeOf", "internal/abi.NoEscape", "internal/bytealg.MakeNoZero", "internal/reflectlite.ValueOf", "(internal/reflectlite.Value).Type", "(internal/reflectlite.Value).IsNil", "(internal/reflectlite.Value).Elem", "(internal/reflectlite.Value).Set"], unfollowed := true, recurses := true, named := ["stagepost/congestion.errSize", "stagepost/tcpstate.triples", "errors.errorType"], plainKeys := false, apart := false, laid := [("stagepost/tcpstate.triples", laid_stagepost_tcpstate_triples), ("errors.errorType", laid_errors_errorType), ("stagepost/congestion.errSize", laid_stagepost_congestion_errSize)] }
def SocketCallsInOrderSaid : Prop := socketCallsInOrderRow.holds Tryz.pinned (OpenSpec.ofChange socketCallsInOrderSpec)

/-- ITS FALSE NEIGHBOUR: 'it returns false'. Refute it at one input. -/
def socketCallsInOrderWrong : ChangeSpec := { name := "socketCallsInOrder", fn := fun _ => fun
  | [d1, d2, d3, d4] => { results := [.lit (.bool false)], args := [d1, d2, d3, d4] }
  | _ => none }
def SocketCallsInOrderWrongFalsely : Prop := socketCallsInOrderRow.holds Tryz.pinned (OpenSpec.ofChange socketCallsInOrderWrong)

/-- 'stagepostlaw24.SocketDatagrams': WHATEVER THE INPUT: true; the input reads as it did. -/
def socketDatagramsSpec : ChangeSpec := { name := "socketDatagrams", fn := fun _ => fun
  | [d1, d2, d3, d4] => { results := [.lit (.bool true)], args := [d1, d2, d3, d4] }
  | _ => none }
def socketDatagramsRow : OpenClaim := { program := "ytockaipodnapjaagreatdoor", sum := "e8aabe4809cccd192080a275b2ae124ea4f7f59ad47f4a3c0d335d15349e9314", func := "stagepost/stagepostlaw24.SocketDatagrams", spec := "socketDatagrams", inPlace := ["internal/reflectlite.TypeOf", "internal/abi.NoEscape", "internal/bytealg.MakeNoZero", "internal/reflectlite.ValueOf", "(internal/reflectlite.Value).Type", "(internal/reflectlite.Value).IsNil", "(internal/reflectlite.Value).Elem", "(internal/reflectlite.Value).Set"], unfollowed := true, recurses := true, named := ["stagepost/congestion.errSize", "stagepost/tcpstate.triples", "errors.errorType"], plainKeys := false, apart := false, laid := [("stagepost/tcpstate.triples", laid_stagepost_tcpstate_triples), ("errors.errorType", laid_errors_errorType), ("stagepost/congestion.errSize", laid_stagepost_congestion_errSize)] }
def SocketDatagramsSaid : Prop := socketDatagramsRow.holds Tryz.pinned (OpenSpec.ofChange socketDatagramsSpec)

/-- ITS FALSE NEIGHBOUR: 'it returns false'. Refute it at one input. -/
def socketDatagramsWrong : ChangeSpec := { name := "socketDatagrams", fn := fun _ => fun
  | [d1, d2, d3, d4] => { results := [.lit (.bool false)], args := [d1, d2, d3, d4] }
  | _ => none }
def SocketDatagramsWrongFalsely : Prop := socketDatagramsRow.holds Tryz.pinned (OpenSpec.ofChange socketDatagramsWrong)

/-- 'stagepostlaw24.SocketBlindReset': WHATEVER THE INPUT: true; the input reads as it did. -/
def socketBlindResetSpec : ChangeSpec := { name := "socketBlindReset", fn := fun _ => fun
  | [d1, d2, d3, d4] => { results := [.lit (.bool true)], args := [d1, d2, d3, d4] }
  | _ => none }
def socketBlindResetRow : OpenClaim := { program := "ytockaipodnapjaagreatdoor", sum := "e8aabe4809cccd192080a275b2ae124ea4f7f59ad47f4a3c0d335d15349e9314", func := "stagepost/stagepostlaw24.SocketBlindReset", spec := "socketBlindReset", inPlace := ["internal/reflectlite.TypeOf", "internal/abi.NoEscape", "internal/bytealg.MakeNoZero", "internal/reflectlite.ValueOf", "(internal/reflectlite.Value).Type", "(internal/reflectlite.Value).IsNil", "(internal/reflectlite.Value).Elem", "(internal/reflectlite.Value).Set"], unfollowed := true, recurses := true, named := ["stagepost/congestion.errSize", "stagepost/tcpstate.triples", "errors.errorType"], plainKeys := false, apart := false, laid := [("stagepost/tcpstate.triples", laid_stagepost_tcpstate_triples), ("errors.errorType", laid_errors_errorType), ("stagepost/congestion.errSize", laid_stagepost_congestion_errSize)] }
def SocketBlindResetSaid : Prop := socketBlindResetRow.holds Tryz.pinned (OpenSpec.ofChange socketBlindResetSpec)

/-- ITS FALSE NEIGHBOUR: 'it returns false'. Refute it at one input. -/
def socketBlindResetWrong : ChangeSpec := { name := "socketBlindReset", fn := fun _ => fun
  | [d1, d2, d3, d4] => { results := [.lit (.bool false)], args := [d1, d2, d3, d4] }
  | _ => none }
def SocketBlindResetWrongFalsely : Prop := socketBlindResetRow.holds Tryz.pinned (OpenSpec.ofChange socketBlindResetWrong)

/-- 'stagepostlaw24.SocketTimeout': WHATEVER THE INPUT: true; the input reads as it did. -/
def socketTimeoutSpec : ChangeSpec := { name := "socketTimeout", fn := fun _ => fun
  | [d1, d2, d3] => { results := [.lit (.bool true)], args := [d1, d2, d3] }
  | _ => none }
def socketTimeoutRow : OpenClaim := { program := "ytockaipodnapjaagreatdoor", sum := "e8aabe4809cccd192080a275b2ae124ea4f7f59ad47f4a3c0d335d15349e9314", func := "stagepost/stagepostlaw24.SocketTimeout", spec := "socketTimeout", inPlace := ["internal/reflectlite.TypeOf", "internal/abi.NoEscape", "internal/bytealg.MakeNoZero", "internal/reflectlite.ValueOf", "(internal/reflectlite.Value).Type", "(internal/reflectlite.Value).IsNil", "(internal/reflectlite.Value).Elem", "(internal/reflectlite.Value).Set"], unfollowed := true, recurses := true, named := ["stagepost/congestion.errSize", "stagepost/tcpstate.triples", "errors.errorType"], plainKeys := false, apart := false, laid := [("stagepost/tcpstate.triples", laid_stagepost_tcpstate_triples), ("errors.errorType", laid_errors_errorType), ("stagepost/congestion.errSize", laid_stagepost_congestion_errSize)] }
def SocketTimeoutSaid : Prop := socketTimeoutRow.holds Tryz.pinned (OpenSpec.ofChange socketTimeoutSpec)

/-- ITS FALSE NEIGHBOUR: 'it returns false'. Refute it at one input. -/
def socketTimeoutWrong : ChangeSpec := { name := "socketTimeout", fn := fun _ => fun
  | [d1, d2, d3] => { results := [.lit (.bool false)], args := [d1, d2, d3] }
  | _ => none }
def SocketTimeoutWrongFalsely : Prop := socketTimeoutRow.holds Tryz.pinned (OpenSpec.ofChange socketTimeoutWrong)

/-- 'stagepostlaw24.SocketPortsExclusive': WHATEVER THE INPUT: true; the input reads as it did. -/
def socketPortsExclusiveSpec : ChangeSpec := { name := "socketPortsExclusive", fn := fun _ => fun
  | [d1, d2, d3] => { results := [.lit (.bool true)], args := [d1, d2, d3] }
  | _ => none }
def socketPortsExclusiveRow : OpenClaim := { program := "ytockaipodnapjaagreatdoor", sum := "e8aabe4809cccd192080a275b2ae124ea4f7f59ad47f4a3c0d335d15349e9314", func := "stagepost/stagepostlaw24.SocketPortsExclusive", spec := "socketPortsExclusive", inPlace := ["internal/reflectlite.TypeOf", "internal/abi.NoEscape", "internal/bytealg.MakeNoZero", "internal/reflectlite.ValueOf", "(internal/reflectlite.Value).Type", "(internal/reflectlite.Value).IsNil", "(internal/reflectlite.Value).Elem", "(internal/reflectlite.Value).Set"], unfollowed := true, recurses := true, named := ["stagepost/congestion.errSize", "stagepost/tcpstate.triples", "errors.errorType"], plainKeys := false, apart := false, laid := [("stagepost/tcpstate.triples", laid_stagepost_tcpstate_triples), ("errors.errorType", laid_errors_errorType), ("stagepost/congestion.errSize", laid_stagepost_congestion_errSize)] }
def SocketPortsExclusiveSaid : Prop := socketPortsExclusiveRow.holds Tryz.pinned (OpenSpec.ofChange socketPortsExclusiveSpec)

/-- ITS FALSE NEIGHBOUR: 'it returns false'. Refute it at one input. -/
def socketPortsExclusiveWrong : ChangeSpec := { name := "socketPortsExclusive", fn := fun _ => fun
  | [d1, d2, d3] => { results := [.lit (.bool false)], args := [d1, d2, d3] }
  | _ => none }
def SocketPortsExclusiveWrongFalsely : Prop := socketPortsExclusiveRow.holds Tryz.pinned (OpenSpec.ofChange socketPortsExclusiveWrong)

/-- 'stagepostlaw24.SocketCloseCompletesCalls': WHATEVER THE INPUT: true; the input reads as it did. -/
def socketCloseCompletesCallsSpec : ChangeSpec := { name := "socketCloseCompletesCalls", fn := fun _ => fun
  | [d1, d2, d3] => { results := [.lit (.bool true)], args := [d1, d2, d3] }
  | _ => none }
def socketCloseCompletesCallsRow : OpenClaim := { program := "ytockaipodnapjaagreatdoor", sum := "e8aabe4809cccd192080a275b2ae124ea4f7f59ad47f4a3c0d335d15349e9314", func := "stagepost/stagepostlaw24.SocketCloseCompletesCalls", spec := "socketCloseCompletesCalls", inPlace := ["internal/reflectlite.TypeOf", "internal/abi.NoEscape", "internal/bytealg.MakeNoZero", "internal/reflectlite.ValueOf", "(internal/reflectlite.Value).Type", "(internal/reflectlite.Value).IsNil", "(internal/reflectlite.Value).Elem", "(internal/reflectlite.Value).Set"], unfollowed := true, recurses := true, named := ["stagepost/congestion.errSize", "stagepost/tcpstate.triples", "errors.errorType"], plainKeys := false, apart := false, laid := [("stagepost/tcpstate.triples", laid_stagepost_tcpstate_triples), ("errors.errorType", laid_errors_errorType), ("stagepost/congestion.errSize", laid_stagepost_congestion_errSize)] }
def SocketCloseCompletesCallsSaid : Prop := socketCloseCompletesCallsRow.holds Tryz.pinned (OpenSpec.ofChange socketCloseCompletesCallsSpec)

/-- ITS FALSE NEIGHBOUR: 'it returns false'. Refute it at one input. -/
def socketCloseCompletesCallsWrong : ChangeSpec := { name := "socketCloseCompletesCalls", fn := fun _ => fun
  | [d1, d2, d3] => { results := [.lit (.bool false)], args := [d1, d2, d3] }
  | _ => none }
def SocketCloseCompletesCallsWrongFalsely : Prop := socketCloseCompletesCallsRow.holds Tryz.pinned (OpenSpec.ofChange socketCloseCompletesCallsWrong)

/-- 'stagepostlaw24.SocketBacklog': WHATEVER THE INPUT: true; the input reads as it did. -/
def socketBacklogSpec : ChangeSpec := { name := "socketBacklog", fn := fun _ => fun
  | [d1, d2, d3, d4] => { results := [.lit (.bool true)], args := [d1, d2, d3, d4] }
  | _ => none }
def socketBacklogRow : OpenClaim := { program := "ytockaipodnapjaagreatdoor", sum := "e8aabe4809cccd192080a275b2ae124ea4f7f59ad47f4a3c0d335d15349e9314", func := "stagepost/stagepostlaw24.SocketBacklog", spec := "socketBacklog", inPlace := ["internal/reflectlite.TypeOf", "internal/abi.NoEscape", "internal/bytealg.MakeNoZero", "internal/reflectlite.ValueOf", "(internal/reflectlite.Value).Type", "(internal/reflectlite.Value).IsNil", "(internal/reflectlite.Value).Elem", "(internal/reflectlite.Value).Set"], unfollowed := true, recurses := true, named := ["stagepost/congestion.errSize", "stagepost/tcpstate.triples", "errors.errorType"], plainKeys := false, apart := false, laid := [("stagepost/tcpstate.triples", laid_stagepost_tcpstate_triples), ("errors.errorType", laid_errors_errorType), ("stagepost/congestion.errSize", laid_stagepost_congestion_errSize)] }
def SocketBacklogSaid : Prop := socketBacklogRow.holds Tryz.pinned (OpenSpec.ofChange socketBacklogSpec)

/-- ITS FALSE NEIGHBOUR: 'it returns false'. Refute it at one input. -/
def socketBacklogWrong : ChangeSpec := { name := "socketBacklog", fn := fun _ => fun
  | [d1, d2, d3, d4] => { results := [.lit (.bool false)], args := [d1, d2, d3, d4] }
  | _ => none }
def SocketBacklogWrongFalsely : Prop := socketBacklogRow.holds Tryz.pinned (OpenSpec.ofChange socketBacklogWrong)

/- THE SECOND FORM. 'bulk': how many values and letters a reading holds, each counted each time it is reached (what is shared counts as often as it is met; a slice's spare places count too). A statement '..UptoSaid' is the law's where the arguments, and the package variables that the reading takes, are together of bulk at most 1048576: NARROWER than '..Said'. Prove '..Said' where nothing that the law and all that it calls make is longer than what came in: it says more and counts as full. Else prove '..UptoSaid'. A law counts once. -/
mutual
def uptoBulk {H : Type} : DataW H → Nat
  | .lit (.string bytes) => bytes.length + 1
  | .lit _ => 1
  | .nil => 1
  | .ptr d => uptoBulk d + 1
  | .slice elems spare => uptoBulkAll elems + uptoBulkAll spare + 1
  | .agg parts => uptoBulkAll parts + 1
  | .iface _ d => uptoBulk d + 1
  | .map entries => uptoBulkEntries entries + 1
  | .held _ => 1
def uptoBulkAll {H : Type} : List (DataW H) → Nat
  | [] => 0
  | d :: r => uptoBulk d + uptoBulkAll r
def uptoBulkEntries {H : Type} : List (Lit × DataW H) → Nat
  | [] => 0
  | x :: r => uptoBulkEntry x + uptoBulkEntries r
def uptoBulkEntry {H : Type} : Lit × DataW H → Nat
  | (.string bytes, d) => bytes.length + uptoBulk d + 1
  | (_, d) => uptoBulk d + 1
 end
def uptoSmall : (H : Type) → List (DataW H) → Bool := fun _ ds => decide (uptoBulkAll ds ≤ 1048576)
def OpenSpec.upto (s : _root_.Go.ChangeSpec) : _root_.Go.OpenSpec := { _root_.Go.OpenSpec.ofChange s with cond := some uptoSmall }

/-- 'stagepostlaw24.SocketCallsInOrder', WHERE WHAT IT READS IS OF BULK AT MOST 1048576: true; the input reads as it did. -/
def socketCallsInOrderUptoRow : OpenClaim := { program := "ytockaipodnapjaagreatdoor", sum := "e8aabe4809cccd192080a275b2ae124ea4f7f59ad47f4a3c0d335d15349e9314", func := "stagepost/stagepostlaw24.SocketCallsInOrder", spec := "socketCallsInOrder", inPlace := ["internal/reflectlite.TypeOf", "internal/abi.NoEscape", "internal/bytealg.MakeNoZero", "internal/reflectlite.ValueOf", "(internal/reflectlite.Value).Type", "(internal/reflectlite.Value).IsNil", "(internal/reflectlite.Value).Elem", "(internal/reflectlite.Value).Set"], unfollowed := true, recurses := true, named := ["stagepost/congestion.errSize", "stagepost/tcpstate.triples", "errors.errorType"], plainKeys := false, apart := false, laid := [("stagepost/tcpstate.triples", laid_stagepost_tcpstate_triples), ("errors.errorType", laid_errors_errorType), ("stagepost/congestion.errSize", laid_stagepost_congestion_errSize)], narrowed := true }
def SocketCallsInOrderUptoSaid : Prop := socketCallsInOrderUptoRow.holds Tryz.pinned (OpenSpec.upto socketCallsInOrderSpec)

/-- 'stagepostlaw24.SocketDatagrams', WHERE WHAT IT READS IS OF BULK AT MOST 1048576: true; the input reads as it did. -/
def socketDatagramsUptoRow : OpenClaim := { program := "ytockaipodnapjaagreatdoor", sum := "e8aabe4809cccd192080a275b2ae124ea4f7f59ad47f4a3c0d335d15349e9314", func := "stagepost/stagepostlaw24.SocketDatagrams", spec := "socketDatagrams", inPlace := ["internal/reflectlite.TypeOf", "internal/abi.NoEscape", "internal/bytealg.MakeNoZero", "internal/reflectlite.ValueOf", "(internal/reflectlite.Value).Type", "(internal/reflectlite.Value).IsNil", "(internal/reflectlite.Value).Elem", "(internal/reflectlite.Value).Set"], unfollowed := true, recurses := true, named := ["stagepost/congestion.errSize", "stagepost/tcpstate.triples", "errors.errorType"], plainKeys := false, apart := false, laid := [("stagepost/tcpstate.triples", laid_stagepost_tcpstate_triples), ("errors.errorType", laid_errors_errorType), ("stagepost/congestion.errSize", laid_stagepost_congestion_errSize)], narrowed := true }
def SocketDatagramsUptoSaid : Prop := socketDatagramsUptoRow.holds Tryz.pinned (OpenSpec.upto socketDatagramsSpec)

/-- 'stagepostlaw24.SocketBlindReset', WHERE WHAT IT READS IS OF BULK AT MOST 1048576: true; the input reads as it did. -/
def socketBlindResetUptoRow : OpenClaim := { program := "ytockaipodnapjaagreatdoor", sum := "e8aabe4809cccd192080a275b2ae124ea4f7f59ad47f4a3c0d335d15349e9314", func := "stagepost/stagepostlaw24.SocketBlindReset", spec := "socketBlindReset", inPlace := ["internal/reflectlite.TypeOf", "internal/abi.NoEscape", "internal/bytealg.MakeNoZero", "internal/reflectlite.ValueOf", "(internal/reflectlite.Value).Type", "(internal/reflectlite.Value).IsNil", "(internal/reflectlite.Value).Elem", "(internal/reflectlite.Value).Set"], unfollowed := true, recurses := true, named := ["stagepost/congestion.errSize", "stagepost/tcpstate.triples", "errors.errorType"], plainKeys := false, apart := false, laid := [("stagepost/tcpstate.triples", laid_stagepost_tcpstate_triples), ("errors.errorType", laid_errors_errorType), ("stagepost/congestion.errSize", laid_stagepost_congestion_errSize)], narrowed := true }
def SocketBlindResetUptoSaid : Prop := socketBlindResetUptoRow.holds Tryz.pinned (OpenSpec.upto socketBlindResetSpec)

/-- 'stagepostlaw24.SocketTimeout', WHERE WHAT IT READS IS OF BULK AT MOST 1048576: true; the input reads as it did. -/
def socketTimeoutUptoRow : OpenClaim := { program := "ytockaipodnapjaagreatdoor", sum := "e8aabe4809cccd192080a275b2ae124ea4f7f59ad47f4a3c0d335d15349e9314", func := "stagepost/stagepostlaw24.SocketTimeout", spec := "socketTimeout", inPlace := ["internal/reflectlite.TypeOf", "internal/abi.NoEscape", "internal/bytealg.MakeNoZero", "internal/reflectlite.ValueOf", "(internal/reflectlite.Value).Type", "(internal/reflectlite.Value).IsNil", "(internal/reflectlite.Value).Elem", "(internal/reflectlite.Value).Set"], unfollowed := true, recurses := true, named := ["stagepost/congestion.errSize", "stagepost/tcpstate.triples", "errors.errorType"], plainKeys := false, apart := false, laid := [("stagepost/tcpstate.triples", laid_stagepost_tcpstate_triples), ("errors.errorType", laid_errors_errorType), ("stagepost/congestion.errSize", laid_stagepost_congestion_errSize)], narrowed := true }
def SocketTimeoutUptoSaid : Prop := socketTimeoutUptoRow.holds Tryz.pinned (OpenSpec.upto socketTimeoutSpec)

/-- 'stagepostlaw24.SocketPortsExclusive', WHERE WHAT IT READS IS OF BULK AT MOST 1048576: true; the input reads as it did. -/
def socketPortsExclusiveUptoRow : OpenClaim := { program := "ytockaipodnapjaagreatdoor", sum := "e8aabe4809cccd192080a275b2ae124ea4f7f59ad47f4a3c0d335d15349e9314", func := "stagepost/stagepostlaw24.SocketPortsExclusive", spec := "socketPortsExclusive", inPlace := ["internal/reflectlite.TypeOf", "internal/abi.NoEscape", "internal/bytealg.MakeNoZero", "internal/reflectlite.ValueOf", "(internal/reflectlite.Value).Type", "(internal/reflectlite.Value).IsNil", "(internal/reflectlite.Value).Elem", "(internal/reflectlite.Value).Set"], unfollowed := true, recurses := true, named := ["stagepost/congestion.errSize", "stagepost/tcpstate.triples", "errors.errorType"], plainKeys := false, apart := false, laid := [("stagepost/tcpstate.triples", laid_stagepost_tcpstate_triples), ("errors.errorType", laid_errors_errorType), ("stagepost/congestion.errSize", laid_stagepost_congestion_errSize)], narrowed := true }
def SocketPortsExclusiveUptoSaid : Prop := socketPortsExclusiveUptoRow.holds Tryz.pinned (OpenSpec.upto socketPortsExclusiveSpec)

/-- 'stagepostlaw24.SocketCloseCompletesCalls', WHERE WHAT IT READS IS OF BULK AT MOST 1048576: true; the input reads as it did. -/
def socketCloseCompletesCallsUptoRow : OpenClaim := { program := "ytockaipodnapjaagreatdoor", sum := "e8aabe4809cccd192080a275b2ae124ea4f7f59ad47f4a3c0d335d15349e9314", func := "stagepost/stagepostlaw24.SocketCloseCompletesCalls", spec := "socketCloseCompletesCalls", inPlace := ["internal/reflectlite.TypeOf", "internal/abi.NoEscape", "internal/bytealg.MakeNoZero", "internal/reflectlite.ValueOf", "(internal/reflectlite.Value).Type", "(internal/reflectlite.Value).IsNil", "(internal/reflectlite.Value).Elem", "(internal/reflectlite.Value).Set"], unfollowed := true, recurses := true, named := ["stagepost/congestion.errSize", "stagepost/tcpstate.triples", "errors.errorType"], plainKeys := false, apart := false, laid := [("stagepost/tcpstate.triples", laid_stagepost_tcpstate_triples), ("errors.errorType", laid_errors_errorType), ("stagepost/congestion.errSize", laid_stagepost_congestion_errSize)], narrowed := true }
def SocketCloseCompletesCallsUptoSaid : Prop := socketCloseCompletesCallsUptoRow.holds Tryz.pinned (OpenSpec.upto socketCloseCompletesCallsSpec)

/-- 'stagepostlaw24.SocketBacklog', WHERE WHAT IT READS IS OF BULK AT MOST 1048576: true; the input reads as it did. -/
def socketBacklogUptoRow : OpenClaim := { program := "ytockaipodnapjaagreatdoor", sum := "e8aabe4809cccd192080a275b2ae124ea4f7f59ad47f4a3c0d335d15349e9314", func := "stagepost/stagepostlaw24.SocketBacklog", spec := "socketBacklog", inPlace := ["internal/reflectlite.TypeOf", "internal/abi.NoEscape", "internal/bytealg.MakeNoZero", "internal/reflectlite.ValueOf", "(internal/reflectlite.Value).Type", "(internal/reflectlite.Value).IsNil", "(internal/reflectlite.Value).Elem", "(internal/reflectlite.Value).Set"], unfollowed := true, recurses := true, named := ["stagepost/congestion.errSize", "stagepost/tcpstate.triples", "errors.errorType"], plainKeys := false, apart := false, laid := [("stagepost/tcpstate.triples", laid_stagepost_tcpstate_triples), ("errors.errorType", laid_errors_errorType), ("stagepost/congestion.errSize", laid_stagepost_congestion_errSize)], narrowed := true }
def SocketBacklogUptoSaid : Prop := socketBacklogUptoRow.holds Tryz.pinned (OpenSpec.upto socketBacklogSpec)

end Rows
end Go.Proofs.YtockaipodnapjaaGreatDoor
