/-
  NARROWER THAN 'FOR EVERY INPUT', by the rows' own cells (each row's printed sentence says how): DNSCacheStoresAnswers: laid.
  DERIVED. THE GIVEN ROWS OF THIS SEAT. 1 by the template 'for every input the law returns true; each argument reads behind the call as it read before'; 0 by the template 'total and deterministic' (their statements: YtapeljiopbkjlaaGreatDoorTotals.lean).
  GIVEN WITH THE SEED: the statements are not yours to turn. If you find one false, say at which input.
  Laid BY PROGRAM, IN A SANDBOX (cutbox-rows.mjs): the forced cells as the released guide's own fill.sh prints them over the translation cdf64e71baf17cc3… (all of the seat's roots in one cut). By AI agents, Wed Nov 11 2026. No macro, syntax, notation, axiom, sorry.
-/
import Derived.Test.YtapeljiopbkjlaaGreatDoorChecked
import GoSem.Claim
import GoSem.ClaimJoined
import GoSem.ClaimMapViews
import Derived.JoinedTies
import Derived.KernelRfl
namespace Go.Proofs.YtapeljiopbkjlaaGreatDoor
/- THE CELL 'sum', in the pinned program and in every row, IS THE sha256 OF THE DUMP (.gsa) THAT YtapeljiopbkjlaaGreatDoorProg.lean LOADS. Nothing in Lean hashes anything: it is a label: what it is worth is what the hold of that sum in a sandbox is worth. -/
noncomputable def Tryz.pinned : Pinned := { name := "ytapeljiopbkjlaagreatdoor", sum := "cdf64e71baf17cc34901fdec5dcd47f43f45ab69d2e980db4842d5a3e2dd275c", checked := Tryz.checked }
namespace Rows
def none {H : Type} : Left H := { results := [], args := [] }

/- WHAT THE LISTED PACKAGE-LEVEL VARIABLES READ AS WHEN THE CALL BEGINS. Each datum BY PROGRAM (the guide's laid-datum.mjs) off the statement by which the dump's own 'gosem.cut.vars' lays the variable. In a bare row this is a premise. The card (YtapeljiopbkjlaaGreatDoorCards.lean) ties it to the program's text. -/
def laid_stagepost_dnscache_errInvalid {H : Type} : DataW H := .iface "*errors.errorString" (.ptr (.agg [.lit (.string [110, 111, 116, 32, 97, 32, 118, 97, 108, 105, 100, 32, 101, 110, 116, 114, 121])]))

/-- 'stagepostlaw20.DNSCacheStoresAnswers': WHATEVER THE INPUT: true; the input reads as it did. -/
def dNSCacheStoresAnswersSpec : ChangeSpec := { name := "dNSCacheStoresAnswers", fn := fun _ => fun
  | [d] => { results := [.lit (.bool true)], args := [d] }
  | _ => none }
def dNSCacheStoresAnswersRow : OpenClaim := { program := "ytapeljiopbkjlaagreatdoor", sum := "cdf64e71baf17cc34901fdec5dcd47f43f45ab69d2e980db4842d5a3e2dd275c", func := "stagepost/stagepostlaw20.DNSCacheStoresAnswers", spec := "dNSCacheStoresAnswers", inPlace := ["internal/bytealg.IndexByteString", "internal/bytealg.IndexString", "internal/reflectlite.TypeOf", "internal/abi.NoEscape"], unfollowed := true, recurses := true, named := ["stagepost/dnscache.errInvalid", "internal/bytealg.MaxLen"], apart := false, laid := [("stagepost/dnscache.errInvalid", laid_stagepost_dnscache_errInvalid)] }
def DNSCacheStoresAnswersSaid : Prop := dNSCacheStoresAnswersRow.holds Tryz.pinned (OpenSpec.ofChange dNSCacheStoresAnswersSpec)

/-- ITS FALSE NEIGHBOUR: 'it returns false'. Refute it at one input. -/
def dNSCacheStoresAnswersWrong : ChangeSpec := { name := "dNSCacheStoresAnswers", fn := fun _ => fun
  | [d] => { results := [.lit (.bool false)], args := [d] }
  | _ => none }
def DNSCacheStoresAnswersWrongFalsely : Prop := dNSCacheStoresAnswersRow.holds Tryz.pinned (OpenSpec.ofChange dNSCacheStoresAnswersWrong)

/- THE SECOND FORM. 'bulk': how many values and letters a reading holds, each counted each time it is reached (what is shared counts as often as it is met; a slice's spare places count too). A statement '..UptoSaid' is the law's where the arguments, and the package variables that the reading takes, are together of bulk at most 1048576: NARROWER than '..Said'. Prove '..Said' where nothing that the law and all that it calls make is longer than what came in: it says more and counts as full. Else prove '..UptoSaid'. A law counts once. -/
mutual
def uptoBulk {H : Type} : DataW H → Nat
  | .lit (.string bytes) => bytes.length + 1
  | .lit _ => 1
  | .nil => 1
  | .ptr d => uptoBulk d + 1
  | .slice elems spare => uptoBulkAll elems + uptoBulkAll spare + 1
  | .agg parts => uptoBulkAll parts + 1
  | .iface _ d => uptoBulk d + 1
  | .map entries => uptoBulkEntries entries + 1
  | .held _ => 1
def uptoBulkAll {H : Type} : List (DataW H) → Nat
  | [] => 0
  | d :: r => uptoBulk d + uptoBulkAll r
def uptoBulkEntries {H : Type} : List (Lit × DataW H) → Nat
  | [] => 0
  | x :: r => uptoBulkEntry x + uptoBulkEntries r
def uptoBulkEntry {H : Type} : Lit × DataW H → Nat
  | (.string bytes, d) => bytes.length + uptoBulk d + 1
  | (_, d) => uptoBulk d + 1
 end
def uptoSmall : (H : Type) → List (DataW H) → Bool := fun _ ds => decide (uptoBulkAll ds ≤ 1048576)
def OpenSpec.upto (s : _root_.Go.ChangeSpec) : _root_.Go.OpenSpec := { _root_.Go.OpenSpec.ofChange s with cond := some uptoSmall }

/-- 'stagepostlaw20.DNSCacheStoresAnswers', WHERE WHAT IT READS IS OF BULK AT MOST 1048576: true; the input reads as it did. -/
def dNSCacheStoresAnswersUptoRow : OpenClaim := { program := "ytapeljiopbkjlaagreatdoor", sum := "cdf64e71baf17cc34901fdec5dcd47f43f45ab69d2e980db4842d5a3e2dd275c", func := "stagepost/stagepostlaw20.DNSCacheStoresAnswers", spec := "dNSCacheStoresAnswers", inPlace := ["internal/bytealg.IndexByteString", "internal/bytealg.IndexString", "internal/reflectlite.TypeOf", "internal/abi.NoEscape"], unfollowed := true, recurses := true, named := ["stagepost/dnscache.errInvalid", "internal/bytealg.MaxLen"], apart := false, laid := [("stagepost/dnscache.errInvalid", laid_stagepost_dnscache_errInvalid)], narrowed := true }
def DNSCacheStoresAnswersUptoSaid : Prop := dNSCacheStoresAnswersUptoRow.holds Tryz.pinned (OpenSpec.upto dNSCacheStoresAnswersSpec)

end Rows
end Go.Proofs.YtapeljiopbkjlaaGreatDoor
