/-
  NARROWER THAN 'FOR EVERY INPUT', by the rows' own cells (each row's printed sentence says how): DNSCacheMatchesReference: laid · DNSCacheBounded: laid · DNSCacheTTL: laid · DNSCacheLookupSorted: laid · DNSCacheNegative: laid · DNSCacheNamesIndependent: laid · DNSCacheTickInvisible: laid.
  DERIVED. THE GIVEN ROWS OF THIS SEAT. 7 by the template 'for every input the law returns true; each argument reads behind the call as it read before'; 0 by the template 'total and deterministic' (their statements: YtapeljiopbkjlaaDoorTotals.lean).
  GIVEN WITH THE SEED: the statements are not yours to turn. If you find one false, say at which input.
  Laid BY PROGRAM, IN A SANDBOX (cutbox-rows.mjs): the forced cells as the released guide's own fill.sh prints them over the translation d98cbe2a88dd942d… (all of the seat's roots in one cut). By AI agents, Wed Nov 11 2026. No macro, syntax, notation, axiom, sorry.
-/
import Derived.Test.YtapeljiopbkjlaaDoorChecked
import GoSem.Claim
import GoSem.ClaimJoined
import GoSem.ClaimMapViews
import Derived.JoinedTies
import Derived.KernelRfl
namespace Go.Proofs.YtapeljiopbkjlaaDoor
/- THE CELL 'sum', in the pinned program and in every row, IS THE sha256 OF THE DUMP (.gsa) THAT YtapeljiopbkjlaaDoorProg.lean LOADS. Nothing in Lean hashes anything: it is a label: what it is worth is what the hold of that sum in a sandbox is worth. -/
noncomputable def Tryd.pinned : Pinned := { name := "ytapeljiopbkjlaadoor", sum := "d98cbe2a88dd942d81c2beefd3d1600469c7000bf87013f2cbeef21b4d4dbb82", checked := Tryd.checked }
namespace Rows
def none {H : Type} : Left H := { results := [], args := [] }

/- WHAT THE LISTED PACKAGE-LEVEL VARIABLES READ AS WHEN THE CALL BEGINS. Each datum BY PROGRAM (the guide's laid-datum.mjs) off the statement by which the dump's own 'gosem.cut.vars' lays the variable. In a bare row this is a premise. The card (YtapeljiopbkjlaaDoorCards.lean) ties it to the program's text. -/
def laid_stagepost_dnscache_errInvalid {H : Type} : DataW H := .iface "*errors.errorString" (.ptr (.agg [.lit (.string [110, 111, 116, 32, 97, 32, 118, 97, 108, 105, 100, 32, 101, 110, 116, 114, 121])]))

/-- 'stagepostlaw20.DNSCacheMatchesReference': WHATEVER THE INPUT: true; the input reads as it did. -/
def dNSCacheMatchesReferenceSpec : ChangeSpec := { name := "dNSCacheMatchesReference", fn := fun _ => fun
  | [d1, d2, d3] => { results := [.lit (.bool true)], args := [d1, d2, d3] }
  | _ => none }
def dNSCacheMatchesReferenceRow : OpenClaim := { program := "ytapeljiopbkjlaadoor", sum := "d98cbe2a88dd942d81c2beefd3d1600469c7000bf87013f2cbeef21b4d4dbb82", func := "stagepost/stagepostlaw20.DNSCacheMatchesReference", spec := "dNSCacheMatchesReference", inPlace := ["internal/bytealg.IndexByteString", "internal/bytealg.IndexString", "internal/reflectlite.TypeOf"], unfollowed := true, recurses := true, named := ["stagepost/dnscache.errInvalid", "internal/bytealg.MaxLen"], apart := false, laid := [("stagepost/dnscache.errInvalid", laid_stagepost_dnscache_errInvalid)] }
def DNSCacheMatchesReferenceSaid : Prop := dNSCacheMatchesReferenceRow.holds Tryd.pinned (OpenSpec.ofChange dNSCacheMatchesReferenceSpec)

/-- ITS FALSE NEIGHBOUR: 'it returns false'. Refute it at one input. -/
def dNSCacheMatchesReferenceWrong : ChangeSpec := { name := "dNSCacheMatchesReference", fn := fun _ => fun
  | [d1, d2, d3] => { results := [.lit (.bool false)], args := [d1, d2, d3] }
  | _ => none }
def DNSCacheMatchesReferenceWrongFalsely : Prop := dNSCacheMatchesReferenceRow.holds Tryd.pinned (OpenSpec.ofChange dNSCacheMatchesReferenceWrong)

/-- 'stagepostlaw20.DNSCacheBounded': WHATEVER THE INPUT: true; the input reads as it did. -/
def dNSCacheBoundedSpec : ChangeSpec := { name := "dNSCacheBounded", fn := fun _ => fun
  | [d] => { results := [.lit (.bool true)], args := [d] }
  | _ => none }
def dNSCacheBoundedRow : OpenClaim := { program := "ytapeljiopbkjlaadoor", sum := "d98cbe2a88dd942d81c2beefd3d1600469c7000bf87013f2cbeef21b4d4dbb82", func := "stagepost/stagepostlaw20.DNSCacheBounded", spec := "dNSCacheBounded", inPlace := ["internal/bytealg.IndexByteString", "internal/bytealg.IndexString", "internal/reflectlite.TypeOf"], unfollowed := true, recurses := true, named := ["stagepost/dnscache.errInvalid", "internal/bytealg.MaxLen"], apart := false, laid := [("stagepost/dnscache.errInvalid", laid_stagepost_dnscache_errInvalid)] }
def DNSCacheBoundedSaid : Prop := dNSCacheBoundedRow.holds Tryd.pinned (OpenSpec.ofChange dNSCacheBoundedSpec)

/-- ITS FALSE NEIGHBOUR: 'it returns false'. Refute it at one input. -/
def dNSCacheBoundedWrong : ChangeSpec := { name := "dNSCacheBounded", fn := fun _ => fun
  | [d] => { results := [.lit (.bool false)], args := [d] }
  | _ => none }
def DNSCacheBoundedWrongFalsely : Prop := dNSCacheBoundedRow.holds Tryd.pinned (OpenSpec.ofChange dNSCacheBoundedWrong)

/-- 'stagepostlaw20.DNSCacheTTL': WHATEVER THE INPUT: true; the input reads as it did. -/
def dNSCacheTTLSpec : ChangeSpec := { name := "dNSCacheTTL", fn := fun _ => fun
  | [d1, d2, d3, d4] => { results := [.lit (.bool true)], args := [d1, d2, d3, d4] }
  | _ => none }
def dNSCacheTTLRow : OpenClaim := { program := "ytapeljiopbkjlaadoor", sum := "d98cbe2a88dd942d81c2beefd3d1600469c7000bf87013f2cbeef21b4d4dbb82", func := "stagepost/stagepostlaw20.DNSCacheTTL", spec := "dNSCacheTTL", inPlace := ["internal/bytealg.IndexByteString", "internal/bytealg.IndexString", "internal/reflectlite.TypeOf"], unfollowed := true, recurses := true, named := ["stagepost/dnscache.errInvalid", "internal/bytealg.MaxLen"], apart := false, laid := [("stagepost/dnscache.errInvalid", laid_stagepost_dnscache_errInvalid)] }
def DNSCacheTTLSaid : Prop := dNSCacheTTLRow.holds Tryd.pinned (OpenSpec.ofChange dNSCacheTTLSpec)

/-- ITS FALSE NEIGHBOUR: 'it returns false'. Refute it at one input. -/
def dNSCacheTTLWrong : ChangeSpec := { name := "dNSCacheTTL", fn := fun _ => fun
  | [d1, d2, d3, d4] => { results := [.lit (.bool false)], args := [d1, d2, d3, d4] }
  | _ => none }
def DNSCacheTTLWrongFalsely : Prop := dNSCacheTTLRow.holds Tryd.pinned (OpenSpec.ofChange dNSCacheTTLWrong)

/-- 'stagepostlaw20.DNSCacheLookupSorted': WHATEVER THE INPUT: true; the input reads as it did. -/
def dNSCacheLookupSortedSpec : ChangeSpec := { name := "dNSCacheLookupSorted", fn := fun _ => fun
  | [d1, d2, d3, d4] => { results := [.lit (.bool true)], args := [d1, d2, d3, d4] }
  | _ => none }
def dNSCacheLookupSortedRow : OpenClaim := { program := "ytapeljiopbkjlaadoor", sum := "d98cbe2a88dd942d81c2beefd3d1600469c7000bf87013f2cbeef21b4d4dbb82", func := "stagepost/stagepostlaw20.DNSCacheLookupSorted", spec := "dNSCacheLookupSorted", inPlace := ["internal/bytealg.IndexByteString", "internal/bytealg.IndexString", "internal/reflectlite.TypeOf"], unfollowed := true, recurses := true, named := ["stagepost/dnscache.errInvalid", "internal/bytealg.MaxLen"], apart := false, laid := [("stagepost/dnscache.errInvalid", laid_stagepost_dnscache_errInvalid)] }
def DNSCacheLookupSortedSaid : Prop := dNSCacheLookupSortedRow.holds Tryd.pinned (OpenSpec.ofChange dNSCacheLookupSortedSpec)

/-- ITS FALSE NEIGHBOUR: 'it returns false'. Refute it at one input. -/
def dNSCacheLookupSortedWrong : ChangeSpec := { name := "dNSCacheLookupSorted", fn := fun _ => fun
  | [d1, d2, d3, d4] => { results := [.lit (.bool false)], args := [d1, d2, d3, d4] }
  | _ => none }
def DNSCacheLookupSortedWrongFalsely : Prop := dNSCacheLookupSortedRow.holds Tryd.pinned (OpenSpec.ofChange dNSCacheLookupSortedWrong)

/-- 'stagepostlaw20.DNSCacheNegative': WHATEVER THE INPUT: true; the input reads as it did. -/
def dNSCacheNegativeSpec : ChangeSpec := { name := "dNSCacheNegative", fn := fun _ => fun
  | [d1, d2, d3, d4, d5] => { results := [.lit (.bool true)], args := [d1, d2, d3, d4, d5] }
  | _ => none }
def dNSCacheNegativeRow : OpenClaim := { program := "ytapeljiopbkjlaadoor", sum := "d98cbe2a88dd942d81c2beefd3d1600469c7000bf87013f2cbeef21b4d4dbb82", func := "stagepost/stagepostlaw20.DNSCacheNegative", spec := "dNSCacheNegative", inPlace := ["internal/bytealg.IndexByteString", "internal/bytealg.IndexString", "internal/reflectlite.TypeOf"], unfollowed := true, recurses := true, named := ["stagepost/dnscache.errInvalid", "internal/bytealg.MaxLen"], apart := false, laid := [("stagepost/dnscache.errInvalid", laid_stagepost_dnscache_errInvalid)] }
def DNSCacheNegativeSaid : Prop := dNSCacheNegativeRow.holds Tryd.pinned (OpenSpec.ofChange dNSCacheNegativeSpec)

/-- ITS FALSE NEIGHBOUR: 'it returns false'. Refute it at one input. -/
def dNSCacheNegativeWrong : ChangeSpec := { name := "dNSCacheNegative", fn := fun _ => fun
  | [d1, d2, d3, d4, d5] => { results := [.lit (.bool false)], args := [d1, d2, d3, d4, d5] }
  | _ => none }
def DNSCacheNegativeWrongFalsely : Prop := dNSCacheNegativeRow.holds Tryd.pinned (OpenSpec.ofChange dNSCacheNegativeWrong)

/-- 'stagepostlaw20.DNSCacheNamesIndependent': WHATEVER THE INPUT: true; the input reads as it did. -/
def dNSCacheNamesIndependentSpec : ChangeSpec := { name := "dNSCacheNamesIndependent", fn := fun _ => fun
  | [d1, d2, d3, d4] => { results := [.lit (.bool true)], args := [d1, d2, d3, d4] }
  | _ => none }
def dNSCacheNamesIndependentRow : OpenClaim := { program := "ytapeljiopbkjlaadoor", sum := "d98cbe2a88dd942d81c2beefd3d1600469c7000bf87013f2cbeef21b4d4dbb82", func := "stagepost/stagepostlaw20.DNSCacheNamesIndependent", spec := "dNSCacheNamesIndependent", inPlace := ["internal/bytealg.IndexByteString", "internal/bytealg.IndexString", "internal/reflectlite.TypeOf"], unfollowed := true, recurses := true, named := ["stagepost/dnscache.errInvalid", "internal/bytealg.MaxLen"], apart := false, laid := [("stagepost/dnscache.errInvalid", laid_stagepost_dnscache_errInvalid)] }
def DNSCacheNamesIndependentSaid : Prop := dNSCacheNamesIndependentRow.holds Tryd.pinned (OpenSpec.ofChange dNSCacheNamesIndependentSpec)

/-- ITS FALSE NEIGHBOUR: 'it returns false'. Refute it at one input. -/
def dNSCacheNamesIndependentWrong : ChangeSpec := { name := "dNSCacheNamesIndependent", fn := fun _ => fun
  | [d1, d2, d3, d4] => { results := [.lit (.bool false)], args := [d1, d2, d3, d4] }
  | _ => none }
def DNSCacheNamesIndependentWrongFalsely : Prop := dNSCacheNamesIndependentRow.holds Tryd.pinned (OpenSpec.ofChange dNSCacheNamesIndependentWrong)

/-- 'stagepostlaw20.DNSCacheTickInvisible': WHATEVER THE INPUT: true; the input reads as it did. -/
def dNSCacheTickInvisibleSpec : ChangeSpec := { name := "dNSCacheTickInvisible", fn := fun _ => fun
  | [d1, d2, d3, d4] => { results := [.lit (.bool true)], args := [d1, d2, d3, d4] }
  | _ => none }
def dNSCacheTickInvisibleRow : OpenClaim := { program := "ytapeljiopbkjlaadoor", sum := "d98cbe2a88dd942d81c2beefd3d1600469c7000bf87013f2cbeef21b4d4dbb82", func := "stagepost/stagepostlaw20.DNSCacheTickInvisible", spec := "dNSCacheTickInvisible", inPlace := ["internal/bytealg.IndexByteString", "internal/bytealg.IndexString", "internal/reflectlite.TypeOf"], unfollowed := true, recurses := true, named := ["stagepost/dnscache.errInvalid", "internal/bytealg.MaxLen"], apart := false, laid := [("stagepost/dnscache.errInvalid", laid_stagepost_dnscache_errInvalid)] }
def DNSCacheTickInvisibleSaid : Prop := dNSCacheTickInvisibleRow.holds Tryd.pinned (OpenSpec.ofChange dNSCacheTickInvisibleSpec)

/-- ITS FALSE NEIGHBOUR: 'it returns false'. Refute it at one input. -/
def dNSCacheTickInvisibleWrong : ChangeSpec := { name := "dNSCacheTickInvisible", fn := fun _ => fun
  | [d1, d2, d3, d4] => { results := [.lit (.bool false)], args := [d1, d2, d3, d4] }
  | _ => none }
def DNSCacheTickInvisibleWrongFalsely : Prop := dNSCacheTickInvisibleRow.holds Tryd.pinned (OpenSpec.ofChange dNSCacheTickInvisibleWrong)

/- THE SECOND FORM. 'bulk': how many values and letters a reading holds, each counted each time it is reached (what is shared counts as often as it is met; a slice's spare places count too). A statement '..UptoSaid' is the law's where the arguments, and the package variables that the reading takes, are together of bulk at most 1048576: NARROWER than '..Said'. Prove '..Said' where nothing that the law and all that it calls make is longer than what came in: it says more and counts as full. Else prove '..UptoSaid'. A law counts once. -/
mutual
def uptoBulk {H : Type} : DataW H → Nat
  | .lit (.string bytes) => bytes.length + 1
  | .lit _ => 1
  | .nil => 1
  | .ptr d => uptoBulk d + 1
  | .slice elems spare => uptoBulkAll elems + uptoBulkAll spare + 1
  | .agg parts => uptoBulkAll parts + 1
  | .iface _ d => uptoBulk d + 1
  | .map entries => uptoBulkEntries entries + 1
  | .held _ => 1
def uptoBulkAll {H : Type} : List (DataW H) → Nat
  | [] => 0
  | d :: r => uptoBulk d + uptoBulkAll r
def uptoBulkEntries {H : Type} : List (Lit × DataW H) → Nat
  | [] => 0
  | x :: r => uptoBulkEntry x + uptoBulkEntries r
def uptoBulkEntry {H : Type} : Lit × DataW H → Nat
  | (.string bytes, d) => bytes.length + uptoBulk d + 1
  | (_, d) => uptoBulk d + 1
 end
def uptoSmall : (H : Type) → List (DataW H) → Bool := fun _ ds => decide (uptoBulkAll ds ≤ 1048576)
def OpenSpec.upto (s : _root_.Go.ChangeSpec) : _root_.Go.OpenSpec := { _root_.Go.OpenSpec.ofChange s with cond := some uptoSmall }

/-- 'stagepostlaw20.DNSCacheMatchesReference', WHERE WHAT IT READS IS OF BULK AT MOST 1048576: true; the input reads as it did. -/
def dNSCacheMatchesReferenceUptoRow : OpenClaim := { program := "ytapeljiopbkjlaadoor", sum := "d98cbe2a88dd942d81c2beefd3d1600469c7000bf87013f2cbeef21b4d4dbb82", func := "stagepost/stagepostlaw20.DNSCacheMatchesReference", spec := "dNSCacheMatchesReference", inPlace := ["internal/bytealg.IndexByteString", "internal/bytealg.IndexString", "internal/reflectlite.TypeOf"], unfollowed := true, recurses := true, named := ["stagepost/dnscache.errInvalid", "internal/bytealg.MaxLen"], apart := false, laid := [("stagepost/dnscache.errInvalid", laid_stagepost_dnscache_errInvalid)], narrowed := true }
def DNSCacheMatchesReferenceUptoSaid : Prop := dNSCacheMatchesReferenceUptoRow.holds Tryd.pinned (OpenSpec.upto dNSCacheMatchesReferenceSpec)

/-- 'stagepostlaw20.DNSCacheBounded', WHERE WHAT IT READS IS OF BULK AT MOST 1048576: true; the input reads as it did. -/
def dNSCacheBoundedUptoRow : OpenClaim := { program := "ytapeljiopbkjlaadoor", sum := "d98cbe2a88dd942d81c2beefd3d1600469c7000bf87013f2cbeef21b4d4dbb82", func := "stagepost/stagepostlaw20.DNSCacheBounded", spec := "dNSCacheBounded", inPlace := ["internal/bytealg.IndexByteString", "internal/bytealg.IndexString", "internal/reflectlite.TypeOf"], unfollowed := true, recurses := true, named := ["stagepost/dnscache.errInvalid", "internal/bytealg.MaxLen"], apart := false, laid := [("stagepost/dnscache.errInvalid", laid_stagepost_dnscache_errInvalid)], narrowed := true }
def DNSCacheBoundedUptoSaid : Prop := dNSCacheBoundedUptoRow.holds Tryd.pinned (OpenSpec.upto dNSCacheBoundedSpec)

/-- 'stagepostlaw20.DNSCacheTTL', WHERE WHAT IT READS IS OF BULK AT MOST 1048576: true; the input reads as it did. -/
def dNSCacheTTLUptoRow : OpenClaim := { program := "ytapeljiopbkjlaadoor", sum := "d98cbe2a88dd942d81c2beefd3d1600469c7000bf87013f2cbeef21b4d4dbb82", func := "stagepost/stagepostlaw20.DNSCacheTTL", spec := "dNSCacheTTL", inPlace := ["internal/bytealg.IndexByteString", "internal/bytealg.IndexString", "internal/reflectlite.TypeOf"], unfollowed := true, recurses := true, named := ["stagepost/dnscache.errInvalid", "internal/bytealg.MaxLen"], apart := false, laid := [("stagepost/dnscache.errInvalid", laid_stagepost_dnscache_errInvalid)], narrowed := true }
def DNSCacheTTLUptoSaid : Prop := dNSCacheTTLUptoRow.holds Tryd.pinned (OpenSpec.upto dNSCacheTTLSpec)

/-- 'stagepostlaw20.DNSCacheLookupSorted', WHERE WHAT IT READS IS OF BULK AT MOST 1048576: true; the input reads as it did. -/
def dNSCacheLookupSortedUptoRow : OpenClaim := { program := "ytapeljiopbkjlaadoor", sum := "d98cbe2a88dd942d81c2beefd3d1600469c7000bf87013f2cbeef21b4d4dbb82", func := "stagepost/stagepostlaw20.DNSCacheLookupSorted", spec := "dNSCacheLookupSorted", inPlace := ["internal/bytealg.IndexByteString", "internal/bytealg.IndexString", "internal/reflectlite.TypeOf"], unfollowed := true, recurses := true, named := ["stagepost/dnscache.errInvalid", "internal/bytealg.MaxLen"], apart := false, laid := [("stagepost/dnscache.errInvalid", laid_stagepost_dnscache_errInvalid)], narrowed := true }
def DNSCacheLookupSortedUptoSaid : Prop := dNSCacheLookupSortedUptoRow.holds Tryd.pinned (OpenSpec.upto dNSCacheLookupSortedSpec)

/-- 'stagepostlaw20.DNSCacheNegative', WHERE WHAT IT READS IS OF BULK AT MOST 1048576: true; the input reads as it did. -/
def dNSCacheNegativeUptoRow : OpenClaim := { program := "ytapeljiopbkjlaadoor", sum := "d98cbe2a88dd942d81c2beefd3d1600469c7000bf87013f2cbeef21b4d4dbb82", func := "stagepost/stagepostlaw20.DNSCacheNegative", spec := "dNSCacheNegative", inPlace := ["internal/bytealg.IndexByteString", "internal/bytealg.IndexString", "internal/reflectlite.TypeOf"], unfollowed := true, recurses := true, named := ["stagepost/dnscache.errInvalid", "internal/bytealg.MaxLen"], apart := false, laid := [("stagepost/dnscache.errInvalid", laid_stagepost_dnscache_errInvalid)], narrowed := true }
def DNSCacheNegativeUptoSaid : Prop := dNSCacheNegativeUptoRow.holds Tryd.pinned (OpenSpec.upto dNSCacheNegativeSpec)

/-- 'stagepostlaw20.DNSCacheNamesIndependent', WHERE WHAT IT READS IS OF BULK AT MOST 1048576: true; the input reads as it did. -/
def dNSCacheNamesIndependentUptoRow : OpenClaim := { program := "ytapeljiopbkjlaadoor", sum := "d98cbe2a88dd942d81c2beefd3d1600469c7000bf87013f2cbeef21b4d4dbb82", func := "stagepost/stagepostlaw20.DNSCacheNamesIndependent", spec := "dNSCacheNamesIndependent", inPlace := ["internal/bytealg.IndexByteString", "internal/bytealg.IndexString", "internal/reflectlite.TypeOf"], unfollowed := true, recurses := true, named := ["stagepost/dnscache.errInvalid", "internal/bytealg.MaxLen"], apart := false, laid := [("stagepost/dnscache.errInvalid", laid_stagepost_dnscache_errInvalid)], narrowed := true }
def DNSCacheNamesIndependentUptoSaid : Prop := dNSCacheNamesIndependentUptoRow.holds Tryd.pinned (OpenSpec.upto dNSCacheNamesIndependentSpec)

/-- 'stagepostlaw20.DNSCacheTickInvisible', WHERE WHAT IT READS IS OF BULK AT MOST 1048576: true; the input reads as it did. -/
def dNSCacheTickInvisibleUptoRow : OpenClaim := { program := "ytapeljiopbkjlaadoor", sum := "d98cbe2a88dd942d81c2beefd3d1600469c7000bf87013f2cbeef21b4d4dbb82", func := "stagepost/stagepostlaw20.DNSCacheTickInvisible", spec := "dNSCacheTickInvisible", inPlace := ["internal/bytealg.IndexByteString", "internal/bytealg.IndexString", "internal/reflectlite.TypeOf"], unfollowed := true, recurses := true, named := ["stagepost/dnscache.errInvalid", "internal/bytealg.MaxLen"], apart := false, laid := [("stagepost/dnscache.errInvalid", laid_stagepost_dnscache_errInvalid)], narrowed := true }
def DNSCacheTickInvisibleUptoSaid : Prop := dNSCacheTickInvisibleUptoRow.holds Tryd.pinned (OpenSpec.upto dNSCacheTickInvisibleSpec)

end Rows
end Go.Proofs.YtapeljiopbkjlaaDoor
