/-
  No cell of these rows narrows 'for every input' (looked for: loops, veiled, ifaces, maps, wideKeys, modest, calm, conditions, laid).
  DERIVED. THE GIVEN ROWS OF THIS SEAT. 7 by the template 'for every input the law returns true; each argument reads behind the call as it read before'; 0 by the template 'total and deterministic' (their statements: YthkkhgfdppbphaaTotals.lean).
  GIVEN WITH THE SEED: the statements are not yours to turn. If you find one false, say at which input.
  Laid BY PROGRAM, IN A SANDBOX (cutbox-rows.mjs): the forced cells as the released guide's own fill.sh prints them over the translation c4af4f087dd51d31… (all of the seat's roots in one cut). By AI agents, Wed Nov 11 2026. No macro, syntax, notation, axiom, sorry.
-/
import Derived.Test.YthkkhgfdppbphaaChecked
import GoSem.Claim
import GoSem.ClaimJoined
import GoSem.ClaimMapViews
import Derived.JoinedTies
import Derived.KernelRfl
namespace Go.Proofs.Ythkkhgfdppbphaa
/- THE CELL 'sum', in the pinned program and in every row, IS THE sha256 OF THE DUMP (.gsa) THAT YthkkhgfdppbphaaProg.lean LOADS. Nothing in Lean hashes anything: it is a label: what it is worth is what the hold of that sum in a sandbox is worth. -/
noncomputable def Try.pinned : Pinned := { name := "ythkkhgfdppbphaa", sum := "c4af4f087dd51d3189adf5ce7f3c91a1ebd44c6800e25c2e543494d4546116fe", checked := Try.checked }
namespace Rows
def none {H : Type} : Left H := { results := [], args := [] }

/-- 'stagepostlaw12.RangesMatchReference': WHATEVER THE INPUT: true; the input reads as it did. -/
def rangesMatchReferenceSpec : ChangeSpec := { name := "rangesMatchReference", fn := fun _ => fun
  | [d1, d2, d3, d4, d5] => { results := [.lit (.bool true)], args := [d1, d2, d3, d4, d5] }
  | _ => none }
def rangesMatchReferenceRow : OpenClaim := { program := "ythkkhgfdppbphaa", sum := "c4af4f087dd51d3189adf5ce7f3c91a1ebd44c6800e25c2e543494d4546116fe", func := "stagepost/stagepostlaw12.RangesMatchReference", spec := "rangesMatchReference", unfollowed := true, recurses := true, apart := false }
def RangesMatchReferenceSaid : Prop := rangesMatchReferenceRow.holds Try.pinned (OpenSpec.ofChange rangesMatchReferenceSpec)

/-- ITS FALSE NEIGHBOUR: 'it returns false'. Refute it at one input. -/
def rangesMatchReferenceWrong : ChangeSpec := { name := "rangesMatchReference", fn := fun _ => fun
  | [d1, d2, d3, d4, d5] => { results := [.lit (.bool false)], args := [d1, d2, d3, d4, d5] }
  | _ => none }
def RangesMatchReferenceWrongFalsely : Prop := rangesMatchReferenceRow.holds Try.pinned (OpenSpec.ofChange rangesMatchReferenceWrong)

/-- 'stagepostlaw12.RangesElementwise': WHATEVER THE INPUT: true; the input reads as it did. -/
def rangesElementwiseSpec : ChangeSpec := { name := "rangesElementwise", fn := fun _ => fun
  | [d1, d2] => { results := [.lit (.bool true)], args := [d1, d2] }
  | _ => none }
def rangesElementwiseRow : OpenClaim := { program := "ythkkhgfdppbphaa", sum := "c4af4f087dd51d3189adf5ce7f3c91a1ebd44c6800e25c2e543494d4546116fe", func := "stagepost/stagepostlaw12.RangesElementwise", spec := "rangesElementwise", unfollowed := true, recurses := true, apart := false }
def RangesElementwiseSaid : Prop := rangesElementwiseRow.holds Try.pinned (OpenSpec.ofChange rangesElementwiseSpec)

/-- ITS FALSE NEIGHBOUR: 'it returns false'. Refute it at one input. -/
def rangesElementwiseWrong : ChangeSpec := { name := "rangesElementwise", fn := fun _ => fun
  | [d1, d2] => { results := [.lit (.bool false)], args := [d1, d2] }
  | _ => none }
def RangesElementwiseWrongFalsely : Prop := rangesElementwiseRow.holds Try.pinned (OpenSpec.ofChange rangesElementwiseWrong)

/-- 'stagepostlaw12.RangesAddCommutes': WHATEVER THE INPUT: true; the input reads as it did. -/
def rangesAddCommutesSpec : ChangeSpec := { name := "rangesAddCommutes", fn := fun _ => fun
  | [d1, d2, d3] => { results := [.lit (.bool true)], args := [d1, d2, d3] }
  | _ => none }
def rangesAddCommutesRow : OpenClaim := { program := "ythkkhgfdppbphaa", sum := "c4af4f087dd51d3189adf5ce7f3c91a1ebd44c6800e25c2e543494d4546116fe", func := "stagepost/stagepostlaw12.RangesAddCommutes", spec := "rangesAddCommutes", unfollowed := true, recurses := true, apart := false }
def RangesAddCommutesSaid : Prop := rangesAddCommutesRow.holds Try.pinned (OpenSpec.ofChange rangesAddCommutesSpec)

/-- ITS FALSE NEIGHBOUR: 'it returns false'. Refute it at one input. -/
def rangesAddCommutesWrong : ChangeSpec := { name := "rangesAddCommutes", fn := fun _ => fun
  | [d1, d2, d3] => { results := [.lit (.bool false)], args := [d1, d2, d3] }
  | _ => none }
def RangesAddCommutesWrongFalsely : Prop := rangesAddCommutesRow.holds Try.pinned (OpenSpec.ofChange rangesAddCommutesWrong)

/-- 'stagepostlaw12.RangesRemoveUndoesAdd': WHATEVER THE INPUT: true; the input reads as it did. -/
def rangesRemoveUndoesAddSpec : ChangeSpec := { name := "rangesRemoveUndoesAdd", fn := fun _ => fun
  | [d1, d2] => { results := [.lit (.bool true)], args := [d1, d2] }
  | _ => none }
def rangesRemoveUndoesAddRow : OpenClaim := { program := "ythkkhgfdppbphaa", sum := "c4af4f087dd51d3189adf5ce7f3c91a1ebd44c6800e25c2e543494d4546116fe", func := "stagepost/stagepostlaw12.RangesRemoveUndoesAdd", spec := "rangesRemoveUndoesAdd", unfollowed := true, recurses := true, apart := false }
def RangesRemoveUndoesAddSaid : Prop := rangesRemoveUndoesAddRow.holds Try.pinned (OpenSpec.ofChange rangesRemoveUndoesAddSpec)

/-- ITS FALSE NEIGHBOUR: 'it returns false'. Refute it at one input. -/
def rangesRemoveUndoesAddWrong : ChangeSpec := { name := "rangesRemoveUndoesAdd", fn := fun _ => fun
  | [d1, d2] => { results := [.lit (.bool false)], args := [d1, d2] }
  | _ => none }
def RangesRemoveUndoesAddWrongFalsely : Prop := rangesRemoveUndoesAddRow.holds Try.pinned (OpenSpec.ofChange rangesRemoveUndoesAddWrong)

/-- 'stagepostlaw12.RangesCounts': WHATEVER THE INPUT: true; the input reads as it did. -/
def rangesCountsSpec : ChangeSpec := { name := "rangesCounts", fn := fun _ => fun
  | [d1, d2] => { results := [.lit (.bool true)], args := [d1, d2] }
  | _ => none }
def rangesCountsRow : OpenClaim := { program := "ythkkhgfdppbphaa", sum := "c4af4f087dd51d3189adf5ce7f3c91a1ebd44c6800e25c2e543494d4546116fe", func := "stagepost/stagepostlaw12.RangesCounts", spec := "rangesCounts", unfollowed := true, recurses := true, apart := false }
def RangesCountsSaid : Prop := rangesCountsRow.holds Try.pinned (OpenSpec.ofChange rangesCountsSpec)

/-- ITS FALSE NEIGHBOUR: 'it returns false'. Refute it at one input. -/
def rangesCountsWrong : ChangeSpec := { name := "rangesCounts", fn := fun _ => fun
  | [d1, d2] => { results := [.lit (.bool false)], args := [d1, d2] }
  | _ => none }
def RangesCountsWrongFalsely : Prop := rangesCountsRow.holds Try.pinned (OpenSpec.ofChange rangesCountsWrong)

/-- 'stagepostlaw12.RangesTranslation': WHATEVER THE INPUT: true; the input reads as it did. -/
def rangesTranslationSpec : ChangeSpec := { name := "rangesTranslation", fn := fun _ => fun
  | [d1, d2, d3] => { results := [.lit (.bool true)], args := [d1, d2, d3] }
  | _ => none }
def rangesTranslationRow : OpenClaim := { program := "ythkkhgfdppbphaa", sum := "c4af4f087dd51d3189adf5ce7f3c91a1ebd44c6800e25c2e543494d4546116fe", func := "stagepost/stagepostlaw12.RangesTranslation", spec := "rangesTranslation", unfollowed := true, recurses := true, apart := false }
def RangesTranslationSaid : Prop := rangesTranslationRow.holds Try.pinned (OpenSpec.ofChange rangesTranslationSpec)

/-- ITS FALSE NEIGHBOUR: 'it returns false'. Refute it at one input. -/
def rangesTranslationWrong : ChangeSpec := { name := "rangesTranslation", fn := fun _ => fun
  | [d1, d2, d3] => { results := [.lit (.bool false)], args := [d1, d2, d3] }
  | _ => none }
def RangesTranslationWrongFalsely : Prop := rangesTranslationRow.holds Try.pinned (OpenSpec.ofChange rangesTranslationWrong)

/-- 'stagepostlaw12.RangesBounds': WHATEVER THE INPUT: true; the input reads as it did. -/
def rangesBoundsSpec : ChangeSpec := { name := "rangesBounds", fn := fun _ => fun
  | [d] => { results := [.lit (.bool true)], args := [d] }
  | _ => none }
def rangesBoundsRow : OpenClaim := { program := "ythkkhgfdppbphaa", sum := "c4af4f087dd51d3189adf5ce7f3c91a1ebd44c6800e25c2e543494d4546116fe", func := "stagepost/stagepostlaw12.RangesBounds", spec := "rangesBounds", unfollowed := true, recurses := true, apart := false }
def RangesBoundsSaid : Prop := rangesBoundsRow.holds Try.pinned (OpenSpec.ofChange rangesBoundsSpec)

/-- ITS FALSE NEIGHBOUR: 'it returns false'. Refute it at one input. -/
def rangesBoundsWrong : ChangeSpec := { name := "rangesBounds", fn := fun _ => fun
  | [d] => { results := [.lit (.bool false)], args := [d] }
  | _ => none }
def RangesBoundsWrongFalsely : Prop := rangesBoundsRow.holds Try.pinned (OpenSpec.ofChange rangesBoundsWrong)

/- THE SECOND FORM. 'bulk': how many values and letters a reading holds, each counted each time it is reached (what is shared counts as often as it is met; a slice's spare places count too). A statement '..UptoSaid' is the law's where the arguments, and the package variables that the reading takes, are together of bulk at most 1048576: NARROWER than '..Said'. Prove '..Said' where nothing that the law and all that it calls make is longer than what came in: it says more and counts as full. Else prove '..UptoSaid'. A law counts once. -/
mutual
def uptoBulk {H : Type} : DataW H → Nat
  | .lit (.string bytes) => bytes.length + 1
  | .lit _ => 1
  | .nil => 1
  | .ptr d => uptoBulk d + 1
  | .slice elems spare => uptoBulkAll elems + uptoBulkAll spare + 1
  | .agg parts => uptoBulkAll parts + 1
  | .iface _ d => uptoBulk d + 1
  | .map entries => uptoBulkEntries entries + 1
  | .held _ => 1
def uptoBulkAll {H : Type} : List (DataW H) → Nat
  | [] => 0
  | d :: r => uptoBulk d + uptoBulkAll r
def uptoBulkEntries {H : Type} : List (Lit × DataW H) → Nat
  | [] => 0
  | x :: r => uptoBulkEntry x + uptoBulkEntries r
def uptoBulkEntry {H : Type} : Lit × DataW H → Nat
  | (.string bytes, d) => bytes.length + uptoBulk d + 1
  | (_, d) => uptoBulk d + 1
 end
def uptoSmall : (H : Type) → List (DataW H) → Bool := fun _ ds => decide (uptoBulkAll ds ≤ 1048576)
def OpenSpec.upto (s : _root_.Go.ChangeSpec) : _root_.Go.OpenSpec := { _root_.Go.OpenSpec.ofChange s with cond := some uptoSmall }

/-- 'stagepostlaw12.RangesMatchReference', WHERE WHAT IT READS IS OF BULK AT MOST 1048576: true; the input reads as it did. -/
def rangesMatchReferenceUptoRow : OpenClaim := { program := "ythkkhgfdppbphaa", sum := "c4af4f087dd51d3189adf5ce7f3c91a1ebd44c6800e25c2e543494d4546116fe", func := "stagepost/stagepostlaw12.RangesMatchReference", spec := "rangesMatchReference", unfollowed := true, recurses := true, apart := false, narrowed := true }
def RangesMatchReferenceUptoSaid : Prop := rangesMatchReferenceUptoRow.holds Try.pinned (OpenSpec.upto rangesMatchReferenceSpec)

/-- 'stagepostlaw12.RangesElementwise', WHERE WHAT IT READS IS OF BULK AT MOST 1048576: true; the input reads as it did. -/
def rangesElementwiseUptoRow : OpenClaim := { program := "ythkkhgfdppbphaa", sum := "c4af4f087dd51d3189adf5ce7f3c91a1ebd44c6800e25c2e543494d4546116fe", func := "stagepost/stagepostlaw12.RangesElementwise", spec := "rangesElementwise", unfollowed := true, recurses := true, apart := false, narrowed := true }
def RangesElementwiseUptoSaid : Prop := rangesElementwiseUptoRow.holds Try.pinned (OpenSpec.upto rangesElementwiseSpec)

/-- 'stagepostlaw12.RangesAddCommutes', WHERE WHAT IT READS IS OF BULK AT MOST 1048576: true; the input reads as it did. -/
def rangesAddCommutesUptoRow : OpenClaim := { program := "ythkkhgfdppbphaa", sum := "c4af4f087dd51d3189adf5ce7f3c91a1ebd44c6800e25c2e543494d4546116fe", func := "stagepost/stagepostlaw12.RangesAddCommutes", spec := "rangesAddCommutes", unfollowed := true, recurses := true, apart := false, narrowed := true }
def RangesAddCommutesUptoSaid : Prop := rangesAddCommutesUptoRow.holds Try.pinned (OpenSpec.upto rangesAddCommutesSpec)

/-- 'stagepostlaw12.RangesRemoveUndoesAdd', WHERE WHAT IT READS IS OF BULK AT MOST 1048576: true; the input reads as it did. -/
def rangesRemoveUndoesAddUptoRow : OpenClaim := { program := "ythkkhgfdppbphaa", sum := "c4af4f087dd51d3189adf5ce7f3c91a1ebd44c6800e25c2e543494d4546116fe", func := "stagepost/stagepostlaw12.RangesRemoveUndoesAdd", spec := "rangesRemoveUndoesAdd", unfollowed := true, recurses := true, apart := false, narrowed := true }
def RangesRemoveUndoesAddUptoSaid : Prop := rangesRemoveUndoesAddUptoRow.holds Try.pinned (OpenSpec.upto rangesRemoveUndoesAddSpec)

/-- 'stagepostlaw12.RangesCounts', WHERE WHAT IT READS IS OF BULK AT MOST 1048576: true; the input reads as it did. -/
def rangesCountsUptoRow : OpenClaim := { program := "ythkkhgfdppbphaa", sum := "c4af4f087dd51d3189adf5ce7f3c91a1ebd44c6800e25c2e543494d4546116fe", func := "stagepost/stagepostlaw12.RangesCounts", spec := "rangesCounts", unfollowed := true, recurses := true, apart := false, narrowed := true }
def RangesCountsUptoSaid : Prop := rangesCountsUptoRow.holds Try.pinned (OpenSpec.upto rangesCountsSpec)

/-- 'stagepostlaw12.RangesTranslation', WHERE WHAT IT READS IS OF BULK AT MOST 1048576: true; the input reads as it did. -/
def rangesTranslationUptoRow : OpenClaim := { program := "ythkkhgfdppbphaa", sum := "c4af4f087dd51d3189adf5ce7f3c91a1ebd44c6800e25c2e543494d4546116fe", func := "stagepost/stagepostlaw12.RangesTranslation", spec := "rangesTranslation", unfollowed := true, recurses := true, apart := false, narrowed := true }
def RangesTranslationUptoSaid : Prop := rangesTranslationUptoRow.holds Try.pinned (OpenSpec.upto rangesTranslationSpec)

/-- 'stagepostlaw12.RangesBounds', WHERE WHAT IT READS IS OF BULK AT MOST 1048576: true; the input reads as it did. -/
def rangesBoundsUptoRow : OpenClaim := { program := "ythkkhgfdppbphaa", sum := "c4af4f087dd51d3189adf5ce7f3c91a1ebd44c6800e25c2e543494d4546116fe", func := "stagepost/stagepostlaw12.RangesBounds", spec := "rangesBounds", unfollowed := true, recurses := true, apart := false, narrowed := true }
def RangesBoundsUptoSaid : Prop := rangesBoundsUptoRow.holds Try.pinned (OpenSpec.upto rangesBoundsSpec)

end Rows
end Go.Proofs.Ythkkhgfdppbphaa
