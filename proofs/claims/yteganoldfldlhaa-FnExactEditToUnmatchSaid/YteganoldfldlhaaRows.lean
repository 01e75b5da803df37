/-
  No cell of these rows narrows 'for every input' (looked for: loops, veiled, ifaces, maps, wideKeys, modest, calm, conditions, laid).
  DERIVED. THE GIVEN ROWS OF THIS SEAT. 11 by the template 'for every input the law returns true; each argument reads behind the call as it read before'; 0 by the template 'total and deterministic' (their statements: YteganoldfldlhaaTotals.lean).
  GIVEN WITH THE SEED: the statements are not yours to turn. If you find one false, say at which input.
  Laid BY PROGRAM, IN A SANDBOX (cutbox-rows.mjs): the forced cells as the released guide's own fill.sh prints them over the translation f06c498756126a1b… (all of the seat's roots in one cut). By AI agents, Wed Nov 11 2026. No macro, syntax, notation, axiom, sorry.
-/
import Derived.Test.YteganoldfldlhaaChecked
import GoSem.Claim
import GoSem.ClaimJoined
import GoSem.ClaimMapViews
import Derived.JoinedTies
import Derived.KernelRfl
namespace Go.Proofs.Yteganoldfldlhaa
/- THE CELL 'sum', in the pinned program and in every row, IS THE sha256 OF THE DUMP (.gsa) THAT YteganoldfldlhaaProg.lean LOADS. Nothing in Lean hashes anything: it is a label: what it is worth is what the hold of that sum in a sandbox is worth. -/
noncomputable def Try.pinned : Pinned := { name := "yteganoldfldlhaa", sum := "f06c498756126a1bc6fc7e7b48695405d05199abfb0a2ebaca2b2345ade8240f", checked := Try.checked }
namespace Rows
def none {H : Type} : Left H := { results := [], args := [] }

/-- 'laws.FnExactGroupSizes': WHATEVER THE INPUT: true; the input reads as it did. -/
def fnExactGroupSizesSpec : ChangeSpec := { name := "fnExactGroupSizes", fn := fun _ => fun
  | [d] => { results := [.lit (.bool true)], args := [d] }
  | _ => none }
def fnExactGroupSizesRow : OpenClaim := { program := "yteganoldfldlhaa", sum := "f06c498756126a1bc6fc7e7b48695405d05199abfb0a2ebaca2b2345ade8240f", func := "loop.example/g00976/laws.FnExactGroupSizes", spec := "fnExactGroupSizes", apart := false }
def FnExactGroupSizesSaid : Prop := fnExactGroupSizesRow.holds Try.pinned (OpenSpec.ofChange fnExactGroupSizesSpec)

/-- ITS FALSE NEIGHBOUR: 'it returns false'. Refute it at one input. -/
def fnExactGroupSizesWrong : ChangeSpec := { name := "fnExactGroupSizes", fn := fun _ => fun
  | [d] => { results := [.lit (.bool false)], args := [d] }
  | _ => none }
def FnExactGroupSizesWrongFalsely : Prop := fnExactGroupSizesRow.holds Try.pinned (OpenSpec.ofChange fnExactGroupSizesWrong)

/-- 'laws.FnExactGroupIDs': WHATEVER THE INPUT: true; the input reads as it did. -/
def fnExactGroupIDsSpec : ChangeSpec := { name := "fnExactGroupIDs", fn := fun _ => fun
  | [d1, d2] => { results := [.lit (.bool true)], args := [d1, d2] }
  | _ => none }
def fnExactGroupIDsRow : OpenClaim := { program := "yteganoldfldlhaa", sum := "f06c498756126a1bc6fc7e7b48695405d05199abfb0a2ebaca2b2345ade8240f", func := "loop.example/g00976/laws.FnExactGroupIDs", spec := "fnExactGroupIDs", apart := false }
def FnExactGroupIDsSaid : Prop := fnExactGroupIDsRow.holds Try.pinned (OpenSpec.ofChange fnExactGroupIDsSpec)

/-- ITS FALSE NEIGHBOUR: 'it returns false'. Refute it at one input. -/
def fnExactGroupIDsWrong : ChangeSpec := { name := "fnExactGroupIDs", fn := fun _ => fun
  | [d1, d2] => { results := [.lit (.bool false)], args := [d1, d2] }
  | _ => none }
def FnExactGroupIDsWrongFalsely : Prop := fnExactGroupIDsRow.holds Try.pinned (OpenSpec.ofChange fnExactGroupIDsWrong)

/-- 'laws.FnExactUnaffectedDirs': WHATEVER THE INPUT: true; the input reads as it did. -/
def fnExactUnaffectedDirsSpec : ChangeSpec := { name := "fnExactUnaffectedDirs", fn := fun _ => fun
  | [d1, d2] => { results := [.lit (.bool true)], args := [d1, d2] }
  | _ => none }
def fnExactUnaffectedDirsRow : OpenClaim := { program := "yteganoldfldlhaa", sum := "f06c498756126a1bc6fc7e7b48695405d05199abfb0a2ebaca2b2345ade8240f", func := "loop.example/g00976/laws.FnExactUnaffectedDirs", spec := "fnExactUnaffectedDirs", unfollowed := true, recurses := true, apart := false }
def FnExactUnaffectedDirsSaid : Prop := fnExactUnaffectedDirsRow.holds Try.pinned (OpenSpec.ofChange fnExactUnaffectedDirsSpec)

/-- ITS FALSE NEIGHBOUR: 'it returns false'. Refute it at one input. -/
def fnExactUnaffectedDirsWrong : ChangeSpec := { name := "fnExactUnaffectedDirs", fn := fun _ => fun
  | [d1, d2] => { results := [.lit (.bool false)], args := [d1, d2] }
  | _ => none }
def FnExactUnaffectedDirsWrongFalsely : Prop := fnExactUnaffectedDirsRow.holds Try.pinned (OpenSpec.ofChange fnExactUnaffectedDirsWrong)

/-- 'laws.FnExactMergeEdits': WHATEVER THE INPUT: true; the input reads as it did. -/
def fnExactMergeEditsSpec : ChangeSpec := { name := "fnExactMergeEdits", fn := fun _ => fun
  | [d1, d2] => { results := [.lit (.bool true)], args := [d1, d2] }
  | _ => none }
def fnExactMergeEditsRow : OpenClaim := { program := "yteganoldfldlhaa", sum := "f06c498756126a1bc6fc7e7b48695405d05199abfb0a2ebaca2b2345ade8240f", func := "loop.example/g00976/laws.FnExactMergeEdits", spec := "fnExactMergeEdits", inPlace := ["slices.overlaps[loop.example/g00976/impl.Attr]"], unfollowed := true, recurses := true, apart := false }
def FnExactMergeEditsSaid : Prop := fnExactMergeEditsRow.holds Try.pinned (OpenSpec.ofChange fnExactMergeEditsSpec)

/-- ITS FALSE NEIGHBOUR: 'it returns false'. Refute it at one input. -/
def fnExactMergeEditsWrong : ChangeSpec := { name := "fnExactMergeEdits", fn := fun _ => fun
  | [d1, d2] => { results := [.lit (.bool false)], args := [d1, d2] }
  | _ => none }
def FnExactMergeEditsWrongFalsely : Prop := fnExactMergeEditsRow.holds Try.pinned (OpenSpec.ofChange fnExactMergeEditsWrong)

/-- 'laws.FnExactApplyEdit': WHATEVER THE INPUT: true; the input reads as it did. -/
def fnExactApplyEditSpec : ChangeSpec := { name := "fnExactApplyEdit", fn := fun _ => fun
  | [d1, d2] => { results := [.lit (.bool true)], args := [d1, d2] }
  | _ => none }
def fnExactApplyEditRow : OpenClaim := { program := "yteganoldfldlhaa", sum := "f06c498756126a1bc6fc7e7b48695405d05199abfb0a2ebaca2b2345ade8240f", func := "loop.example/g00976/laws.FnExactApplyEdit", spec := "fnExactApplyEdit", inPlace := ["slices.overlaps[loop.example/g00976/impl.Attr]"], unfollowed := true, recurses := true, apart := false }
def FnExactApplyEditSaid : Prop := fnExactApplyEditRow.holds Try.pinned (OpenSpec.ofChange fnExactApplyEditSpec)

/-- ITS FALSE NEIGHBOUR: 'it returns false'. Refute it at one input. -/
def fnExactApplyEditWrong : ChangeSpec := { name := "fnExactApplyEdit", fn := fun _ => fun
  | [d1, d2] => { results := [.lit (.bool false)], args := [d1, d2] }
  | _ => none }
def FnExactApplyEditWrongFalsely : Prop := fnExactApplyEditRow.holds Try.pinned (OpenSpec.ofChange fnExactApplyEditWrong)

/-- 'laws.FnExactGroupByAttr': WHATEVER THE INPUT: true; the input reads as it did. -/
def fnExactGroupByAttrSpec : ChangeSpec := { name := "fnExactGroupByAttr", fn := fun _ => fun
  | [d1, d2, d3] => { results := [.lit (.bool true)], args := [d1, d2, d3] }
  | _ => none }
def fnExactGroupByAttrRow : OpenClaim := { program := "yteganoldfldlhaa", sum := "f06c498756126a1bc6fc7e7b48695405d05199abfb0a2ebaca2b2345ade8240f", func := "loop.example/g00976/laws.FnExactGroupByAttr", spec := "fnExactGroupByAttr", unfollowed := true, recurses := true, apart := false }
def FnExactGroupByAttrSaid : Prop := fnExactGroupByAttrRow.holds Try.pinned (OpenSpec.ofChange fnExactGroupByAttrSpec)

/-- ITS FALSE NEIGHBOUR: 'it returns false'. Refute it at one input. -/
def fnExactGroupByAttrWrong : ChangeSpec := { name := "fnExactGroupByAttr", fn := fun _ => fun
  | [d1, d2, d3] => { results := [.lit (.bool false)], args := [d1, d2, d3] }
  | _ => none }
def FnExactGroupByAttrWrongFalsely : Prop := fnExactGroupByAttrRow.holds Try.pinned (OpenSpec.ofChange fnExactGroupByAttrWrong)

/-- 'laws.FnExactApplyDiffs': WHATEVER THE INPUT: true; the input reads as it did. -/
def fnExactApplyDiffsSpec : ChangeSpec := { name := "fnExactApplyDiffs", fn := fun _ => fun
  | [d1, d2] => { results := [.lit (.bool true)], args := [d1, d2] }
  | _ => none }
def fnExactApplyDiffsRow : OpenClaim := { program := "yteganoldfldlhaa", sum := "f06c498756126a1bc6fc7e7b48695405d05199abfb0a2ebaca2b2345ade8240f", func := "loop.example/g00976/laws.FnExactApplyDiffs", spec := "fnExactApplyDiffs", unfollowed := true, recurses := true, apart := false }
def FnExactApplyDiffsSaid : Prop := fnExactApplyDiffsRow.holds Try.pinned (OpenSpec.ofChange fnExactApplyDiffsSpec)

/-- ITS FALSE NEIGHBOUR: 'it returns false'. Refute it at one input. -/
def fnExactApplyDiffsWrong : ChangeSpec := { name := "fnExactApplyDiffs", fn := fun _ => fun
  | [d1, d2] => { results := [.lit (.bool false)], args := [d1, d2] }
  | _ => none }
def FnExactApplyDiffsWrongFalsely : Prop := fnExactApplyDiffsRow.holds Try.pinned (OpenSpec.ofChange fnExactApplyDiffsWrong)

/-- 'laws.FnExactEditToMatch': WHATEVER THE INPUT: true; the input reads as it did. -/
def fnExactEditToMatchSpec : ChangeSpec := { name := "fnExactEditToMatch", fn := fun _ => fun
  | [d1, d2, d3] => { results := [.lit (.bool true)], args := [d1, d2, d3] }
  | _ => none }
def fnExactEditToMatchRow : OpenClaim := { program := "yteganoldfldlhaa", sum := "f06c498756126a1bc6fc7e7b48695405d05199abfb0a2ebaca2b2345ade8240f", func := "loop.example/g00976/laws.FnExactEditToMatch", spec := "fnExactEditToMatch", inPlace := ["slices.overlaps[loop.example/g00976/impl.Attr]"], unfollowed := true, recurses := true, apart := false }
def FnExactEditToMatchSaid : Prop := fnExactEditToMatchRow.holds Try.pinned (OpenSpec.ofChange fnExactEditToMatchSpec)

/-- ITS FALSE NEIGHBOUR: 'it returns false'. Refute it at one input. -/
def fnExactEditToMatchWrong : ChangeSpec := { name := "fnExactEditToMatch", fn := fun _ => fun
  | [d1, d2, d3] => { results := [.lit (.bool false)], args := [d1, d2, d3] }
  | _ => none }
def FnExactEditToMatchWrongFalsely : Prop := fnExactEditToMatchRow.holds Try.pinned (OpenSpec.ofChange fnExactEditToMatchWrong)

/-- 'laws.FnExactEditToUnmatch': WHATEVER THE INPUT: true; the input reads as it did. -/
def fnExactEditToUnmatchSpec : ChangeSpec := { name := "fnExactEditToUnmatch", fn := fun _ => fun
  | [d1, d2, d3] => { results := [.lit (.bool true)], args := [d1, d2, d3] }
  | _ => none }
def fnExactEditToUnmatchRow : OpenClaim := { program := "yteganoldfldlhaa", sum := "f06c498756126a1bc6fc7e7b48695405d05199abfb0a2ebaca2b2345ade8240f", func := "loop.example/g00976/laws.FnExactEditToUnmatch", spec := "fnExactEditToUnmatch", inPlace := ["slices.overlaps[loop.example/g00976/impl.Attr]"], unfollowed := true, recurses := true, apart := false }
def FnExactEditToUnmatchSaid : Prop := fnExactEditToUnmatchRow.holds Try.pinned (OpenSpec.ofChange fnExactEditToUnmatchSpec)

/-- ITS FALSE NEIGHBOUR: 'it returns false'. Refute it at one input. -/
def fnExactEditToUnmatchWrong : ChangeSpec := { name := "fnExactEditToUnmatch", fn := fun _ => fun
  | [d1, d2, d3] => { results := [.lit (.bool false)], args := [d1, d2, d3] }
  | _ => none }
def FnExactEditToUnmatchWrongFalsely : Prop := fnExactEditToUnmatchRow.holds Try.pinned (OpenSpec.ofChange fnExactEditToUnmatchWrong)

/-- 'laws.FnExactDirectlyAffected': WHATEVER THE INPUT: true; the input reads as it did. -/
def fnExactDirectlyAffectedSpec : ChangeSpec := { name := "fnExactDirectlyAffected", fn := fun _ => fun
  | [d1, d2, d3] => { results := [.lit (.bool true)], args := [d1, d2, d3] }
  | _ => none }
def fnExactDirectlyAffectedRow : OpenClaim := { program := "yteganoldfldlhaa", sum := "f06c498756126a1bc6fc7e7b48695405d05199abfb0a2ebaca2b2345ade8240f", func := "loop.example/g00976/laws.FnExactDirectlyAffected", spec := "fnExactDirectlyAffected", unfollowed := true, recurses := true, apart := false }
def FnExactDirectlyAffectedSaid : Prop := fnExactDirectlyAffectedRow.holds Try.pinned (OpenSpec.ofChange fnExactDirectlyAffectedSpec)

/-- ITS FALSE NEIGHBOUR: 'it returns false'. Refute it at one input. -/
def fnExactDirectlyAffectedWrong : ChangeSpec := { name := "fnExactDirectlyAffected", fn := fun _ => fun
  | [d1, d2, d3] => { results := [.lit (.bool false)], args := [d1, d2, d3] }
  | _ => none }
def FnExactDirectlyAffectedWrongFalsely : Prop := fnExactDirectlyAffectedRow.holds Try.pinned (OpenSpec.ofChange fnExactDirectlyAffectedWrong)

/-- 'laws.FnExactAffectedDirs': WHATEVER THE INPUT: true; the input reads as it did. -/
def fnExactAffectedDirsSpec : ChangeSpec := { name := "fnExactAffectedDirs", fn := fun _ => fun
  | [d1, d2, d3] => { results := [.lit (.bool true)], args := [d1, d2, d3] }
  | _ => none }
def fnExactAffectedDirsRow : OpenClaim := { program := "yteganoldfldlhaa", sum := "f06c498756126a1bc6fc7e7b48695405d05199abfb0a2ebaca2b2345ade8240f", func := "loop.example/g00976/laws.FnExactAffectedDirs", spec := "fnExactAffectedDirs", unfollowed := true, recurses := true, apart := false }
def FnExactAffectedDirsSaid : Prop := fnExactAffectedDirsRow.holds Try.pinned (OpenSpec.ofChange fnExactAffectedDirsSpec)

/-- ITS FALSE NEIGHBOUR: 'it returns false'. Refute it at one input. -/
def fnExactAffectedDirsWrong : ChangeSpec := { name := "fnExactAffectedDirs", fn := fun _ => fun
  | [d1, d2, d3] => { results := [.lit (.bool false)], args := [d1, d2, d3] }
  | _ => none }
def FnExactAffectedDirsWrongFalsely : Prop := fnExactAffectedDirsRow.holds Try.pinned (OpenSpec.ofChange fnExactAffectedDirsWrong)

/- THE SECOND FORM. 'bulk': how many values and letters a reading holds, each counted each time it is reached (what is shared counts as often as it is met; a slice's spare places count too). A statement '..UptoSaid' is the law's where the arguments, and the package variables that the reading takes, are together of bulk at most 1048576: NARROWER than '..Said'. Prove '..Said' where nothing that the law and all that it calls make is longer than what came in: it says more and counts as full. Else prove '..UptoSaid'. A law counts once. -/
mutual
def uptoBulk {H : Type} : DataW H → Nat
  | .lit (.string bytes) => bytes.length + 1
  | .lit _ => 1
  | .nil => 1
  | .ptr d => uptoBulk d + 1
  | .slice elems spare => uptoBulkAll elems + uptoBulkAll spare + 1
  | .agg parts => uptoBulkAll parts + 1
  | .iface _ d => uptoBulk d + 1
  | .map entries => uptoBulkEntries entries + 1
  | .held _ => 1
def uptoBulkAll {H : Type} : List (DataW H) → Nat
  | [] => 0
  | d :: r => uptoBulk d + uptoBulkAll r
def uptoBulkEntries {H : Type} : List (Lit × DataW H) → Nat
  | [] => 0
  | x :: r => uptoBulkEntry x + uptoBulkEntries r
def uptoBulkEntry {H : Type} : Lit × DataW H → Nat
  | (.string bytes, d) => bytes.length + uptoBulk d + 1
  | (_, d) => uptoBulk d + 1
 end
def uptoSmall : (H : Type) → List (DataW H) → Bool := fun _ ds => decide (uptoBulkAll ds ≤ 1048576)
def OpenSpec.upto (s : _root_.Go.ChangeSpec) : _root_.Go.OpenSpec := { _root_.Go.OpenSpec.ofChange s with cond := some uptoSmall }

/-- 'laws.FnExactGroupSizes', WHERE WHAT IT READS IS OF BULK AT MOST 1048576: true; the input reads as it did. -/
def fnExactGroupSizesUptoRow : OpenClaim := { program := "yteganoldfldlhaa", sum := "f06c498756126a1bc6fc7e7b48695405d05199abfb0a2ebaca2b2345ade8240f", func := "loop.example/g00976/laws.FnExactGroupSizes", spec := "fnExactGroupSizes", apart := false, narrowed := true }
def FnExactGroupSizesUptoSaid : Prop := fnExactGroupSizesUptoRow.holds Try.pinned (OpenSpec.upto fnExactGroupSizesSpec)

/-- 'laws.FnExactGroupIDs', WHERE WHAT IT READS IS OF BULK AT MOST 1048576: true; the input reads as it did. -/
def fnExactGroupIDsUptoRow : OpenClaim := { program := "yteganoldfldlhaa", sum := "f06c498756126a1bc6fc7e7b48695405d05199abfb0a2ebaca2b2345ade8240f", func := "loop.example/g00976/laws.FnExactGroupIDs", spec := "fnExactGroupIDs", apart := false, narrowed := true }
def FnExactGroupIDsUptoSaid : Prop := fnExactGroupIDsUptoRow.holds Try.pinned (OpenSpec.upto fnExactGroupIDsSpec)

/-- 'laws.FnExactUnaffectedDirs', WHERE WHAT IT READS IS OF BULK AT MOST 1048576: true; the input reads as it did. -/
def fnExactUnaffectedDirsUptoRow : OpenClaim := { program := "yteganoldfldlhaa", sum := "f06c498756126a1bc6fc7e7b48695405d05199abfb0a2ebaca2b2345ade8240f", func := "loop.example/g00976/laws.FnExactUnaffectedDirs", spec := "fnExactUnaffectedDirs", unfollowed := true, recurses := true, apart := false, narrowed := true }
def FnExactUnaffectedDirsUptoSaid : Prop := fnExactUnaffectedDirsUptoRow.holds Try.pinned (OpenSpec.upto fnExactUnaffectedDirsSpec)

/-- 'laws.FnExactMergeEdits', WHERE WHAT IT READS IS OF BULK AT MOST 1048576: true; the input reads as it did. -/
def fnExactMergeEditsUptoRow : OpenClaim := { program := "yteganoldfldlhaa", sum := "f06c498756126a1bc6fc7e7b48695405d05199abfb0a2ebaca2b2345ade8240f", func := "loop.example/g00976/laws.FnExactMergeEdits", spec := "fnExactMergeEdits", inPlace := ["slices.overlaps[loop.example/g00976/impl.Attr]"], unfollowed := true, recurses := true, apart := false, narrowed := true }
def FnExactMergeEditsUptoSaid : Prop := fnExactMergeEditsUptoRow.holds Try.pinned (OpenSpec.upto fnExactMergeEditsSpec)

/-- 'laws.FnExactApplyEdit', WHERE WHAT IT READS IS OF BULK AT MOST 1048576: true; the input reads as it did. -/
def fnExactApplyEditUptoRow : OpenClaim := { program := "yteganoldfldlhaa", sum := "f06c498756126a1bc6fc7e7b48695405d05199abfb0a2ebaca2b2345ade8240f", func := "loop.example/g00976/laws.FnExactApplyEdit", spec := "fnExactApplyEdit", inPlace := ["slices.overlaps[loop.example/g00976/impl.Attr]"], unfollowed := true, recurses := true, apart := false, narrowed := true }
def FnExactApplyEditUptoSaid : Prop := fnExactApplyEditUptoRow.holds Try.pinned (OpenSpec.upto fnExactApplyEditSpec)

/-- 'laws.FnExactGroupByAttr', WHERE WHAT IT READS IS OF BULK AT MOST 1048576: true; the input reads as it did. -/
def fnExactGroupByAttrUptoRow : OpenClaim := { program := "yteganoldfldlhaa", sum := "f06c498756126a1bc6fc7e7b48695405d05199abfb0a2ebaca2b2345ade8240f", func := "loop.example/g00976/laws.FnExactGroupByAttr", spec := "fnExactGroupByAttr", unfollowed := true, recurses := true, apart := false, narrowed := true }
def FnExactGroupByAttrUptoSaid : Prop := fnExactGroupByAttrUptoRow.holds Try.pinned (OpenSpec.upto fnExactGroupByAttrSpec)

/-- 'laws.FnExactApplyDiffs', WHERE WHAT IT READS IS OF BULK AT MOST 1048576: true; the input reads as it did. -/
def fnExactApplyDiffsUptoRow : OpenClaim := { program := "yteganoldfldlhaa", sum := "f06c498756126a1bc6fc7e7b48695405d05199abfb0a2ebaca2b2345ade8240f", func := "loop.example/g00976/laws.FnExactApplyDiffs", spec := "fnExactApplyDiffs", unfollowed := true, recurses := true, apart := false, narrowed := true }
def FnExactApplyDiffsUptoSaid : Prop := fnExactApplyDiffsUptoRow.holds Try.pinned (OpenSpec.upto fnExactApplyDiffsSpec)

/-- 'laws.FnExactEditToMatch', WHERE WHAT IT READS IS OF BULK AT MOST 1048576: true; the input reads as it did. -/
def fnExactEditToMatchUptoRow : OpenClaim := { program := "yteganoldfldlhaa", sum := "f06c498756126a1bc6fc7e7b48695405d05199abfb0a2ebaca2b2345ade8240f", func := "loop.example/g00976/laws.FnExactEditToMatch", spec := "fnExactEditToMatch", inPlace := ["slices.overlaps[loop.example/g00976/impl.Attr]"], unfollowed := true, recurses := true, apart := false, narrowed := true }
def FnExactEditToMatchUptoSaid : Prop := fnExactEditToMatchUptoRow.holds Try.pinned (OpenSpec.upto fnExactEditToMatchSpec)

/-- 'laws.FnExactEditToUnmatch', WHERE WHAT IT READS IS OF BULK AT MOST 1048576: true; the input reads as it did. -/
def fnExactEditToUnmatchUptoRow : OpenClaim := { program := "yteganoldfldlhaa", sum := "f06c498756126a1bc6fc7e7b48695405d05199abfb0a2ebaca2b2345ade8240f", func := "loop.example/g00976/laws.FnExactEditToUnmatch", spec := "fnExactEditToUnmatch", inPlace := ["slices.overlaps[loop.example/g00976/impl.Attr]"], unfollowed := true, recurses := true, apart := false, narrowed := true }
def FnExactEditToUnmatchUptoSaid : Prop := fnExactEditToUnmatchUptoRow.holds Try.pinned (OpenSpec.upto fnExactEditToUnmatchSpec)

/-- 'laws.FnExactDirectlyAffected', WHERE WHAT IT READS IS OF BULK AT MOST 1048576: true; the input reads as it did. -/
def fnExactDirectlyAffectedUptoRow : OpenClaim := { program := "yteganoldfldlhaa", sum := "f06c498756126a1bc6fc7e7b48695405d05199abfb0a2ebaca2b2345ade8240f", func := "loop.example/g00976/laws.FnExactDirectlyAffected", spec := "fnExactDirectlyAffected", unfollowed := true, recurses := true, apart := false, narrowed := true }
def FnExactDirectlyAffectedUptoSaid : Prop := fnExactDirectlyAffectedUptoRow.holds Try.pinned (OpenSpec.upto fnExactDirectlyAffectedSpec)

/-- 'laws.FnExactAffectedDirs', WHERE WHAT IT READS IS OF BULK AT MOST 1048576: true; the input reads as it did. -/
def fnExactAffectedDirsUptoRow : OpenClaim := { program := "yteganoldfldlhaa", sum := "f06c498756126a1bc6fc7e7b48695405d05199abfb0a2ebaca2b2345ade8240f", func := "loop.example/g00976/laws.FnExactAffectedDirs", spec := "fnExactAffectedDirs", unfollowed := true, recurses := true, apart := false, narrowed := true }
def FnExactAffectedDirsUptoSaid : Prop := fnExactAffectedDirsUptoRow.holds Try.pinned (OpenSpec.upto fnExactAffectedDirsSpec)

end Rows
end Go.Proofs.Yteganoldfldlhaa
