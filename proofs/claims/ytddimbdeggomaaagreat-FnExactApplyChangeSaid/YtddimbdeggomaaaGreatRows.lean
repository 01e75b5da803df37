/-
  No cell of these rows narrows 'for every input' (looked for: loops, veiled, ifaces, maps, wideKeys, modest, calm, conditions, laid).
  DERIVED. THE GIVEN ROWS OF THIS SEAT. 11 by the template 'for every input the law returns true; each argument reads behind the call as it read before'; 0 by the template 'total and deterministic' (their statements: YtddimbdeggomaaaGreatTotals.lean).
  GIVEN WITH THE SEED: the statements are not yours to turn. If you find one false, say at which input.
  Laid BY PROGRAM, IN A SANDBOX (cutbox-rows.mjs): the forced cells as the released guide's own fill.sh prints them over the translation a858feab8acfab1d… (all of the seat's roots in one cut). By AI agents, Wed Nov 11 2026. No macro, syntax, notation, axiom, sorry.
-/
import Derived.Test.YtddimbdeggomaaaGreatChecked
import GoSem.Claim
import GoSem.ClaimJoined
import GoSem.ClaimMapViews
import Derived.JoinedTies
import Derived.KernelRfl
namespace Go.Proofs.YtddimbdeggomaaaGreat
/- THE CELL 'sum', in the pinned program and in every row, IS THE sha256 OF THE DUMP (.gsa) THAT YtddimbdeggomaaaGreatProg.lean LOADS. Nothing in Lean hashes anything: it is a label: what it is worth is what the hold of that sum in a sandbox is worth. -/
noncomputable def Tryz.pinned : Pinned := { name := "ytddimbdeggomaaagreat", sum := "a858feab8acfab1dadf3512adf0b580fb5d0e2b25513ac7ef5591bce27381104", checked := Tryz.checked }
namespace Rows
def none {H : Type} : Left H := { results := [], args := [] }

/-- 'laws.FnExactReevaluate': WHATEVER THE INPUT: true; the input reads as it did. -/
def fnExactReevaluateSpec : ChangeSpec := { name := "fnExactReevaluate", fn := fun _ => fun
  | [d1, d2, d3, d4] => { results := [.lit (.bool true)], args := [d1, d2, d3, d4] }
  | _ => none }
def fnExactReevaluateRow : OpenClaim := { program := "ytddimbdeggomaaagreat", sum := "a858feab8acfab1dadf3512adf0b580fb5d0e2b25513ac7ef5591bce27381104", func := "loop.example/g00976/laws.FnExactReevaluate", spec := "fnExactReevaluate", unfollowed := true, recurses := true, apart := false }
def FnExactReevaluateSaid : Prop := fnExactReevaluateRow.holds Tryz.pinned (OpenSpec.ofChange fnExactReevaluateSpec)

/-- ITS FALSE NEIGHBOUR: 'it returns false'. Refute it at one input. -/
def fnExactReevaluateWrong : ChangeSpec := { name := "fnExactReevaluate", fn := fun _ => fun
  | [d1, d2, d3, d4] => { results := [.lit (.bool false)], args := [d1, d2, d3, d4] }
  | _ => none }
def FnExactReevaluateWrongFalsely : Prop := fnExactReevaluateRow.holds Tryz.pinned (OpenSpec.ofChange fnExactReevaluateWrong)

/-- 'laws.FnExactNewCatalog': WHATEVER THE INPUT: true; the input reads as it did. -/
def fnExactNewCatalogSpec : ChangeSpec := { name := "fnExactNewCatalog", fn := fun _ => fun
  | [d1, d2] => { results := [.lit (.bool true)], args := [d1, d2] }
  | _ => none }
def fnExactNewCatalogRow : OpenClaim := { program := "ytddimbdeggomaaagreat", sum := "a858feab8acfab1dadf3512adf0b580fb5d0e2b25513ac7ef5591bce27381104", func := "loop.example/g00976/laws.FnExactNewCatalog", spec := "fnExactNewCatalog", unfollowed := true, recurses := true, apart := false }
def FnExactNewCatalogSaid : Prop := fnExactNewCatalogRow.holds Tryz.pinned (OpenSpec.ofChange fnExactNewCatalogSpec)

/-- ITS FALSE NEIGHBOUR: 'it returns false'. Refute it at one input. -/
def fnExactNewCatalogWrong : ChangeSpec := { name := "fnExactNewCatalog", fn := fun _ => fun
  | [d1, d2] => { results := [.lit (.bool false)], args := [d1, d2] }
  | _ => none }
def FnExactNewCatalogWrongFalsely : Prop := fnExactNewCatalogRow.holds Tryz.pinned (OpenSpec.ofChange fnExactNewCatalogWrong)

/-- 'laws.FnExactAddFile': WHATEVER THE INPUT: true; the input reads as it did. -/
def fnExactAddFileSpec : ChangeSpec := { name := "fnExactAddFile", fn := fun _ => fun
  | [d1, d2] => { results := [.lit (.bool true)], args := [d1, d2] }
  | _ => none }
def fnExactAddFileRow : OpenClaim := { program := "ytddimbdeggomaaagreat", sum := "a858feab8acfab1dadf3512adf0b580fb5d0e2b25513ac7ef5591bce27381104", func := "loop.example/g00976/laws.FnExactAddFile", spec := "fnExactAddFile", unfollowed := true, recurses := true, apart := false }
def FnExactAddFileSaid : Prop := fnExactAddFileRow.holds Tryz.pinned (OpenSpec.ofChange fnExactAddFileSpec)

/-- ITS FALSE NEIGHBOUR: 'it returns false'. Refute it at one input. -/
def fnExactAddFileWrong : ChangeSpec := { name := "fnExactAddFile", fn := fun _ => fun
  | [d1, d2] => { results := [.lit (.bool false)], args := [d1, d2] }
  | _ => none }
def FnExactAddFileWrongFalsely : Prop := fnExactAddFileRow.holds Tryz.pinned (OpenSpec.ofChange fnExactAddFileWrong)

/-- 'laws.FnExactRemoveFile': WHATEVER THE INPUT: true; the input reads as it did. -/
def fnExactRemoveFileSpec : ChangeSpec := { name := "fnExactRemoveFile", fn := fun _ => fun
  | [d1, d2] => { results := [.lit (.bool true)], args := [d1, d2] }
  | _ => none }
def fnExactRemoveFileRow : OpenClaim := { program := "ytddimbdeggomaaagreat", sum := "a858feab8acfab1dadf3512adf0b580fb5d0e2b25513ac7ef5591bce27381104", func := "loop.example/g00976/laws.FnExactRemoveFile", spec := "fnExactRemoveFile", unfollowed := true, recurses := true, apart := false }
def FnExactRemoveFileSaid : Prop := fnExactRemoveFileRow.holds Tryz.pinned (OpenSpec.ofChange fnExactRemoveFileSpec)

/-- ITS FALSE NEIGHBOUR: 'it returns false'. Refute it at one input. -/
def fnExactRemoveFileWrong : ChangeSpec := { name := "fnExactRemoveFile", fn := fun _ => fun
  | [d1, d2] => { results := [.lit (.bool false)], args := [d1, d2] }
  | _ => none }
def FnExactRemoveFileWrongFalsely : Prop := fnExactRemoveFileRow.holds Tryz.pinned (OpenSpec.ofChange fnExactRemoveFileWrong)

/-- 'laws.FnExactRelinkFile': WHATEVER THE INPUT: true; the input reads as it did. -/
def fnExactRelinkFileSpec : ChangeSpec := { name := "fnExactRelinkFile", fn := fun _ => fun
  | [d1, d2, d3, d4] => { results := [.lit (.bool true)], args := [d1, d2, d3, d4] }
  | _ => none }
def fnExactRelinkFileRow : OpenClaim := { program := "ytddimbdeggomaaagreat", sum := "a858feab8acfab1dadf3512adf0b580fb5d0e2b25513ac7ef5591bce27381104", func := "loop.example/g00976/laws.FnExactRelinkFile", spec := "fnExactRelinkFile", unfollowed := true, recurses := true, apart := false }
def FnExactRelinkFileSaid : Prop := fnExactRelinkFileRow.holds Tryz.pinned (OpenSpec.ofChange fnExactRelinkFileSpec)

/-- ITS FALSE NEIGHBOUR: 'it returns false'. Refute it at one input. -/
def fnExactRelinkFileWrong : ChangeSpec := { name := "fnExactRelinkFile", fn := fun _ => fun
  | [d1, d2, d3, d4] => { results := [.lit (.bool false)], args := [d1, d2, d3, d4] }
  | _ => none }
def FnExactRelinkFileWrongFalsely : Prop := fnExactRelinkFileRow.holds Tryz.pinned (OpenSpec.ofChange fnExactRelinkFileWrong)

/-- 'laws.FnExactUpdateFile': WHATEVER THE INPUT: true; the input reads as it did. -/
def fnExactUpdateFileSpec : ChangeSpec := { name := "fnExactUpdateFile", fn := fun _ => fun
  | [d1, d2] => { results := [.lit (.bool true)], args := [d1, d2] }
  | _ => none }
def fnExactUpdateFileRow : OpenClaim := { program := "ytddimbdeggomaaagreat", sum := "a858feab8acfab1dadf3512adf0b580fb5d0e2b25513ac7ef5591bce27381104", func := "loop.example/g00976/laws.FnExactUpdateFile", spec := "fnExactUpdateFile", unfollowed := true, recurses := true, apart := false }
def FnExactUpdateFileSaid : Prop := fnExactUpdateFileRow.holds Tryz.pinned (OpenSpec.ofChange fnExactUpdateFileSpec)

/-- ITS FALSE NEIGHBOUR: 'it returns false'. Refute it at one input. -/
def fnExactUpdateFileWrong : ChangeSpec := { name := "fnExactUpdateFile", fn := fun _ => fun
  | [d1, d2] => { results := [.lit (.bool false)], args := [d1, d2] }
  | _ => none }
def FnExactUpdateFileWrongFalsely : Prop := fnExactUpdateFileRow.holds Tryz.pinned (OpenSpec.ofChange fnExactUpdateFileWrong)

/-- 'laws.FnExactDefineDir': WHATEVER THE INPUT: true; the input reads as it did. -/
def fnExactDefineDirSpec : ChangeSpec := { name := "fnExactDefineDir", fn := fun _ => fun
  | [d1, d2] => { results := [.lit (.bool true)], args := [d1, d2] }
  | _ => none }
def fnExactDefineDirRow : OpenClaim := { program := "ytddimbdeggomaaagreat", sum := "a858feab8acfab1dadf3512adf0b580fb5d0e2b25513ac7ef5591bce27381104", func := "loop.example/g00976/laws.FnExactDefineDir", spec := "fnExactDefineDir", inPlace := ["slices.overlaps[loop.example/g00976/impl.Dir]"], unfollowed := true, recurses := true, apart := false }
def FnExactDefineDirSaid : Prop := fnExactDefineDirRow.holds Tryz.pinned (OpenSpec.ofChange fnExactDefineDirSpec)

/-- ITS FALSE NEIGHBOUR: 'it returns false'. Refute it at one input. -/
def fnExactDefineDirWrong : ChangeSpec := { name := "fnExactDefineDir", fn := fun _ => fun
  | [d1, d2] => { results := [.lit (.bool false)], args := [d1, d2] }
  | _ => none }
def FnExactDefineDirWrongFalsely : Prop := fnExactDefineDirRow.holds Tryz.pinned (OpenSpec.ofChange fnExactDefineDirWrong)

/-- 'laws.FnExactRenameFile': WHATEVER THE INPUT: true; the input reads as it did. -/
def fnExactRenameFileSpec : ChangeSpec := { name := "fnExactRenameFile", fn := fun _ => fun
  | [d1, d2, d3, d4] => { results := [.lit (.bool true)], args := [d1, d2, d3, d4] }
  | _ => none }
def fnExactRenameFileRow : OpenClaim := { program := "ytddimbdeggomaaagreat", sum := "a858feab8acfab1dadf3512adf0b580fb5d0e2b25513ac7ef5591bce27381104", func := "loop.example/g00976/laws.FnExactRenameFile", spec := "fnExactRenameFile", inPlace := ["slices.overlaps[loop.example/g00976/impl.Attr]"], unfollowed := true, recurses := true, apart := false }
def FnExactRenameFileSaid : Prop := fnExactRenameFileRow.holds Tryz.pinned (OpenSpec.ofChange fnExactRenameFileSpec)

/-- ITS FALSE NEIGHBOUR: 'it returns false'. Refute it at one input. -/
def fnExactRenameFileWrong : ChangeSpec := { name := "fnExactRenameFile", fn := fun _ => fun
  | [d1, d2, d3, d4] => { results := [.lit (.bool false)], args := [d1, d2, d3, d4] }
  | _ => none }
def FnExactRenameFileWrongFalsely : Prop := fnExactRenameFileRow.holds Tryz.pinned (OpenSpec.ofChange fnExactRenameFileWrong)

/-- 'laws.FnExactAddToDir': WHATEVER THE INPUT: true; the input reads as it did. -/
def fnExactAddToDirSpec : ChangeSpec := { name := "fnExactAddToDir", fn := fun _ => fun
  | [d1, d2, d3, d4] => { results := [.lit (.bool true)], args := [d1, d2, d3, d4] }
  | _ => none }
def fnExactAddToDirRow : OpenClaim := { program := "ytddimbdeggomaaagreat", sum := "a858feab8acfab1dadf3512adf0b580fb5d0e2b25513ac7ef5591bce27381104", func := "loop.example/g00976/laws.FnExactAddToDir", spec := "fnExactAddToDir", inPlace := ["slices.overlaps[loop.example/g00976/impl.Attr]"], unfollowed := true, recurses := true, apart := false }
def FnExactAddToDirSaid : Prop := fnExactAddToDirRow.holds Tryz.pinned (OpenSpec.ofChange fnExactAddToDirSpec)

/-- ITS FALSE NEIGHBOUR: 'it returns false'. Refute it at one input. -/
def fnExactAddToDirWrong : ChangeSpec := { name := "fnExactAddToDir", fn := fun _ => fun
  | [d1, d2, d3, d4] => { results := [.lit (.bool false)], args := [d1, d2, d3, d4] }
  | _ => none }
def FnExactAddToDirWrongFalsely : Prop := fnExactAddToDirRow.holds Tryz.pinned (OpenSpec.ofChange fnExactAddToDirWrong)

/-- 'laws.FnExactRemoveFromDir': WHATEVER THE INPUT: true; the input reads as it did. -/
def fnExactRemoveFromDirSpec : ChangeSpec := { name := "fnExactRemoveFromDir", fn := fun _ => fun
  | [d1, d2, d3, d4] => { results := [.lit (.bool true)], args := [d1, d2, d3, d4] }
  | _ => none }
def fnExactRemoveFromDirRow : OpenClaim := { program := "ytddimbdeggomaaagreat", sum := "a858feab8acfab1dadf3512adf0b580fb5d0e2b25513ac7ef5591bce27381104", func := "loop.example/g00976/laws.FnExactRemoveFromDir", spec := "fnExactRemoveFromDir", inPlace := ["slices.overlaps[loop.example/g00976/impl.Attr]"], unfollowed := true, recurses := true, apart := false }
def FnExactRemoveFromDirSaid : Prop := fnExactRemoveFromDirRow.holds Tryz.pinned (OpenSpec.ofChange fnExactRemoveFromDirSpec)

/-- ITS FALSE NEIGHBOUR: 'it returns false'. Refute it at one input. -/
def fnExactRemoveFromDirWrong : ChangeSpec := { name := "fnExactRemoveFromDir", fn := fun _ => fun
  | [d1, d2, d3, d4] => { results := [.lit (.bool false)], args := [d1, d2, d3, d4] }
  | _ => none }
def FnExactRemoveFromDirWrongFalsely : Prop := fnExactRemoveFromDirRow.holds Tryz.pinned (OpenSpec.ofChange fnExactRemoveFromDirWrong)

/-- 'laws.FnExactApplyChange': WHATEVER THE INPUT: true; the input reads as it did. -/
def fnExactApplyChangeSpec : ChangeSpec := { name := "fnExactApplyChange", fn := fun _ => fun
  | [d1, d2, d3] => { results := [.lit (.bool true)], args := [d1, d2, d3] }
  | _ => none }
def fnExactApplyChangeRow : OpenClaim := { program := "ytddimbdeggomaaagreat", sum := "a858feab8acfab1dadf3512adf0b580fb5d0e2b25513ac7ef5591bce27381104", func := "loop.example/g00976/laws.FnExactApplyChange", spec := "fnExactApplyChange", inPlace := ["slices.overlaps[loop.example/g00976/impl.Dir]"], unfollowed := true, recurses := true, apart := false }
def FnExactApplyChangeSaid : Prop := fnExactApplyChangeRow.holds Tryz.pinned (OpenSpec.ofChange fnExactApplyChangeSpec)

/-- ITS FALSE NEIGHBOUR: 'it returns false'. Refute it at one input. -/
def fnExactApplyChangeWrong : ChangeSpec := { name := "fnExactApplyChange", fn := fun _ => fun
  | [d1, d2, d3] => { results := [.lit (.bool false)], args := [d1, d2, d3] }
  | _ => none }
def FnExactApplyChangeWrongFalsely : Prop := fnExactApplyChangeRow.holds Tryz.pinned (OpenSpec.ofChange fnExactApplyChangeWrong)

/- THE SECOND FORM. 'bulk': how many values and letters a reading holds, each counted each time it is reached (what is shared counts as often as it is met; a slice's spare places count too). A statement '..UptoSaid' is the law's where the arguments, and the package variables that the reading takes, are together of bulk at most 1048576: NARROWER than '..Said'. Prove '..Said' where nothing that the law and all that it calls make is longer than what came in: it says more and counts as full. Else prove '..UptoSaid'. A law counts once. -/
mutual
def uptoBulk {H : Type} : DataW H → Nat
  | .lit (.string bytes) => bytes.length + 1
  | .lit _ => 1
  | .nil => 1
  | .ptr d => uptoBulk d + 1
  | .slice elems spare => uptoBulkAll elems + uptoBulkAll spare + 1
  | .agg parts => uptoBulkAll parts + 1
  | .iface _ d => uptoBulk d + 1
  | .map entries => uptoBulkEntries entries + 1
  | .held _ => 1
def uptoBulkAll {H : Type} : List (DataW H) → Nat
  | [] => 0
  | d :: r => uptoBulk d + uptoBulkAll r
def uptoBulkEntries {H : Type} : List (Lit × DataW H) → Nat
  | [] => 0
  | x :: r => uptoBulkEntry x + uptoBulkEntries r
def uptoBulkEntry {H : Type} : Lit × DataW H → Nat
  | (.string bytes, d) => bytes.length + uptoBulk d + 1
  | (_, d) => uptoBulk d + 1
 end
def uptoSmall : (H : Type) → List (DataW H) → Bool := fun _ ds => decide (uptoBulkAll ds ≤ 1048576)
def OpenSpec.upto (s : _root_.Go.ChangeSpec) : _root_.Go.OpenSpec := { _root_.Go.OpenSpec.ofChange s with cond := some uptoSmall }

/-- 'laws.FnExactReevaluate', WHERE WHAT IT READS IS OF BULK AT MOST 1048576: true; the input reads as it did. -/
def fnExactReevaluateUptoRow : OpenClaim := { program := "ytddimbdeggomaaagreat", sum := "a858feab8acfab1dadf3512adf0b580fb5d0e2b25513ac7ef5591bce27381104", func := "loop.example/g00976/laws.FnExactReevaluate", spec := "fnExactReevaluate", unfollowed := true, recurses := true, apart := false, narrowed := true }
def FnExactReevaluateUptoSaid : Prop := fnExactReevaluateUptoRow.holds Tryz.pinned (OpenSpec.upto fnExactReevaluateSpec)

/-- 'laws.FnExactNewCatalog', WHERE WHAT IT READS IS OF BULK AT MOST 1048576: true; the input reads as it did. -/
def fnExactNewCatalogUptoRow : OpenClaim := { program := "ytddimbdeggomaaagreat", sum := "a858feab8acfab1dadf3512adf0b580fb5d0e2b25513ac7ef5591bce27381104", func := "loop.example/g00976/laws.FnExactNewCatalog", spec := "fnExactNewCatalog", unfollowed := true, recurses := true, apart := false, narrowed := true }
def FnExactNewCatalogUptoSaid : Prop := fnExactNewCatalogUptoRow.holds Tryz.pinned (OpenSpec.upto fnExactNewCatalogSpec)

/-- 'laws.FnExactAddFile', WHERE WHAT IT READS IS OF BULK AT MOST 1048576: true; the input reads as it did. -/
def fnExactAddFileUptoRow : OpenClaim := { program := "ytddimbdeggomaaagreat", sum := "a858feab8acfab1dadf3512adf0b580fb5d0e2b25513ac7ef5591bce27381104", func := "loop.example/g00976/laws.FnExactAddFile", spec := "fnExactAddFile", unfollowed := true, recurses := true, apart := false, narrowed := true }
def FnExactAddFileUptoSaid : Prop := fnExactAddFileUptoRow.holds Tryz.pinned (OpenSpec.upto fnExactAddFileSpec)

/-- 'laws.FnExactRemoveFile', WHERE WHAT IT READS IS OF BULK AT MOST 1048576: true; the input reads as it did. -/
def fnExactRemoveFileUptoRow : OpenClaim := { program := "ytddimbdeggomaaagreat", sum := "a858feab8acfab1dadf3512adf0b580fb5d0e2b25513ac7ef5591bce27381104", func := "loop.example/g00976/laws.FnExactRemoveFile", spec := "fnExactRemoveFile", unfollowed := true, recurses := true, apart := false, narrowed := true }
def FnExactRemoveFileUptoSaid : Prop := fnExactRemoveFileUptoRow.holds Tryz.pinned (OpenSpec.upto fnExactRemoveFileSpec)

/-- 'laws.FnExactRelinkFile', WHERE WHAT IT READS IS OF BULK AT MOST 1048576: true; the input reads as it did. -/
def fnExactRelinkFileUptoRow : OpenClaim := { program := "ytddimbdeggomaaagreat", sum := "a858feab8acfab1dadf3512adf0b580fb5d0e2b25513ac7ef5591bce27381104", func := "loop.example/g00976/laws.FnExactRelinkFile", spec := "fnExactRelinkFile", unfollowed := true, recurses := true, apart := false, narrowed := true }
def FnExactRelinkFileUptoSaid : Prop := fnExactRelinkFileUptoRow.holds Tryz.pinned (OpenSpec.upto fnExactRelinkFileSpec)

/-- 'laws.FnExactUpdateFile', WHERE WHAT IT READS IS OF BULK AT MOST 1048576: true; the input reads as it did. -/
def fnExactUpdateFileUptoRow : OpenClaim := { program := "ytddimbdeggomaaagreat", sum := "a858feab8acfab1dadf3512adf0b580fb5d0e2b25513ac7ef5591bce27381104", func := "loop.example/g00976/laws.FnExactUpdateFile", spec := "fnExactUpdateFile", unfollowed := true, recurses := true, apart := false, narrowed := true }
def FnExactUpdateFileUptoSaid : Prop := fnExactUpdateFileUptoRow.holds Tryz.pinned (OpenSpec.upto fnExactUpdateFileSpec)

/-- 'laws.FnExactDefineDir', WHERE WHAT IT READS IS OF BULK AT MOST 1048576: true; the input reads as it did. -/
def fnExactDefineDirUptoRow : OpenClaim := { program := "ytddimbdeggomaaagreat", sum := "a858feab8acfab1dadf3512adf0b580fb5d0e2b25513ac7ef5591bce27381104", func := "loop.example/g00976/laws.FnExactDefineDir", spec := "fnExactDefineDir", inPlace := ["slices.overlaps[loop.example/g00976/impl.Dir]"], unfollowed := true, recurses := true, apart := false, narrowed := true }
def FnExactDefineDirUptoSaid : Prop := fnExactDefineDirUptoRow.holds Tryz.pinned (OpenSpec.upto fnExactDefineDirSpec)

/-- 'laws.FnExactRenameFile', WHERE WHAT IT READS IS OF BULK AT MOST 1048576: true; the input reads as it did. -/
def fnExactRenameFileUptoRow : OpenClaim := { program := "ytddimbdeggomaaagreat", sum := "a858feab8acfab1dadf3512adf0b580fb5d0e2b25513ac7ef5591bce27381104", func := "loop.example/g00976/laws.FnExactRenameFile", spec := "fnExactRenameFile", inPlace := ["slices.overlaps[loop.example/g00976/impl.Attr]"], unfollowed := true, recurses := true, apart := false, narrowed := true }
def FnExactRenameFileUptoSaid : Prop := fnExactRenameFileUptoRow.holds Tryz.pinned (OpenSpec.upto fnExactRenameFileSpec)

/-- 'laws.FnExactAddToDir', WHERE WHAT IT READS IS OF BULK AT MOST 1048576: true; the input reads as it did. -/
def fnExactAddToDirUptoRow : OpenClaim := { program := "ytddimbdeggomaaagreat", sum := "a858feab8acfab1dadf3512adf0b580fb5d0e2b25513ac7ef5591bce27381104", func := "loop.example/g00976/laws.FnExactAddToDir", spec := "fnExactAddToDir", inPlace := ["slices.overlaps[loop.example/g00976/impl.Attr]"], unfollowed := true, recurses := true, apart := false, narrowed := true }
def FnExactAddToDirUptoSaid : Prop := fnExactAddToDirUptoRow.holds Tryz.pinned (OpenSpec.upto fnExactAddToDirSpec)

/-- 'laws.FnExactRemoveFromDir', WHERE WHAT IT READS IS OF BULK AT MOST 1048576: true; the input reads as it did. -/
def fnExactRemoveFromDirUptoRow : OpenClaim := { program := "ytddimbdeggomaaagreat", sum := "a858feab8acfab1dadf3512adf0b580fb5d0e2b25513ac7ef5591bce27381104", func := "loop.example/g00976/laws.FnExactRemoveFromDir", spec := "fnExactRemoveFromDir", inPlace := ["slices.overlaps[loop.example/g00976/impl.Attr]"], unfollowed := true, recurses := true, apart := false, narrowed := true }
def FnExactRemoveFromDirUptoSaid : Prop := fnExactRemoveFromDirUptoRow.holds Tryz.pinned (OpenSpec.upto fnExactRemoveFromDirSpec)

/-- 'laws.FnExactApplyChange', WHERE WHAT IT READS IS OF BULK AT MOST 1048576: true; the input reads as it did. -/
def fnExactApplyChangeUptoRow : OpenClaim := { program := "ytddimbdeggomaaagreat", sum := "a858feab8acfab1dadf3512adf0b580fb5d0e2b25513ac7ef5591bce27381104", func := "loop.example/g00976/laws.FnExactApplyChange", spec := "fnExactApplyChange", inPlace := ["slices.overlaps[loop.example/g00976/impl.Dir]"], unfollowed := true, recurses := true, apart := false, narrowed := true }
def FnExactApplyChangeUptoSaid : Prop := fnExactApplyChangeUptoRow.holds Tryz.pinned (OpenSpec.upto fnExactApplyChangeSpec)

end Rows
end Go.Proofs.YtddimbdeggomaaaGreat
