/-
  No cell of these rows narrows 'for every input' (looked for: loops, veiled, ifaces, maps, wideKeys, modest, calm, conditions, laid).
  DERIVED. THE GIVEN ROWS OF THIS SEAT. 5 by the template 'for every input the law returns true; each argument reads behind the call as it read before'; 0 by the template 'total and deterministic' (their statements: YtjkbipgmckeckaaTotals.lean).
  GIVEN WITH THE SEED: the statements are not yours to turn. If you find one false, say at which input.
  Laid BY PROGRAM, IN A SANDBOX (cutbox-rows.mjs): the forced cells as the released guide's own fill.sh prints them over the translation 67facfff25c1cc48… (all of the seat's roots in one cut). By AI agents, Wed Nov 11 2026. No macro, syntax, notation, axiom, sorry.
-/
import Derived.Test.YtjkbipgmckeckaaChecked
import GoSem.Claim
import GoSem.ClaimJoined
import GoSem.ClaimMapViews
import Derived.JoinedTies
import Derived.KernelRfl
namespace Go.Proofs.Ytjkbipgmckeckaa
/- THE CELL 'sum', in the pinned program and in every row, IS THE sha256 OF THE DUMP (.gsa) THAT YtjkbipgmckeckaaProg.lean LOADS. Nothing in Lean hashes anything: it is a label: what it is worth is what the hold of that sum in a sandbox is worth. -/
noncomputable def Try.pinned : Pinned := { name := "ytjkbipgmckeckaa", sum := "67facfff25c1cc48b03eff3764caff253f686105af5ec8888cb0703788664b12", checked := Try.checked }
namespace Rows
def none {H : Type} : Left H := { results := [], args := [] }

/-- 'laws.FnMergeEdits': WHATEVER THE INPUT: true; the input reads as it did. -/
def fnMergeEditsSpec : ChangeSpec := { name := "fnMergeEdits", fn := fun _ => fun
  | [d] => { results := [.lit (.bool true)], args := [d] }
  | _ => none }
def fnMergeEditsRow : OpenClaim := { program := "ytjkbipgmckeckaa", sum := "67facfff25c1cc48b03eff3764caff253f686105af5ec8888cb0703788664b12", func := "loop.example/g00976/laws.FnMergeEdits", spec := "fnMergeEdits", inPlace := ["slices.overlaps[loop.example/g00976/impl.Attr]"], unfollowed := true, recurses := true, apart := false }
def FnMergeEditsSaid : Prop := fnMergeEditsRow.holds Try.pinned (OpenSpec.ofChange fnMergeEditsSpec)

/-- ITS FALSE NEIGHBOUR: 'it returns false'. Refute it at one input. -/
def fnMergeEditsWrong : ChangeSpec := { name := "fnMergeEdits", fn := fun _ => fun
  | [d] => { results := [.lit (.bool false)], args := [d] }
  | _ => none }
def FnMergeEditsWrongFalsely : Prop := fnMergeEditsRow.holds Try.pinned (OpenSpec.ofChange fnMergeEditsWrong)

/-- 'laws.FnEditAmbiguous': WHATEVER THE INPUT: true; the input reads as it did. -/
def fnEditAmbiguousSpec : ChangeSpec := { name := "fnEditAmbiguous", fn := fun _ => fun
  | [d] => { results := [.lit (.bool true)], args := [d] }
  | _ => none }
def fnEditAmbiguousRow : OpenClaim := { program := "ytjkbipgmckeckaa", sum := "67facfff25c1cc48b03eff3764caff253f686105af5ec8888cb0703788664b12", func := "loop.example/g00976/laws.FnEditAmbiguous", spec := "fnEditAmbiguous", inPlace := ["slices.overlaps[loop.example/g00976/impl.Attr]"], unfollowed := true, recurses := true, apart := false }
def FnEditAmbiguousSaid : Prop := fnEditAmbiguousRow.holds Try.pinned (OpenSpec.ofChange fnEditAmbiguousSpec)

/-- ITS FALSE NEIGHBOUR: 'it returns false'. Refute it at one input. -/
def fnEditAmbiguousWrong : ChangeSpec := { name := "fnEditAmbiguous", fn := fun _ => fun
  | [d] => { results := [.lit (.bool false)], args := [d] }
  | _ => none }
def FnEditAmbiguousWrongFalsely : Prop := fnEditAmbiguousRow.holds Try.pinned (OpenSpec.ofChange fnEditAmbiguousWrong)

/-- 'laws.FnEditConjunction': WHATEVER THE INPUT: true; the input reads as it did. -/
def fnEditConjunctionSpec : ChangeSpec := { name := "fnEditConjunction", fn := fun _ => fun
  | [d] => { results := [.lit (.bool true)], args := [d] }
  | _ => none }
def fnEditConjunctionRow : OpenClaim := { program := "ytjkbipgmckeckaa", sum := "67facfff25c1cc48b03eff3764caff253f686105af5ec8888cb0703788664b12", func := "loop.example/g00976/laws.FnEditConjunction", spec := "fnEditConjunction", inPlace := ["slices.overlaps[loop.example/g00976/impl.Attr]"], unfollowed := true, recurses := true, apart := false }
def FnEditConjunctionSaid : Prop := fnEditConjunctionRow.holds Try.pinned (OpenSpec.ofChange fnEditConjunctionSpec)

/-- ITS FALSE NEIGHBOUR: 'it returns false'. Refute it at one input. -/
def fnEditConjunctionWrong : ChangeSpec := { name := "fnEditConjunction", fn := fun _ => fun
  | [d] => { results := [.lit (.bool false)], args := [d] }
  | _ => none }
def FnEditConjunctionWrongFalsely : Prop := fnEditConjunctionRow.holds Try.pinned (OpenSpec.ofChange fnEditConjunctionWrong)

/-- 'laws.FnNotAffected': WHATEVER THE INPUT: true; the input reads as it did. -/
def fnNotAffectedSpec : ChangeSpec := { name := "fnNotAffected", fn := fun _ => fun
  | [d] => { results := [.lit (.bool true)], args := [d] }
  | _ => none }
def fnNotAffectedRow : OpenClaim := { program := "ytjkbipgmckeckaa", sum := "67facfff25c1cc48b03eff3764caff253f686105af5ec8888cb0703788664b12", func := "loop.example/g00976/laws.FnNotAffected", spec := "fnNotAffected", unfollowed := true, recurses := true, apart := false }
def FnNotAffectedSaid : Prop := fnNotAffectedRow.holds Try.pinned (OpenSpec.ofChange fnNotAffectedSpec)

/-- ITS FALSE NEIGHBOUR: 'it returns false'. Refute it at one input. -/
def fnNotAffectedWrong : ChangeSpec := { name := "fnNotAffected", fn := fun _ => fun
  | [d] => { results := [.lit (.bool false)], args := [d] }
  | _ => none }
def FnNotAffectedWrongFalsely : Prop := fnNotAffectedRow.holds Try.pinned (OpenSpec.ofChange fnNotAffectedWrong)

/-- 'laws.FnEdits': WHATEVER THE INPUT: true; the input reads as it did. -/
def fnEditsSpec : ChangeSpec := { name := "fnEdits", fn := fun _ => fun
  | [d] => { results := [.lit (.bool true)], args := [d] }
  | _ => none }
def fnEditsRow : OpenClaim := { program := "ytjkbipgmckeckaa", sum := "67facfff25c1cc48b03eff3764caff253f686105af5ec8888cb0703788664b12", func := "loop.example/g00976/laws.FnEdits", spec := "fnEdits", inPlace := ["slices.overlaps[loop.example/g00976/impl.Attr]"], unfollowed := true, recurses := true, apart := false }
def FnEditsSaid : Prop := fnEditsRow.holds Try.pinned (OpenSpec.ofChange fnEditsSpec)

/-- ITS FALSE NEIGHBOUR: 'it returns false'. Refute it at one input. -/
def fnEditsWrong : ChangeSpec := { name := "fnEdits", fn := fun _ => fun
  | [d] => { results := [.lit (.bool false)], args := [d] }
  | _ => none }
def FnEditsWrongFalsely : Prop := fnEditsRow.holds Try.pinned (OpenSpec.ofChange fnEditsWrong)

/- THE SECOND FORM. 'bulk': how many values and letters a reading holds, each counted each time it is reached (what is shared counts as often as it is met; a slice's spare places count too). A statement '..UptoSaid' is the law's where the arguments, and the package variables that the reading takes, are together of bulk at most 1048576: NARROWER than '..Said'. Prove '..Said' where nothing that the law and all that it calls make is longer than what came in: it says more and counts as full. Else prove '..UptoSaid'. A law counts once. -/
mutual
def uptoBulk {H : Type} : DataW H → Nat
  | .lit (.string bytes) => bytes.length + 1
  | .lit _ => 1
  | .nil => 1
  | .ptr d => uptoBulk d + 1
  | .slice elems spare => uptoBulkAll elems + uptoBulkAll spare + 1
  | .agg parts => uptoBulkAll parts + 1
  | .iface _ d => uptoBulk d + 1
  | .map entries => uptoBulkEntries entries + 1
  | .held _ => 1
def uptoBulkAll {H : Type} : List (DataW H) → Nat
  | [] => 0
  | d :: r => uptoBulk d + uptoBulkAll r
def uptoBulkEntries {H : Type} : List (Lit × DataW H) → Nat
  | [] => 0
  | x :: r => uptoBulkEntry x + uptoBulkEntries r
def uptoBulkEntry {H : Type} : Lit × DataW H → Nat
  | (.string bytes, d) => bytes.length + uptoBulk d + 1
  | (_, d) => uptoBulk d + 1
 end
def uptoSmall : (H : Type) → List (DataW H) → Bool := fun _ ds => decide (uptoBulkAll ds ≤ 1048576)
def OpenSpec.upto (s : _root_.Go.ChangeSpec) : _root_.Go.OpenSpec := { _root_.Go.OpenSpec.ofChange s with cond := some uptoSmall }

/-- 'laws.FnMergeEdits', WHERE WHAT IT READS IS OF BULK AT MOST 1048576: true; the input reads as it did. -/
def fnMergeEditsUptoRow : OpenClaim := { program := "ytjkbipgmckeckaa", sum := "67facfff25c1cc48b03eff3764caff253f686105af5ec8888cb0703788664b12", func := "loop.example/g00976/laws.FnMergeEdits", spec := "fnMergeEdits", inPlace := ["slices.overlaps[loop.example/g00976/impl.Attr]"], unfollowed := true, recurses := true, apart := false, narrowed := true }
def FnMergeEditsUptoSaid : Prop := fnMergeEditsUptoRow.holds Try.pinned (OpenSpec.upto fnMergeEditsSpec)

/-- 'laws.FnEditAmbiguous', WHERE WHAT IT READS IS OF BULK AT MOST 1048576: true; the input reads as it did. -/
def fnEditAmbiguousUptoRow : OpenClaim := { program := "ytjkbipgmckeckaa", sum := "67facfff25c1cc48b03eff3764caff253f686105af5ec8888cb0703788664b12", func := "loop.example/g00976/laws.FnEditAmbiguous", spec := "fnEditAmbiguous", inPlace := ["slices.overlaps[loop.example/g00976/impl.Attr]"], unfollowed := true, recurses := true, apart := false, narrowed := true }
def FnEditAmbiguousUptoSaid : Prop := fnEditAmbiguousUptoRow.holds Try.pinned (OpenSpec.upto fnEditAmbiguousSpec)

/-- 'laws.FnEditConjunction', WHERE WHAT IT READS IS OF BULK AT MOST 1048576: true; the input reads as it did. -/
def fnEditConjunctionUptoRow : OpenClaim := { program := "ytjkbipgmckeckaa", sum := "67facfff25c1cc48b03eff3764caff253f686105af5ec8888cb0703788664b12", func := "loop.example/g00976/laws.FnEditConjunction", spec := "fnEditConjunction", inPlace := ["slices.overlaps[loop.example/g00976/impl.Attr]"], unfollowed := true, recurses := true, apart := false, narrowed := true }
def FnEditConjunctionUptoSaid : Prop := fnEditConjunctionUptoRow.holds Try.pinned (OpenSpec.upto fnEditConjunctionSpec)

/-- 'laws.FnNotAffected', WHERE WHAT IT READS IS OF BULK AT MOST 1048576: true; the input reads as it did. -/
def fnNotAffectedUptoRow : OpenClaim := { program := "ytjkbipgmckeckaa", sum := "67facfff25c1cc48b03eff3764caff253f686105af5ec8888cb0703788664b12", func := "loop.example/g00976/laws.FnNotAffected", spec := "fnNotAffected", unfollowed := true, recurses := true, apart := false, narrowed := true }
def FnNotAffectedUptoSaid : Prop := fnNotAffectedUptoRow.holds Try.pinned (OpenSpec.upto fnNotAffectedSpec)

/-- 'laws.FnEdits', WHERE WHAT IT READS IS OF BULK AT MOST 1048576: true; the input reads as it did. -/
def fnEditsUptoRow : OpenClaim := { program := "ytjkbipgmckeckaa", sum := "67facfff25c1cc48b03eff3764caff253f686105af5ec8888cb0703788664b12", func := "loop.example/g00976/laws.FnEdits", spec := "fnEdits", inPlace := ["slices.overlaps[loop.example/g00976/impl.Attr]"], unfollowed := true, recurses := true, apart := false, narrowed := true }
def FnEditsUptoSaid : Prop := fnEditsUptoRow.holds Try.pinned (OpenSpec.upto fnEditsSpec)

end Rows
end Go.Proofs.Ytjkbipgmckeckaa
