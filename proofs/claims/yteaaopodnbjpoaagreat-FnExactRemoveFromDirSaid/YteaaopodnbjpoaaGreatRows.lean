/-
  No cell of these rows narrows 'for every input' (looked for: loops, veiled, ifaces, maps, wideKeys, modest, calm, conditions, laid).
  DERIVED. THE GIVEN ROWS OF THIS SEAT. 4 by the template 'for every input the law returns true; each argument reads behind the call as it read before'; 0 by the template 'total and deterministic' (their statements: YteaaopodnbjpoaaGreatTotals.lean).
  GIVEN WITH THE SEED: the statements are not yours to turn. If you find one false, say at which input.
  Laid BY PROGRAM, IN A SANDBOX (cutbox-rows.mjs): the forced cells as the released guide's own fill.sh prints them over the translation 2ff82796b7733ca4… (all of the seat's roots in one cut). By AI agents, Wed Nov 11 2026. No macro, syntax, notation, axiom, sorry.
-/
import Derived.Test.YteaaopodnbjpoaaGreatChecked
import GoSem.Claim
import GoSem.ClaimJoined
import GoSem.ClaimMapViews
import Derived.JoinedTies
import Derived.KernelRfl
namespace Go.Proofs.YteaaopodnbjpoaaGreat
/- THE CELL 'sum', in the pinned program and in every row, IS THE sha256 OF THE DUMP (.gsa) THAT YteaaopodnbjpoaaGreatProg.lean LOADS. Nothing in Lean hashes anything: it is a label: what it is worth is what the hold of that sum in a sandbox is worth. -/
noncomputable def Tryz.pinned : Pinned := { name := "yteaaopodnbjpoaagreat", sum := "2ff82796b7733ca4fc4d111a2d519b8b937e33f18cd9e5be7d7d65c9f5450923", checked := Tryz.checked }
namespace Rows
def none {H : Type} : Left H := { results := [], args := [] }

/-- 'laws.FnExactApplyTransaction': WHATEVER THE INPUT: true; the input reads as it did. -/
def fnExactApplyTransactionSpec : ChangeSpec := { name := "fnExactApplyTransaction", fn := fun _ => fun
  | [d1, d2, d3, d4] => { results := [.lit (.bool true)], args := [d1, d2, d3, d4] }
  | _ => none }
def fnExactApplyTransactionRow : OpenClaim := { program := "yteaaopodnbjpoaagreat", sum := "2ff82796b7733ca4fc4d111a2d519b8b937e33f18cd9e5be7d7d65c9f5450923", func := "loop.example/g00976/laws.FnExactApplyTransaction", spec := "fnExactApplyTransaction", inPlace := ["slices.overlaps[loop.example/g00976/impl.Dir]"], unfollowed := true, recurses := true, apart := false }
def FnExactApplyTransactionSaid : Prop := fnExactApplyTransactionRow.holds Tryz.pinned (OpenSpec.ofChange fnExactApplyTransactionSpec)

/-- ITS FALSE NEIGHBOUR: 'it returns false'. Refute it at one input. -/
def fnExactApplyTransactionWrong : ChangeSpec := { name := "fnExactApplyTransaction", fn := fun _ => fun
  | [d1, d2, d3, d4] => { results := [.lit (.bool false)], args := [d1, d2, d3, d4] }
  | _ => none }
def FnExactApplyTransactionWrongFalsely : Prop := fnExactApplyTransactionRow.holds Tryz.pinned (OpenSpec.ofChange fnExactApplyTransactionWrong)

/-- 'laws.FnExactIsAllowed': WHATEVER THE INPUT: true; the input reads as it did. -/
def fnExactIsAllowedSpec : ChangeSpec := { name := "fnExactIsAllowed", fn := fun _ => fun
  | [d1, d2, d3] => { results := [.lit (.bool true)], args := [d1, d2, d3] }
  | _ => none }
def fnExactIsAllowedRow : OpenClaim := { program := "yteaaopodnbjpoaagreat", sum := "2ff82796b7733ca4fc4d111a2d519b8b937e33f18cd9e5be7d7d65c9f5450923", func := "loop.example/g00976/laws.FnExactIsAllowed", spec := "fnExactIsAllowed", inPlace := ["slices.overlaps[loop.example/g00976/impl.Dir]"], unfollowed := true, recurses := true, apart := false }
def FnExactIsAllowedSaid : Prop := fnExactIsAllowedRow.holds Tryz.pinned (OpenSpec.ofChange fnExactIsAllowedSpec)

/-- ITS FALSE NEIGHBOUR: 'it returns false'. Refute it at one input. -/
def fnExactIsAllowedWrong : ChangeSpec := { name := "fnExactIsAllowed", fn := fun _ => fun
  | [d1, d2, d3] => { results := [.lit (.bool false)], args := [d1, d2, d3] }
  | _ => none }
def FnExactIsAllowedWrongFalsely : Prop := fnExactIsAllowedRow.holds Tryz.pinned (OpenSpec.ofChange fnExactIsAllowedWrong)

/-- 'laws.FnExactAddToDir': WHATEVER THE INPUT: true; the input reads as it did. -/
def fnExactAddToDirSpec : ChangeSpec := { name := "fnExactAddToDir", fn := fun _ => fun
  | [d1, d2, d3, d4] => { results := [.lit (.bool true)], args := [d1, d2, d3, d4] }
  | _ => none }
def fnExactAddToDirRow : OpenClaim := { program := "yteaaopodnbjpoaagreat", sum := "2ff82796b7733ca4fc4d111a2d519b8b937e33f18cd9e5be7d7d65c9f5450923", func := "loop.example/g00976/laws.FnExactAddToDir", spec := "fnExactAddToDir", inPlace := ["slices.overlaps[loop.example/g00976/impl.Attr]"], unfollowed := true, recurses := true, apart := false }
def FnExactAddToDirSaid : Prop := fnExactAddToDirRow.holds Tryz.pinned (OpenSpec.ofChange fnExactAddToDirSpec)

/-- ITS FALSE NEIGHBOUR: 'it returns false'. Refute it at one input. -/
def fnExactAddToDirWrong : ChangeSpec := { name := "fnExactAddToDir", fn := fun _ => fun
  | [d1, d2, d3, d4] => { results := [.lit (.bool false)], args := [d1, d2, d3, d4] }
  | _ => none }
def FnExactAddToDirWrongFalsely : Prop := fnExactAddToDirRow.holds Tryz.pinned (OpenSpec.ofChange fnExactAddToDirWrong)

/-- 'laws.FnExactRemoveFromDir': WHATEVER THE INPUT: true; the input reads as it did. -/
def fnExactRemoveFromDirSpec : ChangeSpec := { name := "fnExactRemoveFromDir", fn := fun _ => fun
  | [d1, d2, d3, d4] => { results := [.lit (.bool true)], args := [d1, d2, d3, d4] }
  | _ => none }
def fnExactRemoveFromDirRow : OpenClaim := { program := "yteaaopodnbjpoaagreat", sum := "2ff82796b7733ca4fc4d111a2d519b8b937e33f18cd9e5be7d7d65c9f5450923", func := "loop.example/g00976/laws.FnExactRemoveFromDir", spec := "fnExactRemoveFromDir", inPlace := ["slices.overlaps[loop.example/g00976/impl.Attr]"], unfollowed := true, recurses := true, apart := false }
def FnExactRemoveFromDirSaid : Prop := fnExactRemoveFromDirRow.holds Tryz.pinned (OpenSpec.ofChange fnExactRemoveFromDirSpec)

/-- ITS FALSE NEIGHBOUR: 'it returns false'. Refute it at one input. -/
def fnExactRemoveFromDirWrong : ChangeSpec := { name := "fnExactRemoveFromDir", fn := fun _ => fun
  | [d1, d2, d3, d4] => { results := [.lit (.bool false)], args := [d1, d2, d3, d4] }
  | _ => none }
def FnExactRemoveFromDirWrongFalsely : Prop := fnExactRemoveFromDirRow.holds Tryz.pinned (OpenSpec.ofChange fnExactRemoveFromDirWrong)

/- THE SECOND FORM. 'bulk': how many values and letters a reading holds, each counted each time it is reached (what is shared counts as often as it is met; a slice's spare places count too). A statement '..UptoSaid' is the law's where the arguments, and the package variables that the reading takes, are together of bulk at most 1048576: NARROWER than '..Said'. Prove '..Said' where nothing that the law and all that it calls make is longer than what came in: it says more and counts as full. Else prove '..UptoSaid'. A law counts once. -/
mutual
def uptoBulk {H : Type} : DataW H → Nat
  | .lit (.string bytes) => bytes.length + 1
  | .lit _ => 1
  | .nil => 1
  | .ptr d => uptoBulk d + 1
  | .slice elems spare => uptoBulkAll elems + uptoBulkAll spare + 1
  | .agg parts => uptoBulkAll parts + 1
  | .iface _ d => uptoBulk d + 1
  | .map entries => uptoBulkEntries entries + 1
  | .held _ => 1
def uptoBulkAll {H : Type} : List (DataW H) → Nat
  | [] => 0
  | d :: r => uptoBulk d + uptoBulkAll r
def uptoBulkEntries {H : Type} : List (Lit × DataW H) → Nat
  | [] => 0
  | x :: r => uptoBulkEntry x + uptoBulkEntries r
def uptoBulkEntry {H : Type} : Lit × DataW H → Nat
  | (.string bytes, d) => bytes.length + uptoBulk d + 1
  | (_, d) => uptoBulk d + 1
 end
def uptoSmall : (H : Type) → List (DataW H) → Bool := fun _ ds => decide (uptoBulkAll ds ≤ 1048576)
def OpenSpec.upto (s : _root_.Go.ChangeSpec) : _root_.Go.OpenSpec := { _root_.Go.OpenSpec.ofChange s with cond := some uptoSmall }

/-- 'laws.FnExactApplyTransaction', WHERE WHAT IT READS IS OF BULK AT MOST 1048576: true; the input reads as it did. -/
def fnExactApplyTransactionUptoRow : OpenClaim := { program := "yteaaopodnbjpoaagreat", sum := "2ff82796b7733ca4fc4d111a2d519b8b937e33f18cd9e5be7d7d65c9f5450923", func := "loop.example/g00976/laws.FnExactApplyTransaction", spec := "fnExactApplyTransaction", inPlace := ["slices.overlaps[loop.example/g00976/impl.Dir]"], unfollowed := true, recurses := true, apart := false, narrowed := true }
def FnExactApplyTransactionUptoSaid : Prop := fnExactApplyTransactionUptoRow.holds Tryz.pinned (OpenSpec.upto fnExactApplyTransactionSpec)

/-- 'laws.FnExactIsAllowed', WHERE WHAT IT READS IS OF BULK AT MOST 1048576: true; the input reads as it did. -/
def fnExactIsAllowedUptoRow : OpenClaim := { program := "yteaaopodnbjpoaagreat", sum := "2ff82796b7733ca4fc4d111a2d519b8b937e33f18cd9e5be7d7d65c9f5450923", func := "loop.example/g00976/laws.FnExactIsAllowed", spec := "fnExactIsAllowed", inPlace := ["slices.overlaps[loop.example/g00976/impl.Dir]"], unfollowed := true, recurses := true, apart := false, narrowed := true }
def FnExactIsAllowedUptoSaid : Prop := fnExactIsAllowedUptoRow.holds Tryz.pinned (OpenSpec.upto fnExactIsAllowedSpec)

/-- 'laws.FnExactAddToDir', WHERE WHAT IT READS IS OF BULK AT MOST 1048576: true; the input reads as it did. -/
def fnExactAddToDirUptoRow : OpenClaim := { program := "yteaaopodnbjpoaagreat", sum := "2ff82796b7733ca4fc4d111a2d519b8b937e33f18cd9e5be7d7d65c9f5450923", func := "loop.example/g00976/laws.FnExactAddToDir", spec := "fnExactAddToDir", inPlace := ["slices.overlaps[loop.example/g00976/impl.Attr]"], unfollowed := true, recurses := true, apart := false, narrowed := true }
def FnExactAddToDirUptoSaid : Prop := fnExactAddToDirUptoRow.holds Tryz.pinned (OpenSpec.upto fnExactAddToDirSpec)

/-- 'laws.FnExactRemoveFromDir', WHERE WHAT IT READS IS OF BULK AT MOST 1048576: true; the input reads as it did. -/
def fnExactRemoveFromDirUptoRow : OpenClaim := { program := "yteaaopodnbjpoaagreat", sum := "2ff82796b7733ca4fc4d111a2d519b8b937e33f18cd9e5be7d7d65c9f5450923", func := "loop.example/g00976/laws.FnExactRemoveFromDir", spec := "fnExactRemoveFromDir", inPlace := ["slices.overlaps[loop.example/g00976/impl.Attr]"], unfollowed := true, recurses := true, apart := false, narrowed := true }
def FnExactRemoveFromDirUptoSaid : Prop := fnExactRemoveFromDirUptoRow.holds Tryz.pinned (OpenSpec.upto fnExactRemoveFromDirSpec)

end Rows
end Go.Proofs.YteaaopodnbjpoaaGreat
