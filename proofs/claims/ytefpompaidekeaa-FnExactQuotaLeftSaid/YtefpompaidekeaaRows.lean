/-
  No cell of these rows narrows 'for every input' (looked for: loops, veiled, ifaces, maps, wideKeys, modest, calm, conditions, laid).
  DERIVED. THE GIVEN ROWS OF THIS SEAT. 6 by the template 'for every input the law returns true; each argument reads behind the call as it read before'; 0 by the template 'total and deterministic' (their statements: YtefpompaidekeaaTotals.lean).
  GIVEN WITH THE SEED: the statements are not yours to turn. If you find one false, say at which input.
  Laid BY PROGRAM, IN A SANDBOX (cutbox-rows.mjs): the forced cells as the released guide's own fill.sh prints them over the translation d16983e83dc234a9… (all of the seat's roots in one cut). By AI agents, Wed Nov 11 2026. No macro, syntax, notation, axiom, sorry.
-/
import Derived.Test.YtefpompaidekeaaChecked
import GoSem.Claim
import GoSem.ClaimJoined
import GoSem.ClaimMapViews
import Derived.JoinedTies
import Derived.KernelRfl
namespace Go.Proofs.Ytefpompaidekeaa
/- THE CELL 'sum', in the pinned program and in every row, IS THE sha256 OF THE DUMP (.gsa) THAT YtefpompaidekeaaProg.lean LOADS. Nothing in Lean hashes anything: it is a label: what it is worth is what the hold of that sum in a sandbox is worth. -/
noncomputable def Try.pinned : Pinned := { name := "ytefpompaidekeaa", sum := "d16983e83dc234a986936be2201e7da9f3994fccc7de24ca4b2e6a01f6406521", checked := Try.checked }
namespace Rows
def none {H : Type} : Left H := { results := [], args := [] }

/-- 'laws.FnExactIsValidChange': WHATEVER THE INPUT: true; the input reads as it did. -/
def fnExactIsValidChangeSpec : ChangeSpec := { name := "fnExactIsValidChange", fn := fun _ => fun
  | [d] => { results := [.lit (.bool true)], args := [d] }
  | _ => none }
def fnExactIsValidChangeRow : OpenClaim := { program := "ytefpompaidekeaa", sum := "d16983e83dc234a986936be2201e7da9f3994fccc7de24ca4b2e6a01f6406521", func := "loop.example/g00976/laws.FnExactIsValidChange", spec := "fnExactIsValidChange", apart := false }
def FnExactIsValidChangeSaid : Prop := fnExactIsValidChangeRow.holds Try.pinned (OpenSpec.ofChange fnExactIsValidChangeSpec)

/-- ITS FALSE NEIGHBOUR: 'it returns false'. Refute it at one input. -/
def fnExactIsValidChangeWrong : ChangeSpec := { name := "fnExactIsValidChange", fn := fun _ => fun
  | [d] => { results := [.lit (.bool false)], args := [d] }
  | _ => none }
def FnExactIsValidChangeWrongFalsely : Prop := fnExactIsValidChangeRow.holds Try.pinned (OpenSpec.ofChange fnExactIsValidChangeWrong)

/-- 'laws.FnExactQuotaUsed': WHATEVER THE INPUT: true; the input reads as it did. -/
def fnExactQuotaUsedSpec : ChangeSpec := { name := "fnExactQuotaUsed", fn := fun _ => fun
  | [d1, d2] => { results := [.lit (.bool true)], args := [d1, d2] }
  | _ => none }
def fnExactQuotaUsedRow : OpenClaim := { program := "ytefpompaidekeaa", sum := "d16983e83dc234a986936be2201e7da9f3994fccc7de24ca4b2e6a01f6406521", func := "loop.example/g00976/laws.FnExactQuotaUsed", spec := "fnExactQuotaUsed", apart := false }
def FnExactQuotaUsedSaid : Prop := fnExactQuotaUsedRow.holds Try.pinned (OpenSpec.ofChange fnExactQuotaUsedSpec)

/-- ITS FALSE NEIGHBOUR: 'it returns false'. Refute it at one input. -/
def fnExactQuotaUsedWrong : ChangeSpec := { name := "fnExactQuotaUsed", fn := fun _ => fun
  | [d1, d2] => { results := [.lit (.bool false)], args := [d1, d2] }
  | _ => none }
def FnExactQuotaUsedWrongFalsely : Prop := fnExactQuotaUsedRow.holds Try.pinned (OpenSpec.ofChange fnExactQuotaUsedWrong)

/-- 'laws.FnExactQuotaLeft': WHATEVER THE INPUT: true; the input reads as it did. -/
def fnExactQuotaLeftSpec : ChangeSpec := { name := "fnExactQuotaLeft", fn := fun _ => fun
  | [d1, d2, d3] => { results := [.lit (.bool true)], args := [d1, d2, d3] }
  | _ => none }
def fnExactQuotaLeftRow : OpenClaim := { program := "ytefpompaidekeaa", sum := "d16983e83dc234a986936be2201e7da9f3994fccc7de24ca4b2e6a01f6406521", func := "loop.example/g00976/laws.FnExactQuotaLeft", spec := "fnExactQuotaLeft", apart := false }
def FnExactQuotaLeftSaid : Prop := fnExactQuotaLeftRow.holds Try.pinned (OpenSpec.ofChange fnExactQuotaLeftSpec)

/-- ITS FALSE NEIGHBOUR: 'it returns false'. Refute it at one input. -/
def fnExactQuotaLeftWrong : ChangeSpec := { name := "fnExactQuotaLeft", fn := fun _ => fun
  | [d1, d2, d3] => { results := [.lit (.bool false)], args := [d1, d2, d3] }
  | _ => none }
def FnExactQuotaLeftWrongFalsely : Prop := fnExactQuotaLeftRow.holds Try.pinned (OpenSpec.ofChange fnExactQuotaLeftWrong)

/-- 'laws.FnExactIsWithinQuota': WHATEVER THE INPUT: true; the input reads as it did. -/
def fnExactIsWithinQuotaSpec : ChangeSpec := { name := "fnExactIsWithinQuota", fn := fun _ => fun
  | [d1, d2] => { results := [.lit (.bool true)], args := [d1, d2] }
  | _ => none }
def fnExactIsWithinQuotaRow : OpenClaim := { program := "ytefpompaidekeaa", sum := "d16983e83dc234a986936be2201e7da9f3994fccc7de24ca4b2e6a01f6406521", func := "loop.example/g00976/laws.FnExactIsWithinQuota", spec := "fnExactIsWithinQuota", apart := false }
def FnExactIsWithinQuotaSaid : Prop := fnExactIsWithinQuotaRow.holds Try.pinned (OpenSpec.ofChange fnExactIsWithinQuotaSpec)

/-- ITS FALSE NEIGHBOUR: 'it returns false'. Refute it at one input. -/
def fnExactIsWithinQuotaWrong : ChangeSpec := { name := "fnExactIsWithinQuota", fn := fun _ => fun
  | [d1, d2] => { results := [.lit (.bool false)], args := [d1, d2] }
  | _ => none }
def FnExactIsWithinQuotaWrongFalsely : Prop := fnExactIsWithinQuotaRow.holds Try.pinned (OpenSpec.ofChange fnExactIsWithinQuotaWrong)

/-- 'laws.FnExactEqualSnapshots': WHATEVER THE INPUT: true; the input reads as it did. -/
def fnExactEqualSnapshotsSpec : ChangeSpec := { name := "fnExactEqualSnapshots", fn := fun _ => fun
  | [d1, d2] => { results := [.lit (.bool true)], args := [d1, d2] }
  | _ => none }
def fnExactEqualSnapshotsRow : OpenClaim := { program := "ytefpompaidekeaa", sum := "d16983e83dc234a986936be2201e7da9f3994fccc7de24ca4b2e6a01f6406521", func := "loop.example/g00976/laws.FnExactEqualSnapshots", spec := "fnExactEqualSnapshots", unfollowed := true, recurses := true, apart := false }
def FnExactEqualSnapshotsSaid : Prop := fnExactEqualSnapshotsRow.holds Try.pinned (OpenSpec.ofChange fnExactEqualSnapshotsSpec)

/-- ITS FALSE NEIGHBOUR: 'it returns false'. Refute it at one input. -/
def fnExactEqualSnapshotsWrong : ChangeSpec := { name := "fnExactEqualSnapshots", fn := fun _ => fun
  | [d1, d2] => { results := [.lit (.bool false)], args := [d1, d2] }
  | _ => none }
def FnExactEqualSnapshotsWrongFalsely : Prop := fnExactEqualSnapshotsRow.holds Try.pinned (OpenSpec.ofChange fnExactEqualSnapshotsWrong)

/-- 'laws.FnExactEqualCatalogs': WHATEVER THE INPUT: true; the input reads as it did. -/
def fnExactEqualCatalogsSpec : ChangeSpec := { name := "fnExactEqualCatalogs", fn := fun _ => fun
  | [d1, d2] => { results := [.lit (.bool true)], args := [d1, d2] }
  | _ => none }
def fnExactEqualCatalogsRow : OpenClaim := { program := "ytefpompaidekeaa", sum := "d16983e83dc234a986936be2201e7da9f3994fccc7de24ca4b2e6a01f6406521", func := "loop.example/g00976/laws.FnExactEqualCatalogs", spec := "fnExactEqualCatalogs", unfollowed := true, recurses := true, apart := false }
def FnExactEqualCatalogsSaid : Prop := fnExactEqualCatalogsRow.holds Try.pinned (OpenSpec.ofChange fnExactEqualCatalogsSpec)

/-- ITS FALSE NEIGHBOUR: 'it returns false'. Refute it at one input. -/
def fnExactEqualCatalogsWrong : ChangeSpec := { name := "fnExactEqualCatalogs", fn := fun _ => fun
  | [d1, d2] => { results := [.lit (.bool false)], args := [d1, d2] }
  | _ => none }
def FnExactEqualCatalogsWrongFalsely : Prop := fnExactEqualCatalogsRow.holds Try.pinned (OpenSpec.ofChange fnExactEqualCatalogsWrong)

/- THE SECOND FORM. 'bulk': how many values and letters a reading holds, each counted each time it is reached (what is shared counts as often as it is met; a slice's spare places count too). A statement '..UptoSaid' is the law's where the arguments, and the package variables that the reading takes, are together of bulk at most 1048576: NARROWER than '..Said'. Prove '..Said' where nothing that the law and all that it calls make is longer than what came in: it says more and counts as full. Else prove '..UptoSaid'. A law counts once. -/
mutual
def uptoBulk {H : Type} : DataW H → Nat
  | .lit (.string bytes) => bytes.length + 1
  | .lit _ => 1
  | .nil => 1
  | .ptr d => uptoBulk d + 1
  | .slice elems spare => uptoBulkAll elems + uptoBulkAll spare + 1
  | .agg parts => uptoBulkAll parts + 1
  | .iface _ d => uptoBulk d + 1
  | .map entries => uptoBulkEntries entries + 1
  | .held _ => 1
def uptoBulkAll {H : Type} : List (DataW H) → Nat
  | [] => 0
  | d :: r => uptoBulk d + uptoBulkAll r
def uptoBulkEntries {H : Type} : List (Lit × DataW H) → Nat
  | [] => 0
  | x :: r => uptoBulkEntry x + uptoBulkEntries r
def uptoBulkEntry {H : Type} : Lit × DataW H → Nat
  | (.string bytes, d) => bytes.length + uptoBulk d + 1
  | (_, d) => uptoBulk d + 1
 end
def uptoSmall : (H : Type) → List (DataW H) → Bool := fun _ ds => decide (uptoBulkAll ds ≤ 1048576)
def OpenSpec.upto (s : _root_.Go.ChangeSpec) : _root_.Go.OpenSpec := { _root_.Go.OpenSpec.ofChange s with cond := some uptoSmall }

/-- 'laws.FnExactIsValidChange', WHERE WHAT IT READS IS OF BULK AT MOST 1048576: true; the input reads as it did. -/
def fnExactIsValidChangeUptoRow : OpenClaim := { program := "ytefpompaidekeaa", sum := "d16983e83dc234a986936be2201e7da9f3994fccc7de24ca4b2e6a01f6406521", func := "loop.example/g00976/laws.FnExactIsValidChange", spec := "fnExactIsValidChange", apart := false, narrowed := true }
def FnExactIsValidChangeUptoSaid : Prop := fnExactIsValidChangeUptoRow.holds Try.pinned (OpenSpec.upto fnExactIsValidChangeSpec)

/-- 'laws.FnExactQuotaUsed', WHERE WHAT IT READS IS OF BULK AT MOST 1048576: true; the input reads as it did. -/
def fnExactQuotaUsedUptoRow : OpenClaim := { program := "ytefpompaidekeaa", sum := "d16983e83dc234a986936be2201e7da9f3994fccc7de24ca4b2e6a01f6406521", func := "loop.example/g00976/laws.FnExactQuotaUsed", spec := "fnExactQuotaUsed", apart := false, narrowed := true }
def FnExactQuotaUsedUptoSaid : Prop := fnExactQuotaUsedUptoRow.holds Try.pinned (OpenSpec.upto fnExactQuotaUsedSpec)

/-- 'laws.FnExactQuotaLeft', WHERE WHAT IT READS IS OF BULK AT MOST 1048576: true; the input reads as it did. -/
def fnExactQuotaLeftUptoRow : OpenClaim := { program := "ytefpompaidekeaa", sum := "d16983e83dc234a986936be2201e7da9f3994fccc7de24ca4b2e6a01f6406521", func := "loop.example/g00976/laws.FnExactQuotaLeft", spec := "fnExactQuotaLeft", apart := false, narrowed := true }
def FnExactQuotaLeftUptoSaid : Prop := fnExactQuotaLeftUptoRow.holds Try.pinned (OpenSpec.upto fnExactQuotaLeftSpec)

/-- 'laws.FnExactIsWithinQuota', WHERE WHAT IT READS IS OF BULK AT MOST 1048576: true; the input reads as it did. -/
def fnExactIsWithinQuotaUptoRow : OpenClaim := { program := "ytefpompaidekeaa", sum := "d16983e83dc234a986936be2201e7da9f3994fccc7de24ca4b2e6a01f6406521", func := "loop.example/g00976/laws.FnExactIsWithinQuota", spec := "fnExactIsWithinQuota", apart := false, narrowed := true }
def FnExactIsWithinQuotaUptoSaid : Prop := fnExactIsWithinQuotaUptoRow.holds Try.pinned (OpenSpec.upto fnExactIsWithinQuotaSpec)

/-- 'laws.FnExactEqualSnapshots', WHERE WHAT IT READS IS OF BULK AT MOST 1048576: true; the input reads as it did. -/
def fnExactEqualSnapshotsUptoRow : OpenClaim := { program := "ytefpompaidekeaa", sum := "d16983e83dc234a986936be2201e7da9f3994fccc7de24ca4b2e6a01f6406521", func := "loop.example/g00976/laws.FnExactEqualSnapshots", spec := "fnExactEqualSnapshots", unfollowed := true, recurses := true, apart := false, narrowed := true }
def FnExactEqualSnapshotsUptoSaid : Prop := fnExactEqualSnapshotsUptoRow.holds Try.pinned (OpenSpec.upto fnExactEqualSnapshotsSpec)

/-- 'laws.FnExactEqualCatalogs', WHERE WHAT IT READS IS OF BULK AT MOST 1048576: true; the input reads as it did. -/
def fnExactEqualCatalogsUptoRow : OpenClaim := { program := "ytefpompaidekeaa", sum := "d16983e83dc234a986936be2201e7da9f3994fccc7de24ca4b2e6a01f6406521", func := "loop.example/g00976/laws.FnExactEqualCatalogs", spec := "fnExactEqualCatalogs", unfollowed := true, recurses := true, apart := false, narrowed := true }
def FnExactEqualCatalogsUptoSaid : Prop := fnExactEqualCatalogsUptoRow.holds Try.pinned (OpenSpec.upto fnExactEqualCatalogsSpec)

end Rows
end Go.Proofs.Ytefpompaidekeaa
