/-
  No cell of these rows narrows 'for every input' (looked for: loops, veiled, ifaces, maps, wideKeys, modest, calm, conditions, laid).
  DERIVED. THE GIVEN ROWS OF THIS SEAT. 7 by the template 'for every input the law returns true; each argument reads behind the call as it read before'; 0 by the template 'total and deterministic' (their statements: YtbplbpdfpcocgaaTotals.lean).
  GIVEN WITH THE SEED: the statements are not yours to turn. If you find one false, say at which input.
  Laid BY PROGRAM, IN A SANDBOX (cutbox-rows.mjs): the forced cells as the released guide's own fill.sh prints them over the translation ff7f79533dc4e811… (all of the seat's roots in one cut). By AI agents, Wed Nov 11 2026. No macro, syntax, notation, axiom, sorry.
-/
import Derived.Test.YtbplbpdfpcocgaaChecked
import GoSem.Claim
import GoSem.ClaimJoined
import GoSem.ClaimMapViews
import Derived.JoinedTies
import Derived.KernelRfl
namespace Go.Proofs.Ytbplbpdfpcocgaa
/- THE CELL 'sum', in the pinned program and in every row, IS THE sha256 OF THE DUMP (.gsa) THAT YtbplbpdfpcocgaaProg.lean LOADS. Nothing in Lean hashes anything: it is a label: what it is worth is what the hold of that sum in a sandbox is worth. -/
noncomputable def Try.pinned : Pinned := { name := "ytbplbpdfpcocgaa", sum := "ff7f79533dc4e8112bbf6a9dc7108981e39c64b4e060544fce78c207e1dc8465", checked := Try.checked }
namespace Rows
def none {H : Type} : Left H := { results := [], args := [] }

/-- 'laws.FnExactChecksum': WHATEVER THE INPUT: true; the input reads as it did. -/
def fnExactChecksumSpec : ChangeSpec := { name := "fnExactChecksum", fn := fun _ => fun
  | [d] => { results := [.lit (.bool true)], args := [d] }
  | _ => none }
def fnExactChecksumRow : OpenClaim := { program := "ytbplbpdfpcocgaa", sum := "ff7f79533dc4e8112bbf6a9dc7108981e39c64b4e060544fce78c207e1dc8465", func := "loop.example/g00976/laws.FnExactChecksum", spec := "fnExactChecksum", apart := false }
def FnExactChecksumSaid : Prop := fnExactChecksumRow.holds Try.pinned (OpenSpec.ofChange fnExactChecksumSpec)

/-- ITS FALSE NEIGHBOUR: 'it returns false'. Refute it at one input. -/
def fnExactChecksumWrong : ChangeSpec := { name := "fnExactChecksum", fn := fun _ => fun
  | [d] => { results := [.lit (.bool false)], args := [d] }
  | _ => none }
def FnExactChecksumWrongFalsely : Prop := fnExactChecksumRow.holds Try.pinned (OpenSpec.ofChange fnExactChecksumWrong)

/-- 'laws.FnExactIsValidQuota': WHATEVER THE INPUT: true; the input reads as it did. -/
def fnExactIsValidQuotaSpec : ChangeSpec := { name := "fnExactIsValidQuota", fn := fun _ => fun
  | [d] => { results := [.lit (.bool true)], args := [d] }
  | _ => none }
def fnExactIsValidQuotaRow : OpenClaim := { program := "ytbplbpdfpcocgaa", sum := "ff7f79533dc4e8112bbf6a9dc7108981e39c64b4e060544fce78c207e1dc8465", func := "loop.example/g00976/laws.FnExactIsValidQuota", spec := "fnExactIsValidQuota", unfollowed := true, recurses := true, apart := false }
def FnExactIsValidQuotaSaid : Prop := fnExactIsValidQuotaRow.holds Try.pinned (OpenSpec.ofChange fnExactIsValidQuotaSpec)

/-- ITS FALSE NEIGHBOUR: 'it returns false'. Refute it at one input. -/
def fnExactIsValidQuotaWrong : ChangeSpec := { name := "fnExactIsValidQuota", fn := fun _ => fun
  | [d] => { results := [.lit (.bool false)], args := [d] }
  | _ => none }
def FnExactIsValidQuotaWrongFalsely : Prop := fnExactIsValidQuotaRow.holds Try.pinned (OpenSpec.ofChange fnExactIsValidQuotaWrong)

/-- 'laws.FnExactFormatField': WHATEVER THE INPUT: true; the input reads as it did. -/
def fnExactFormatFieldSpec : ChangeSpec := { name := "fnExactFormatField", fn := fun _ => fun
  | [d] => { results := [.lit (.bool true)], args := [d] }
  | _ => none }
def fnExactFormatFieldRow : OpenClaim := { program := "ytbplbpdfpcocgaa", sum := "ff7f79533dc4e8112bbf6a9dc7108981e39c64b4e060544fce78c207e1dc8465", func := "loop.example/g00976/laws.FnExactFormatField", spec := "fnExactFormatField", apart := false }
def FnExactFormatFieldSaid : Prop := fnExactFormatFieldRow.holds Try.pinned (OpenSpec.ofChange fnExactFormatFieldSpec)

/-- ITS FALSE NEIGHBOUR: 'it returns false'. Refute it at one input. -/
def fnExactFormatFieldWrong : ChangeSpec := { name := "fnExactFormatField", fn := fun _ => fun
  | [d] => { results := [.lit (.bool false)], args := [d] }
  | _ => none }
def FnExactFormatFieldWrongFalsely : Prop := fnExactFormatFieldRow.holds Try.pinned (OpenSpec.ofChange fnExactFormatFieldWrong)

/-- 'laws.FnExactFileCost': WHATEVER THE INPUT: true; the input reads as it did. -/
def fnExactFileCostSpec : ChangeSpec := { name := "fnExactFileCost", fn := fun _ => fun
  | [d] => { results := [.lit (.bool true)], args := [d] }
  | _ => none }
def fnExactFileCostRow : OpenClaim := { program := "ytbplbpdfpcocgaa", sum := "ff7f79533dc4e8112bbf6a9dc7108981e39c64b4e060544fce78c207e1dc8465", func := "loop.example/g00976/laws.FnExactFileCost", spec := "fnExactFileCost", apart := false }
def FnExactFileCostSaid : Prop := fnExactFileCostRow.holds Try.pinned (OpenSpec.ofChange fnExactFileCostSpec)

/-- ITS FALSE NEIGHBOUR: 'it returns false'. Refute it at one input. -/
def fnExactFileCostWrong : ChangeSpec := { name := "fnExactFileCost", fn := fun _ => fun
  | [d] => { results := [.lit (.bool false)], args := [d] }
  | _ => none }
def FnExactFileCostWrongFalsely : Prop := fnExactFileCostRow.holds Try.pinned (OpenSpec.ofChange fnExactFileCostWrong)

/-- 'laws.FnExactBaseName': WHATEVER THE INPUT: true; the input reads as it did. -/
def fnExactBaseNameSpec : ChangeSpec := { name := "fnExactBaseName", fn := fun _ => fun
  | [d] => { results := [.lit (.bool true)], args := [d] }
  | _ => none }
def fnExactBaseNameRow : OpenClaim := { program := "ytbplbpdfpcocgaa", sum := "ff7f79533dc4e8112bbf6a9dc7108981e39c64b4e060544fce78c207e1dc8465", func := "loop.example/g00976/laws.FnExactBaseName", spec := "fnExactBaseName", apart := false }
def FnExactBaseNameSaid : Prop := fnExactBaseNameRow.holds Try.pinned (OpenSpec.ofChange fnExactBaseNameSpec)

/-- ITS FALSE NEIGHBOUR: 'it returns false'. Refute it at one input. -/
def fnExactBaseNameWrong : ChangeSpec := { name := "fnExactBaseName", fn := fun _ => fun
  | [d] => { results := [.lit (.bool false)], args := [d] }
  | _ => none }
def FnExactBaseNameWrongFalsely : Prop := fnExactBaseNameRow.holds Try.pinned (OpenSpec.ofChange fnExactBaseNameWrong)

/-- 'laws.FnExactGroupSizes': WHATEVER THE INPUT: true; the input reads as it did. -/
def fnExactGroupSizesSpec : ChangeSpec := { name := "fnExactGroupSizes", fn := fun _ => fun
  | [d] => { results := [.lit (.bool true)], args := [d] }
  | _ => none }
def fnExactGroupSizesRow : OpenClaim := { program := "ytbplbpdfpcocgaa", sum := "ff7f79533dc4e8112bbf6a9dc7108981e39c64b4e060544fce78c207e1dc8465", func := "loop.example/g00976/laws.FnExactGroupSizes", spec := "fnExactGroupSizes", apart := false }
def FnExactGroupSizesSaid : Prop := fnExactGroupSizesRow.holds Try.pinned (OpenSpec.ofChange fnExactGroupSizesSpec)

/-- ITS FALSE NEIGHBOUR: 'it returns false'. Refute it at one input. -/
def fnExactGroupSizesWrong : ChangeSpec := { name := "fnExactGroupSizes", fn := fun _ => fun
  | [d] => { results := [.lit (.bool false)], args := [d] }
  | _ => none }
def FnExactGroupSizesWrongFalsely : Prop := fnExactGroupSizesRow.holds Try.pinned (OpenSpec.ofChange fnExactGroupSizesWrong)

/-- 'laws.FnExactGroupIDs': WHATEVER THE INPUT: true; the input reads as it did. -/
def fnExactGroupIDsSpec : ChangeSpec := { name := "fnExactGroupIDs", fn := fun _ => fun
  | [d1, d2] => { results := [.lit (.bool true)], args := [d1, d2] }
  | _ => none }
def fnExactGroupIDsRow : OpenClaim := { program := "ytbplbpdfpcocgaa", sum := "ff7f79533dc4e8112bbf6a9dc7108981e39c64b4e060544fce78c207e1dc8465", func := "loop.example/g00976/laws.FnExactGroupIDs", spec := "fnExactGroupIDs", apart := false }
def FnExactGroupIDsSaid : Prop := fnExactGroupIDsRow.holds Try.pinned (OpenSpec.ofChange fnExactGroupIDsSpec)

/-- ITS FALSE NEIGHBOUR: 'it returns false'. Refute it at one input. -/
def fnExactGroupIDsWrong : ChangeSpec := { name := "fnExactGroupIDs", fn := fun _ => fun
  | [d1, d2] => { results := [.lit (.bool false)], args := [d1, d2] }
  | _ => none }
def FnExactGroupIDsWrongFalsely : Prop := fnExactGroupIDsRow.holds Try.pinned (OpenSpec.ofChange fnExactGroupIDsWrong)

/- THE SECOND FORM. 'bulk': how many values and letters a reading holds, each counted each time it is reached (what is shared counts as often as it is met; a slice's spare places count too). A statement '..UptoSaid' is the law's where the arguments, and the package variables that the reading takes, are together of bulk at most 1048576: NARROWER than '..Said'. Prove '..Said' where nothing that the law and all that it calls make is longer than what came in: it says more and counts as full. Else prove '..UptoSaid'. A law counts once. -/
mutual
def uptoBulk {H : Type} : DataW H → Nat
  | .lit (.string bytes) => bytes.length + 1
  | .lit _ => 1
  | .nil => 1
  | .ptr d => uptoBulk d + 1
  | .slice elems spare => uptoBulkAll elems + uptoBulkAll spare + 1
  | .agg parts => uptoBulkAll parts + 1
  | .iface _ d => uptoBulk d + 1
  | .map entries => uptoBulkEntries entries + 1
  | .held _ => 1
def uptoBulkAll {H : Type} : List (DataW H) → Nat
  | [] => 0
  | d :: r => uptoBulk d + uptoBulkAll r
def uptoBulkEntries {H : Type} : List (Lit × DataW H) → Nat
  | [] => 0
  | x :: r => uptoBulkEntry x + uptoBulkEntries r
def uptoBulkEntry {H : Type} : Lit × DataW H → Nat
  | (.string bytes, d) => bytes.length + uptoBulk d + 1
  | (_, d) => uptoBulk d + 1
 end
def uptoSmall : (H : Type) → List (DataW H) → Bool := fun _ ds => decide (uptoBulkAll ds ≤ 1048576)
def OpenSpec.upto (s : _root_.Go.ChangeSpec) : _root_.Go.OpenSpec := { _root_.Go.OpenSpec.ofChange s with cond := some uptoSmall }

/-- 'laws.FnExactChecksum', WHERE WHAT IT READS IS OF BULK AT MOST 1048576: true; the input reads as it did. -/
def fnExactChecksumUptoRow : OpenClaim := { program := "ytbplbpdfpcocgaa", sum := "ff7f79533dc4e8112bbf6a9dc7108981e39c64b4e060544fce78c207e1dc8465", func := "loop.example/g00976/laws.FnExactChecksum", spec := "fnExactChecksum", apart := false, narrowed := true }
def FnExactChecksumUptoSaid : Prop := fnExactChecksumUptoRow.holds Try.pinned (OpenSpec.upto fnExactChecksumSpec)

/-- 'laws.FnExactIsValidQuota', WHERE WHAT IT READS IS OF BULK AT MOST 1048576: true; the input reads as it did. -/
def fnExactIsValidQuotaUptoRow : OpenClaim := { program := "ytbplbpdfpcocgaa", sum := "ff7f79533dc4e8112bbf6a9dc7108981e39c64b4e060544fce78c207e1dc8465", func := "loop.example/g00976/laws.FnExactIsValidQuota", spec := "fnExactIsValidQuota", unfollowed := true, recurses := true, apart := false, narrowed := true }
def FnExactIsValidQuotaUptoSaid : Prop := fnExactIsValidQuotaUptoRow.holds Try.pinned (OpenSpec.upto fnExactIsValidQuotaSpec)

/-- 'laws.FnExactFormatField', WHERE WHAT IT READS IS OF BULK AT MOST 1048576: true; the input reads as it did. -/
def fnExactFormatFieldUptoRow : OpenClaim := { program := "ytbplbpdfpcocgaa", sum := "ff7f79533dc4e8112bbf6a9dc7108981e39c64b4e060544fce78c207e1dc8465", func := "loop.example/g00976/laws.FnExactFormatField", spec := "fnExactFormatField", apart := false, narrowed := true }
def FnExactFormatFieldUptoSaid : Prop := fnExactFormatFieldUptoRow.holds Try.pinned (OpenSpec.upto fnExactFormatFieldSpec)

/-- 'laws.FnExactFileCost', WHERE WHAT IT READS IS OF BULK AT MOST 1048576: true; the input reads as it did. -/
def fnExactFileCostUptoRow : OpenClaim := { program := "ytbplbpdfpcocgaa", sum := "ff7f79533dc4e8112bbf6a9dc7108981e39c64b4e060544fce78c207e1dc8465", func := "loop.example/g00976/laws.FnExactFileCost", spec := "fnExactFileCost", apart := false, narrowed := true }
def FnExactFileCostUptoSaid : Prop := fnExactFileCostUptoRow.holds Try.pinned (OpenSpec.upto fnExactFileCostSpec)

/-- 'laws.FnExactBaseName', WHERE WHAT IT READS IS OF BULK AT MOST 1048576: true; the input reads as it did. -/
def fnExactBaseNameUptoRow : OpenClaim := { program := "ytbplbpdfpcocgaa", sum := "ff7f79533dc4e8112bbf6a9dc7108981e39c64b4e060544fce78c207e1dc8465", func := "loop.example/g00976/laws.FnExactBaseName", spec := "fnExactBaseName", apart := false, narrowed := true }
def FnExactBaseNameUptoSaid : Prop := fnExactBaseNameUptoRow.holds Try.pinned (OpenSpec.upto fnExactBaseNameSpec)

/-- 'laws.FnExactGroupSizes', WHERE WHAT IT READS IS OF BULK AT MOST 1048576: true; the input reads as it did. -/
def fnExactGroupSizesUptoRow : OpenClaim := { program := "ytbplbpdfpcocgaa", sum := "ff7f79533dc4e8112bbf6a9dc7108981e39c64b4e060544fce78c207e1dc8465", func := "loop.example/g00976/laws.FnExactGroupSizes", spec := "fnExactGroupSizes", apart := false, narrowed := true }
def FnExactGroupSizesUptoSaid : Prop := fnExactGroupSizesUptoRow.holds Try.pinned (OpenSpec.upto fnExactGroupSizesSpec)

/-- 'laws.FnExactGroupIDs', WHERE WHAT IT READS IS OF BULK AT MOST 1048576: true; the input reads as it did. -/
def fnExactGroupIDsUptoRow : OpenClaim := { program := "ytbplbpdfpcocgaa", sum := "ff7f79533dc4e8112bbf6a9dc7108981e39c64b4e060544fce78c207e1dc8465", func := "loop.example/g00976/laws.FnExactGroupIDs", spec := "fnExactGroupIDs", apart := false, narrowed := true }
def FnExactGroupIDsUptoSaid : Prop := fnExactGroupIDsUptoRow.holds Try.pinned (OpenSpec.upto fnExactGroupIDsSpec)

end Rows
end Go.Proofs.Ytbplbpdfpcocgaa
