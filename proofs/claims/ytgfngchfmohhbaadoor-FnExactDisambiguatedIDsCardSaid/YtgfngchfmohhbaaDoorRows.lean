/-
  NARROWER THAN 'FOR EVERY INPUT', by the rows' own cells (each row's printed sentence says how): FnExactGroupName: laid · FnExactFormatFile: laid · FnExactEntryName: laid · FnExactResolveName: laid · FnExactEntryNames: laid · FnExactDisambiguatedIDs: laid.
  DERIVED. THE GIVEN ROWS OF THIS SEAT. 6 by the template 'for every input the law returns true; each argument reads behind the call as it read before'; 0 by the template 'total and deterministic' (their statements: YtgfngchfmohhbaaDoorTotals.lean).
  GIVEN WITH THE SEED: the statements are not yours to turn. If you find one false, say at which input.
  Laid BY PROGRAM, IN A SANDBOX (cutbox-rows.mjs): the forced cells as the released guide's own fill.sh prints them over the translation 1dc28bf5449b45a4… (all of the seat's roots in one cut). By AI agents, Wed Nov 11 2026. No macro, syntax, notation, axiom, sorry.
-/
import Derived.Test.YtgfngchfmohhbaaDoorChecked
import GoSem.Claim
import GoSem.ClaimJoined
import GoSem.ClaimMapViews
import Derived.JoinedTies
import Derived.KernelRfl
namespace Go.Proofs.YtgfngchfmohhbaaDoor
/- THE CELL 'sum', in the pinned program and in every row, IS THE sha256 OF THE DUMP (.gsa) THAT YtgfngchfmohhbaaDoorProg.lean LOADS. Nothing in Lean hashes anything: it is a label: what it is worth is what the hold of that sum in a sandbox is worth. -/
noncomputable def Tryd.pinned : Pinned := { name := "ytgfngchfmohhbaadoor", sum := "1dc28bf5449b45a44d97567ea82febd7dc87bbfd403a7a516c4144dc6b475d8e", checked := Tryd.checked }
namespace Rows
def none {H : Type} : Left H := { results := [], args := [] }

/- WHAT THE LISTED PACKAGE-LEVEL VARIABLES READ AS WHEN THE CALL BEGINS. Each datum BY PROGRAM (the guide's laid-datum.mjs) off the statement by which the dump's own 'gosem.cut.vars' lays the variable. In a bare row this is a premise. The card (YtgfngchfmohhbaaDoorCards.lean) ties it to the program's text. -/
def laid_math_bits_deBruijn32tab {H : Type} : DataW H := .agg [.lit (.int .u8 0), .lit (.int .u8 1), .lit (.int .u8 28), .lit (.int .u8 2), .lit (.int .u8 29), .lit (.int .u8 14), .lit (.int .u8 24), .lit (.int .u8 3), .lit (.int .u8 30), .lit (.int .u8 22), .lit (.int .u8 20), .lit (.int .u8 15), .lit (.int .u8 25), .lit (.int .u8 17), .lit (.int .u8 4), .lit (.int .u8 8), .lit (.int .u8 31), .lit (.int .u8 27), .lit (.int .u8 13), .lit (.int .u8 23), .lit (.int .u8 21), .lit (.int .u8 19), .lit (.int .u8 16), .lit (.int .u8 7), .lit (.int .u8 26), .lit (.int .u8 12), .lit (.int .u8 18), .lit (.int .u8 6), .lit (.int .u8 11), .lit (.int .u8 5), .lit (.int .u8 10), .lit (.int .u8 9)]
def laid_math_bits_deBruijn64tab {H : Type} : DataW H := .agg [.lit (.int .u8 0), .lit (.int .u8 1), .lit (.int .u8 56), .lit (.int .u8 2), .lit (.int .u8 57), .lit (.int .u8 49), .lit (.int .u8 28), .lit (.int .u8 3), .lit (.int .u8 61), .lit (.int .u8 58), .lit (.int .u8 42), .lit (.int .u8 50), .lit (.int .u8 38), .lit (.int .u8 29), .lit (.int .u8 17), .lit (.int .u8 4), .lit (.int .u8 62), .lit (.int .u8 47), .lit (.int .u8 59), .lit (.int .u8 36), .lit (.int .u8 45), .lit (.int .u8 43), .lit (.int .u8 51), .lit (.int .u8 22), .lit (.int .u8 53), .lit (.int .u8 39), .lit (.int .u8 33), .lit (.int .u8 30), .lit (.int .u8 24), .lit (.int .u8 18), .lit (.int .u8 12), .lit (.int .u8 5), .lit (.int .u8 63), .lit (.int .u8 55), .lit (.int .u8 48), .lit (.int .u8 27), .lit (.int .u8 60), .lit (.int .u8 41), .lit (.int .u8 37), .lit (.int .u8 16), .lit (.int .u8 46), .lit (.int .u8 35), .lit (.int .u8 44), .lit (.int .u8 21), .lit (.int .u8 52), .lit (.int .u8 32), .lit (.int .u8 23), .lit (.int .u8 11), .lit (.int .u8 54), .lit (.int .u8 26), .lit (.int .u8 40), .lit (.int .u8 15), .lit (.int .u8 34), .lit (.int .u8 20), .lit (.int .u8 31), .lit (.int .u8 10), .lit (.int .u8 25), .lit (.int .u8 14), .lit (.int .u8 19), .lit (.int .u8 9), .lit (.int .u8 13), .lit (.int .u8 8), .lit (.int .u8 7), .lit (.int .u8 6)]
def laid_internal_strconv_uint64pow10 {H : Type} : DataW H := .agg [.lit (.int .u64 1), .lit (.int .u64 10), .lit (.int .u64 100), .lit (.int .u64 1000), .lit (.int .u64 10000), .lit (.int .u64 100000), .lit (.int .u64 1000000), .lit (.int .u64 10000000), .lit (.int .u64 100000000), .lit (.int .u64 1000000000), .lit (.int .u64 10000000000), .lit (.int .u64 100000000000), .lit (.int .u64 1000000000000), .lit (.int .u64 10000000000000), .lit (.int .u64 100000000000000), .lit (.int .u64 1000000000000000), .lit (.int .u64 10000000000000000), .lit (.int .u64 100000000000000000), .lit (.int .u64 1000000000000000000), .lit (.int .u64 10000000000000000000)]

/-- 'laws.FnExactGroupName': WHATEVER THE INPUT: true; the input reads as it did. -/
def fnExactGroupNameSpec : ChangeSpec := { name := "fnExactGroupName", fn := fun _ => fun
  | [d] => { results := [.lit (.bool true)], args := [d] }
  | _ => none }
def fnExactGroupNameRow : OpenClaim := { program := "ytgfngchfmohhbaadoor", sum := "1dc28bf5449b45a44d97567ea82febd7dc87bbfd403a7a516c4144dc6b475d8e", func := "loop.example/g00976/laws.FnExactGroupName", spec := "fnExactGroupName", named := ["internal/strconv.uint64pow10", "math/bits.deBruijn32tab", "math/bits.deBruijn64tab"], apart := false, laid := [("math/bits.deBruijn32tab", laid_math_bits_deBruijn32tab), ("math/bits.deBruijn64tab", laid_math_bits_deBruijn64tab), ("internal/strconv.uint64pow10", laid_internal_strconv_uint64pow10)] }
def FnExactGroupNameSaid : Prop := fnExactGroupNameRow.holds Tryd.pinned (OpenSpec.ofChange fnExactGroupNameSpec)

/-- ITS FALSE NEIGHBOUR: 'it returns false'. Refute it at one input. -/
def fnExactGroupNameWrong : ChangeSpec := { name := "fnExactGroupName", fn := fun _ => fun
  | [d] => { results := [.lit (.bool false)], args := [d] }
  | _ => none }
def FnExactGroupNameWrongFalsely : Prop := fnExactGroupNameRow.holds Tryd.pinned (OpenSpec.ofChange fnExactGroupNameWrong)

/-- 'laws.FnExactFormatFile': WHATEVER THE INPUT: true; the input reads as it did. -/
def fnExactFormatFileSpec : ChangeSpec := { name := "fnExactFormatFile", fn := fun _ => fun
  | [d] => { results := [.lit (.bool true)], args := [d] }
  | _ => none }
def fnExactFormatFileRow : OpenClaim := { program := "ytgfngchfmohhbaadoor", sum := "1dc28bf5449b45a44d97567ea82febd7dc87bbfd403a7a516c4144dc6b475d8e", func := "loop.example/g00976/laws.FnExactFormatFile", spec := "fnExactFormatFile", inPlace := ["internal/abi.NoEscape", "internal/bytealg.MakeNoZero"], named := ["internal/strconv.uint64pow10", "math/bits.deBruijn32tab", "math/bits.deBruijn64tab"], apart := false, laid := [("math/bits.deBruijn32tab", laid_math_bits_deBruijn32tab), ("math/bits.deBruijn64tab", laid_math_bits_deBruijn64tab), ("internal/strconv.uint64pow10", laid_internal_strconv_uint64pow10)] }
def FnExactFormatFileSaid : Prop := fnExactFormatFileRow.holds Tryd.pinned (OpenSpec.ofChange fnExactFormatFileSpec)

/-- ITS FALSE NEIGHBOUR: 'it returns false'. Refute it at one input. -/
def fnExactFormatFileWrong : ChangeSpec := { name := "fnExactFormatFile", fn := fun _ => fun
  | [d] => { results := [.lit (.bool false)], args := [d] }
  | _ => none }
def FnExactFormatFileWrongFalsely : Prop := fnExactFormatFileRow.holds Tryd.pinned (OpenSpec.ofChange fnExactFormatFileWrong)

/-- 'laws.FnExactEntryName': WHATEVER THE INPUT: true; the input reads as it did. -/
def fnExactEntryNameSpec : ChangeSpec := { name := "fnExactEntryName", fn := fun _ => fun
  | [d1, d2, d3] => { results := [.lit (.bool true)], args := [d1, d2, d3] }
  | _ => none }
def fnExactEntryNameRow : OpenClaim := { program := "ytgfngchfmohhbaadoor", sum := "1dc28bf5449b45a44d97567ea82febd7dc87bbfd403a7a516c4144dc6b475d8e", func := "loop.example/g00976/laws.FnExactEntryName", spec := "fnExactEntryName", unfollowed := true, recurses := true, named := ["internal/strconv.uint64pow10", "math/bits.deBruijn32tab", "math/bits.deBruijn64tab"], apart := false, laid := [("math/bits.deBruijn32tab", laid_math_bits_deBruijn32tab), ("math/bits.deBruijn64tab", laid_math_bits_deBruijn64tab), ("internal/strconv.uint64pow10", laid_internal_strconv_uint64pow10)] }
def FnExactEntryNameSaid : Prop := fnExactEntryNameRow.holds Tryd.pinned (OpenSpec.ofChange fnExactEntryNameSpec)

/-- ITS FALSE NEIGHBOUR: 'it returns false'. Refute it at one input. -/
def fnExactEntryNameWrong : ChangeSpec := { name := "fnExactEntryName", fn := fun _ => fun
  | [d1, d2, d3] => { results := [.lit (.bool false)], args := [d1, d2, d3] }
  | _ => none }
def FnExactEntryNameWrongFalsely : Prop := fnExactEntryNameRow.holds Tryd.pinned (OpenSpec.ofChange fnExactEntryNameWrong)

/-- 'laws.FnExactResolveName': WHATEVER THE INPUT: true; the input reads as it did. -/
def fnExactResolveNameSpec : ChangeSpec := { name := "fnExactResolveName", fn := fun _ => fun
  | [d1, d2, d3] => { results := [.lit (.bool true)], args := [d1, d2, d3] }
  | _ => none }
def fnExactResolveNameRow : OpenClaim := { program := "ytgfngchfmohhbaadoor", sum := "1dc28bf5449b45a44d97567ea82febd7dc87bbfd403a7a516c4144dc6b475d8e", func := "loop.example/g00976/laws.FnExactResolveName", spec := "fnExactResolveName", unfollowed := true, recurses := true, named := ["internal/strconv.uint64pow10", "math/bits.deBruijn32tab", "math/bits.deBruijn64tab"], apart := false, laid := [("math/bits.deBruijn32tab", laid_math_bits_deBruijn32tab), ("math/bits.deBruijn64tab", laid_math_bits_deBruijn64tab), ("internal/strconv.uint64pow10", laid_internal_strconv_uint64pow10)] }
def FnExactResolveNameSaid : Prop := fnExactResolveNameRow.holds Tryd.pinned (OpenSpec.ofChange fnExactResolveNameSpec)

/-- ITS FALSE NEIGHBOUR: 'it returns false'. Refute it at one input. -/
def fnExactResolveNameWrong : ChangeSpec := { name := "fnExactResolveName", fn := fun _ => fun
  | [d1, d2, d3] => { results := [.lit (.bool false)], args := [d1, d2, d3] }
  | _ => none }
def FnExactResolveNameWrongFalsely : Prop := fnExactResolveNameRow.holds Tryd.pinned (OpenSpec.ofChange fnExactResolveNameWrong)

/-- 'laws.FnExactEntryNames': WHATEVER THE INPUT: true; the input reads as it did. -/
def fnExactEntryNamesSpec : ChangeSpec := { name := "fnExactEntryNames", fn := fun _ => fun
  | [d1, d2] => { results := [.lit (.bool true)], args := [d1, d2] }
  | _ => none }
def fnExactEntryNamesRow : OpenClaim := { program := "ytgfngchfmohhbaadoor", sum := "1dc28bf5449b45a44d97567ea82febd7dc87bbfd403a7a516c4144dc6b475d8e", func := "loop.example/g00976/laws.FnExactEntryNames", spec := "fnExactEntryNames", unfollowed := true, recurses := true, named := ["internal/strconv.uint64pow10", "math/bits.deBruijn32tab", "math/bits.deBruijn64tab"], apart := false, laid := [("math/bits.deBruijn32tab", laid_math_bits_deBruijn32tab), ("math/bits.deBruijn64tab", laid_math_bits_deBruijn64tab), ("internal/strconv.uint64pow10", laid_internal_strconv_uint64pow10)] }
def FnExactEntryNamesSaid : Prop := fnExactEntryNamesRow.holds Tryd.pinned (OpenSpec.ofChange fnExactEntryNamesSpec)

/-- ITS FALSE NEIGHBOUR: 'it returns false'. Refute it at one input. -/
def fnExactEntryNamesWrong : ChangeSpec := { name := "fnExactEntryNames", fn := fun _ => fun
  | [d1, d2] => { results := [.lit (.bool false)], args := [d1, d2] }
  | _ => none }
def FnExactEntryNamesWrongFalsely : Prop := fnExactEntryNamesRow.holds Tryd.pinned (OpenSpec.ofChange fnExactEntryNamesWrong)

/-- 'laws.FnExactDisambiguatedIDs': WHATEVER THE INPUT: true; the input reads as it did. -/
def fnExactDisambiguatedIDsSpec : ChangeSpec := { name := "fnExactDisambiguatedIDs", fn := fun _ => fun
  | [d1, d2] => { results := [.lit (.bool true)], args := [d1, d2] }
  | _ => none }
def fnExactDisambiguatedIDsRow : OpenClaim := { program := "ytgfngchfmohhbaadoor", sum := "1dc28bf5449b45a44d97567ea82febd7dc87bbfd403a7a516c4144dc6b475d8e", func := "loop.example/g00976/laws.FnExactDisambiguatedIDs", spec := "fnExactDisambiguatedIDs", inPlace := ["internal/bytealg.IndexByteString", "internal/bytealg.IndexString"], unfollowed := true, recurses := true, named := ["internal/strconv.uint64pow10", "math/bits.deBruijn32tab", "math/bits.deBruijn64tab", "internal/bytealg.MaxLen"], apart := false, laid := [("math/bits.deBruijn32tab", laid_math_bits_deBruijn32tab), ("math/bits.deBruijn64tab", laid_math_bits_deBruijn64tab), ("internal/strconv.uint64pow10", laid_internal_strconv_uint64pow10)] }
def FnExactDisambiguatedIDsSaid : Prop := fnExactDisambiguatedIDsRow.holds Tryd.pinned (OpenSpec.ofChange fnExactDisambiguatedIDsSpec)

/-- ITS FALSE NEIGHBOUR: 'it returns false'. Refute it at one input. -/
def fnExactDisambiguatedIDsWrong : ChangeSpec := { name := "fnExactDisambiguatedIDs", fn := fun _ => fun
  | [d1, d2] => { results := [.lit (.bool false)], args := [d1, d2] }
  | _ => none }
def FnExactDisambiguatedIDsWrongFalsely : Prop := fnExactDisambiguatedIDsRow.holds Tryd.pinned (OpenSpec.ofChange fnExactDisambiguatedIDsWrong)

/- THE SECOND FORM. 'bulk': how many values and letters a reading holds, each counted each time it is reached (what is shared counts as often as it is met; a slice's spare places count too). A statement '..UptoSaid' is the law's where the arguments, and the package variables that the reading takes, are together of bulk at most 1048576: NARROWER than '..Said'. Prove '..Said' where nothing that the law and all that it calls make is longer than what came in: it says more and counts as full. Else prove '..UptoSaid'. A law counts once. -/
mutual
def uptoBulk {H : Type} : DataW H → Nat
  | .lit (.string bytes) => bytes.length + 1
  | .lit _ => 1
  | .nil => 1
  | .ptr d => uptoBulk d + 1
  | .slice elems spare => uptoBulkAll elems + uptoBulkAll spare + 1
  | .agg parts => uptoBulkAll parts + 1
  | .iface _ d => uptoBulk d + 1
  | .map entries => uptoBulkEntries entries + 1
  | .held _ => 1
def uptoBulkAll {H : Type} : List (DataW H) → Nat
  | [] => 0
  | d :: r => uptoBulk d + uptoBulkAll r
def uptoBulkEntries {H : Type} : List (Lit × DataW H) → Nat
  | [] => 0
  | x :: r => uptoBulkEntry x + uptoBulkEntries r
def uptoBulkEntry {H : Type} : Lit × DataW H → Nat
  | (.string bytes, d) => bytes.length + uptoBulk d + 1
  | (_, d) => uptoBulk d + 1
 end
def uptoSmall : (H : Type) → List (DataW H) → Bool := fun _ ds => decide (uptoBulkAll ds ≤ 1048576)
def OpenSpec.upto (s : _root_.Go.ChangeSpec) : _root_.Go.OpenSpec := { _root_.Go.OpenSpec.ofChange s with cond := some uptoSmall }

/-- 'laws.FnExactGroupName', WHERE WHAT IT READS IS OF BULK AT MOST 1048576: true; the input reads as it did. -/
def fnExactGroupNameUptoRow : OpenClaim := { program := "ytgfngchfmohhbaadoor", sum := "1dc28bf5449b45a44d97567ea82febd7dc87bbfd403a7a516c4144dc6b475d8e", func := "loop.example/g00976/laws.FnExactGroupName", spec := "fnExactGroupName", named := ["internal/strconv.uint64pow10", "math/bits.deBruijn32tab", "math/bits.deBruijn64tab"], apart := false, laid := [("math/bits.deBruijn32tab", laid_math_bits_deBruijn32tab), ("math/bits.deBruijn64tab", laid_math_bits_deBruijn64tab), ("internal/strconv.uint64pow10", laid_internal_strconv_uint64pow10)], narrowed := true }
def FnExactGroupNameUptoSaid : Prop := fnExactGroupNameUptoRow.holds Tryd.pinned (OpenSpec.upto fnExactGroupNameSpec)

/-- 'laws.FnExactFormatFile', WHERE WHAT IT READS IS OF BULK AT MOST 1048576: true; the input reads as it did. -/
def fnExactFormatFileUptoRow : OpenClaim := { program := "ytgfngchfmohhbaadoor", sum := "1dc28bf5449b45a44d97567ea82febd7dc87bbfd403a7a516c4144dc6b475d8e", func := "loop.example/g00976/laws.FnExactFormatFile", spec := "fnExactFormatFile", inPlace := ["internal/abi.NoEscape", "internal/bytealg.MakeNoZero"], named := ["internal/strconv.uint64pow10", "math/bits.deBruijn32tab", "math/bits.deBruijn64tab"], apart := false, laid := [("math/bits.deBruijn32tab", laid_math_bits_deBruijn32tab), ("math/bits.deBruijn64tab", laid_math_bits_deBruijn64tab), ("internal/strconv.uint64pow10", laid_internal_strconv_uint64pow10)], narrowed := true }
def FnExactFormatFileUptoSaid : Prop := fnExactFormatFileUptoRow.holds Tryd.pinned (OpenSpec.upto fnExactFormatFileSpec)

/-- 'laws.FnExactEntryName', WHERE WHAT IT READS IS OF BULK AT MOST 1048576: true; the input reads as it did. -/
def fnExactEntryNameUptoRow : OpenClaim := { program := "ytgfngchfmohhbaadoor", sum := "1dc28bf5449b45a44d97567ea82febd7dc87bbfd403a7a516c4144dc6b475d8e", func := "loop.example/g00976/laws.FnExactEntryName", spec := "fnExactEntryName", unfollowed := true, recurses := true, named := ["internal/strconv.uint64pow10", "math/bits.deBruijn32tab", "math/bits.deBruijn64tab"], apart := false, laid := [("math/bits.deBruijn32tab", laid_math_bits_deBruijn32tab), ("math/bits.deBruijn64tab", laid_math_bits_deBruijn64tab), ("internal/strconv.uint64pow10", laid_internal_strconv_uint64pow10)], narrowed := true }
def FnExactEntryNameUptoSaid : Prop := fnExactEntryNameUptoRow.holds Tryd.pinned (OpenSpec.upto fnExactEntryNameSpec)

/-- 'laws.FnExactResolveName', WHERE WHAT IT READS IS OF BULK AT MOST 1048576: true; the input reads as it did. -/
def fnExactResolveNameUptoRow : OpenClaim := { program := "ytgfngchfmohhbaadoor", sum := "1dc28bf5449b45a44d97567ea82febd7dc87bbfd403a7a516c4144dc6b475d8e", func := "loop.example/g00976/laws.FnExactResolveName", spec := "fnExactResolveName", unfollowed := true, recurses := true, named := ["internal/strconv.uint64pow10", "math/bits.deBruijn32tab", "math/bits.deBruijn64tab"], apart := false, laid := [("math/bits.deBruijn32tab", laid_math_bits_deBruijn32tab), ("math/bits.deBruijn64tab", laid_math_bits_deBruijn64tab), ("internal/strconv.uint64pow10", laid_internal_strconv_uint64pow10)], narrowed := true }
def FnExactResolveNameUptoSaid : Prop := fnExactResolveNameUptoRow.holds Tryd.pinned (OpenSpec.upto fnExactResolveNameSpec)

/-- 'laws.FnExactEntryNames', WHERE WHAT IT READS IS OF BULK AT MOST 1048576: true; the input reads as it did. -/
def fnExactEntryNamesUptoRow : OpenClaim := { program := "ytgfngchfmohhbaadoor", sum := "1dc28bf5449b45a44d97567ea82febd7dc87bbfd403a7a516c4144dc6b475d8e", func := "loop.example/g00976/laws.FnExactEntryNames", spec := "fnExactEntryNames", unfollowed := true, recurses := true, named := ["internal/strconv.uint64pow10", "math/bits.deBruijn32tab", "math/bits.deBruijn64tab"], apart := false, laid := [("math/bits.deBruijn32tab", laid_math_bits_deBruijn32tab), ("math/bits.deBruijn64tab", laid_math_bits_deBruijn64tab), ("internal/strconv.uint64pow10", laid_internal_strconv_uint64pow10)], narrowed := true }
def FnExactEntryNamesUptoSaid : Prop := fnExactEntryNamesUptoRow.holds Tryd.pinned (OpenSpec.upto fnExactEntryNamesSpec)

/-- 'laws.FnExactDisambiguatedIDs', WHERE WHAT IT READS IS OF BULK AT MOST 1048576: true; the input reads as it did. -/
def fnExactDisambiguatedIDsUptoRow : OpenClaim := { program := "ytgfngchfmohhbaadoor", sum := "1dc28bf5449b45a44d97567ea82febd7dc87bbfd403a7a516c4144dc6b475d8e", func := "loop.example/g00976/laws.FnExactDisambiguatedIDs", spec := "fnExactDisambiguatedIDs", inPlace := ["internal/bytealg.IndexByteString", "internal/bytealg.IndexString"], unfollowed := true, recurses := true, named := ["internal/strconv.uint64pow10", "math/bits.deBruijn32tab", "math/bits.deBruijn64tab", "internal/bytealg.MaxLen"], apart := false, laid := [("math/bits.deBruijn32tab", laid_math_bits_deBruijn32tab), ("math/bits.deBruijn64tab", laid_math_bits_deBruijn64tab), ("internal/strconv.uint64pow10", laid_internal_strconv_uint64pow10)], narrowed := true }
def FnExactDisambiguatedIDsUptoSaid : Prop := fnExactDisambiguatedIDsUptoRow.holds Tryd.pinned (OpenSpec.upto fnExactDisambiguatedIDsSpec)

end Rows
end Go.Proofs.YtgfngchfmohhbaaDoor
