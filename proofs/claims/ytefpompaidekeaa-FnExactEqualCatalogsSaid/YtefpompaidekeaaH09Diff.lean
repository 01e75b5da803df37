/-
  Diff: the structure, its cells; the contracts of the laws' helpers sz, to, eq. By program (gentys.py).
-/
import Derived.Test.YtefpompaidekeaaH08Result
set_option linter.all false
set_option maxHeartbeats 1000000
namespace Go.Proofs.Ytefpompaidekeaa
open Go Go.Sx Go.RowKit Go.Proofs

structure TDiff where
  fName : ByteArray
  fAdded : List Int
  fRemoved : List Int
@[go_sem] def encDiff (x : TDiff) : List D := [sv x.fName, .sl (x.fAdded.map encI), .sl (x.fRemoved.map encI)]
@[go_sem] def gDiff (x : TDiff) : SV := .g [.d (sv x.fName), .d (.sl (x.fAdded.map encI)), .d (.sl (x.fRemoved.map encI))]
@[go_sem] def rDiff (x : TDiff) : SV := .g [.d (sv x.fName), .w 3 1 (x.fAdded.map encI), .w 3 1 (x.fRemoved.map encI)]
def wDiff (x : TDiff) : Nat := x.fName.size + x.fAdded.length + x.fRemoved.length
def wfDiff (x : TDiff) : Prop := x.fName.size ≤ 9223372036854775807 ∧ wfIntS x.fAdded ∧ wfIntS x.fRemoved
def wDiffS (l : List TDiff) : Nat := l.length + wsum wDiff l
def wfDiffS (l : List TDiff) : Prop := l.length ≤ 9223372036854775807 ∧ ∀ x ∈ l, wfDiff x
end Go.Proofs.Ytefpompaidekeaa
