/-
  Edit: the structure, its cells; the contracts of the laws' helpers sz, to, eq. By program (gentys.py).
-/
import Derived.Test.YtefpompaidekeaaH11Group
set_option linter.all false
set_option maxHeartbeats 1000000
namespace Go.Proofs.Ytefpompaidekeaa
open Go Go.Sx Go.RowKit Go.Proofs

structure TEdit where
  fOK : Bool
  fSet : List TAttr
@[go_sem] def encEdit (x : TEdit) : List D := [bv x.fOK, .sl (x.fSet.map encAttr)]
@[go_sem] def gEdit (x : TEdit) : SV := .g [.d (bv x.fOK), .d (.sl (x.fSet.map encAttr))]
@[go_sem] def rEdit (x : TEdit) : SV := .g [.d (bv x.fOK), .w 135 4 (x.fSet.map encAttr)]
def wEdit (x : TEdit) : Nat := wAttrS x.fSet
def wfEdit (x : TEdit) : Prop := True ∧ wfAttrS x.fSet
def wEditS (l : List TEdit) : Nat := l.length + wsum wEdit l
def wfEditS (l : List TEdit) : Prop := l.length ≤ 9223372036854775807 ∧ ∀ x ∈ l, wfEdit x
end Go.Proofs.Ytefpompaidekeaa
