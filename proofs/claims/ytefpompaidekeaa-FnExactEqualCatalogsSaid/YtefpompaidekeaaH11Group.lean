/-
  Group: the structure, its cells; the contracts of the laws' helpers sz, to, eq. By program (gentys.py).
-/
import Derived.Test.YtefpompaidekeaaH10Catalog
set_option linter.all false
set_option maxHeartbeats 1000000
namespace Go.Proofs.Ytefpompaidekeaa
open Go Go.Sx Go.RowKit Go.Proofs

structure TGroup where
  fValue : TValue
  fIDs : List Int
@[go_sem] def encGroup (x : TGroup) : List D := [iv x.fValue.fKind, iv x.fValue.fInt, sv x.fValue.fStr, .sl (x.fIDs.map encI)]
@[go_sem] def gGroup (x : TGroup) : SV := .g [.d (iv x.fValue.fKind), .d (iv x.fValue.fInt), .d (sv x.fValue.fStr), .d (.sl (x.fIDs.map encI))]
@[go_sem] def rGroup (x : TGroup) : SV := .g [.d (iv x.fValue.fKind), .d (iv x.fValue.fInt), .d (sv x.fValue.fStr), .w 3 1 (x.fIDs.map encI)]
def wGroup (x : TGroup) : Nat := wValue x.fValue + x.fIDs.length
def wfGroup (x : TGroup) : Prop := wfValue x.fValue ∧ wfIntS x.fIDs
def wGroupS (l : List TGroup) : Nat := l.length + wsum wGroup l
def wfGroupS (l : List TGroup) : Prop := l.length ≤ 9223372036854775807 ∧ ∀ x ∈ l, wfGroup x
end Go.Proofs.Ytefpompaidekeaa
