/-
  Change: the structure, its cells; the contracts of the laws' helpers sz, to, eq. By program (gentys.py).
-/
import Derived.Test.YteganoldfldlhaaH12Edit
set_option linter.all false
set_option maxHeartbeats 1000000
namespace Go.Proofs.Yteganoldfldlhaa
open Go Go.Sx Go.RowKit Go.Proofs

structure TChange where
  fKind : Int
  fFile : TFile
  fID : Int
  fDir : TDir
@[go_sem] def encChange (x : TChange) : List D := [iv x.fKind, iv x.fFile.fID, iv x.fFile.fOwner, bv x.fFile.fShared, iv x.fFile.fLink, .sl (x.fFile.fAttrs.map encAttr), iv x.fID, sv x.fDir.fName, .sl (x.fDir.fQuery.map encNode)]
@[go_sem] def gChange (x : TChange) : SV := .g [.d (iv x.fKind), .d (iv x.fFile.fID), .d (iv x.fFile.fOwner), .d (bv x.fFile.fShared), .d (iv x.fFile.fLink), .d (.sl (x.fFile.fAttrs.map encAttr)), .d (iv x.fID), .d (sv x.fDir.fName), .d (.sl (x.fDir.fQuery.map encNode))]
@[go_sem] def rChange (x : TChange) : SV := .g [.d (iv x.fKind), .d (iv x.fFile.fID), .d (iv x.fFile.fOwner), .d (bv x.fFile.fShared), .d (iv x.fFile.fLink), .w 134 4 (x.fFile.fAttrs.map encAttr), .d (iv x.fID), .d (sv x.fDir.fName), .w 180 7 (x.fDir.fQuery.map encNode)]
def wChange (x : TChange) : Nat := wFile x.fFile + wDir x.fDir
def wfChange (x : TChange) : Prop := inR .i64 x.fKind ∧ wfFile x.fFile ∧ inR .i64 x.fID ∧ wfDir x.fDir
def wChangeS (l : List TChange) : Nat := l.length + wsum wChange l
def wfChangeS (l : List TChange) : Prop := l.length ≤ 9223372036854775807 ∧ ∀ x ∈ l, wfChange x
end Go.Proofs.Yteganoldfldlhaa
