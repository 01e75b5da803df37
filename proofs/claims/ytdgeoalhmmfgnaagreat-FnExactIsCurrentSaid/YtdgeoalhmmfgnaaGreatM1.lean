/- What the laws' mark and held do: texts, and slices of scalars. By program (genmark.py). What the laws' mark and held do to slices of structs without slices. By program (genmark.py). What the laws' mark and held do to slices of structs that hold slices. By program (genmark.py). What the laws' mark and held do to structs. By program (genmark.py). Bounds of what mark and held count. -/
import Derived.Test.YtdgeoalhmmfgnaaGreatH2
set_option linter.all false
section
set_option linter.all false
set_option maxRecDepth 100000
set_option maxHeartbeats 4000000
namespace Go.Proofs.YtdgeoalhmmfgnaaGreat
open Go Go.Sx Go.RowKit Go.Proofs
def mDig (k : Nat) (out : ByteArray) : ByteArray :=
 if h : k = 0 then out else mDig (k / 10) (strOf [(48 : Int) + ((k % 10 : Nat) : Int)] ++ out)
decreasing_by omega
def mText (k : Int) : ByteArray := ⟨#[109]⟩ ++ mDig k.toNat ⟨#[]⟩
def cnInt (x : Int) : Nat := 1
def mkInt (x : Int) (k : Int) : Int := k
def cnStr (x : ByteArray) : Nat := 1
def mkStr (x : ByteArray) (k : Int) : ByteArray := (mText k)
def cnBool (x : Bool) : Nat := 1
def mkBool (x : Bool) (k : Int) : Bool := (decide (Int.tmod k 3 = 0))
end Go.Proofs.YtdgeoalhmmfgnaaGreat
end
section
set_option linter.all false
set_option maxRecDepth 100000
set_option maxHeartbeats 4000000
namespace Go.Proofs.YtdgeoalhmmfgnaaGreat
open Go Go.Sx Go.RowKit Go.Proofs
def cnField (x : TField) : Nat := 2
def mkField (x : TField) (k : Int) : TField := ⟨(mText k), (k + 1)⟩
def cnAttr (x : TAttr) : Nat := 4
def mkAttr (x : TAttr) (k : Int) : TAttr := ⟨(mText k), ⟨(k + 1), ((k + 1) + 1), (mText (((k + 1) + 1) + 1))⟩⟩
def cnNode (x : TNode) : Nat := 7
def mkNode (x : TNode) (k : Int) : TNode := ⟨k, (k + 1), ((k + 1) + 1), (mText (((k + 1) + 1) + 1)), ⟨((((k + 1) + 1) + 1) + 1), (((((k + 1) + 1) + 1) + 1) + 1), (mText ((((((k + 1) + 1) + 1) + 1) + 1) + 1))⟩⟩
end Go.Proofs.YtdgeoalhmmfgnaaGreat
end
section
set_option linter.all false
set_option maxRecDepth 100000
set_option maxHeartbeats 4000000
namespace Go.Proofs.YtdgeoalhmmfgnaaGreat
open Go Go.Sx Go.RowKit Go.Proofs
def cnFile (x : TFile) : Nat := 4 + csum cnAttr x.fAttrs
def mkFile (x : TFile) (k : Int) : TFile := ⟨k, (k + 1), (decide (Int.tmod ((k + 1) + 1) 3 = 0)), (((k + 1) + 1) + 1), (mkL mkAttr cnAttr x.fAttrs ((((k + 1) + 1) + 1) + 1))⟩
def cnDir (x : TDir) : Nat := 1 + csum cnNode x.fQuery
def mkDir (x : TDir) (k : Int) : TDir := ⟨(mText k), (mkL mkNode cnNode x.fQuery (k + 1))⟩
def cnResult (x : TResult) : Nat := 1 + csum cnInt x.fIDs
def mkResult (x : TResult) (k : Int) : TResult := ⟨(mText k), (mkL mkInt cnInt x.fIDs (k + 1))⟩
def cnDiff (x : TDiff) : Nat := 1 + csum cnInt x.fAdded + csum cnInt x.fRemoved
def mkDiff (x : TDiff) (k : Int) : TDiff := ⟨(mText k), (mkL mkInt cnInt x.fAdded (k + 1)), (mkL mkInt cnInt x.fRemoved ((k + 1) + (csum cnInt x.fAdded : Nat)))⟩
def cnGroup (x : TGroup) : Nat := 3 + csum cnInt x.fIDs
def mkGroup (x : TGroup) (k : Int) : TGroup := ⟨⟨k, (k + 1), (mText ((k + 1) + 1))⟩, (mkL mkInt cnInt x.fIDs (((k + 1) + 1) + 1))⟩
def cnChange (x : TChange) : Nat := 7 + csum cnAttr x.fFile.fAttrs + csum cnNode x.fDir.fQuery
def mkChange (x : TChange) (k : Int) : TChange := ⟨k, ⟨(k + 1), ((k + 1) + 1), (decide (Int.tmod (((k + 1) + 1) + 1) 3 = 0)), ((((k + 1) + 1) + 1) + 1), (mkL mkAttr cnAttr x.fFile.fAttrs (((((k + 1) + 1) + 1) + 1) + 1))⟩, ((((((k + 1) + 1) + 1) + 1) + 1) + (csum cnAttr x.fFile.fAttrs : Nat)), ⟨(mText (((((((k + 1) + 1) + 1) + 1) + 1) + (csum cnAttr x.fFile.fAttrs : Nat)) + 1)), (mkL mkNode cnNode x.fDir.fQuery ((((((((k + 1) + 1) + 1) + 1) + 1) + (csum cnAttr x.fFile.fAttrs : Nat)) + 1) + 1))⟩⟩
end Go.Proofs.YtdgeoalhmmfgnaaGreat
end
section
set_option linter.all false
set_option maxRecDepth 100000
set_option maxHeartbeats 4000000
namespace Go.Proofs.YtdgeoalhmmfgnaaGreat
open Go Go.Sx Go.RowKit Go.Proofs
end Go.Proofs.YtdgeoalhmmfgnaaGreat
end
section
set_option linter.all false
namespace Go.Proofs.YtdgeoalhmmfgnaaGreat
open Go Go.Sx Go.RowKit Go.Proofs
end Go.Proofs.YtdgeoalhmmfgnaaGreat
end
