/-
  What a node of a query asks, in plain words.
-/
import Derived.Test.YtgglopecipbbfaaGreatH20Node
import Derived.Test.YtgglopecipbbfaaGreatC5Get
set_option linter.all false
set_option maxRecDepth 100000
set_option maxHeartbeats 4000000
namespace Go.Proofs.YtgglopecipbbfaaGreat

def eqVal (x v : TValue) : Bool := decide (x.fKind = v.fKind) && (decide (x.fInt = v.fInt) && decide (x.fStr = v.fStr))
def hasI (l : List Int) (i : Int) : Bool := l.any fun x => decide (x = i)
def resIDs (s : ByteArray) : List TResult → List Int
  | [] => []
  | x :: r => if x.fName = s then x.fIDs else resIDs s r
def lessV (v : TValue) (n : Int) : Bool := decide (v.fKind = 1) && decide (v.fInt < n)
def mt (q : List TNode) (f : TFile) (r : List TResult) : Nat → Nat → Bool
  | 0, _ => false
  | k + 1, i => match q[i]? with
    | none => false
    | some n =>
      if n.fOp = 1 then true
      else if n.fOp = 2 then !decide ((getAttr n.fName f.fAttrs).fKind = 0)
      else if n.fOp = 3 then eqVal (getAttr n.fName f.fAttrs) n.fValue
      else if n.fOp = 4 then lessV (getAttr n.fName f.fAttrs) n.fValue.fInt
      else if n.fOp = 5 then !mt q f r k n.fLeft.toNat
      else if n.fOp = 6 then mt q f r k n.fLeft.toNat && mt q f r k n.fRight.toNat
      else if n.fOp = 7 then mt q f r k n.fLeft.toNat || mt q f r k n.fRight.toNat
      else if n.fOp = 8 then hasI (resIDs n.fName r) f.fID
      else !decide (f.fLink = 0) && hasI (resIDs n.fName r) f.fLink
end Go.Proofs.YtgglopecipbbfaaGreat
