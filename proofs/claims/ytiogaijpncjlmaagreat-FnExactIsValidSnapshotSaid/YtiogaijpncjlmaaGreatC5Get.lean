/-
  GetAttr, both.
-/
import Derived.Test.YtiogaijpncjlmaaGreatH1
set_option linter.all false
namespace Go.Proofs.YtiogaijpncjlmaaGreat
open Go Go.Sx Go.RowKit Go.Proofs

def getAttr (name : ByteArray) : List TAttr → TValue
  | [] => ⟨0, 0, ⟨#[]⟩⟩
  | a :: r => if a.fName = name then a.fValue else getAttr name r

end Go.Proofs.YtiogaijpncjlmaaGreat
