/-
  UnaffectedDirs: both functions, the law.
-/
import Derived.Test.YtiogaijpncjlmaaGreatM1
import Derived.Test.YtiogaijpncjlmaaGreatI1
import Derived.Test.YtiogaijpncjlmaaGreatH2
set_option linter.all false
set_option maxRecDepth 100000
set_option maxHeartbeats 4000000
namespace Go.Proofs.YtiogaijpncjlmaaGreat
open Go Go.Sx Go.RowKit Go.Proofs

def hasS (l : List ByteArray) (s : ByteArray) : Bool := l.any fun x => decide (x = s)
def dirNs (l : List TDir) : List ByteArray := l.map TDir.fName
def uD (names : List ByteArray) (l : List TDir) : List ByteArray := (dirNs l).filter fun n => !hasS names n
end Go.Proofs.YtiogaijpncjlmaaGreat
