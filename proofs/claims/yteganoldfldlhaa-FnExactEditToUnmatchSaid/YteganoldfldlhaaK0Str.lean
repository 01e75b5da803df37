/-
  slices.Clone at []string.
-/
import Derived.Test.YteganoldfldlhaaK0Base
import Derived.Test.YteganoldfldlhaaH2
set_option linter.all false
set_option maxRecDepth 100000
set_option maxHeartbeats 4000000
namespace Go.Proofs.Yteganoldfldlhaa
open Go Go.Sx Go.RowKit Go.Proofs

end Go.Proofs.Yteganoldfldlhaa
