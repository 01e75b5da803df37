/-
  The rows of this seat: what all of them use.
-/
import Derived.Test.YteganoldfldlhaaRows
import Derived.Test.YteganoldfldlhaaB6Base
import Derived.Test.YteganoldfldlhaaB7Open
import Derived.OpenShut
set_option linter.all false
namespace Go.Proofs.Yteganoldfldlhaa
open Go Go.Sx Go.RowKit

theorem ttCl : Cl tt := Cl.of_list (by kernel_rfl)
theorem own : ownKnob Try.prog.godebug = none := by kernel_rfl
theorem laidOut : laidOutB Try.prog = true := by kernel_rfl
end Go.Proofs.Yteganoldfldlhaa
