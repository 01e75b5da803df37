/-
  Disk: the structure, its cells; the contracts of the laws' helpers sz, to, eq. By program (gentys.py).
-/
import Derived.Test.YteganoldfldlhaaH14Snapshot
set_option linter.all false
set_option maxHeartbeats 1000000
namespace Go.Proofs.Yteganoldfldlhaa
open Go Go.Sx Go.RowKit Go.Proofs

structure TDisk where
  fSlotA : ByteArray
  fSlotB : ByteArray
@[go_sem] def encDisk (x : TDisk) : List D := [sv x.fSlotA, sv x.fSlotB]
@[go_sem] def gDisk (x : TDisk) : SV := .g [.d (sv x.fSlotA), .d (sv x.fSlotB)]
def wDisk (x : TDisk) : Nat := x.fSlotA.size + x.fSlotB.size
def wfDisk (x : TDisk) : Prop := x.fSlotA.size ≤ 9223372036854775807 ∧ x.fSlotB.size ≤ 9223372036854775807
def wDiskS (l : List TDisk) : Nat := l.length + wsum wDisk l
def wfDiskS (l : List TDisk) : Prop := l.length ≤ 9223372036854775807 ∧ ∀ x ∈ l, wfDisk x
end Go.Proofs.Yteganoldfldlhaa
