/-
  Snapshot: the structure, its cells; the contracts of the laws' helpers sz, to, eq. By program (gentys.py).
-/
import Derived.Test.YteganoldfldlhaaH13Change
set_option linter.all false
set_option maxHeartbeats 1000000
namespace Go.Proofs.Yteganoldfldlhaa
open Go Go.Sx Go.RowKit Go.Proofs

structure TSnapshot where
  fStore : TStore
  fDirs : List TDir
@[go_sem] def encSnapshot (x : TSnapshot) : List D := [.sl (x.fStore.fSchema.map encField), .sl (x.fStore.fFiles.map encFile), iv x.fStore.fNextID, .sl (x.fDirs.map encDir)]
@[go_sem] def gSnapshot (x : TSnapshot) : SV := .g [.d (.sl (x.fStore.fSchema.map encField)), .d (.sl (x.fStore.fFiles.map encFile)), .d (iv x.fStore.fNextID), .d (.sl (x.fDirs.map encDir))]
@[go_sem] def rSnapshot (x : TSnapshot) : SV := .g [.w 202 2 (x.fStore.fSchema.map encField), .w 68 5 (x.fStore.fFiles.map encFile), .d (iv x.fStore.fNextID), .w 126 2 (x.fDirs.map encDir)]
def wSnapshot (x : TSnapshot) : Nat := wStore x.fStore + wDirS x.fDirs
def wfSnapshot (x : TSnapshot) : Prop := wfStore x.fStore ∧ wfDirS x.fDirs
def wSnapshotS (l : List TSnapshot) : Nat := l.length + wsum wSnapshot l
def wfSnapshotS (l : List TSnapshot) : Prop := l.length ≤ 9223372036854775807 ∧ ∀ x ∈ l, wfSnapshot x
end Go.Proofs.Yteganoldfldlhaa
