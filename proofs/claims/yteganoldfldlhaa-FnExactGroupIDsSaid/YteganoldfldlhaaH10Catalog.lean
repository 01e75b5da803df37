/-
  Catalog: the structure, its cells; the contracts of the laws' helpers sz, to, eq. By program (gentys.py).
-/
import Derived.Test.YteganoldfldlhaaH09Diff
set_option linter.all false
set_option maxHeartbeats 1000000
namespace Go.Proofs.Yteganoldfldlhaa
open Go Go.Sx Go.RowKit Go.Proofs

structure TCatalog where
  fStore : TStore
  fDirs : List TDir
  fResults : List TResult
@[go_sem] def encCatalog (x : TCatalog) : List D := [.sl (x.fStore.fSchema.map encField), .sl (x.fStore.fFiles.map encFile), iv x.fStore.fNextID, .sl (x.fDirs.map encDir), .sl (x.fResults.map encResult)]
@[go_sem] def gCatalog (x : TCatalog) : SV := .g [.d (.sl (x.fStore.fSchema.map encField)), .d (.sl (x.fStore.fFiles.map encFile)), .d (iv x.fStore.fNextID), .d (.sl (x.fDirs.map encDir)), .d (.sl (x.fResults.map encResult))]
@[go_sem] def rCatalog (x : TCatalog) : SV := .g [.w 202 2 (x.fStore.fSchema.map encField), .w 68 5 (x.fStore.fFiles.map encFile), .d (iv x.fStore.fNextID), .w 126 2 (x.fDirs.map encDir), .w 166 2 (x.fResults.map encResult)]
def wCatalog (x : TCatalog) : Nat := wStore x.fStore + wDirS x.fDirs + wResultS x.fResults
def wfCatalog (x : TCatalog) : Prop := wfStore x.fStore ∧ wfDirS x.fDirs ∧ wfResultS x.fResults
def wCatalogS (l : List TCatalog) : Nat := l.length + wsum wCatalog l
def wfCatalogS (l : List TCatalog) : Prop := l.length ≤ 9223372036854775807 ∧ ∀ x ∈ l, wfCatalog x
end Go.Proofs.Yteganoldfldlhaa
