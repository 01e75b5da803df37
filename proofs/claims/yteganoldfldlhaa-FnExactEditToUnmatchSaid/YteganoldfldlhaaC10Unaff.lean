/-
  UnaffectedDirs: both functions, the law.
-/
import Derived.Test.YteganoldfldlhaaM1
import Derived.Test.YteganoldfldlhaaI1
import Derived.Test.YteganoldfldlhaaH2
set_option linter.all false
set_option maxRecDepth 100000
set_option maxHeartbeats 4000000
namespace Go.Proofs.Yteganoldfldlhaa
open Go Go.Sx Go.RowKit Go.Proofs

def hasS (l : List ByteArray) (s : ByteArray) : Bool := l.any fun x => decide (x = s)
theorem idxP_any {α : Type} (p : α → Bool) : ∀ (l : List α) (k : Nat), decide (0 ≤ idxP p l k) = l.any p
  | [], _ => by simp [idxP]
  | x :: xs, k => by
    simp only [idxP, List.any_cons]
    by_cases h : p x = true
    · simp [h]
    · rw [Bool.not_eq_true] at h
      simpa [h] using idxP_any p xs (k + 1)
def dirNs (l : List TDir) : List ByteArray := l.map TDir.fName
def uD (names : List ByteArray) (l : List TDir) : List ByteArray := (dirNs l).filter fun n => !hasS names n
end Go.Proofs.Yteganoldfldlhaa
