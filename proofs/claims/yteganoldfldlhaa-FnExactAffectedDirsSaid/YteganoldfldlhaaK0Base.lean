/-
  Lists: the first place where a condition holds, an element put in.
-/
import Derived.Test.YteganoldfldlhaaI1
set_option linter.all false
namespace Go.Proofs.Yteganoldfldlhaa
open Go Go.Sx Go.RowKit Go.Proofs

theorem allT' {α : Type} (l : List α) : (l.all fun _ => true) = true := by simp
def fstIx {α : Type} (p : α → Bool) : List α → Nat
  | [] => 0
  | x :: l => if p x then 0 else fstIx p l + 1
theorem fstIx_le {α : Type} (p : α → Bool) : ∀ l : List α, fstIx p l ≤ l.length
  | [] => by simp [fstIx]
  | x :: l => by
    have := fstIx_le p l
    unfold fstIx
    split <;> simp <;> omega
theorem fstIx_drop {α : Type} (p : α → Bool) (l : List α) (k : Nat) (h : k < l.length) : fstIx p (l.drop k) = if p l[k] then 0 else fstIx p (l.drop (k + 1)) + 1 := by
  rw [List.drop_eq_getElem_cons h, fstIx]
def insAt {α : Type} (i : Nat) (x : α) (l : List α) : List α := l.take i ++ x :: l.drop i
theorem insAt_len {α : Type} (i : Nat) (x : α) (l : List α) (h : i ≤ l.length) : (insAt i x l).length = l.length + 1 := by simp [insAt]; omega
end Go.Proofs.Yteganoldfldlhaa
