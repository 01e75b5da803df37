/-
  Lists: the first place where a condition holds, an element put in.
-/
import Derived.Test.YtgglopecipbbfaaGreatI1
set_option linter.all false
namespace Go.Proofs.YtgglopecipbbfaaGreat
open Go Go.Sx Go.RowKit Go.Proofs

theorem allT' {α : Type} (l : List α) : (l.all fun _ => true) = true := by simp
def fstIx {α : Type} (p : α → Bool) : List α → Nat
  | [] => 0
  | x :: l => if p x then 0 else fstIx p l + 1
theorem fstIx_le {α : Type} (p : α → Bool) : ∀ l : List α, fstIx p l ≤ l.length
  | [] => by simp [fstIx]
  | x :: l => by
    have := fstIx_le p l
    unfold fstIx
    split <;> simp <;> omega
theorem idxP_fst {α : Type} (p : α → Bool) : ∀ (l : List α) (k : Nat), (idxP p l k < 0 ∧ idxP p l k = -1 ∧ fstIx p l = l.length) ∨ (idxP p l k = ((k + fstIx p l : Nat) : Int) ∧ fstIx p l < l.length)
  | [], k => .inl ⟨by simp [idxP], rfl, rfl⟩
  | x :: l, k => by
    unfold idxP fstIx
    cases hx : p x with
    | true => exact .inr ⟨by simp, by simp⟩
    | false =>
      rcases idxP_fst p l (k + 1) with ⟨h0, h1, h2⟩ | ⟨h1, h2⟩
      · exact .inl ⟨by simpa using h0, by simpa using h1, by simp [h2]⟩
      · exact .inr ⟨by simp only [Bool.false_eq_true, if_false]; rw [h1]; congr 1; omega, by simp; omega⟩
theorem fstIx_drop {α : Type} (p : α → Bool) (l : List α) (k : Nat) (h : k < l.length) : fstIx p (l.drop k) = if p l[k] then 0 else fstIx p (l.drop (k + 1)) + 1 := by
  rw [List.drop_eq_getElem_cons h, fstIx]
def insAt {α : Type} (i : Nat) (x : α) (l : List α) : List α := l.take i ++ x :: l.drop i
theorem insAt_len {α : Type} (i : Nat) (x : α) (l : List α) (h : i ≤ l.length) : (insAt i x l).length = l.length + 1 := by simp [insAt]; omega
end Go.Proofs.YtgglopecipbbfaaGreat
