/-
  MergeEdits: the law.
-/
import Derived.Test.YteganoldfldlhaaC11Merge
set_option linter.all false
set_option maxRecDepth 100000
set_option maxHeartbeats 4000000
namespace Go.Proofs.Yteganoldfldlhaa
open Go Go.Sx Go.RowKit Go.Proofs

theorem wsum_app {α : Type} (w : α → Nat) : ∀ l m : List α, wsum w (l ++ m) = wsum w l + wsum w m
  | [], m => by simp [wsum]
  | x :: l, m => by simp only [List.cons_append, wsum, wsum_app w l m]; omega
theorem wAttrS_ins (i : Nat) (x : TAttr) (l : List TAttr) : wAttrS (insAt i x l) = wAttrS l + (1 + wAttr x) := by
  have h1 : wsum wAttr l = wsum wAttr (l.take i) + wsum wAttr (l.drop i) := by rw [← wsum_app, List.take_append_drop]
  have h2 : l.length = (l.take i).length + (l.drop i).length := by rw [← List.length_append, List.take_append_drop]
  simp only [wAttrS, insAt, wsum_app, wsum, List.length_append, List.length_cons]
  omega
theorem mergeL_w (a : List TAttr) : ∀ (b l r : List TAttr), mergeL a l b = some r → wAttrS r ≤ wAttrS l + wAttrS b
  | [], l, r, h => by simp only [mergeL, Option.some.injEq] at h; subst h; omega
  | x :: b, l, r, h => by
    have e : wAttrS (x :: b) = 1 + wAttr x + wAttrS b := by simp only [wAttrS, wsum, List.length_cons]; omega
    unfold mergeL at h
    split at h
    · cases h
    · split at h
      · have := mergeL_w a b l r h; omega
      · have := mergeL_w a b _ r h
        rw [wAttrS_ins] at this
        omega
theorem mergeE_w (a b : TEdit) : wEdit (mergeE a b) ≤ wEdit a + wEdit b := by
  unfold mergeE wEdit
  split
  · split
    · simp [wAttrS, wsum]
    · rename_i l h; exact mergeL_w _ _ _ _ h
  · simp [wAttrS, wsum]
theorem specMerged_ok (a b : TEdit) (ha : a.fSet.length ≤ 1048576) (hb : b.fSet.length ≤ 1048576) : FnC Try.prog 39 [gEdit a, gEdit b] (gEdit (mergeE a b)) := (specMerge_ok a b ha hb).pure (by simp only [go_sem]) (by simp only [go_sem]) (by simp only [go_sem]) (by simp only [go_sem]) (by simp only [go_sem])
end Go.Proofs.Yteganoldfldlhaa
