/-
  Proved: the law FnExactMergeEdits: for every input, laws.FnExactMergeEdits returns true and leaves its arguments as they were. Conditions: none.
-/
import Derived.Test.YteganoldfldlhaaL4
import Derived.Test.YteganoldfldlhaaC12Merge
set_option linter.all false
namespace Go.Proofs.Yteganoldfldlhaa
open Go Go.Sx Go.ChangeShapes Go.WideShapes Go.ChangeAt Go.RowKit

theorem and8 {a b c d e f g h : Bool} (ha : a = true) (hb : b = true) (hc : c = true) (hd : d = true) (he : e = true) (hf : f = true) (hg : g = true) (hh : h = true) : (a && b && c && d && e && f && g && h) = true := by simp [ha, hb, hc, hd, he, hf, hg, hh]
set_option maxRecDepth 100000 in
theorem fnExactMergeEdits_lifted (os : Os) (started : os.Started) (H : Type) (enc : TypeId × Value → H) :
    ReturnsInHanded {} Try.checked os 6 .any (Rows.fnExactMergeEditsSpec.pre6 enc Try.prog Try.f6 Rows.fnExactMergeEditsRow.domain false) (Rows.fnExactMergeEditsSpec.post enc Try.prog Try.f6 false true false false) := by
  refine returnsInHanded_of_change (C := Try.checked) own started (by kernel_rfl) Try.func6
    (ChangeSpec.witness6 (enc := enc) (C := Try.checked) false ⟨#[], #[.agg #[.bool false, .slice none 0 0], .agg #[.bool false, .slice none 0 0]], []⟩ 8 (by kernel_rfl) (by kernel_rfl) (by kernel_rfl) (by kernel_rfl)) ?_
  intro W base args ds gs before hval hW _ _
  refine law_row (P := Try.prog) ttOK ttCl laidOut (f := 6) rfl (fun dd h => ?_) rfl Try.underlying4 (by kernel_rfl) (fun dss h => ?_) hval hW
  · match dd, h with
    | [d0, d1], _ => rfl
  · match dss, h with
    | [d, e], ⟨⟨n, hd⟩, ⟨m, he⟩, _⟩ =>
      obtain ⟨a, rfl, ha⟩ := decEdit hd
      obtain ⟨b, rfl, hb⟩ := decEdit he
      exact lawMergeEdits_ok a b ha hb

theorem fnExactMergeEdits_enter : Try.prog.mayEnter = true := by kernel_rfl
theorem fnExactMergeEdits_lifts : (Rows.fnExactMergeEditsRow.lifted == Try.prog.liftsFinal) = true := by kernel_rfl
theorem fnExactMergeEdits_make : (Try.prog.make == some Rows.fnExactMergeEditsRow.make) = true := by kernel_rfl
theorem fnExactMergeEdits_joined : joinedFacts Try.prog 6 Try.f6 Rows.fnExactMergeEditsSpec Rows.fnExactMergeEditsRow = true := by
  refine and8 ?_ ?_ ?_ ?_ ?_ ?_ ?_ ?_
  · kernel_rfl
  · exact fnExactMergeEdits_enter
  · exact fnExactMergeEdits_lifts
  · exact fnExactMergeEdits_make
  · kernel_rfl
  · kernel_rfl
  · kernel_rfl
  · kernel_rfl
theorem fnExactMergeEdits_holds : Rows.FnExactMergeEditsSaid :=
  OpenClaim.holds_of_wide 6 Try.f6 rfl rfl rfl rfl rfl rfl rfl ⟨rfl, rfl, rfl, rfl, rfl⟩ rfl rfl rfl rfl rfl (by kernel_rfl) Try.func6 fnExactMergeEdits_joined
    (of_decide_eq_true (by kernel_rfl)) (by unfold Func.isWrapper; first | (rw [if_pos (by decide +kernel)]; kernel_rfl) | (rw [if_neg (by decide +kernel)]; exact ⟨rfl, rfl⟩))
    (fun os started H enc _ => fnExactMergeEdits_lifted os started H enc)
#print axioms fnExactMergeEdits_holds
end Go.Proofs.Yteganoldfldlhaa
