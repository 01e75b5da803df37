/-
  Proved: the law FnExactFormatField: for every input, laws.FnExactFormatField returns true and leaves its argument as it was. Conditions: none.
-/
import Derived.Test.YtbplbpdfpcocgaaD1Int
import Derived.Test.YtbplbpdfpcocgaaC3Field
set_option linter.all false
namespace Go.Proofs.Ytbplbpdfpcocgaa
open Go Go.Sx Go.ChangeShapes Go.WideShapes Go.ChangeAt Go.RowKit

theorem decField {n : Nat} {r : List D} (h : ShD tt n 29 r) : ∃ f : Field, r = encField f ∧ f.name.size ≤ maxLen := by
  match n, h with
  | n + 1, ⟨a, b, e1, ha, a', b', e2, hi, e3⟩ =>
    obtain ⟨s, rfl, hs⟩ := decS ha
    obtain ⟨i, rfl, _⟩ := decI hi
    have e3' : b' = [] := e3
    subst e3' e2 e1
    exact ⟨⟨s, i⟩, rfl, hs⟩

set_option maxRecDepth 100000 in
theorem fnExactFormatField_lifted (os : Os) (started : os.Started) (H : Type) (enc : TypeId × Value → H) :
    ReturnsInHanded {} Try.checked os 5 .any (Rows.fnExactFormatFieldSpec.pre6 enc Try.prog Try.f5 Rows.fnExactFormatFieldRow.domain false) (Rows.fnExactFormatFieldSpec.post enc Try.prog Try.f5 false true false false) := by
  refine returnsInHanded_of_change (C := Try.checked) own started (by kernel_rfl) Try.func5
    (ChangeSpec.witness6 (enc := enc) (C := Try.checked) false ⟨#[], #[.agg #[.string ⟨#[]⟩, .int .i64 0]], []⟩ 8 (by kernel_rfl) (by kernel_rfl) (by kernel_rfl) (by kernel_rfl)) ?_
  intro W base args ds gs before hval hW _ _
  refine law_row (P := Try.prog) ttOK ttCl laidOut (f := 5) rfl (fun dd h => ?_) rfl Try.underlying4 (by kernel_rfl) (fun dss h => ?_) hval hW
  · match dd, h with
    | [d0], _ => rfl
  · match dss, h with
    | [d], ⟨⟨n, hd⟩, _⟩ =>
      obtain ⟨f, rfl, hf⟩ := decField hd
      exact lawFormatField_ok f (by unfold maxLen at hf; omega)

theorem fnExactFormatField_holds : Rows.FnExactFormatFieldSaid :=
  OpenClaim.holds_of_wide 5 Try.f5 rfl rfl rfl rfl rfl rfl rfl ⟨rfl, rfl, rfl, rfl, rfl⟩ rfl rfl rfl rfl rfl (by kernel_rfl) Try.func5 (by kernel_rfl)
    (of_decide_eq_true (by kernel_rfl)) (by unfold Func.isWrapper; first | (rw [if_pos (by decide +kernel)]; kernel_rfl) | (rw [if_neg (by decide +kernel)]; exact ⟨rfl, rfl⟩))
    (fun os started H enc _ => fnExactFormatField_lifted os started H enc)
#print axioms fnExactFormatField_holds
end Go.Proofs.Ytbplbpdfpcocgaa
