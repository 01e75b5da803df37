/-
  Proved: the law FnExactIsValidQuota: for every input, laws.FnExactIsValidQuota returns true and leaves its argument as it was. Conditions: none.
-/
import Derived.Test.YtbplbpdfpcocgaaD1Int
set_option linter.all false
namespace Go.Proofs.Ytbplbpdfpcocgaa
open Go Go.Sx Go.ChangeShapes Go.WideShapes Go.ChangeAt Go.RowKit

set_option maxRecDepth 100000 in
theorem fnExactIsValidQuota_lifted (os : Os) (started : os.Started) (H : Type) (enc : TypeId × Value → H) :
    ReturnsInHanded {} Try.checked os 4 .any (Rows.fnExactIsValidQuotaSpec.pre6 enc Try.prog Try.f4 Rows.fnExactIsValidQuotaRow.domain false) (Rows.fnExactIsValidQuotaSpec.post enc Try.prog Try.f4 false true false false) := by
  refine returnsInHanded_of_change (C := Try.checked) own started (by kernel_rfl) Try.func4
    (ChangeSpec.witness6 (enc := enc) (C := Try.checked) false ⟨#[], #[.slice none 0 0], []⟩ 8 (by kernel_rfl) (by kernel_rfl) (by kernel_rfl) (by kernel_rfl)) ?_
  intro W base args ds gs before hval hW _ _
  refine law_row (P := Try.prog) ttOK ttCl laidOut (f := 4) rfl (fun dd h => ?_) rfl Try.underlying4 (by kernel_rfl) (fun dss h => ?_) hval hW
  · match dd, h with
    | [d0], _ => rfl
  · match dss, h with
    | [d], ⟨⟨n, hd⟩, _⟩ =>
      obtain ⟨l, rfl, _⟩ := decIS hd
      exact lawIsValidQuota_ok l

theorem fnExactIsValidQuota_holds : Rows.FnExactIsValidQuotaSaid :=
  OpenClaim.holds_of_wide 4 Try.f4 rfl rfl rfl rfl rfl rfl rfl ⟨rfl, rfl, rfl, rfl, rfl⟩ rfl rfl rfl rfl rfl (by kernel_rfl) Try.func4 (by kernel_rfl)
    (of_decide_eq_true (by kernel_rfl)) (by unfold Func.isWrapper; first | (rw [if_pos (by decide +kernel)]; kernel_rfl) | (rw [if_neg (by decide +kernel)]; exact ⟨rfl, rfl⟩))
    (fun os started H enc _ => fnExactIsValidQuota_lifted os started H enc)
#print axioms fnExactIsValidQuota_holds
end Go.Proofs.Ytbplbpdfpcocgaa
