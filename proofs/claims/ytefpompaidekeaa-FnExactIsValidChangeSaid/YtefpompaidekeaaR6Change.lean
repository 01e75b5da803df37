/-
  Proved: the law FnExactIsValidChange: for every input, laws.FnExactIsValidChange returns true and leaves its argument as it was. Conditions: none.
-/
import Derived.Test.YtefpompaidekeaaB8Row
import Derived.Test.YtefpompaidekeaaC6Change
set_option linter.all false
namespace Go.Proofs.Ytefpompaidekeaa
open Go Go.Sx Go.ChangeShapes Go.WideShapes Go.ChangeAt Go.RowKit

set_option maxRecDepth 100000 in
theorem fnExactIsValidChange_lifted (os : Os) (started : os.Started) (H : Type) (enc : TypeId × Value → H) :
    ReturnsInHanded {} Try.checked os 3 .any (Rows.fnExactIsValidChangeSpec.pre6 enc Try.prog Try.f3 Rows.fnExactIsValidChangeRow.domain false) (Rows.fnExactIsValidChangeSpec.post enc Try.prog Try.f3 false true false false) := by
  refine returnsInHanded_of_change (C := Try.checked) own started (by kernel_rfl) Try.func3
    (ChangeSpec.witness6 (enc := enc) (C := Try.checked) false ⟨#[], #[.agg #[.int .i64 0, .int .i64 0, .int .i64 0, .bool false, .int .i64 0, .slice none 0 0, .int .i64 0, .string ⟨#[]⟩, .slice none 0 0]], []⟩ 8 (by kernel_rfl) (by kernel_rfl) (by kernel_rfl) (by kernel_rfl)) ?_
  intro W base args ds gs before hval hW _ _
  refine law_row (P := Try.prog) ttOK ttCl laidOut (f := 3) rfl (fun dd h => ?_) rfl Try.underlying4 (by kernel_rfl) (fun dss h => ?_) hval hW
  · match dd, h with
    | [d0], _ => rfl
  · match dss, h with
    | [d], ⟨⟨n, hd⟩, _⟩ =>
      obtain ⟨x, rfl, hx⟩ := decChange hd
      exact lawIsValidChange_ok x hx

theorem fnExactIsValidChange_holds : Rows.FnExactIsValidChangeSaid :=
  OpenClaim.holds_of_wide 3 Try.f3 rfl rfl rfl rfl rfl rfl rfl ⟨rfl, rfl, rfl, rfl, rfl⟩ rfl rfl rfl rfl rfl (by kernel_rfl) Try.func3 (by kernel_rfl)
    (of_decide_eq_true (by kernel_rfl)) (by unfold Func.isWrapper; first | (rw [if_pos (by decide +kernel)]; kernel_rfl) | (rw [if_neg (by decide +kernel)]; exact ⟨rfl, rfl⟩))
    (fun os started H enc _ => fnExactIsValidChange_lifted os started H enc)
#print axioms fnExactIsValidChange_holds
end Go.Proofs.Ytefpompaidekeaa
