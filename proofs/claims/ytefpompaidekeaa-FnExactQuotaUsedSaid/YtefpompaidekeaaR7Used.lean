/-
  Proved: the law FnExactQuotaUsed: for every input, laws.FnExactQuotaUsed returns true and leaves its arguments as they were. Conditions: none.
-/
import Derived.Test.YtefpompaidekeaaB8Row
import Derived.Test.YtefpompaidekeaaC7Quota
set_option linter.all false
namespace Go.Proofs.Ytefpompaidekeaa
open Go Go.Sx Go.ChangeShapes Go.WideShapes Go.ChangeAt Go.RowKit

set_option maxRecDepth 100000 in
theorem fnExactQuotaUsed_lifted (os : Os) (started : os.Started) (H : Type) (enc : TypeId × Value → H) :
    ReturnsInHanded {} Try.checked os 4 .any (Rows.fnExactQuotaUsedSpec.pre6 enc Try.prog Try.f4 Rows.fnExactQuotaUsedRow.domain false) (Rows.fnExactQuotaUsedSpec.post enc Try.prog Try.f4 false true false false) := by
  refine returnsInHanded_of_change (C := Try.checked) own started (by kernel_rfl) Try.func4
    (ChangeSpec.witness6 (enc := enc) (C := Try.checked) false ⟨#[], #[.agg #[.slice none 0 0, .slice none 0 0, .int .i64 0], .int .i64 0], []⟩ 8 (by kernel_rfl) (by kernel_rfl) (by kernel_rfl) (by kernel_rfl)) ?_
  intro W base args ds gs before hval hW _ _
  refine law_row (P := Try.prog) ttOK ttCl laidOut (f := 4) rfl (fun dd h => ?_) rfl Try.underlying4 (by kernel_rfl) (fun dss h => ?_) hval hW
  · match dd, h with
    | [d0, d1], _ => rfl
  · match dss, h with
    | [d, e], ⟨⟨n, hd⟩, ⟨m, he⟩, _⟩ =>
      obtain ⟨x, rfl, hx⟩ := decStore hd
      obtain ⟨u, rfl, hu⟩ := decI he
      exact lawQuotaUsed_ok x u hx

theorem fnExactQuotaUsed_holds : Rows.FnExactQuotaUsedSaid :=
  OpenClaim.holds_of_wide 4 Try.f4 rfl rfl rfl rfl rfl rfl rfl ⟨rfl, rfl, rfl, rfl, rfl⟩ rfl rfl rfl rfl rfl (by kernel_rfl) Try.func4 (by kernel_rfl)
    (of_decide_eq_true (by kernel_rfl)) (by unfold Func.isWrapper; first | (rw [if_pos (by decide +kernel)]; kernel_rfl) | (rw [if_neg (by decide +kernel)]; exact ⟨rfl, rfl⟩))
    (fun os started H enc _ => fnExactQuotaUsed_lifted os started H enc)
#print axioms fnExactQuotaUsed_holds
end Go.Proofs.Ytefpompaidekeaa
