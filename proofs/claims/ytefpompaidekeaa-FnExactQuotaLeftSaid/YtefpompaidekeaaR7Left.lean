/-
  Proved: the law FnExactQuotaLeft: for every input, laws.FnExactQuotaLeft returns true and leaves its arguments as they were. Conditions: none.
-/
import Derived.Test.YtefpompaidekeaaB8Row
import Derived.Test.YtefpompaidekeaaC7Quota
set_option linter.all false
namespace Go.Proofs.Ytefpompaidekeaa
open Go Go.Sx Go.ChangeShapes Go.WideShapes Go.ChangeAt Go.RowKit

set_option maxRecDepth 100000 in
theorem fnExactQuotaLeft_lifted (os : Os) (started : os.Started) (H : Type) (enc : TypeId × Value → H) :
    ReturnsInHanded {} Try.checked os 5 .any (Rows.fnExactQuotaLeftSpec.pre6 enc Try.prog Try.f5 Rows.fnExactQuotaLeftRow.domain false) (Rows.fnExactQuotaLeftSpec.post enc Try.prog Try.f5 false true false false) := by
  refine returnsInHanded_of_change (C := Try.checked) own started (by kernel_rfl) Try.func5
    (ChangeSpec.witness6 (enc := enc) (C := Try.checked) false ⟨#[], #[.agg #[.slice none 0 0, .slice none 0 0, .int .i64 0], .slice none 0 0, .int .i64 0], []⟩ 8 (by kernel_rfl) (by kernel_rfl) (by kernel_rfl) (by kernel_rfl)) ?_
  intro W base args ds gs before hval hW _ _
  refine law_row (P := Try.prog) ttOK ttCl laidOut (f := 5) rfl (fun dd h => ?_) rfl Try.underlying4 (by kernel_rfl) (fun dss h => ?_) hval hW
  · match dd, h with
    | [d0, d1, d2], _ => rfl
  · match dss, h with
    | [d, q, e], ⟨⟨n, hd⟩, ⟨l, hq⟩, ⟨m, he⟩, _⟩ =>
      obtain ⟨x, rfl, hx⟩ := decStore hd
      obtain ⟨l, rfl, hl⟩ := decIntS hq
      obtain ⟨u, rfl, hu⟩ := decI he
      exact lawQuotaLeft_ok x l u hx hl

theorem fnExactQuotaLeft_holds : Rows.FnExactQuotaLeftSaid :=
  OpenClaim.holds_of_wide 5 Try.f5 rfl rfl rfl rfl rfl rfl rfl ⟨rfl, rfl, rfl, rfl, rfl⟩ rfl rfl rfl rfl rfl (by kernel_rfl) Try.func5 (by kernel_rfl)
    (of_decide_eq_true (by kernel_rfl)) (by unfold Func.isWrapper; first | (rw [if_pos (by decide +kernel)]; kernel_rfl) | (rw [if_neg (by decide +kernel)]; exact ⟨rfl, rfl⟩))
    (fun os started H enc _ => fnExactQuotaLeft_lifted os started H enc)
#print axioms fnExactQuotaLeft_holds
end Go.Proofs.Ytefpompaidekeaa
