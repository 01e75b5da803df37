/-
  Proved: the law FnExactEqualSnapshots: for every input, laws.FnExactEqualSnapshots returns true and leaves its arguments as they were. Conditions: none.
-/
import Derived.Test.YtefpompaidekeaaB8Row
import Derived.Test.YtefpompaidekeaaC8Equal
set_option linter.all false
namespace Go.Proofs.Ytefpompaidekeaa
open Go Go.Sx Go.ChangeShapes Go.WideShapes Go.ChangeAt Go.RowKit

set_option maxRecDepth 100000 in
theorem fnExactEqualSnapshots_lifted (os : Os) (started : os.Started) (H : Type) (enc : TypeId × Value → H) :
    ReturnsInHanded {} Try.checked os 7 .any (Rows.fnExactEqualSnapshotsSpec.pre6 enc Try.prog Try.f7 Rows.fnExactEqualSnapshotsRow.domain false) (Rows.fnExactEqualSnapshotsSpec.post enc Try.prog Try.f7 false true false false) := by
  refine returnsInHanded_of_change (C := Try.checked) own started (by kernel_rfl) Try.func7
    (ChangeSpec.witness6 (enc := enc) (C := Try.checked) false ⟨#[], #[.agg #[.slice none 0 0, .slice none 0 0, .int .i64 0, .slice none 0 0], .agg #[.slice none 0 0, .slice none 0 0, .int .i64 0, .slice none 0 0]], []⟩ 8 (by kernel_rfl) (by kernel_rfl) (by kernel_rfl) (by kernel_rfl)) ?_
  intro W base args ds gs before hval hW _ _
  refine law_row (P := Try.prog) ttOK ttCl laidOut (f := 7) rfl (fun dd h => ?_) rfl Try.underlying4 (by kernel_rfl) (fun dss h => ?_) hval hW
  · match dd, h with
    | [d0, d1], _ => rfl
  · match dss, h with
    | [d, e], ⟨⟨n, hd⟩, ⟨m, he⟩, _⟩ =>
      obtain ⟨x, rfl, hx⟩ := decSnapshot hd
      obtain ⟨y, rfl, hy⟩ := decSnapshot he
      exact lawEqualSnapshots_ok x y hx hy

theorem fnExactEqualSnapshots_holds : Rows.FnExactEqualSnapshotsSaid :=
  OpenClaim.holds_of_wide 7 Try.f7 rfl rfl rfl rfl rfl rfl rfl ⟨rfl, rfl, rfl, rfl, rfl⟩ rfl rfl rfl rfl rfl (by kernel_rfl) Try.func7 (by kernel_rfl)
    (of_decide_eq_true (by kernel_rfl)) (by unfold Func.isWrapper; first | (rw [if_pos (by decide +kernel)]; kernel_rfl) | (rw [if_neg (by decide +kernel)]; exact ⟨rfl, rfl⟩))
    (fun os started H enc _ => fnExactEqualSnapshots_lifted os started H enc)
#print axioms fnExactEqualSnapshots_holds
end Go.Proofs.Ytefpompaidekeaa
