/-
  Proved: the law FnExactChecksum: for every input, laws.FnExactChecksum returns true and leaves its argument as it was. Conditions: none.
-/
import Derived.Test.YtbplbpdfpcocgaaB8Row
import Derived.Test.YtbplbpdfpcocgaaC1Sum
set_option linter.all false
namespace Go.Proofs.Ytbplbpdfpcocgaa
open Go Go.Sx Go.ChangeShapes Go.WideShapes Go.ChangeAt Go.RowKit

set_option maxRecDepth 100000 in
theorem fnExactChecksum_lifted (os : Os) (started : os.Started) (H : Type) (enc : TypeId × Value → H) :
    ReturnsInHanded {} Try.checked os 3 .any (Rows.fnExactChecksumSpec.pre6 enc Try.prog Try.f3 Rows.fnExactChecksumRow.domain false) (Rows.fnExactChecksumSpec.post enc Try.prog Try.f3 false true false false) := by
  refine returnsInHanded_of_change (C := Try.checked) own started (by kernel_rfl) Try.func3
    (ChangeSpec.witness6 (enc := enc) (C := Try.checked) false ⟨#[], #[.string ⟨#[]⟩], []⟩ 8 (by kernel_rfl) (by kernel_rfl) (by kernel_rfl) (by kernel_rfl)) ?_
  intro W base args ds gs before hval hW _ _
  refine law_row (P := Try.prog) ttOK ttCl laidOut (f := 3) rfl (fun dd h => ?_) rfl Try.underlying4 (by kernel_rfl) (fun dss h => ?_) hval hW
  · match dd, h with
    | [d], _ => rfl
  · match dss, h with
    | [d], ⟨⟨n + 1, hd⟩, _⟩ =>
      obtain ⟨s, rfl, hs⟩ := hd
      exact lawChecksum_ok s

theorem fnExactChecksum_holds : Rows.FnExactChecksumSaid :=
  OpenClaim.holds_of_wide 3 Try.f3 rfl rfl rfl rfl rfl rfl rfl ⟨rfl, rfl, rfl, rfl, rfl⟩ rfl rfl rfl rfl rfl (by kernel_rfl) Try.func3 (by kernel_rfl)
    (of_decide_eq_true (by kernel_rfl)) (by unfold Func.isWrapper; first | (rw [if_pos (by decide +kernel)]; kernel_rfl) | (rw [if_neg (by decide +kernel)]; exact ⟨rfl, rfl⟩))
    (fun os started H enc _ => fnExactChecksum_lifted os started H enc)
#print axioms fnExactChecksum_holds
end Go.Proofs.Ytbplbpdfpcocgaa
