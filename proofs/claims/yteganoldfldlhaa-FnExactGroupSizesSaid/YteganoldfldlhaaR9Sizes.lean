/-
  Proved: the law FnExactGroupSizes: for every input, laws.FnExactGroupSizes returns true and leaves its argument as it was. Conditions: none.
-/
import Derived.Test.YteganoldfldlhaaB8Row
import Derived.Test.YteganoldfldlhaaC9Groups
set_option linter.all false
namespace Go.Proofs.Yteganoldfldlhaa
open Go Go.Sx Go.ChangeShapes Go.WideShapes Go.ChangeAt Go.RowKit

theorem and8 {a b c d e f g h : Bool} (ha : a = true) (hb : b = true) (hc : c = true) (hd : d = true) (he : e = true) (hf : f = true) (hg : g = true) (hh : h = true) : (a && b && c && d && e && f && g && h) = true := by simp [ha, hb, hc, hd, he, hf, hg, hh]
set_option maxRecDepth 100000 in
theorem fnExactGroupSizes_lifted (os : Os) (started : os.Started) (H : Type) (enc : TypeId × Value → H) :
    ReturnsInHanded {} Try.checked os 3 .any (Rows.fnExactGroupSizesSpec.pre6 enc Try.prog Try.f3 Rows.fnExactGroupSizesRow.domain false) (Rows.fnExactGroupSizesSpec.post enc Try.prog Try.f3 false true false false) := by
  refine returnsInHanded_of_change (C := Try.checked) own started (by kernel_rfl) Try.func3
    (ChangeSpec.witness6 (enc := enc) (C := Try.checked) false ⟨#[], #[.slice none 0 0], []⟩ 8 (by kernel_rfl) (by kernel_rfl) (by kernel_rfl) (by kernel_rfl)) ?_
  intro W base args ds gs before hval hW _ _
  refine law_row (P := Try.prog) ttOK ttCl laidOut (f := 3) rfl (fun dd h => ?_) rfl Try.underlying4 (by kernel_rfl) (fun dss h => ?_) hval hW
  · match dd, h with
    | [d0], _ => rfl
  · match dss, h with
    | [d], ⟨⟨n, hd⟩, _⟩ =>
      obtain ⟨l, rfl, hl⟩ := decGroupS hd
      exact lawGroupSizes_ok l hl

theorem fnExactGroupSizes_enter : Try.prog.mayEnter = true := by kernel_rfl
theorem fnExactGroupSizes_lifts : (Rows.fnExactGroupSizesRow.lifted == Try.prog.liftsFinal) = true := by kernel_rfl
theorem fnExactGroupSizes_make : (Try.prog.make == some Rows.fnExactGroupSizesRow.make) = true := by kernel_rfl
theorem fnExactGroupSizes_joined : joinedFacts Try.prog 3 Try.f3 Rows.fnExactGroupSizesSpec Rows.fnExactGroupSizesRow = true := by
  refine and8 ?_ ?_ ?_ ?_ ?_ ?_ ?_ ?_
  · kernel_rfl
  · exact fnExactGroupSizes_enter
  · exact fnExactGroupSizes_lifts
  · exact fnExactGroupSizes_make
  · kernel_rfl
  · kernel_rfl
  · kernel_rfl
  · kernel_rfl
theorem fnExactGroupSizes_holds : Rows.FnExactGroupSizesSaid :=
  OpenClaim.holds_of_wide 3 Try.f3 rfl rfl rfl rfl rfl rfl rfl ⟨rfl, rfl, rfl, rfl, rfl⟩ rfl rfl rfl rfl rfl (by kernel_rfl) Try.func3 fnExactGroupSizes_joined
    (of_decide_eq_true (by kernel_rfl)) (by unfold Func.isWrapper; first | (rw [if_pos (by decide +kernel)]; kernel_rfl) | (rw [if_neg (by decide +kernel)]; exact ⟨rfl, rfl⟩))
    (fun os started H enc _ => fnExactGroupSizes_lifted os started H enc)
#print axioms fnExactGroupSizes_holds
end Go.Proofs.Yteganoldfldlhaa
