/-
  Proved: the law FnExactApplyEdit: for every input, laws.FnExactApplyEdit returns true and leaves its arguments as they were. Conditions: none.
-/
import Derived.Test.YteganoldfldlhaaL4
import Derived.Test.YteganoldfldlhaaC14Apply
set_option linter.all false
namespace Go.Proofs.Yteganoldfldlhaa
open Go Go.Sx Go.ChangeShapes Go.WideShapes Go.ChangeAt Go.RowKit

theorem and8 {a b c d e f g h : Bool} (ha : a = true) (hb : b = true) (hc : c = true) (hd : d = true) (he : e = true) (hf : f = true) (hg : g = true) (hh : h = true) : (a && b && c && d && e && f && g && h) = true := by simp [ha, hb, hc, hd, he, hf, hg, hh]
set_option maxRecDepth 100000 in
theorem fnExactApplyEdit_lifted (os : Os) (started : os.Started) (H : Type) (enc : TypeId × Value → H) :
    ReturnsInHanded {} Try.checked os 7 .any (Rows.fnExactApplyEditSpec.pre6 enc Try.prog Try.f7 Rows.fnExactApplyEditRow.domain false) (Rows.fnExactApplyEditSpec.post enc Try.prog Try.f7 false true false false) := by
  refine returnsInHanded_of_change (C := Try.checked) own started (by kernel_rfl) Try.func7
    (ChangeSpec.witness6 (enc := enc) (C := Try.checked) false ⟨#[], #[.agg #[.int .i64 0, .int .i64 0, .bool false, .int .i64 0, .slice none 0 0], .agg #[.bool false, .slice none 0 0]], []⟩ 8 (by kernel_rfl) (by kernel_rfl) (by kernel_rfl) (by kernel_rfl)) ?_
  intro W base args ds gs before hval hW _ _
  refine law_row (P := Try.prog) ttOK ttCl laidOut (f := 7) rfl (fun dd h => ?_) rfl Try.underlying4 (by kernel_rfl) (fun dss h => ?_) hval hW
  · match dd, h with
    | [d0, d1], _ => rfl
  · match dss, h with
    | [d, e], ⟨⟨n, hd⟩, ⟨m, he⟩, _⟩ =>
      obtain ⟨a, rfl, ha⟩ := decFile hd
      obtain ⟨b, rfl, hb⟩ := decEdit he
      exact lawApplyEdit_ok a b ha hb

theorem fnExactApplyEdit_enter : Try.prog.mayEnter = true := by kernel_rfl
theorem fnExactApplyEdit_lifts : (Rows.fnExactApplyEditRow.lifted == Try.prog.liftsFinal) = true := by kernel_rfl
theorem fnExactApplyEdit_make : (Try.prog.make == some Rows.fnExactApplyEditRow.make) = true := by kernel_rfl
theorem fnExactApplyEdit_joined : joinedFacts Try.prog 7 Try.f7 Rows.fnExactApplyEditSpec Rows.fnExactApplyEditRow = true := by
  refine and8 ?_ ?_ ?_ ?_ ?_ ?_ ?_ ?_
  · kernel_rfl
  · exact fnExactApplyEdit_enter
  · exact fnExactApplyEdit_lifts
  · exact fnExactApplyEdit_make
  · kernel_rfl
  · kernel_rfl
  · kernel_rfl
  · kernel_rfl
theorem fnExactApplyEdit_holds : Rows.FnExactApplyEditSaid :=
  OpenClaim.holds_of_wide 7 Try.f7 rfl rfl rfl rfl rfl rfl rfl ⟨rfl, rfl, rfl, rfl, rfl⟩ rfl rfl rfl rfl rfl (by kernel_rfl) Try.func7 fnExactApplyEdit_joined
    (of_decide_eq_true (by kernel_rfl)) (by unfold Func.isWrapper; first | (rw [if_pos (by decide +kernel)]; kernel_rfl) | (rw [if_neg (by decide +kernel)]; exact ⟨rfl, rfl⟩))
    (fun os started H enc _ => fnExactApplyEdit_lifted os started H enc)
#print axioms fnExactApplyEdit_holds
end Go.Proofs.Yteganoldfldlhaa
