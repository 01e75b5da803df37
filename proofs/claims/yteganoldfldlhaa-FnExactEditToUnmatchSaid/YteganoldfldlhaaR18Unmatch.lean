/-
  Proved: the law FnExactEditToUnmatch: for every input, laws.FnExactEditToUnmatch returns true and leaves its arguments as they were. Conditions: none.
-/
import Derived.Test.YteganoldfldlhaaL4
import Derived.Test.YteganoldfldlhaaC20Law35
set_option linter.all false
namespace Go.Proofs.Yteganoldfldlhaa
open Go Go.Sx Go.ChangeShapes Go.WideShapes Go.ChangeAt Go.RowKit

theorem and8 {a b c d e f g h : Bool} (ha : a = true) (hb : b = true) (hc : c = true) (hd : d = true) (he : e = true) (hf : f = true) (hg : g = true) (hh : h = true) : (a && b && c && d && e && f && g && h) = true := by simp [ha, hb, hc, hd, he, hf, hg, hh]
set_option maxRecDepth 100000 in
theorem fnExactEditToUnmatch_lifted (os : Os) (started : os.Started) (H : Type) (enc : TypeId × Value → H) :
    ReturnsInHanded {} Try.checked os 11 .any (Rows.fnExactEditToUnmatchSpec.pre6 enc Try.prog Try.f11 Rows.fnExactEditToUnmatchRow.domain false) (Rows.fnExactEditToUnmatchSpec.post enc Try.prog Try.f11 false true false false) := by
  refine returnsInHanded_of_change (C := Try.checked) own started (by kernel_rfl) Try.func11
    (ChangeSpec.witness6 (enc := enc) (C := Try.checked) false ⟨#[], #[.slice none 0 0, .agg #[.int .i64 0, .int .i64 0, .bool false, .int .i64 0, .slice none 0 0], .slice none 0 0], []⟩ 8 (by kernel_rfl) (by kernel_rfl) (by kernel_rfl) (by kernel_rfl)) ?_
  intro W base args ds gs before hval hW _ _
  refine law_row (P := Try.prog) ttOK ttCl laidOut (f := 11) rfl (fun dd h => ?_) rfl Try.underlying4 (by kernel_rfl) (fun dss h => ?_) hval hW
  · match dd, h with
    | [d0, d1, d2], _ => rfl
  · match dss, h with
    | [d, e, f], ⟨⟨n, hd⟩, ⟨m, he⟩, ⟨o, hf⟩, _⟩ =>
      obtain ⟨q, rfl, hq⟩ := decNodeS hd
      obtain ⟨a, rfl, ha⟩ := decFile he
      obtain ⟨r, rfl, hr⟩ := decResultS hf
      exact lawEditToUnmatch_ok q a r hq ha hr

theorem fnExactEditToUnmatch_enter : Try.prog.mayEnter = true := by kernel_rfl
theorem fnExactEditToUnmatch_lifts : (Rows.fnExactEditToUnmatchRow.lifted == Try.prog.liftsFinal) = true := by kernel_rfl
theorem fnExactEditToUnmatch_make : (Try.prog.make == some Rows.fnExactEditToUnmatchRow.make) = true := by kernel_rfl
theorem fnExactEditToUnmatch_joined : joinedFacts Try.prog 11 Try.f11 Rows.fnExactEditToUnmatchSpec Rows.fnExactEditToUnmatchRow = true := by
  refine and8 ?_ ?_ ?_ ?_ ?_ ?_ ?_ ?_
  · kernel_rfl
  · exact fnExactEditToUnmatch_enter
  · exact fnExactEditToUnmatch_lifts
  · exact fnExactEditToUnmatch_make
  · kernel_rfl
  · kernel_rfl
  · kernel_rfl
  · kernel_rfl
theorem fnExactEditToUnmatch_holds : Rows.FnExactEditToUnmatchSaid :=
  OpenClaim.holds_of_wide 11 Try.f11 rfl rfl rfl rfl rfl rfl rfl ⟨rfl, rfl, rfl, rfl, rfl⟩ rfl rfl rfl rfl rfl (by kernel_rfl) Try.func11 fnExactEditToUnmatch_joined
    (of_decide_eq_true (by kernel_rfl)) (by unfold Func.isWrapper; first | (rw [if_pos (by decide +kernel)]; kernel_rfl) | (rw [if_neg (by decide +kernel)]; exact ⟨rfl, rfl⟩))
    (fun os started H enc _ => fnExactEditToUnmatch_lifted os started H enc)
#print axioms fnExactEditToUnmatch_holds
end Go.Proofs.Yteganoldfldlhaa
