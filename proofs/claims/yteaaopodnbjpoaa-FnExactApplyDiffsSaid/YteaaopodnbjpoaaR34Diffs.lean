/- Proved: the law FnExactApplyDiffs: for every input, laws.FnExactApplyDiffs returns true and leaves its arguments as they were. Conditions: none. -/
import Derived.Test.YteaaopodnbjpoaaZ04
import Derived.Test.YteaaopodnbjpoaaZ07
set_option linter.all false
namespace Go.Proofs.Yteaaopodnbjpoaa
open Go Go.Sx Go.ChangeShapes Go.WideShapes Go.ChangeAt Go.RowKit
theorem a4y {a b c d e f g h : Bool} (ha : a = true) (hb : b = true) (hc : c = true) (hd : d = true) (he : e = true) (hf : f = true) (hg : g = true) (hh : h = true) : (a && b && c && d && e && f && g && h) = true := by simp [ha, hb, hc, hd, he, hf, hg, hh]
set_option maxRecDepth 100000 in
theorem fnExactApplyDiffs_lifted (os : Os) (started : os.Started) (H : Type) (enc : TypeId × Value → H) :
    ReturnsInHanded {} Try.checked os 3 .any (Rows.fnExactApplyDiffsSpec.pre6 enc Try.prog Try.f3 Rows.fnExactApplyDiffsRow.domain false) (Rows.fnExactApplyDiffsSpec.post enc Try.prog Try.f3 false true false false) := by
 refine returnsInHanded_of_change (C := Try.checked) own started (by kernel_rfl) Try.func3
  (ChangeSpec.witness6 (enc := enc) (C := Try.checked) false ⟨#[], #[.slice none 0 0, .slice none 0 0], []⟩ 8 (by kernel_rfl) (by kernel_rfl) (by kernel_rfl) (by kernel_rfl)) ?_
 intro W base args ds gs before hval hW _ _
 refine a1o (P := Try.prog) zH a4z a1p (f := 3) rfl (fun dd h => ?_) rfl Try.underlying4 (by kernel_rfl) (fun dss h => ?_) hval hW
 ·match dd, h with
  | [d0, d1], _ => rfl
 ·match dss, h with
  | [d0, d1], ⟨⟨n0, h0⟩, ⟨n1, h1⟩, _⟩ =>
   obtain ⟨r, rfl, hfr⟩ := xM h0
   obtain ⟨d, rfl, hfd⟩ := a1g h1
   exact lY r d hfr hfd
theorem fnExactApplyDiffs_enter : Try.prog.mayEnter = true := by kernel_rfl
theorem fnExactApplyDiffs_lifts : (Rows.fnExactApplyDiffsRow.lifted == Try.prog.liftsFinal) = true := by kernel_rfl
theorem fnExactApplyDiffs_make : (Try.prog.make == some Rows.fnExactApplyDiffsRow.make) = true := by kernel_rfl
theorem fnExactApplyDiffs_joined : joinedFacts Try.prog 3 Try.f3 Rows.fnExactApplyDiffsSpec Rows.fnExactApplyDiffsRow = true := by
 refine a4y ?_ ?_ ?_ ?_ ?_ ?_ ?_ ?_
 ·kernel_rfl
 ·exact fnExactApplyDiffs_enter
 ·exact fnExactApplyDiffs_lifts
 ·exact fnExactApplyDiffs_make
 ·kernel_rfl
 ·kernel_rfl
 ·kernel_rfl
 ·kernel_rfl
theorem fnExactApplyDiffs_holds : Rows.FnExactApplyDiffsSaid :=
 OpenClaim.holds_of_wide 3 Try.f3 rfl rfl rfl rfl rfl rfl rfl ⟨rfl, rfl, rfl, rfl, rfl⟩ rfl rfl rfl rfl rfl (by kernel_rfl) Try.func3 fnExactApplyDiffs_joined
  (of_decide_eq_true (by kernel_rfl)) (by unfold Func.isWrapper; first | (rw [if_pos (by decide +kernel)]; kernel_rfl) | (rw [if_neg (by decide +kernel)]; exact ⟨rfl, rfl⟩))
  (fun os started H enc _ => fnExactApplyDiffs_lifted os started H enc)
#print axioms fnExactApplyDiffs_holds
end Go.Proofs.Yteaaopodnbjpoaa
