/- Proved: the law FnExactGroupByAttr: for every input, laws.FnExactGroupByAttr returns true and leaves its arguments as they were. Conditions: none. -/
import Derived.Test.YtcppkdifiimblaaZ05
import Derived.Test.YtcppkdifiimblaaZ11
set_option linter.all false
namespace Go.Proofs.Ytcppkdifiimblaa
open Go Go.Sx Go.ChangeShapes Go.WideShapes Go.ChangeAt Go.RowKit
theorem a8B {a b c d e f g h : Bool} (ha : a = true) (hb : b = true) (hc : c = true) (hd : d = true) (he : e = true) (hf : f = true) (hg : g = true) (hh : h = true) : (a && b && c && d && e && f && g && h) = true := by simp [ha, hb, hc, hd, he, hf, hg, hh]
set_option maxRecDepth 100000 in
theorem fnExactGroupByAttr_lifted (os : Os) (started : os.Started) (H : Type) (enc : TypeId × Value → H) :
    ReturnsInHanded {} Try.checked os 3 .any (Rows.fnExactGroupByAttrSpec.pre6 enc Try.prog Try.f3 Rows.fnExactGroupByAttrRow.domain false) (Rows.fnExactGroupByAttrSpec.post enc Try.prog Try.f3 false true false false) := by
 refine returnsInHanded_of_change (C := Try.checked) own started (by kernel_rfl) Try.func3
  (ChangeSpec.witness6 (enc := enc) (C := Try.checked) false ⟨#[], #[.agg #[.slice none 0 0, .slice none 0 0, .int .i64 0], .slice none 0 0, .string ⟨#[]⟩], []⟩ 8 (by kernel_rfl) (by kernel_rfl) (by kernel_rfl) (by kernel_rfl)) ?_
 intro W base args ds gs before hval hW _ _
 refine a5m (P := Try.prog) ttOK a8C a5n (f := 3) rfl (fun dd h => ?_) rfl Try.underlying4 (by kernel_rfl) (fun dss h => ?_) (a8F _ _) hval hW
 ·match dd, h with
  | [d0, d1, d2], _ => rfl
 ·match dss, h with
  | [d0, d1, d2], ⟨⟨n0, h0⟩, ⟨n1, h1⟩, ⟨n2, h2⟩, _⟩ =>
   obtain ⟨s, rfl, hfs⟩ := a4U h0
   obtain ⟨ids, rfl, hfids⟩ := a5Z h1
   obtain ⟨name, rfl, hfname⟩ := a5Y h2
   exact wC s ids name hfs hfids
theorem fnExactGroupByAttr_enter : Try.prog.mayEnter = true := by kernel_rfl
theorem fnExactGroupByAttr_lifts : (Rows.fnExactGroupByAttrRow.lifted == Try.prog.liftsFinal) = true := by kernel_rfl
theorem fnExactGroupByAttr_make : (Try.prog.make == some Rows.fnExactGroupByAttrRow.make) = true := by kernel_rfl
theorem fnExactGroupByAttr_joined : joinedFacts Try.prog 3 Try.f3 Rows.fnExactGroupByAttrSpec Rows.fnExactGroupByAttrRow = true := by
 refine a8B ?_ ?_ ?_ ?_ ?_ ?_ ?_ ?_
 ·kernel_rfl
 ·exact fnExactGroupByAttr_enter
 ·exact fnExactGroupByAttr_lifts
 ·exact fnExactGroupByAttr_make
 ·kernel_rfl
 ·kernel_rfl
 ·kernel_rfl
 ·kernel_rfl
theorem fnExactGroupByAttr_holds : Rows.FnExactGroupByAttrSaid :=
 OpenClaim.holds_of_wide 3 Try.f3 rfl rfl rfl rfl rfl rfl rfl ⟨rfl, rfl, rfl, rfl, rfl⟩ rfl rfl rfl rfl rfl (by kernel_rfl) Try.func3 fnExactGroupByAttr_joined
  (of_decide_eq_true (by kernel_rfl)) (by unfold Func.isWrapper; first | (rw [if_pos (by decide +kernel)]; kernel_rfl) | (rw [if_neg (by decide +kernel)]; exact ⟨rfl, rfl⟩))
  (fun os started H enc _ => fnExactGroupByAttr_lifted os started H enc)
#print axioms fnExactGroupByAttr_holds
end Go.Proofs.Ytcppkdifiimblaa
