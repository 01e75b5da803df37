/- Proved: the law FnExactRemoveFromDir: for every input, laws.FnExactRemoveFromDir returns true and leaves its arguments as they were. Conditions: none. -/
import Derived.Test.YteaaopodnbjpoaaGreatZ05
import Derived.Test.YteaaopodnbjpoaaGreatZ21
set_option linter.all false
namespace Go.Proofs.YteaaopodnbjpoaaGreat
open Go Go.Sx Go.ChangeShapes Go.WideShapes Go.ChangeAt Go.RowKit
theorem and8 {a b c d e f g h : Bool} (ha : a = true) (hb : b = true) (hc : c = true) (hd : d = true) (he : e = true) (hf : f = true) (hg : g = true) (hh : h = true) : (a && b && c && d && e && f && g && h) = true := by simp [ha, hb, hc, hd, he, hf, hg, hh]
set_option maxRecDepth 100000 in
theorem fnExactRemoveFromDir_lifted (os : Os) (started : os.Started) (H : Type) (enc : TypeId × Value → H) :
    ReturnsInHanded {} Tryz.checked os 6 .any (Rows.fnExactRemoveFromDirSpec.pre6 enc Tryz.prog Tryz.f6 Rows.fnExactRemoveFromDirRow.domain false) (Rows.fnExactRemoveFromDirSpec.post enc Tryz.prog Tryz.f6 false true false false) := by
 refine returnsInHanded_of_change (C := Tryz.checked) own started (by kernel_rfl) Tryz.func6
  (ChangeSpec.witness6 (enc := enc) (C := Tryz.checked) false ⟨#[], #[.agg #[.slice none 0 0, .slice none 0 0, .int .i64 0, .slice none 0 0, .slice none 0 0], .int .i64 0, .string ⟨#[]⟩, .int .i64 0], []⟩ 8 (by kernel_rfl) (by kernel_rfl) (by kernel_rfl) (by kernel_rfl)) ?_
 intro W base args ds gs before hval hW _ _
 refine b1Y (P := Tryz.prog) a9b b8Y b1Z (f := 6) rfl (fun dd h => ?_) rfl Tryz.underlying4 (by kernel_rfl) (fun dss h => ?_) hval hW
 ·match dd, h with
  | [d0, d1, d2, d3], _ => rfl
 ·match dss, h with
  | [d0, d1, d2, d3], ⟨⟨n0, h0⟩, ⟨n1, h1⟩, ⟨n2, h2⟩, ⟨n3, h3⟩, _⟩ =>
   obtain ⟨c, rfl, hfc⟩ := a4z h0
   obtain ⟨u, rfl, hfu⟩ := a0v h1
   obtain ⟨s, rfl, hfs⟩ := a9x h2
   obtain ⟨i, rfl, hfi⟩ := a0v h3
   exact zU c u s i hfc
theorem fnExactRemoveFromDir_enter : Tryz.prog.mayEnter = true := by kernel_rfl
theorem fnExactRemoveFromDir_lifts : (Rows.fnExactRemoveFromDirRow.lifted == Tryz.prog.liftsFinal) = true := by kernel_rfl
theorem fnExactRemoveFromDir_make : (Tryz.prog.make == some Rows.fnExactRemoveFromDirRow.make) = true := by kernel_rfl
theorem fnExactRemoveFromDir_joined : joinedFacts Tryz.prog 6 Tryz.f6 Rows.fnExactRemoveFromDirSpec Rows.fnExactRemoveFromDirRow = true := by
 refine and8 ?_ ?_ ?_ ?_ ?_ ?_ ?_ ?_
 ·kernel_rfl
 ·exact fnExactRemoveFromDir_enter
 ·exact fnExactRemoveFromDir_lifts
 ·exact fnExactRemoveFromDir_make
 ·kernel_rfl
 ·kernel_rfl
 ·kernel_rfl
 ·kernel_rfl
theorem fnExactRemoveFromDir_holds : Rows.FnExactRemoveFromDirSaid :=
 OpenClaim.holds_of_wide 6 Tryz.f6 rfl rfl rfl rfl rfl rfl rfl ⟨rfl, rfl, rfl, rfl, rfl⟩ rfl rfl rfl rfl rfl (by kernel_rfl) Tryz.func6 fnExactRemoveFromDir_joined
  (of_decide_eq_true (by kernel_rfl)) (by unfold Func.isWrapper; first | (rw [if_pos (by decide +kernel)]; kernel_rfl) | (rw [if_neg (by decide +kernel)]; exact ⟨rfl, rfl⟩))
  (fun os started H enc _ => fnExactRemoveFromDir_lifted os started H enc)
#print axioms fnExactRemoveFromDir_holds
end Go.Proofs.YteaaopodnbjpoaaGreat
