/- Proved: the law FnExactIsAllowed: for every input, laws.FnExactIsAllowed returns true and leaves its arguments as they were. Conditions: none. -/
import Derived.Test.YteaaopodnbjpoaaGreatZ05
import Derived.Test.YteaaopodnbjpoaaGreatZ18
set_option linter.all false
namespace Go.Proofs.YteaaopodnbjpoaaGreat
open Go Go.Sx Go.ChangeShapes Go.WideShapes Go.ChangeAt Go.RowKit
theorem b7P {a b c d e f g h : Bool} (ha : a = true) (hb : b = true) (hc : c = true) (hd : d = true) (he : e = true) (hf : f = true) (hg : g = true) (hh : h = true) : (a && b && c && d && e && f && g && h) = true := by simp [ha, hb, hc, hd, he, hf, hg, hh]
set_option maxRecDepth 100000 in
theorem fnExactIsAllowed_lifted (os : Os) (started : os.Started) (H : Type) (enc : TypeId × Value → H) :
    ReturnsInHanded {} Tryz.checked os 4 .any (Rows.fnExactIsAllowedSpec.pre6 enc Tryz.prog Tryz.f4 Rows.fnExactIsAllowedRow.domain false) (Rows.fnExactIsAllowedSpec.post enc Tryz.prog Tryz.f4 false true false false) := by
 refine returnsInHanded_of_change (C := Tryz.checked) own started (by kernel_rfl) Tryz.func4
  (ChangeSpec.witness6 (enc := enc) (C := Tryz.checked) false ⟨#[], #[.agg #[.slice none 0 0, .slice none 0 0, .int .i64 0, .slice none 0 0, .slice none 0 0], .int .i64 0, .agg #[.int .i64 0, .int .i64 0, .int .i64 0, .bool false, .int .i64 0, .slice none 0 0, .int .i64 0, .string ⟨#[]⟩, .slice none 0 0]], []⟩ 8 (by kernel_rfl) (by kernel_rfl) (by kernel_rfl) (by kernel_rfl)) ?_
 intro W base args ds gs before hval hW _ _
 refine b3W (P := Tryz.prog) b0W b7Q b3X (f := 4) rfl (fun dd h => ?_) rfl Tryz.underlying4 (by kernel_rfl) (fun dss h => ?_) hval hW
 ·match dd, h with
  | [d0, d1, d2], _ => rfl
 ·match dss, h with
  | [d0, d1, d2], ⟨⟨n0, h0⟩, ⟨n1, h1⟩, ⟨n2, h2⟩, _⟩ =>
   obtain ⟨c, rfl, hfc⟩ := a9f h0
   obtain ⟨u, rfl, hfu⟩ := a0d h1
   obtain ⟨o, rfl, hfo⟩ := b1y h2
   exact a1T c u o hfc hfo
theorem fnExactIsAllowed_enter : Tryz.prog.mayEnter = true := by kernel_rfl
theorem fnExactIsAllowed_lifts : (Rows.fnExactIsAllowedRow.lifted == Tryz.prog.liftsFinal) = true := by kernel_rfl
theorem fnExactIsAllowed_make : (Tryz.prog.make == some Rows.fnExactIsAllowedRow.make) = true := by kernel_rfl
theorem fnExactIsAllowed_joined : joinedFacts Tryz.prog 4 Tryz.f4 Rows.fnExactIsAllowedSpec Rows.fnExactIsAllowedRow = true := by
 refine b7P ?_ ?_ ?_ ?_ ?_ ?_ ?_ ?_
 ·kernel_rfl
 ·exact fnExactIsAllowed_enter
 ·exact fnExactIsAllowed_lifts
 ·exact fnExactIsAllowed_make
 ·kernel_rfl
 ·kernel_rfl
 ·kernel_rfl
 ·kernel_rfl
theorem fnExactIsAllowed_holds : Rows.FnExactIsAllowedSaid :=
 OpenClaim.holds_of_wide 4 Tryz.f4 rfl rfl rfl rfl rfl rfl rfl ⟨rfl, rfl, rfl, rfl, rfl⟩ rfl rfl rfl rfl rfl (by kernel_rfl) Tryz.func4 fnExactIsAllowed_joined
  (of_decide_eq_true (by kernel_rfl)) (by unfold Func.isWrapper; first | (rw [if_pos (by decide +kernel)]; kernel_rfl) | (rw [if_neg (by decide +kernel)]; exact ⟨rfl, rfl⟩))
  (fun os started H enc _ => fnExactIsAllowed_lifted os started H enc)
#print axioms fnExactIsAllowed_holds
end Go.Proofs.YteaaopodnbjpoaaGreat
