/- Proved: the law FnExactIsCurrent: for every input, laws.FnExactIsCurrent returns true and leaves its argument as it was. Conditions: none. -/
import Derived.Test.YtdgeoalhmmfgnaaGreatL4
import Derived.Test.YtdgeoalhmmfgnaaGreatE8Cur
set_option linter.all false
namespace Go.Proofs.YtdgeoalhmmfgnaaGreat
open Go Go.Sx Go.ChangeShapes Go.WideShapes Go.ChangeAt Go.RowKit
theorem and8 {a b c d e f g h : Bool} (ha : a = true) (hb : b = true) (hc : c = true) (hd : d = true) (he : e = true) (hf : f = true) (hg : g = true) (hh : h = true) : (a && b && c && d && e && f && g && h) = true := by simp [ha, hb, hc, hd, he, hf, hg, hh]
set_option maxRecDepth 100000 in
theorem fnExactIsCurrent_lifted (os : Os) (started : os.Started) (H : Type) (enc : TypeId × Value → H) :
    ReturnsInHanded {} Tryz.checked os 3 .any (Rows.fnExactIsCurrentSpec.pre6 enc Tryz.prog Tryz.f3 Rows.fnExactIsCurrentRow.domain false) (Rows.fnExactIsCurrentSpec.post enc Tryz.prog Tryz.f3 false true false false) := by
 refine returnsInHanded_of_change (C := Tryz.checked) own started (by kernel_rfl) Tryz.func3
  (ChangeSpec.witness6 (enc := enc) (C := Tryz.checked) false ⟨#[], #[.agg #[.slice none 0 0, .slice none 0 0, .int .i64 0, .slice none 0 0, .slice none 0 0]], []⟩ 8 (by kernel_rfl) (by kernel_rfl) (by kernel_rfl) (by kernel_rfl)) ?_
 intro W base args ds gs before hval hW _ _
 refine law_row (P := Tryz.prog) ttOK ttCl laidOut (f := 3) rfl (fun dd h => ?_) rfl Tryz.underlying4 (by kernel_rfl) (fun dss h => ?_) hval hW
 ·match dd, h with
  | [d0], _ => rfl
 ·match dss, h with
  | [d], ⟨⟨n, hd⟩, _⟩ =>
   obtain ⟨x, rfl, hx⟩ := decCatalog hd
   exact lawIsCurrent_ok x hx
theorem fnExactIsCurrent_enter : Tryz.prog.mayEnter = true := by kernel_rfl
theorem fnExactIsCurrent_lifts : (Rows.fnExactIsCurrentRow.lifted == Tryz.prog.liftsFinal) = true := by kernel_rfl
theorem fnExactIsCurrent_make : (Tryz.prog.make == some Rows.fnExactIsCurrentRow.make) = true := by kernel_rfl
theorem fnExactIsCurrent_joined : joinedFacts Tryz.prog 3 Tryz.f3 Rows.fnExactIsCurrentSpec Rows.fnExactIsCurrentRow = true := by
 refine and8 ?_ ?_ ?_ ?_ ?_ ?_ ?_ ?_
 ·kernel_rfl
 ·exact fnExactIsCurrent_enter
 ·exact fnExactIsCurrent_lifts
 ·exact fnExactIsCurrent_make
 ·kernel_rfl
 ·kernel_rfl
 ·kernel_rfl
 ·kernel_rfl
theorem fnExactIsCurrent_holds : Rows.FnExactIsCurrentSaid :=
 OpenClaim.holds_of_wide 3 Tryz.f3 rfl rfl rfl rfl rfl rfl rfl ⟨rfl, rfl, rfl, rfl, rfl⟩ rfl rfl rfl rfl rfl (by kernel_rfl) Tryz.func3 fnExactIsCurrent_joined
  (of_decide_eq_true (by kernel_rfl)) (by unfold Func.isWrapper; first | (rw [if_pos (by decide +kernel)]; kernel_rfl) | (rw [if_neg (by decide +kernel)]; exact ⟨rfl, rfl⟩))
  (fun os started H enc _ => fnExactIsCurrent_lifted os started H enc)
#print axioms fnExactIsCurrent_holds
end Go.Proofs.YtdgeoalhmmfgnaaGreat
