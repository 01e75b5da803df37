/- Proved: the law FnExactApplyTransaction: for every input, laws.FnExactApplyTransaction returns true and leaves its arguments as they were. Conditions: none. -/
import Derived.Test.YteaaopodnbjpoaaGreatZ05
import Derived.Test.YteaaopodnbjpoaaGreatZ20
set_option linter.all false
namespace Go.Proofs.YteaaopodnbjpoaaGreat
open Go Go.Sx Go.ChangeShapes Go.WideShapes Go.ChangeAt Go.RowKit
theorem b9L {a b c d e f g h : Bool} (ha : a = true) (hb : b = true) (hc : c = true) (hd : d = true) (he : e = true) (hf : f = true) (hg : g = true) (hh : h = true) : (a && b && c && d && e && f && g && h) = true := by simp [ha, hb, hc, hd, he, hf, hg, hh]
set_option maxRecDepth 100000 in
theorem fnExactApplyTransaction_lifted (os : Os) (started : os.Started) (H : Type) (enc : TypeId × Value → H) :
    ReturnsInHanded {} Tryz.checked os 3 .any (Rows.fnExactApplyTransactionSpec.pre6 enc Tryz.prog Tryz.f3 Rows.fnExactApplyTransactionRow.domain false) (Rows.fnExactApplyTransactionSpec.post enc Tryz.prog Tryz.f3 false true false false) := by
 refine returnsInHanded_of_change (C := Tryz.checked) own started (by kernel_rfl) Tryz.func3
  (ChangeSpec.witness6 (enc := enc) (C := Tryz.checked) false ⟨#[], #[.agg #[.slice none 0 0, .slice none 0 0, .int .i64 0, .slice none 0 0, .slice none 0 0], .int .i64 0, .slice none 0 0, .slice none 0 0], []⟩ 8 (by kernel_rfl) (by kernel_rfl) (by kernel_rfl) (by kernel_rfl)) ?_
 intro W base args ds gs before hval hW _ _
 refine b5V (P := Tryz.prog) b0r b9M b5W (f := 3) rfl (fun dd h => ?_) rfl Tryz.underlying4 (by kernel_rfl) (fun dss h => ?_) hval hW
 ·match dd, h with
  | [d0, d1, d2, d3], _ => rfl
 ·match dss, h with
  | [d0, d1, d2, d3], ⟨⟨n0, h0⟩, ⟨n1, h1⟩, ⟨n2, h2⟩, ⟨n3, h3⟩, _⟩ =>
   obtain ⟨c, rfl, hfc⟩ := b0O h0
   obtain ⟨u, rfl, hfu⟩ := a0S h1
   obtain ⟨l, rfl, hfl⟩ := b0P h2
   obtain ⟨q, rfl, hfq⟩ := b1W h3
   exact uV c u l q hfc hfl hfq
theorem fnExactApplyTransaction_enter : Tryz.prog.mayEnter = true := by kernel_rfl
theorem fnExactApplyTransaction_lifts : (Rows.fnExactApplyTransactionRow.lifted == Tryz.prog.liftsFinal) = true := by kernel_rfl
theorem fnExactApplyTransaction_make : (Tryz.prog.make == some Rows.fnExactApplyTransactionRow.make) = true := by kernel_rfl
theorem fnExactApplyTransaction_joined : joinedFacts Tryz.prog 3 Tryz.f3 Rows.fnExactApplyTransactionSpec Rows.fnExactApplyTransactionRow = true := by
 refine b9L ?_ ?_ ?_ ?_ ?_ ?_ ?_ ?_
 ·kernel_rfl
 ·exact fnExactApplyTransaction_enter
 ·exact fnExactApplyTransaction_lifts
 ·exact fnExactApplyTransaction_make
 ·kernel_rfl
 ·kernel_rfl
 ·kernel_rfl
 ·kernel_rfl
theorem fnExactApplyTransaction_holds : Rows.FnExactApplyTransactionSaid :=
 OpenClaim.holds_of_wide 3 Tryz.f3 rfl rfl rfl rfl rfl rfl rfl ⟨rfl, rfl, rfl, rfl, rfl⟩ rfl rfl rfl rfl rfl (by kernel_rfl) Tryz.func3 fnExactApplyTransaction_joined
  (of_decide_eq_true (by kernel_rfl)) (by unfold Func.isWrapper; first | (rw [if_pos (by decide +kernel)]; kernel_rfl) | (rw [if_neg (by decide +kernel)]; exact ⟨rfl, rfl⟩))
  (fun os started H enc _ => fnExactApplyTransaction_lifted os started H enc)
#print axioms fnExactApplyTransaction_holds
end Go.Proofs.YteaaopodnbjpoaaGreat
