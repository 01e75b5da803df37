/- Proved: the law FnExactApplyChange: for every input, laws.FnExactApplyChange returns true and leaves its arguments as they were. Conditions: none. -/
import Derived.Test.YtddimbdeggomaaaGreatZ05
import Derived.Test.YtddimbdeggomaaaGreatZ20
set_option linter.all false
namespace Go.Proofs.YtddimbdeggomaaaGreat
open Go Go.Sx Go.ChangeShapes Go.WideShapes Go.ChangeAt Go.RowKit
theorem and8 {a b c d e f g h : Bool} (ha : a = true) (hb : b = true) (hc : c = true) (hd : d = true) (he : e = true) (hf : f = true) (hg : g = true) (hh : h = true) : (a && b && c && d && e && f && g && h) = true := by simp [ha, hb, hc, hd, he, hf, hg, hh]
set_option maxRecDepth 100000 in
theorem fnExactApplyChange_lifted (os : Os) (started : os.Started) (H : Type) (enc : TypeId × Value → H) :
    ReturnsInHanded {} Tryz.checked os 13 .any (Rows.fnExactApplyChangeSpec.pre6 enc Tryz.prog Tryz.f13 Rows.fnExactApplyChangeRow.domain false) (Rows.fnExactApplyChangeSpec.post enc Tryz.prog Tryz.f13 false true false false) := by
 refine returnsInHanded_of_change (C := Tryz.checked) own started (by kernel_rfl) Tryz.func13
  (ChangeSpec.witness6 (enc := enc) (C := Tryz.checked) false ⟨#[], #[.agg #[.slice none 0 0, .slice none 0 0, .int .i64 0, .slice none 0 0, .slice none 0 0], .int .i64 0, .agg #[.int .i64 0, .int .i64 0, .int .i64 0, .bool false, .int .i64 0, .slice none 0 0, .int .i64 0, .string ⟨#[]⟩, .slice none 0 0]], []⟩ 8 (by kernel_rfl) (by kernel_rfl) (by kernel_rfl) (by kernel_rfl)) ?_
 intro W base args ds gs before hval hW _ _
 refine b1l (P := Tryz.prog) a8q b8B b1m (f := 13) rfl (fun dd h => ?_) rfl Tryz.underlying4 (by kernel_rfl) (fun dss h => ?_) hval hW
 ·match dd, h with
  | [d0, d1, d2], _ => rfl
 ·match dss, h with
  | [d0, d1, d2], ⟨⟨n0, h0⟩, ⟨n1, h1⟩, ⟨n2, h2⟩, _⟩ =>
   obtain ⟨c, rfl, hfc⟩ := a4q h0
   obtain ⟨u, rfl, hfu⟩ := a0V h1
   obtain ⟨o, rfl, hfo⟩ := b3a h2
   exact a1E c u o hfc hfo
theorem fnExactApplyChange_enter : Tryz.prog.mayEnter = true := by kernel_rfl
theorem fnExactApplyChange_lifts : (Rows.fnExactApplyChangeRow.lifted == Tryz.prog.liftsFinal) = true := by kernel_rfl
theorem fnExactApplyChange_make : (Tryz.prog.make == some Rows.fnExactApplyChangeRow.make) = true := by kernel_rfl
theorem fnExactApplyChange_joined : joinedFacts Tryz.prog 13 Tryz.f13 Rows.fnExactApplyChangeSpec Rows.fnExactApplyChangeRow = true := by
 refine and8 ?_ ?_ ?_ ?_ ?_ ?_ ?_ ?_
 ·kernel_rfl
 ·exact fnExactApplyChange_enter
 ·exact fnExactApplyChange_lifts
 ·exact fnExactApplyChange_make
 ·kernel_rfl
 ·kernel_rfl
 ·kernel_rfl
 ·kernel_rfl
theorem fnExactApplyChange_holds : Rows.FnExactApplyChangeSaid :=
 OpenClaim.holds_of_wide 13 Tryz.f13 rfl rfl rfl rfl rfl rfl rfl ⟨rfl, rfl, rfl, rfl, rfl⟩ rfl rfl rfl rfl rfl (by kernel_rfl) Tryz.func13 fnExactApplyChange_joined
  (of_decide_eq_true (by kernel_rfl)) (by unfold Func.isWrapper; first | (rw [if_pos (by decide +kernel)]; kernel_rfl) | (rw [if_neg (by decide +kernel)]; exact ⟨rfl, rfl⟩))
  (fun os started H enc _ => fnExactApplyChange_lifted os started H enc)
#print axioms fnExactApplyChange_holds
end Go.Proofs.YtddimbdeggomaaaGreat
