/- Proved: the law FnExactListGroups: for every input, laws.FnExactListGroups returns true and leaves its arguments as they were. Conditions: none. -/
import Derived.Test.YtakopfjdmmnjcaaGreatZ06
import Derived.Test.YtakopfjdmmnjcaaGreatZ17
set_option linter.all false
namespace Go.Proofs.YtakopfjdmmnjcaaGreat
open Go Go.Sx Go.ChangeShapes Go.WideShapes Go.ChangeAt Go.RowKit
theorem b5T {a b c d e f g h : Bool} (ha : a = true) (hb : b = true) (hc : c = true) (hd : d = true) (he : e = true) (hf : f = true) (hg : g = true) (hh : h = true) : (a && b && c && d && e && f && g && h) = true := by simp [ha, hb, hc, hd, he, hf, hg, hh]
set_option maxRecDepth 100000 in
theorem fnExactListGroups_lifted (os : Os) (started : os.Started) (H : Type) (enc : TypeId × Value → H) :
    ReturnsInHanded {} Tryz.checked os 4 .any (Rows.fnExactListGroupsSpec.pre6 enc Tryz.prog Tryz.f4 Rows.fnExactListGroupsRow.domain false) (Rows.fnExactListGroupsSpec.post enc Tryz.prog Tryz.f4 false true false false) := by
 refine returnsInHanded_of_change (C := Tryz.checked) own started (by kernel_rfl) Tryz.func4
  (ChangeSpec.witness6 (enc := enc) (C := Tryz.checked) false ⟨#[], #[.agg #[.slice none 0 0, .slice none 0 0, .int .i64 0], .slice none 0 0, .int .i64 0, .string ⟨#[]⟩, .string ⟨#[]⟩], []⟩ 8 (by kernel_rfl) (by kernel_rfl) (by kernel_rfl) (by kernel_rfl)) ?_
 intro W base args ds gs before hval hW _ _
 refine b2n (P := Tryz.prog) ttOK b5U b2o (f := 4) rfl (fun dd h => ?_) rfl Tryz.underlying4 (by kernel_rfl) (fun dss h => ?_) (b5X _ _) hval hW
 ·match dd, h with
  | [d0, d1, d2, d3, d4], _ => rfl
 ·match dss, h with
  | [d0, d1, d2, d3, d4], ⟨⟨n0, h0⟩, ⟨n1, h1⟩, ⟨n2, h2⟩, ⟨n3, h3⟩, ⟨n4, h4⟩, _⟩ =>
   obtain ⟨s, rfl, hfs⟩ := b1w h0
   obtain ⟨d, rfl, hfd⟩ := b3a h1
   obtain ⟨u, rfl, hfu⟩ := a1J h2
   obtain ⟨dir, rfl, hfdir⟩ := a7D h3
   obtain ⟨name, rfl, hfname⟩ := a7D h4
   exact yY s d u dir name hfs hfd
theorem fnExactListGroups_enter : Tryz.prog.mayEnter = true := by kernel_rfl
theorem fnExactListGroups_lifts : (Rows.fnExactListGroupsRow.lifted == Tryz.prog.liftsFinal) = true := by kernel_rfl
theorem fnExactListGroups_make : (Tryz.prog.make == some Rows.fnExactListGroupsRow.make) = true := by kernel_rfl
theorem fnExactListGroups_joined : joinedFacts Tryz.prog 4 Tryz.f4 Rows.fnExactListGroupsSpec Rows.fnExactListGroupsRow = true := by
 refine b5T ?_ ?_ ?_ ?_ ?_ ?_ ?_ ?_
 ·kernel_rfl
 ·exact fnExactListGroups_enter
 ·exact fnExactListGroups_lifts
 ·exact fnExactListGroups_make
 ·kernel_rfl
 ·kernel_rfl
 ·kernel_rfl
 ·kernel_rfl
theorem fnExactListGroups_holds : Rows.FnExactListGroupsSaid :=
 OpenClaim.holds_of_wide 4 Tryz.f4 rfl rfl rfl rfl rfl rfl rfl ⟨rfl, rfl, rfl, rfl, rfl⟩ rfl rfl rfl rfl rfl (by kernel_rfl) Tryz.func4 fnExactListGroups_joined
  (of_decide_eq_true (by kernel_rfl)) (by unfold Func.isWrapper; first | (rw [if_pos (by decide +kernel)]; kernel_rfl) | (rw [if_neg (by decide +kernel)]; exact ⟨rfl, rfl⟩))
  (fun os started H enc _ => fnExactListGroups_lifted os started H enc)
#print axioms fnExactListGroups_holds
end Go.Proofs.YtakopfjdmmnjcaaGreat
