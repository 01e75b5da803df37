/- Proved: the law FnGroupsHidden: for every input, laws.FnGroupsHidden returns true and leaves its argument as it was. Conditions: none. -/
import Derived.Test.YtakopfjdmmnjcaaGreatZ06
import Derived.Test.YtakopfjdmmnjcaaGreatZ20
set_option linter.all false
namespace Go.Proofs.YtakopfjdmmnjcaaGreat
open Go Go.Sx Go.ChangeShapes Go.WideShapes Go.ChangeAt Go.RowKit
theorem b7Z {a b c d e f g h : Bool} (ha : a = true) (hb : b = true) (hc : c = true) (hd : d = true) (he : e = true) (hf : f = true) (hg : g = true) (hh : h = true) : (a && b && c && d && e && f && g && h) = true := by simp [ha, hb, hc, hd, he, hf, hg, hh]
set_option maxRecDepth 100000 in
theorem uP (os : Os) (started : os.Started) (H : Type) (enc : TypeId × Value → H) :
    ReturnsInHanded {} Tryz.checked os 3 .any (Rows.fnGroupsHiddenSpec.pre6 enc Tryz.prog Tryz.f3 Rows.fnGroupsHiddenRow.domain false) (Rows.fnGroupsHiddenSpec.post enc Tryz.prog Tryz.f3 false true false false) := by
 refine returnsInHanded_of_change (C := Tryz.checked) own started (by kernel_rfl) Tryz.func3
  (ChangeSpec.witness6 (enc := enc) (C := Tryz.checked) false ⟨#[], #[.slice none 0 0], []⟩ 8 (by kernel_rfl) (by kernel_rfl) (by kernel_rfl) (by kernel_rfl)) ?_
 intro W base args ds gs before hval hW _ _
 refine b3H (P := Tryz.prog) ttOK b8a b3I (f := 3) rfl (fun dd h => ?_) rfl Tryz.underlying4 (by kernel_rfl) (fun dss h => ?_) (b8f _ _) hval hW
 ·match dd, h with
  | [d0], _ => rfl
 ·match dss, h with
  | [d0], ⟨⟨n0, h0⟩, _⟩ =>
   obtain ⟨l, rfl, hf⟩ := b7i h0
   exact b0V l hf
theorem uW : Tryz.prog.mayEnter = true := by kernel_rfl
theorem uY : (Rows.fnGroupsHiddenRow.lifted == Tryz.prog.liftsFinal) = true := by kernel_rfl
theorem xA : (Tryz.prog.make == some Rows.fnGroupsHiddenRow.make) = true := by kernel_rfl
theorem uQ : joinedFacts Tryz.prog 3 Tryz.f3 Rows.fnGroupsHiddenSpec Rows.fnGroupsHiddenRow = true := by
 refine b7Z ?_ ?_ ?_ ?_ ?_ ?_ ?_ ?_
 ·kernel_rfl
 ·exact uW
 ·exact uY
 ·exact xA
 ·kernel_rfl
 ·kernel_rfl
 ·kernel_rfl
 ·kernel_rfl
theorem fnGroupsHidden_holds : Rows.FnGroupsHiddenSaid :=
 OpenClaim.holds_of_wide 3 Tryz.f3 rfl rfl rfl rfl rfl rfl rfl ⟨rfl, rfl, rfl, rfl, rfl⟩ rfl rfl rfl rfl rfl (by kernel_rfl) Tryz.func3 uQ
  (of_decide_eq_true (by kernel_rfl)) (by unfold Func.isWrapper; first | (rw [if_pos (by decide +kernel)]; kernel_rfl) | (rw [if_neg (by decide +kernel)]; exact ⟨rfl, rfl⟩))
  (fun os started H enc _ => uP os started H enc)
#print axioms fnGroupsHidden_holds
end Go.Proofs.YtakopfjdmmnjcaaGreat
