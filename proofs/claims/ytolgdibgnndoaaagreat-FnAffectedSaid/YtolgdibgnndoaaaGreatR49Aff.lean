/- Proved: the law FnAffected: for every input, laws.FnAffected returns true and leaves its argument as it was. Conditions: none. -/
import Derived.Test.YtolgdibgnndoaaaGreatZ05
import Derived.Test.YtolgdibgnndoaaaGreatZ17
set_option linter.all false
namespace Go.Proofs.YtolgdibgnndoaaaGreat
open Go Go.Sx Go.ChangeShapes Go.WideShapes Go.ChangeAt Go.RowKit
theorem b5S {a b c d e f g h : Bool} (ha : a = true) (hb : b = true) (hc : c = true) (hd : d = true) (he : e = true) (hf : f = true) (hg : g = true) (hh : h = true) : (a && b && c && d && e && f && g && h) = true := by simp [ha, hb, hc, hd, he, hf, hg, hh]
set_option maxRecDepth 100000 in
theorem wC (os : Os) (started : os.Started) (H : Type) (enc : TypeId × Value → H) :
    ReturnsInHanded {} Tryz.checked os 3 .any (Rows.fnAffectedSpec.pre6 enc Tryz.prog Tryz.f3 Rows.fnAffectedRow.domain false) (Rows.fnAffectedSpec.post enc Tryz.prog Tryz.f3 false true false false) := by
 refine returnsInHanded_of_change (C := Tryz.checked) own started (by kernel_rfl) Tryz.func3
  (ChangeSpec.witness6 (enc := enc) (C := Tryz.checked) false ⟨#[], #[.slice none 0 0], []⟩ 8 (by kernel_rfl) (by kernel_rfl) (by kernel_rfl) (by kernel_rfl)) ?_
 intro W base args ds gs before hval hW _ _
 refine b1r (P := Tryz.prog) a0k b5T b1s (f := 3) rfl (fun dd h => ?_) rfl Tryz.underlying4 (by kernel_rfl) (fun dss h => ?_) (b1F _ _) hval hW
 ·match dd, h with
  | [d0], _ => rfl
 ·match dss, h with
  | [d0], ⟨⟨n0, h0⟩, _⟩ =>
   obtain ⟨l, rfl, hf⟩ := b5e h0
   exact a8H l hf
theorem yD : Tryz.prog.mayEnter = true := by kernel_rfl
theorem yE : (Rows.fnAffectedRow.lifted == Tryz.prog.liftsFinal) = true := by kernel_rfl
theorem a0g : (Tryz.prog.make == some Rows.fnAffectedRow.make) = true := by kernel_rfl
theorem wD : joinedFacts Tryz.prog 3 Tryz.f3 Rows.fnAffectedSpec Rows.fnAffectedRow = true := by
 refine b5S ?_ ?_ ?_ ?_ ?_ ?_ ?_ ?_
 ·kernel_rfl
 ·exact yD
 ·exact yE
 ·exact a0g
 ·kernel_rfl
 ·kernel_rfl
 ·kernel_rfl
 ·kernel_rfl
theorem fnAffected_holds : Rows.FnAffectedSaid :=
 OpenClaim.holds_of_wide 3 Tryz.f3 rfl rfl rfl rfl rfl rfl rfl ⟨rfl, rfl, rfl, rfl, rfl⟩ rfl rfl rfl rfl rfl (by kernel_rfl) Tryz.func3 wD
  (of_decide_eq_true (by kernel_rfl)) (by unfold Func.isWrapper; first | (rw [if_pos (by decide +kernel)]; kernel_rfl) | (rw [if_neg (by decide +kernel)]; exact ⟨rfl, rfl⟩))
  (fun os started H enc _ => wC os started H enc)
#print axioms fnAffected_holds
end Go.Proofs.YtolgdibgnndoaaaGreat
