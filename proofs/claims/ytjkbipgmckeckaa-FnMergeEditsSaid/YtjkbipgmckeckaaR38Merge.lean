/- Proved: the law FnMergeEdits: for every input, laws.FnMergeEdits returns true and leaves its argument as it was. Conditions: none. -/
import Derived.Test.YtjkbipgmckeckaaZ04
import Derived.Test.YtjkbipgmckeckaaZ08
set_option linter.all false
namespace Go.Proofs.Ytjkbipgmckeckaa
open Go Go.Sx Go.ChangeShapes Go.WideShapes Go.ChangeAt Go.RowKit
theorem a4c {a b c d e f g h : Bool} (ha : a = true) (hb : b = true) (hc : c = true) (hd : d = true) (he : e = true) (hf : f = true) (hg : g = true) (hh : h = true) : (a && b && c && d && e && f && g && h) = true := by simp [ha, hb, hc, hd, he, hf, hg, hh]
set_option maxRecDepth 100000 in
theorem iY (os : Os) (started : os.Started) (H : Type) (enc : TypeId × Value → H) :
    ReturnsInHanded {} Try.checked os 3 .any (Rows.fnMergeEditsSpec.pre6 enc Try.prog Try.f3 Rows.fnMergeEditsRow.domain false) (Rows.fnMergeEditsSpec.post enc Try.prog Try.f3 false true false false) := by
 refine returnsInHanded_of_change (C := Try.checked) own started (by kernel_rfl) Try.func3
  (ChangeSpec.witness6 (enc := enc) (C := Try.checked) false ⟨#[], #[.slice none 0 0], []⟩ 8 (by kernel_rfl) (by kernel_rfl) (by kernel_rfl) (by kernel_rfl)) ?_
 intro W base args ds gs before hval hW _ _
 refine a0r (P := Try.prog) sH a4d a0s (f := 3) rfl (fun dd h => ?_) rfl Try.underlying4 (by kernel_rfl) (fun dss h => ?_) hval hW
 ·match dd, h with
  | [d0], _ => rfl
 ·match dss, h with
  | [d0], ⟨⟨n0, h0⟩, _⟩ =>
   obtain ⟨l, rfl, hf⟩ := a3b h0
   exact kP l hf
theorem jH : Try.prog.mayEnter = true := by kernel_rfl
theorem jI : (Rows.fnMergeEditsRow.lifted == Try.prog.liftsFinal) = true := by kernel_rfl
theorem jV : (Try.prog.make == some Rows.fnMergeEditsRow.make) = true := by kernel_rfl
theorem iZ : joinedFacts Try.prog 3 Try.f3 Rows.fnMergeEditsSpec Rows.fnMergeEditsRow = true := by
 refine a4c ?_ ?_ ?_ ?_ ?_ ?_ ?_ ?_
 ·kernel_rfl
 ·exact jH
 ·exact jI
 ·exact jV
 ·kernel_rfl
 ·kernel_rfl
 ·kernel_rfl
 ·kernel_rfl
theorem fnMergeEdits_holds : Rows.FnMergeEditsSaid :=
 OpenClaim.holds_of_wide 3 Try.f3 rfl rfl rfl rfl rfl rfl rfl ⟨rfl, rfl, rfl, rfl, rfl⟩ rfl rfl rfl rfl rfl (by kernel_rfl) Try.func3 iZ
  (of_decide_eq_true (by kernel_rfl)) (by unfold Func.isWrapper; first | (rw [if_pos (by decide +kernel)]; kernel_rfl) | (rw [if_neg (by decide +kernel)]; exact ⟨rfl, rfl⟩))
  (fun os started H enc _ => iY os started H enc)
#print axioms fnMergeEdits_holds
end Go.Proofs.Ytjkbipgmckeckaa
