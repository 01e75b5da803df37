/- Proved: the law FnEditConjunction: for every input, laws.FnEditConjunction returns true and leaves its argument as it was. Conditions: none. -/
import Derived.Test.YtjkbipgmckeckaaZ05
import Derived.Test.YtjkbipgmckeckaaZ15
set_option linter.all false
namespace Go.Proofs.Ytjkbipgmckeckaa
open Go Go.Sx Go.ChangeShapes Go.WideShapes Go.ChangeAt Go.RowKit
theorem and8 {a b c d e f g h : Bool} (ha : a = true) (hb : b = true) (hc : c = true) (hd : d = true) (he : e = true) (hf : f = true) (hg : g = true) (hh : h = true) : (a && b && c && d && e && f && g && h) = true := by simp [ha, hb, hc, hd, he, hf, hg, hh]
set_option maxRecDepth 100000 in
theorem kJ (os : Os) (started : os.Started) (H : Type) (enc : TypeId × Value → H) :
    ReturnsInHanded {} Try.checked os 5 .any (Rows.fnEditConjunctionSpec.pre6 enc Try.prog Try.f5 Rows.fnEditConjunctionRow.domain false) (Rows.fnEditConjunctionSpec.post enc Try.prog Try.f5 false true false false) := by
 refine returnsInHanded_of_change (C := Try.checked) own started (by kernel_rfl) Try.func5
  (ChangeSpec.witness6 (enc := enc) (C := Try.checked) false ⟨#[], #[.slice none 0 0], []⟩ 8 (by kernel_rfl) (by kernel_rfl) (by kernel_rfl) (by kernel_rfl)) ?_
 intro W base args ds gs before hval hW _ _
 refine zX (P := Try.prog) vC a7o zY (f := 5) rfl (fun dd h => ?_) rfl Try.underlying4 (by kernel_rfl) (fun dss h => ?_) hval hW
 ·match dd, h with
  | [d0], _ => rfl
 ·match dss, h with
  | [d0], ⟨⟨n0, h0⟩, _⟩ =>
   obtain ⟨l, rfl, hf⟩ := a5j h0
   exact nG l hf
theorem lH : Try.prog.mayEnter = true := by kernel_rfl
theorem lI : (Rows.fnEditConjunctionRow.lifted == Try.prog.liftsFinal) = true := by kernel_rfl
theorem mO : (Try.prog.make == some Rows.fnEditConjunctionRow.make) = true := by kernel_rfl
theorem kK : joinedFacts Try.prog 5 Try.f5 Rows.fnEditConjunctionSpec Rows.fnEditConjunctionRow = true := by
 refine and8 ?_ ?_ ?_ ?_ ?_ ?_ ?_ ?_
 ·kernel_rfl
 ·exact lH
 ·exact lI
 ·exact mO
 ·kernel_rfl
 ·kernel_rfl
 ·kernel_rfl
 ·kernel_rfl
theorem fnEditConjunction_holds : Rows.FnEditConjunctionSaid :=
 OpenClaim.holds_of_wide 5 Try.f5 rfl rfl rfl rfl rfl rfl rfl ⟨rfl, rfl, rfl, rfl, rfl⟩ rfl rfl rfl rfl rfl (by kernel_rfl) Try.func5 kK
  (of_decide_eq_true (by kernel_rfl)) (by unfold Func.isWrapper; first | (rw [if_pos (by decide +kernel)]; kernel_rfl) | (rw [if_neg (by decide +kernel)]; exact ⟨rfl, rfl⟩))
  (fun os started H enc _ => kJ os started H enc)
#print axioms fnEditConjunction_holds
end Go.Proofs.Ytjkbipgmckeckaa
