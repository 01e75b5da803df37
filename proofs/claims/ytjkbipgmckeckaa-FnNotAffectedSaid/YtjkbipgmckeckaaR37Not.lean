/- Proved: the law FnNotAffected: for every input, laws.FnNotAffected returns true and leaves its argument as it was. Conditions: none. -/
import Derived.Test.YtjkbipgmckeckaaZ05
import Derived.Test.YtjkbipgmckeckaaZ14
set_option linter.all false
namespace Go.Proofs.Ytjkbipgmckeckaa
open Go Go.Sx Go.ChangeShapes Go.WideShapes Go.ChangeAt Go.RowKit
theorem and8 {a b c d e f g h : Bool} (ha : a = true) (hb : b = true) (hc : c = true) (hd : d = true) (he : e = true) (hf : f = true) (hg : g = true) (hh : h = true) : (a && b && c && d && e && f && g && h) = true := by simp [ha, hb, hc, hd, he, hf, hg, hh]
set_option maxRecDepth 100000 in
theorem oI (os : Os) (started : os.Started) (H : Type) (enc : TypeId × Value → H) :
    ReturnsInHanded {} Try.checked os 6 .any (Rows.fnNotAffectedSpec.pre6 enc Try.prog Try.f6 Rows.fnNotAffectedRow.domain false) (Rows.fnNotAffectedSpec.post enc Try.prog Try.f6 false true false false) := by
 refine returnsInHanded_of_change (C := Try.checked) own started (by kernel_rfl) Try.func6
  (ChangeSpec.witness6 (enc := enc) (C := Try.checked) false ⟨#[], #[.slice none 0 0], []⟩ 8 (by kernel_rfl) (by kernel_rfl) (by kernel_rfl) (by kernel_rfl)) ?_
 intro W base args ds gs before hval hW _ _
 refine zX (P := Try.prog) vC a7o zY (f := 6) rfl (fun dd h => ?_) rfl Try.underlying4 (by kernel_rfl) (fun dss h => ?_) hval hW
 ·match dd, h with
  | [d0], _ => rfl
 ·match dss, h with
  | [d0], ⟨⟨n0, h0⟩, _⟩ =>
   obtain ⟨l, rfl, hf⟩ := a5j h0
   exact sQ l hf
theorem pU : Try.prog.mayEnter = true := by kernel_rfl
theorem pV : (Rows.fnNotAffectedRow.lifted == Try.prog.liftsFinal) = true := by kernel_rfl
theorem qX : (Try.prog.make == some Rows.fnNotAffectedRow.make) = true := by kernel_rfl
theorem oJ : joinedFacts Try.prog 6 Try.f6 Rows.fnNotAffectedSpec Rows.fnNotAffectedRow = true := by
 refine and8 ?_ ?_ ?_ ?_ ?_ ?_ ?_ ?_
 ·kernel_rfl
 ·exact pU
 ·exact pV
 ·exact qX
 ·kernel_rfl
 ·kernel_rfl
 ·kernel_rfl
 ·kernel_rfl
theorem fnNotAffected_holds : Rows.FnNotAffectedSaid :=
 OpenClaim.holds_of_wide 6 Try.f6 rfl rfl rfl rfl rfl rfl rfl ⟨rfl, rfl, rfl, rfl, rfl⟩ rfl rfl rfl rfl rfl (by kernel_rfl) Try.func6 oJ
  (of_decide_eq_true (by kernel_rfl)) (by unfold Func.isWrapper; first | (rw [if_pos (by decide +kernel)]; kernel_rfl) | (rw [if_neg (by decide +kernel)]; exact ⟨rfl, rfl⟩))
  (fun os started H enc _ => oI os started H enc)
#print axioms fnNotAffected_holds
end Go.Proofs.Ytjkbipgmckeckaa
