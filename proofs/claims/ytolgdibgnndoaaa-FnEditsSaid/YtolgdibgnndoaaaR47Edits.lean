/- Proved: the law FnEdits: for every input, laws.FnEdits returns true and leaves its argument as it was. Conditions: none. -/
import Derived.Test.YtolgdibgnndoaaaZ05
import Derived.Test.YtolgdibgnndoaaaZ14
set_option linter.all false
namespace Go.Proofs.Ytolgdibgnndoaaa
open Go Go.Sx Go.ChangeShapes Go.WideShapes Go.ChangeAt Go.RowKit
theorem a9J {a b c d e f g h : Bool} (ha : a = true) (hb : b = true) (hc : c = true) (hd : d = true) (he : e = true) (hf : f = true) (hg : g = true) (hh : h = true) : (a && b && c && d && e && f && g && h) = true := by simp [ha, hb, hc, hd, he, hf, hg, hh]
set_option maxRecDepth 100000 in
theorem wF (os : Os) (started : os.Started) (H : Type) (enc : TypeId × Value → H) :
    ReturnsInHanded {} Try.checked os 4 .any (Rows.fnEditsSpec.pre6 enc Try.prog Try.f4 Rows.fnEditsRow.domain false) (Rows.fnEditsSpec.post enc Try.prog Try.f4 false true false false) := by
 refine returnsInHanded_of_change (C := Try.checked) own started (by kernel_rfl) Try.func4
  (ChangeSpec.witness6 (enc := enc) (C := Try.checked) false ⟨#[], #[.slice none 0 0], []⟩ 8 (by kernel_rfl) (by kernel_rfl) (by kernel_rfl) (by kernel_rfl)) ?_
 intro W base args ds gs before hval hW _ _
 refine a5M (P := Try.prog) vG a9K a5N (f := 4) rfl (fun dd h => ?_) rfl Try.underlying4 (by kernel_rfl) (fun dss h => ?_) (a6a _ _) hval hW
 ·match dd, h with
  | [d0], _ => rfl
 ·match dss, h with
  | [d0], ⟨⟨n0, h0⟩, _⟩ =>
   obtain ⟨l, rfl, hf⟩ := a8U h0
   exact a1u l hf
theorem yA : Try.prog.mayEnter = true := by kernel_rfl
theorem yB : (Rows.fnEditsRow.lifted == Try.prog.liftsFinal) = true := by kernel_rfl
theorem zO : (Try.prog.make == some Rows.fnEditsRow.make) = true := by kernel_rfl
theorem wG : joinedFacts Try.prog 4 Try.f4 Rows.fnEditsSpec Rows.fnEditsRow = true := by
 refine a9J ?_ ?_ ?_ ?_ ?_ ?_ ?_ ?_
 ·kernel_rfl
 ·exact yA
 ·exact yB
 ·exact zO
 ·kernel_rfl
 ·kernel_rfl
 ·kernel_rfl
 ·kernel_rfl
theorem fnEdits_holds : Rows.FnEditsSaid :=
 OpenClaim.holds_of_wide 4 Try.f4 rfl rfl rfl rfl rfl rfl rfl ⟨rfl, rfl, rfl, rfl, rfl⟩ rfl rfl rfl rfl rfl (by kernel_rfl) Try.func4 wG
  (of_decide_eq_true (by kernel_rfl)) (by unfold Func.isWrapper; first | (rw [if_pos (by decide +kernel)]; kernel_rfl) | (rw [if_neg (by decide +kernel)]; exact ⟨rfl, rfl⟩))
  (fun os started H enc _ => wF os started H enc)
#print axioms fnEdits_holds
end Go.Proofs.Ytolgdibgnndoaaa
