/-
  Proved: the law FnExactUnaffectedDirs: for every input, laws.FnExactUnaffectedDirs returns true and leaves its arguments as they were. Conditions: none.
-/
import Derived.Test.YteganoldfldlhaaL4
import Derived.Test.YteganoldfldlhaaC10Unaff
set_option linter.all false
namespace Go.Proofs.Yteganoldfldlhaa
open Go Go.Sx Go.ChangeShapes Go.WideShapes Go.ChangeAt Go.RowKit

theorem and8 {a b c d e f g h : Bool} (ha : a = true) (hb : b = true) (hc : c = true) (hd : d = true) (he : e = true) (hf : f = true) (hg : g = true) (hh : h = true) : (a && b && c && d && e && f && g && h) = true := by simp [ha, hb, hc, hd, he, hf, hg, hh]
set_option maxRecDepth 100000 in
theorem fnExactUnaffectedDirs_lifted (os : Os) (started : os.Started) (H : Type) (enc : TypeId × Value → H) :
    ReturnsInHanded {} Try.checked os 5 .any (Rows.fnExactUnaffectedDirsSpec.pre6 enc Try.prog Try.f5 Rows.fnExactUnaffectedDirsRow.domain false) (Rows.fnExactUnaffectedDirsSpec.post enc Try.prog Try.f5 false true false false) := by
  refine returnsInHanded_of_change (C := Try.checked) own started (by kernel_rfl) Try.func5
    (ChangeSpec.witness6 (enc := enc) (C := Try.checked) false ⟨#[], #[.slice none 0 0, .slice none 0 0], []⟩ 8 (by kernel_rfl) (by kernel_rfl) (by kernel_rfl) (by kernel_rfl)) ?_
  intro W base args ds gs before hval hW _ _
  refine law_row (P := Try.prog) ttOK ttCl laidOut (f := 5) rfl (fun dd h => ?_) rfl Try.underlying4 (by kernel_rfl) (fun dss h => ?_) hval hW
  · match dd, h with
    | [d0, d1], _ => rfl
  · match dss, h with
    | [d, e], ⟨⟨n, hd⟩, ⟨m, he⟩, _⟩ =>
      obtain ⟨l, rfl, hl⟩ := decDirS hd
      obtain ⟨v, rfl, hv⟩ := decStringS he
      exact lawUnaffectedDirs_ok l v hl hv

theorem fnExactUnaffectedDirs_enter : Try.prog.mayEnter = true := by kernel_rfl
theorem fnExactUnaffectedDirs_lifts : (Rows.fnExactUnaffectedDirsRow.lifted == Try.prog.liftsFinal) = true := by kernel_rfl
theorem fnExactUnaffectedDirs_make : (Try.prog.make == some Rows.fnExactUnaffectedDirsRow.make) = true := by kernel_rfl
theorem fnExactUnaffectedDirs_joined : joinedFacts Try.prog 5 Try.f5 Rows.fnExactUnaffectedDirsSpec Rows.fnExactUnaffectedDirsRow = true := by
  refine and8 ?_ ?_ ?_ ?_ ?_ ?_ ?_ ?_
  · kernel_rfl
  · exact fnExactUnaffectedDirs_enter
  · exact fnExactUnaffectedDirs_lifts
  · exact fnExactUnaffectedDirs_make
  · kernel_rfl
  · kernel_rfl
  · kernel_rfl
  · kernel_rfl
theorem fnExactUnaffectedDirs_holds : Rows.FnExactUnaffectedDirsSaid :=
  OpenClaim.holds_of_wide 5 Try.f5 rfl rfl rfl rfl rfl rfl rfl ⟨rfl, rfl, rfl, rfl, rfl⟩ rfl rfl rfl rfl rfl (by kernel_rfl) Try.func5 fnExactUnaffectedDirs_joined
    (of_decide_eq_true (by kernel_rfl)) (by unfold Func.isWrapper; first | (rw [if_pos (by decide +kernel)]; kernel_rfl) | (rw [if_neg (by decide +kernel)]; exact ⟨rfl, rfl⟩))
    (fun os started H enc _ => fnExactUnaffectedDirs_lifted os started H enc)
#print axioms fnExactUnaffectedDirs_holds
end Go.Proofs.Yteganoldfldlhaa
