/- Proved: the law FnExactRemoveFile: for every input, laws.FnExactRemoveFile returns true and leaves its arguments as they were. Conditions: none. -/
import Derived.Test.YtddimbdeggomaaaGreatZ05
import Derived.Test.YtddimbdeggomaaaGreatZ20
set_option linter.all false
namespace Go.Proofs.YtddimbdeggomaaaGreat
open Go Go.Sx Go.ChangeShapes Go.WideShapes Go.ChangeAt Go.RowKit
theorem and8 {a b c d e f g h : Bool} (ha : a = true) (hb : b = true) (hc : c = true) (hd : d = true) (he : e = true) (hf : f = true) (hg : g = true) (hh : h = true) : (a && b && c && d && e && f && g && h) = true := by simp [ha, hb, hc, hd, he, hf, hg, hh]
set_option maxRecDepth 100000 in
theorem fnExactRemoveFile_lifted (os : Os) (started : os.Started) (H : Type) (enc : TypeId × Value → H) :
    ReturnsInHanded {} Tryz.checked os 6 .any (Rows.fnExactRemoveFileSpec.pre6 enc Tryz.prog Tryz.f6 Rows.fnExactRemoveFileRow.domain false) (Rows.fnExactRemoveFileSpec.post enc Tryz.prog Tryz.f6 false true false false) := by
 refine returnsInHanded_of_change (C := Tryz.checked) own started (by kernel_rfl) Tryz.func6
  (ChangeSpec.witness6 (enc := enc) (C := Tryz.checked) false ⟨#[], #[.agg #[.slice none 0 0, .slice none 0 0, .int .i64 0, .slice none 0 0, .slice none 0 0], .int .i64 0], []⟩ 8 (by kernel_rfl) (by kernel_rfl) (by kernel_rfl) (by kernel_rfl)) ?_
 intro W base args ds gs before hval hW _ _
 refine law_row (P := Tryz.prog) ttOK ttCl laidOut (f := 6) rfl (fun dd h => ?_) rfl Tryz.underlying4 (by kernel_rfl) (fun dss h => ?_) hval hW
 ·match dd, h with
  | [d0, d1], _ => rfl
 ·match dss, h with
  | [d0, d1], ⟨⟨n0, h0⟩, ⟨n1, h1⟩, _⟩ =>
   obtain ⟨c, rfl, hfc⟩ := decCatalog h0
   obtain ⟨i, rfl, hfi⟩ := decI h1
   exact lawRemoveFile_ok c i hfc
theorem fnExactRemoveFile_enter : Tryz.prog.mayEnter = true := by kernel_rfl
theorem fnExactRemoveFile_lifts : (Rows.fnExactRemoveFileRow.lifted == Tryz.prog.liftsFinal) = true := by kernel_rfl
theorem fnExactRemoveFile_make : (Tryz.prog.make == some Rows.fnExactRemoveFileRow.make) = true := by kernel_rfl
theorem fnExactRemoveFile_joined : joinedFacts Tryz.prog 6 Tryz.f6 Rows.fnExactRemoveFileSpec Rows.fnExactRemoveFileRow = true := by
 refine and8 ?_ ?_ ?_ ?_ ?_ ?_ ?_ ?_
 ·kernel_rfl
 ·exact fnExactRemoveFile_enter
 ·exact fnExactRemoveFile_lifts
 ·exact fnExactRemoveFile_make
 ·kernel_rfl
 ·kernel_rfl
 ·kernel_rfl
 ·kernel_rfl
theorem fnExactRemoveFile_holds : Rows.FnExactRemoveFileSaid :=
 OpenClaim.holds_of_wide 6 Tryz.f6 rfl rfl rfl rfl rfl rfl rfl ⟨rfl, rfl, rfl, rfl, rfl⟩ rfl rfl rfl rfl rfl (by kernel_rfl) Tryz.func6 fnExactRemoveFile_joined
  (of_decide_eq_true (by kernel_rfl)) (by unfold Func.isWrapper; first | (rw [if_pos (by decide +kernel)]; kernel_rfl) | (rw [if_neg (by decide +kernel)]; exact ⟨rfl, rfl⟩))
  (fun os started H enc _ => fnExactRemoveFile_lifted os started H enc)
#print axioms fnExactRemoveFile_holds
end Go.Proofs.YtddimbdeggomaaaGreat
