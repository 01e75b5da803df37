/- Proved: the law FnExactAddFile: for every input, laws.FnExactAddFile returns true and leaves its arguments as they were. Conditions: none. -/
import Derived.Test.YtddimbdeggomaaaGreatZ16
set_option linter.all false
namespace Go.Proofs.YtddimbdeggomaaaGreat
open Go Go.Sx Go.ChangeShapes Go.WideShapes Go.ChangeAt Go.RowKit
theorem and8 {a b c d e f g h : Bool} (ha : a = true) (hb : b = true) (hc : c = true) (hd : d = true) (he : e = true) (hf : f = true) (hg : g = true) (hh : h = true) : (a && b && c && d && e && f && g && h) = true := by simp [ha, hb, hc, hd, he, hf, hg, hh]
set_option maxRecDepth 100000 in
theorem fnExactAddFile_lifted (os : Os) (started : os.Started) (H : Type) (enc : TypeId × Value → H) :
    ReturnsInHanded {} Tryz.checked os 5 .any (Rows.fnExactAddFileSpec.pre6 enc Tryz.prog Tryz.f5 Rows.fnExactAddFileRow.domain false) (Rows.fnExactAddFileSpec.post enc Tryz.prog Tryz.f5 false true false false) := by
 refine returnsInHanded_of_change (C := Tryz.checked) own started (by kernel_rfl) Tryz.func5
  (ChangeSpec.witness6 (enc := enc) (C := Tryz.checked) false ⟨#[], #[.agg #[.slice none 0 0, .slice none 0 0, .int .i64 0, .slice none 0 0, .slice none 0 0], .agg #[.int .i64 0, .int .i64 0, .bool false, .int .i64 0, .slice none 0 0]], []⟩ 8 (by kernel_rfl) (by kernel_rfl) (by kernel_rfl) (by kernel_rfl)) ?_
 intro W base args ds gs before hval hW _ _
 refine law_row (P := Tryz.prog) ttOK ttCl laidOut (f := 5) rfl (fun dd h => ?_) rfl Tryz.underlying4 (by kernel_rfl) (fun dss h => ?_) hval hW
 ·match dd, h with
  | [d0, d1], _ => rfl
 ·match dss, h with
  | [d0, d1], ⟨⟨n0, h0⟩, ⟨n1, h1⟩, _⟩ =>
   obtain ⟨c, rfl, hfc⟩ := decCatalog h0
   obtain ⟨f, rfl, hff⟩ := decFile h1
   exact lawAddFile_ok c f hfc hff
theorem fnExactAddFile_enter : Tryz.prog.mayEnter = true := by kernel_rfl
theorem fnExactAddFile_lifts : (Rows.fnExactAddFileRow.lifted == Tryz.prog.liftsFinal) = true := by kernel_rfl
theorem fnExactAddFile_make : (Tryz.prog.make == some Rows.fnExactAddFileRow.make) = true := by kernel_rfl
theorem fnExactAddFile_joined : joinedFacts Tryz.prog 5 Tryz.f5 Rows.fnExactAddFileSpec Rows.fnExactAddFileRow = true := by
 refine and8 ?_ ?_ ?_ ?_ ?_ ?_ ?_ ?_
 ·kernel_rfl
 ·exact fnExactAddFile_enter
 ·exact fnExactAddFile_lifts
 ·exact fnExactAddFile_make
 ·kernel_rfl
 ·kernel_rfl
 ·kernel_rfl
 ·kernel_rfl
theorem fnExactAddFile_holds : Rows.FnExactAddFileSaid :=
 OpenClaim.holds_of_wide 5 Tryz.f5 rfl rfl rfl rfl rfl rfl rfl ⟨rfl, rfl, rfl, rfl, rfl⟩ rfl rfl rfl rfl rfl (by kernel_rfl) Tryz.func5 fnExactAddFile_joined
  (of_decide_eq_true (by kernel_rfl)) (by unfold Func.isWrapper; first | (rw [if_pos (by decide +kernel)]; kernel_rfl) | (rw [if_neg (by decide +kernel)]; exact ⟨rfl, rfl⟩))
  (fun os started H enc _ => fnExactAddFile_lifted os started H enc)
#print axioms fnExactAddFile_holds
end Go.Proofs.YtddimbdeggomaaaGreat
