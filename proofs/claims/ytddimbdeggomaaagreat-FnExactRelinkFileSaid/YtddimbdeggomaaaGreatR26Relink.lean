/- Proved: the law FnExactRelinkFile: for every input, laws.FnExactRelinkFile returns true and leaves its arguments as they were. Conditions: none. -/
import Derived.Test.YtddimbdeggomaaaGreatZ06
import Derived.Test.YtddimbdeggomaaaGreatZ20
set_option linter.all false
namespace Go.Proofs.YtddimbdeggomaaaGreat
open Go Go.Sx Go.ChangeShapes Go.WideShapes Go.ChangeAt Go.RowKit
theorem and8 {a b c d e f g h : Bool} (ha : a = true) (hb : b = true) (hc : c = true) (hd : d = true) (he : e = true) (hf : f = true) (hg : g = true) (hh : h = true) : (a && b && c && d && e && f && g && h) = true := by simp [ha, hb, hc, hd, he, hf, hg, hh]
set_option maxRecDepth 100000 in
theorem fnExactRelinkFile_lifted (os : Os) (started : os.Started) (H : Type) (enc : TypeId × Value → H) :
    ReturnsInHanded {} Tryz.checked os 7 .any (Rows.fnExactRelinkFileSpec.pre6 enc Tryz.prog Tryz.f7 Rows.fnExactRelinkFileRow.domain false) (Rows.fnExactRelinkFileSpec.post enc Tryz.prog Tryz.f7 false true false false) := by
 refine returnsInHanded_of_change (C := Tryz.checked) own started (by kernel_rfl) Tryz.func7
  (ChangeSpec.witness6 (enc := enc) (C := Tryz.checked) false ⟨#[], #[.agg #[.slice none 0 0, .slice none 0 0, .int .i64 0, .slice none 0 0, .slice none 0 0], .int .i64 0, .int .i64 0, .int .i64 0], []⟩ 8 (by kernel_rfl) (by kernel_rfl) (by kernel_rfl) (by kernel_rfl)) ?_
 intro W base args ds gs before hval hW _ _
 refine xS (P := Tryz.prog) th EJ xT (f := 7) rfl (fun dd h => ?_) rfl Tryz.underlying4 (by kernel_rfl) (fun dss h => ?_) hval hW
 ·match dd, h with
  | [d0, d1, d2, d3], _ => rfl
 ·match dss, h with
  | [d0, d1, d2, d3], ⟨⟨n0, h0⟩, ⟨n1, h1⟩, ⟨n2, h2⟩, ⟨n3, h3⟩, _⟩ =>
   obtain ⟨c, rfl, hfc⟩ := qc h0
   obtain ⟨u, rfl, hfu⟩ := kN h1
   obtain ⟨i, rfl, hfi⟩ := kN h2
   obtain ⟨t, rfl, hft⟩ := kN h3
   exact m4 c u i t hfc
theorem fnExactRelinkFile_enter : Tryz.prog.mayEnter = true := by kernel_rfl
theorem fnExactRelinkFile_lifts : (Rows.fnExactRelinkFileRow.lifted == Tryz.prog.liftsFinal) = true := by kernel_rfl
theorem fnExactRelinkFile_make : (Tryz.prog.make == some Rows.fnExactRelinkFileRow.make) = true := by kernel_rfl
theorem fnExactRelinkFile_joined : joinedFacts Tryz.prog 7 Tryz.f7 Rows.fnExactRelinkFileSpec Rows.fnExactRelinkFileRow = true := by
 refine and8 ?_ ?_ ?_ ?_ ?_ ?_ ?_ ?_
 ·kernel_rfl
 ·exact fnExactRelinkFile_enter
 ·exact fnExactRelinkFile_lifts
 ·exact fnExactRelinkFile_make
 ·kernel_rfl
 ·kernel_rfl
 ·kernel_rfl
 ·kernel_rfl
theorem fnExactRelinkFile_holds : Rows.FnExactRelinkFileSaid :=
 OpenClaim.holds_of_wide 7 Tryz.f7 rfl rfl rfl rfl rfl rfl rfl ⟨rfl, rfl, rfl, rfl, rfl⟩ rfl rfl rfl rfl rfl (by kernel_rfl) Tryz.func7 fnExactRelinkFile_joined
  (of_decide_eq_true (by kernel_rfl)) (by unfold Func.isWrapper; first | (rw [if_pos (by decide +kernel)]; kernel_rfl) | (rw [if_neg (by decide +kernel)]; exact ⟨rfl, rfl⟩))
  (fun os started H enc _ => fnExactRelinkFile_lifted os started H enc)
#print axioms fnExactRelinkFile_holds
end Go.Proofs.YtddimbdeggomaaaGreat
