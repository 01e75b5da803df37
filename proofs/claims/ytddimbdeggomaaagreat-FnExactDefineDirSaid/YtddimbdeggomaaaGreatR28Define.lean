/- Proved: the law FnExactDefineDir: for every input, laws.FnExactDefineDir returns true and leaves its arguments as they were. Conditions: none. -/
import Derived.Test.YtddimbdeggomaaaGreatZ05
import Derived.Test.YtddimbdeggomaaaGreatZ21
set_option linter.all false
namespace Go.Proofs.YtddimbdeggomaaaGreat
open Go Go.Sx Go.ChangeShapes Go.WideShapes Go.ChangeAt Go.RowKit
theorem and8 {a b c d e f g h : Bool} (ha : a = true) (hb : b = true) (hc : c = true) (hd : d = true) (he : e = true) (hf : f = true) (hg : g = true) (hh : h = true) : (a && b && c && d && e && f && g && h) = true := by simp [ha, hb, hc, hd, he, hf, hg, hh]
set_option maxRecDepth 100000 in
theorem fnExactDefineDir_lifted (os : Os) (started : os.Started) (H : Type) (enc : TypeId × Value → H) :
    ReturnsInHanded {} Tryz.checked os 9 .any (Rows.fnExactDefineDirSpec.pre6 enc Tryz.prog Tryz.f9 Rows.fnExactDefineDirRow.domain false) (Rows.fnExactDefineDirSpec.post enc Tryz.prog Tryz.f9 false true false false) := by
 refine returnsInHanded_of_change (C := Tryz.checked) own started (by kernel_rfl) Tryz.func9
  (ChangeSpec.witness6 (enc := enc) (C := Tryz.checked) false ⟨#[], #[.agg #[.slice none 0 0, .slice none 0 0, .int .i64 0, .slice none 0 0, .slice none 0 0], .agg #[.string ⟨#[]⟩, .slice none 0 0]], []⟩ 8 (by kernel_rfl) (by kernel_rfl) (by kernel_rfl) (by kernel_rfl)) ?_
 intro W base args ds gs before hval hW _ _
 refine b1l (P := Tryz.prog) a8q b8B b1m (f := 9) rfl (fun dd h => ?_) rfl Tryz.underlying4 (by kernel_rfl) (fun dss h => ?_) hval hW
 ·match dd, h with
  | [d0, d1], _ => rfl
 ·match dss, h with
  | [d0, d1], ⟨⟨n0, h0⟩, ⟨n1, h1⟩, _⟩ =>
   obtain ⟨c, rfl, hfc⟩ := a4q h0
   obtain ⟨x, rfl, hfx⟩ := b0s h1
   exact a2S c x hfc hfx
theorem fnExactDefineDir_enter : Tryz.prog.mayEnter = true := by kernel_rfl
theorem fnExactDefineDir_lifts : (Rows.fnExactDefineDirRow.lifted == Tryz.prog.liftsFinal) = true := by kernel_rfl
theorem fnExactDefineDir_make : (Tryz.prog.make == some Rows.fnExactDefineDirRow.make) = true := by kernel_rfl
theorem fnExactDefineDir_joined : joinedFacts Tryz.prog 9 Tryz.f9 Rows.fnExactDefineDirSpec Rows.fnExactDefineDirRow = true := by
 refine and8 ?_ ?_ ?_ ?_ ?_ ?_ ?_ ?_
 ·kernel_rfl
 ·exact fnExactDefineDir_enter
 ·exact fnExactDefineDir_lifts
 ·exact fnExactDefineDir_make
 ·kernel_rfl
 ·kernel_rfl
 ·kernel_rfl
 ·kernel_rfl
theorem fnExactDefineDir_holds : Rows.FnExactDefineDirSaid :=
 OpenClaim.holds_of_wide 9 Tryz.f9 rfl rfl rfl rfl rfl rfl rfl ⟨rfl, rfl, rfl, rfl, rfl⟩ rfl rfl rfl rfl rfl (by kernel_rfl) Tryz.func9 fnExactDefineDir_joined
  (of_decide_eq_true (by kernel_rfl)) (by unfold Func.isWrapper; first | (rw [if_pos (by decide +kernel)]; kernel_rfl) | (rw [if_neg (by decide +kernel)]; exact ⟨rfl, rfl⟩))
  (fun os started H enc _ => fnExactDefineDir_lifted os started H enc)
#print axioms fnExactDefineDir_holds
end Go.Proofs.YtddimbdeggomaaaGreat
