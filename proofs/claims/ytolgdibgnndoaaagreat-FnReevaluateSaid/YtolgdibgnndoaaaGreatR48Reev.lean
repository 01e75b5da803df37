/- Proved: the law FnReevaluate: for every input, laws.FnReevaluate returns true and leaves its argument as it was. Conditions: none. -/
import Derived.Test.YtolgdibgnndoaaaGreatZ05
import Derived.Test.YtolgdibgnndoaaaGreatZ18
set_option linter.all false
namespace Go.Proofs.YtolgdibgnndoaaaGreat
open Go Go.Sx Go.ChangeShapes Go.WideShapes Go.ChangeAt Go.RowKit
theorem b4I {a b c d e f g h : Bool} (ha : a = true) (hb : b = true) (hc : c = true) (hd : d = true) (he : e = true) (hf : f = true) (hg : g = true) (hh : h = true) : (a && b && c && d && e && f && g && h) = true := by simp [ha, hb, hc, hd, he, hf, hg, hh]
set_option maxRecDepth 100000 in
theorem uS (os : Os) (started : os.Started) (H : Type) (enc : TypeId × Value → H) :
    ReturnsInHanded {} Tryz.checked os 4 .any (Rows.fnReevaluateSpec.pre6 enc Tryz.prog Tryz.f4 Rows.fnReevaluateRow.domain false) (Rows.fnReevaluateSpec.post enc Tryz.prog Tryz.f4 false true false false) := by
 refine returnsInHanded_of_change (C := Tryz.checked) own started (by kernel_rfl) Tryz.func4
  (ChangeSpec.witness6 (enc := enc) (C := Tryz.checked) false ⟨#[], #[.slice none 0 0], []⟩ 8 (by kernel_rfl) (by kernel_rfl) (by kernel_rfl) (by kernel_rfl)) ?_
 intro W base args ds gs before hval hW _ _
 refine b0w (P := Tryz.prog) a0n b4J b0x (f := 4) rfl (fun dd h => ?_) rfl Tryz.underlying4 (by kernel_rfl) (fun dss h => ?_) (b4O _ _) hval hW
 ·match dd, h with
  | [d0], _ => rfl
 ·match dss, h with
  | [d0], ⟨⟨n0, h0⟩, _⟩ =>
   obtain ⟨l, rfl, hf⟩ := b3O h0
   exact a6d l hf
theorem vT : Tryz.prog.mayEnter = true := by kernel_rfl
theorem vU : (Rows.fnReevaluateRow.lifted == Tryz.prog.liftsFinal) = true := by kernel_rfl
theorem wR : (Tryz.prog.make == some Rows.fnReevaluateRow.make) = true := by kernel_rfl
theorem uT : joinedFacts Tryz.prog 4 Tryz.f4 Rows.fnReevaluateSpec Rows.fnReevaluateRow = true := by
 refine b4I ?_ ?_ ?_ ?_ ?_ ?_ ?_ ?_
 ·kernel_rfl
 ·exact vT
 ·exact vU
 ·exact wR
 ·kernel_rfl
 ·kernel_rfl
 ·kernel_rfl
 ·kernel_rfl
theorem fnReevaluate_holds : Rows.FnReevaluateSaid :=
 OpenClaim.holds_of_wide 4 Tryz.f4 rfl rfl rfl rfl rfl rfl rfl ⟨rfl, rfl, rfl, rfl, rfl⟩ rfl rfl rfl rfl rfl (by kernel_rfl) Tryz.func4 uT
  (of_decide_eq_true (by kernel_rfl)) (by unfold Func.isWrapper; first | (rw [if_pos (by decide +kernel)]; kernel_rfl) | (rw [if_neg (by decide +kernel)]; exact ⟨rfl, rfl⟩))
  (fun os started H enc _ => uS os started H enc)
#print axioms fnReevaluate_holds
end Go.Proofs.YtolgdibgnndoaaaGreat
