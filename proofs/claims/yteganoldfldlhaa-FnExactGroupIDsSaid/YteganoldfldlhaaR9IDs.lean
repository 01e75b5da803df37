/-
  Proved: the law FnExactGroupIDs: for every input, laws.FnExactGroupIDs returns true and leaves its arguments as they were. Conditions: none.
-/
import Derived.Test.YteganoldfldlhaaB8Row
import Derived.Test.YteganoldfldlhaaC9IDs
set_option linter.all false
namespace Go.Proofs.Yteganoldfldlhaa
open Go Go.Sx Go.ChangeShapes Go.WideShapes Go.ChangeAt Go.RowKit

theorem and8 {a b c d e f g h : Bool} (ha : a = true) (hb : b = true) (hc : c = true) (hd : d = true) (he : e = true) (hf : f = true) (hg : g = true) (hh : h = true) : (a && b && c && d && e && f && g && h) = true := by simp [ha, hb, hc, hd, he, hf, hg, hh]
set_option maxRecDepth 100000 in
theorem fnExactGroupIDs_lifted (os : Os) (started : os.Started) (H : Type) (enc : TypeId × Value → H) :
    ReturnsInHanded {} Try.checked os 4 .any (Rows.fnExactGroupIDsSpec.pre6 enc Try.prog Try.f4 Rows.fnExactGroupIDsRow.domain false) (Rows.fnExactGroupIDsSpec.post enc Try.prog Try.f4 false true false false) := by
  refine returnsInHanded_of_change (C := Try.checked) own started (by kernel_rfl) Try.func4
    (ChangeSpec.witness6 (enc := enc) (C := Try.checked) false ⟨#[], #[.slice none 0 0, .agg #[.int .i64 0, .int .i64 0, .string ⟨#[]⟩]], []⟩ 8 (by kernel_rfl) (by kernel_rfl) (by kernel_rfl) (by kernel_rfl)) ?_
  intro W base args ds gs before hval hW _ _
  refine law_row (P := Try.prog) ttOK ttCl laidOut (f := 4) rfl (fun dd h => ?_) rfl Try.underlying4 (by kernel_rfl) (fun dss h => ?_) hval hW
  · match dd, h with
    | [d0, d1], _ => rfl
  · match dss, h with
    | [d, e], ⟨⟨n, hd⟩, ⟨m, he⟩, _⟩ =>
      obtain ⟨l, rfl, hl⟩ := decGroupS hd
      obtain ⟨v, rfl, hv⟩ := decValue he
      exact lawGroupIDs_ok l v hl hv

theorem fnExactGroupIDs_enter : Try.prog.mayEnter = true := by kernel_rfl
theorem fnExactGroupIDs_lifts : (Rows.fnExactGroupIDsRow.lifted == Try.prog.liftsFinal) = true := by kernel_rfl
theorem fnExactGroupIDs_make : (Try.prog.make == some Rows.fnExactGroupIDsRow.make) = true := by kernel_rfl
theorem fnExactGroupIDs_joined : joinedFacts Try.prog 4 Try.f4 Rows.fnExactGroupIDsSpec Rows.fnExactGroupIDsRow = true := by
  refine and8 ?_ ?_ ?_ ?_ ?_ ?_ ?_ ?_
  · kernel_rfl
  · exact fnExactGroupIDs_enter
  · exact fnExactGroupIDs_lifts
  · exact fnExactGroupIDs_make
  · kernel_rfl
  · kernel_rfl
  · kernel_rfl
  · kernel_rfl
theorem fnExactGroupIDs_holds : Rows.FnExactGroupIDsSaid :=
  OpenClaim.holds_of_wide 4 Try.f4 rfl rfl rfl rfl rfl rfl rfl ⟨rfl, rfl, rfl, rfl, rfl⟩ rfl rfl rfl rfl rfl (by kernel_rfl) Try.func4 fnExactGroupIDs_joined
    (of_decide_eq_true (by kernel_rfl)) (by unfold Func.isWrapper; first | (rw [if_pos (by decide +kernel)]; kernel_rfl) | (rw [if_neg (by decide +kernel)]; exact ⟨rfl, rfl⟩))
    (fun os started H enc _ => fnExactGroupIDs_lifted os started H enc)
#print axioms fnExactGroupIDs_holds
end Go.Proofs.Yteganoldfldlhaa
