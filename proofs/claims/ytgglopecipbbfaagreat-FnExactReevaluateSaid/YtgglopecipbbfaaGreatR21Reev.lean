/-
  Proved: the law FnExactReevaluate: for every input, laws.FnExactReevaluate returns true and leaves its arguments as they were. Conditions: none.
-/
import Derived.Test.YtgglopecipbbfaaGreatL4
import Derived.Test.YtgglopecipbbfaaGreatE9Reev
set_option linter.all false
namespace Go.Proofs.YtgglopecipbbfaaGreat
open Go Go.Sx Go.ChangeShapes Go.WideShapes Go.ChangeAt Go.RowKit

theorem and8 {a b c d e f g h : Bool} (ha : a = true) (hb : b = true) (hc : c = true) (hd : d = true) (he : e = true) (hf : f = true) (hg : g = true) (hh : h = true) : (a && b && c && d && e && f && g && h) = true := by simp [ha, hb, hc, hd, he, hf, hg, hh]
set_option maxRecDepth 100000 in
theorem fnExactReevaluate_lifted (os : Os) (started : os.Started) (H : Type) (enc : TypeId × Value → H) :
    ReturnsInHanded {} Tryz.checked os 3 .any (Rows.fnExactReevaluateSpec.pre6 enc Tryz.prog Tryz.f3 Rows.fnExactReevaluateRow.domain false) (Rows.fnExactReevaluateSpec.post enc Tryz.prog Tryz.f3 false true false false) := by
  refine returnsInHanded_of_change (C := Tryz.checked) own started (by kernel_rfl) Tryz.func3
    (ChangeSpec.witness6 (enc := enc) (C := Tryz.checked) false ⟨#[], #[.agg #[.slice none 0 0, .slice none 0 0, .int .i64 0], .slice none 0 0, .slice none 0 0, .slice none 0 0], []⟩ 8 (by kernel_rfl) (by kernel_rfl) (by kernel_rfl) (by kernel_rfl)) ?_
  intro W base args ds gs before hval hW _ _
  refine law_row (P := Tryz.prog) ttOK ttCl laidOut (f := 3) rfl (fun dd h => ?_) rfl Tryz.underlying4 (by kernel_rfl) (fun dss h => ?_) hval hW
  · match dd, h with
    | [d0, d1, d2, d3], _ => rfl
  · match dss, h with
    | [d, e, f, g], ⟨⟨n, hd⟩, ⟨m, he⟩, ⟨o, hf⟩, ⟨p, hg⟩, _⟩ =>
      obtain ⟨s, rfl, hs⟩ := decStore hd
      obtain ⟨l, rfl, hl⟩ := decDirS he
      obtain ⟨r, rfl, hr⟩ := decResultS hf
      obtain ⟨ns, rfl, hn⟩ := decStringS hg
      exact lawReevaluate_ok s l r ns hs hl hr hn

theorem fnExactReevaluate_enter : Tryz.prog.mayEnter = true := by kernel_rfl
theorem fnExactReevaluate_lifts : (Rows.fnExactReevaluateRow.lifted == Tryz.prog.liftsFinal) = true := by kernel_rfl
theorem fnExactReevaluate_make : (Tryz.prog.make == some Rows.fnExactReevaluateRow.make) = true := by kernel_rfl
theorem fnExactReevaluate_joined : joinedFacts Tryz.prog 3 Tryz.f3 Rows.fnExactReevaluateSpec Rows.fnExactReevaluateRow = true := by
  refine and8 ?_ ?_ ?_ ?_ ?_ ?_ ?_ ?_
  · kernel_rfl
  · exact fnExactReevaluate_enter
  · exact fnExactReevaluate_lifts
  · exact fnExactReevaluate_make
  · kernel_rfl
  · kernel_rfl
  · kernel_rfl
  · kernel_rfl
theorem fnExactReevaluate_holds : Rows.FnExactReevaluateSaid :=
  OpenClaim.holds_of_wide 3 Tryz.f3 rfl rfl rfl rfl rfl rfl rfl ⟨rfl, rfl, rfl, rfl, rfl⟩ rfl rfl rfl rfl rfl (by kernel_rfl) Tryz.func3 fnExactReevaluate_joined
    (of_decide_eq_true (by kernel_rfl)) (by unfold Func.isWrapper; first | (rw [if_pos (by decide +kernel)]; kernel_rfl) | (rw [if_neg (by decide +kernel)]; exact ⟨rfl, rfl⟩))
    (fun os started H enc _ => fnExactReevaluate_lifted os started H enc)
#print axioms fnExactReevaluate_holds
end Go.Proofs.YtgglopecipbbfaaGreat
