/-
  Proved: the law FnExactNewCatalog: for every input, laws.FnExactNewCatalog returns true and leaves its arguments as they were. Conditions: none.
-/
import Derived.Test.YtgglopecipbbfaaGreatL4
import Derived.Test.YtgglopecipbbfaaGreatF4New
set_option linter.all false
namespace Go.Proofs.YtgglopecipbbfaaGreat
open Go Go.Sx Go.ChangeShapes Go.WideShapes Go.ChangeAt Go.RowKit

theorem and8 {a b c d e f g h : Bool} (ha : a = true) (hb : b = true) (hc : c = true) (hd : d = true) (he : e = true) (hf : f = true) (hg : g = true) (hh : h = true) : (a && b && c && d && e && f && g && h) = true := by simp [ha, hb, hc, hd, he, hf, hg, hh]
set_option maxRecDepth 100000 in
theorem fnExactNewCatalog_lifted (os : Os) (started : os.Started) (H : Type) (enc : TypeId × Value → H) :
    ReturnsInHanded {} Tryz.checked os 4 .any (Rows.fnExactNewCatalogSpec.pre6 enc Tryz.prog Tryz.f4 Rows.fnExactNewCatalogRow.domain false) (Rows.fnExactNewCatalogSpec.post enc Tryz.prog Tryz.f4 false true false false) := by
  refine returnsInHanded_of_change (C := Tryz.checked) own started (by kernel_rfl) Tryz.func4
    (ChangeSpec.witness6 (enc := enc) (C := Tryz.checked) false ⟨#[], #[.agg #[.slice none 0 0, .slice none 0 0, .int .i64 0], .slice none 0 0], []⟩ 8 (by kernel_rfl) (by kernel_rfl) (by kernel_rfl) (by kernel_rfl)) ?_
  intro W base args ds gs before hval hW _ _
  refine law_row (P := Tryz.prog) ttOK ttCl laidOut (f := 4) rfl (fun dd h => ?_) rfl Tryz.underlying4 (by kernel_rfl) (fun dss h => ?_) hval hW
  · match dd, h with
    | [d0, d1], _ => rfl
  · match dss, h with
    | [d, e], ⟨⟨n, hd⟩, ⟨m, he⟩, _⟩ =>
      obtain ⟨s, rfl, hs⟩ := decStore hd
      obtain ⟨l, rfl, hl⟩ := decDirS he
      exact lawNewCatalog_ok s l hs hl

theorem fnExactNewCatalog_enter : Tryz.prog.mayEnter = true := by kernel_rfl
theorem fnExactNewCatalog_lifts : (Rows.fnExactNewCatalogRow.lifted == Tryz.prog.liftsFinal) = true := by kernel_rfl
theorem fnExactNewCatalog_make : (Tryz.prog.make == some Rows.fnExactNewCatalogRow.make) = true := by kernel_rfl
theorem fnExactNewCatalog_joined : joinedFacts Tryz.prog 4 Tryz.f4 Rows.fnExactNewCatalogSpec Rows.fnExactNewCatalogRow = true := by
  refine and8 ?_ ?_ ?_ ?_ ?_ ?_ ?_ ?_
  · kernel_rfl
  · exact fnExactNewCatalog_enter
  · exact fnExactNewCatalog_lifts
  · exact fnExactNewCatalog_make
  · kernel_rfl
  · kernel_rfl
  · kernel_rfl
  · kernel_rfl
theorem fnExactNewCatalog_holds : Rows.FnExactNewCatalogSaid :=
  OpenClaim.holds_of_wide 4 Tryz.f4 rfl rfl rfl rfl rfl rfl rfl ⟨rfl, rfl, rfl, rfl, rfl⟩ rfl rfl rfl rfl rfl (by kernel_rfl) Tryz.func4 fnExactNewCatalog_joined
    (of_decide_eq_true (by kernel_rfl)) (by unfold Func.isWrapper; first | (rw [if_pos (by decide +kernel)]; kernel_rfl) | (rw [if_neg (by decide +kernel)]; exact ⟨rfl, rfl⟩))
    (fun os started H enc _ => fnExactNewCatalog_lifted os started H enc)
#print axioms fnExactNewCatalog_holds
end Go.Proofs.YtgglopecipbbfaaGreat
