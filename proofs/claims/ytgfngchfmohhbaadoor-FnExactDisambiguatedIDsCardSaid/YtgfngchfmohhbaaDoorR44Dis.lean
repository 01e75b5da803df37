/- Proved: the card of the law FnExactDisambiguatedIDs: for every input, in every world in which the three listed tables of the library lie as its text lays them, laws.FnExactDisambiguatedIDs returns true and leaves its arguments as they were; the list is tied to the program's text. Conditions: the row's own ('laid'). -/
import Derived.Test.YtgfngchfmohhbaaDoorZ07
import Derived.Test.YtgfngchfmohhbaaDoorZ11
set_option linter.all false
namespace Go.Proofs.YtgfngchfmohhbaaDoor
open Go Go.Sx Go.ChangeShapes Go.WideShapes Go.ChangeAt Go.RowKit
set_option maxRecDepth 100000 in
theorem fnExactDisambiguatedIDs_laid (os : Os) : laidMet Tryd.prog Rows.fnExactDisambiguatedIDsRow.laid ((bG os).forCall (fun _ _ => 0) ⟨#[], #[.agg #[.slice none 0 0, .slice none 0 0, .int .i64 0], .slice none 0 0], []⟩).memory :=
 laidMet_of_run' 8 (by kernel_rfl) (by kernel_rfl)
theorem fnExactDisambiguatedIDs_reads (os : Os) {H : Type} (enc : TypeId × Value → H) : ∃ places, DataW.whole enc Tryd.prog ((bG os).forCall (fun _ _ => 0) ⟨#[], #[.agg #[.slice none 0 0, .slice none 0 0, .int .i64 0], .slice none 0 0], []⟩).memory Tryd.f8.params.toList Rows.fnExactDisambiguatedIDsSpec.vars false (#[.agg #[.slice none 0 0, .slice none 0 0, .int .i64 0], .slice none 0 0] : Array Value).toList 8 = some ([.agg [.nil, .nil, .lit (.int .i64 0)], .nil], [], places) :=
 ⟨[], by kernel_rfl⟩
set_option maxRecDepth 100000 in
theorem fnExactDisambiguatedIDs_lifted (os : Os) (started : os.Started) (H : Type) (enc : TypeId × Value → H) (F : Stop.Interp) :
    ReturnsInHanded {} Tryd.checked os 8 .any ((OpenSpec.ofChange Rows.fnExactDisambiguatedIDsSpec).preRow enc Tryd.prog Tryd.f8 Rows.fnExactDisambiguatedIDsRow.domain false Rows.fnExactDisambiguatedIDsRow.laid) (((OpenSpec.ofChange Rows.fnExactDisambiguatedIDsSpec).at F).post enc Tryd.prog Tryd.f8 false true false false) := by
 obtain ⟨places, hx⟩ := fnExactDisambiguatedIDs_reads os enc
 refine returnsInHanded_of_row (C := Tryd.checked) (s := OpenSpec.ofChange Rows.fnExactDisambiguatedIDsSpec) own started (by kernel_rfl) Tryd.func8
  (witness_row_at (enc := enc) (C := Tryd.checked) false (bG os) #[.agg #[.slice none 0 0, .slice none 0 0, .int .i64 0], .slice none 0 0] rfl (by kernel_rfl) (by kernel_rfl) (by kernel_rfl)
   (OpenSpec.preRow_of_cond 8 hx (by kernel_rfl) (fun k hk => by cases hk) (by kernel_rfl) (fnExactDisambiguatedIDs_laid os))) ?_
 intro W base args ds gs before hval hW _ _ _ hL _ _
 refine nI (P := Tryd.prog) uI a2E nJ (f := 8) rfl (fun dd h => ?_) rfl Tryd.underlying4 (by kernel_rfl) (fun dss h => ?_) (mG hL) hval hW
 ·match dd, h with
  | [d0, d1], _ => rfl
 ·match dss, h with
  | [d0, d1], ⟨⟨n0, e0⟩, ⟨n1, e1⟩, _⟩ =>
   obtain ⟨x0, rfl, h0⟩ := nH e0
   obtain ⟨x1, rfl, h1⟩ := qU e1
   exact a1K x0 x1 h0 h1
theorem fnExactDisambiguatedIDs_said : Rows.FnExactDisambiguatedIDsSaid :=
 OpenClaim.holds_of_cond 8 Tryd.f8 rfl rfl rfl rfl rfl rfl rfl ⟨rfl, rfl, rfl, rfl, rfl⟩ rfl rfl rfl rfl rfl (by kernel_rfl) Tryd.func8 (by kernel_rfl)
  (of_decide_eq_true (by kernel_rfl)) (by unfold Func.isWrapper; first | (rw [if_pos (by decide +kernel)]; kernel_rfl) | (rw [if_neg (by decide +kernel)]; exact ⟨rfl, rfl⟩))
  (fun os started H enc _ F => by rw [OpenClaim.pre_eq_preRow]; exact fnExactDisambiguatedIDs_lifted os started H enc F)
theorem fnExactDisambiguatedIDs_plain (f : FuncId) (fn : Func) (hf : Tryd.pinned.checked.prog.funcNamed "loop.example/g00976/laws.FnExactDisambiguatedIDs" = some f) (hfn : Tryd.pinned.checked.prog.funcs[f]? = some fn) :
    false = Tryd.pinned.checked.prog.looks [] ∧ ∀ (j : Nat) t, fn.params[j]? = some t → Tryd.pinned.checked.prog.wantsStandIn t = false := by
 obtain rfl : f = 8 := Option.some.inj ((show Tryd.prog.funcNamed "loop.example/g00976/laws.FnExactDisambiguatedIDs" = some 8 by kernel_rfl).symm.trans hf) |>.symm
 obtain rfl : fn = Tryd.f8 := (Option.some.inj (Tryd.func8.symm.trans hfn)).symm
 refine ⟨by kernel_rfl, fun j t ht => ?_⟩
 have h := List.all_eq_true.1 (show Tryd.f8.params.toList.all (fun t => !Tryd.prog.wantsStandIn t) = true by kernel_rfl) t (List.mem_of_getElem? (i := j) (by simpa using ht))
 have h2 : Tryd.prog.wantsStandIn t = false := by simpa using h
 exact h2
theorem fnExactDisambiguatedIDsCard_holds : Rows.FnExactDisambiguatedIDsCardSaid :=
 Claim7.holds_tied_plain_at .later [] _ _ _ _ fnExactDisambiguatedIDs_said (fun _ h => by cases h) (by kernel_rfl) (fun _ h => by cases h) fnExactDisambiguatedIDs_row_tie rfl ⟨rfl, rfl⟩ (by kernel_rfl) rfl fnExactDisambiguatedIDs_plain (by kernel_rfl)
#print axioms fnExactDisambiguatedIDsCard_holds
end Go.Proofs.YtgfngchfmohhbaaDoor
