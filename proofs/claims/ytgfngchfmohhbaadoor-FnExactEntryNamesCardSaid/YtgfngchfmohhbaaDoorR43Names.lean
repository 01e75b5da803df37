/- Proved: the card of the law FnExactEntryNames: for every input, in every world in which the three listed tables of the library lie as its text lays them, laws.FnExactEntryNames returns true and leaves its arguments as they were; the list is tied to the program's text. Conditions: the row's own ('laid'). -/
import Derived.Test.YtgfngchfmohhbaaDoorZ07
import Derived.Test.YtgfngchfmohhbaaDoorZ10
set_option linter.all false
namespace Go.Proofs.YtgfngchfmohhbaaDoor
open Go Go.Sx Go.ChangeShapes Go.WideShapes Go.ChangeAt Go.RowKit
set_option maxRecDepth 100000 in
theorem fnExactEntryNames_laid (os : Os) : laidMet Tryd.prog Rows.fnExactEntryNamesRow.laid ((bG os).forCall (fun _ _ => 0) ⟨#[], #[.agg #[.slice none 0 0, .slice none 0 0, .int .i64 0], .slice none 0 0], []⟩).memory :=
 laidMet_of_run' 8 (by kernel_rfl) (by kernel_rfl)
theorem fnExactEntryNames_reads (os : Os) {H : Type} (enc : TypeId × Value → H) : ∃ places, DataW.whole enc Tryd.prog ((bG os).forCall (fun _ _ => 0) ⟨#[], #[.agg #[.slice none 0 0, .slice none 0 0, .int .i64 0], .slice none 0 0], []⟩).memory Tryd.f7.params.toList Rows.fnExactEntryNamesSpec.vars false (#[.agg #[.slice none 0 0, .slice none 0 0, .int .i64 0], .slice none 0 0] : Array Value).toList 8 = some ([.agg [.nil, .nil, .lit (.int .i64 0)], .nil], [], places) :=
 ⟨[], by kernel_rfl⟩
set_option maxRecDepth 100000 in
theorem fnExactEntryNames_lifted (os : Os) (started : os.Started) (H : Type) (enc : TypeId × Value → H) (F : Stop.Interp) :
    ReturnsInHanded {} Tryd.checked os 7 .any ((OpenSpec.ofChange Rows.fnExactEntryNamesSpec).preRow enc Tryd.prog Tryd.f7 Rows.fnExactEntryNamesRow.domain false Rows.fnExactEntryNamesRow.laid) (((OpenSpec.ofChange Rows.fnExactEntryNamesSpec).at F).post enc Tryd.prog Tryd.f7 false true false false) := by
 obtain ⟨places, hx⟩ := fnExactEntryNames_reads os enc
 refine returnsInHanded_of_row (C := Tryd.checked) (s := OpenSpec.ofChange Rows.fnExactEntryNamesSpec) own started (by kernel_rfl) Tryd.func7
  (witness_row_at (enc := enc) (C := Tryd.checked) false (bG os) #[.agg #[.slice none 0 0, .slice none 0 0, .int .i64 0], .slice none 0 0] rfl (by kernel_rfl) (by kernel_rfl) (by kernel_rfl)
   (OpenSpec.preRow_of_cond 8 hx (by kernel_rfl) (fun k hk => by cases hk) (by kernel_rfl) (fnExactEntryNames_laid os))) ?_
 intro W base args ds gs before hval hW _ _ _ hL _ _
 refine nI (P := Tryd.prog) uI a2E nJ (f := 7) rfl (fun dd h => ?_) rfl Tryd.underlying4 (by kernel_rfl) (fun dss h => ?_) (mG hL) hval hW
 ·match dd, h with
  | [d0, d1], _ => rfl
 ·match dss, h with
  | [d0, d1], ⟨⟨n0, e0⟩, ⟨n1, e1⟩, _⟩ =>
   obtain ⟨x0, rfl, h0⟩ := nH e0
   obtain ⟨x1, rfl, h1⟩ := qU e1
   exact oP x0 x1 h0 h1
theorem fnExactEntryNames_said : Rows.FnExactEntryNamesSaid :=
 OpenClaim.holds_of_cond 7 Tryd.f7 rfl rfl rfl rfl rfl rfl rfl ⟨rfl, rfl, rfl, rfl, rfl⟩ rfl rfl rfl rfl rfl (by kernel_rfl) Tryd.func7 (by kernel_rfl)
  (of_decide_eq_true (by kernel_rfl)) (by unfold Func.isWrapper; first | (rw [if_pos (by decide +kernel)]; kernel_rfl) | (rw [if_neg (by decide +kernel)]; exact ⟨rfl, rfl⟩))
  (fun os started H enc _ F => by rw [OpenClaim.pre_eq_preRow]; exact fnExactEntryNames_lifted os started H enc F)
theorem fnExactEntryNames_plain (f : FuncId) (fn : Func) (hf : Tryd.pinned.checked.prog.funcNamed "loop.example/g00976/laws.FnExactEntryNames" = some f) (hfn : Tryd.pinned.checked.prog.funcs[f]? = some fn) :
    false = Tryd.pinned.checked.prog.looks [] ∧ ∀ (j : Nat) t, fn.params[j]? = some t → Tryd.pinned.checked.prog.wantsStandIn t = false := by
 obtain rfl : f = 7 := Option.some.inj ((show Tryd.prog.funcNamed "loop.example/g00976/laws.FnExactEntryNames" = some 7 by kernel_rfl).symm.trans hf) |>.symm
 obtain rfl : fn = Tryd.f7 := (Option.some.inj (Tryd.func7.symm.trans hfn)).symm
 refine ⟨by kernel_rfl, fun j t ht => ?_⟩
 have h := List.all_eq_true.1 (show Tryd.f7.params.toList.all (fun t => !Tryd.prog.wantsStandIn t) = true by kernel_rfl) t (List.mem_of_getElem? (i := j) (by simpa using ht))
 have h2 : Tryd.prog.wantsStandIn t = false := by simpa using h
 exact h2
theorem fnExactEntryNamesCard_holds : Rows.FnExactEntryNamesCardSaid :=
 Claim7.holds_tied_plain_at .later [] _ _ _ _ fnExactEntryNames_said (fun _ h => by cases h) (by kernel_rfl) (fun _ h => by cases h) fnExactEntryNames_row_tie rfl ⟨rfl, rfl⟩ (by kernel_rfl) rfl fnExactEntryNames_plain (by kernel_rfl)
#print axioms fnExactEntryNamesCard_holds
end Go.Proofs.YtgfngchfmohhbaaDoor
