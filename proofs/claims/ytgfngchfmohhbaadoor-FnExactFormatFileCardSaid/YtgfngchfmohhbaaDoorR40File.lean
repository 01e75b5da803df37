/- Proved: the card of the law FnExactFormatFile: for every input, in every world in which the three listed tables of the library lie as its text lays them, laws.FnExactFormatFile returns true and leaves its arguments as they were; the list is tied to the program's text. Conditions: the row's own ('laid'). -/
import Derived.Test.YtgfngchfmohhbaaDoorZ07
import Derived.Test.YtgfngchfmohhbaaDoorZ12
set_option linter.all false
namespace Go.Proofs.YtgfngchfmohhbaaDoor
open Go Go.Sx Go.ChangeShapes Go.WideShapes Go.ChangeAt Go.RowKit
set_option maxRecDepth 100000 in
theorem fnExactFormatFile_laid (os : Os) : laidMet Tryd.prog Rows.fnExactFormatFileRow.laid ((bG os).forCall (fun _ _ => 0) ⟨#[], #[.agg #[.int .i64 0, .int .i64 0, .bool false, .int .i64 0, .slice none 0 0]], []⟩).memory :=
 laidMet_of_run' 8 (by kernel_rfl) (by kernel_rfl)
theorem fnExactFormatFile_reads (os : Os) {H : Type} (enc : TypeId × Value → H) : ∃ places, DataW.whole enc Tryd.prog ((bG os).forCall (fun _ _ => 0) ⟨#[], #[.agg #[.int .i64 0, .int .i64 0, .bool false, .int .i64 0, .slice none 0 0]], []⟩).memory Tryd.f4.params.toList Rows.fnExactFormatFileSpec.vars false (#[.agg #[.int .i64 0, .int .i64 0, .bool false, .int .i64 0, .slice none 0 0]] : Array Value).toList 8 = some ([.agg [.lit (.int .i64 0), .lit (.int .i64 0), .lit (.bool false), .lit (.int .i64 0), .nil]], [], places) :=
 ⟨[], by kernel_rfl⟩
set_option maxRecDepth 100000 in
theorem fnExactFormatFile_lifted (os : Os) (started : os.Started) (H : Type) (enc : TypeId × Value → H) (F : Stop.Interp) :
    ReturnsInHanded {} Tryd.checked os 4 .any ((OpenSpec.ofChange Rows.fnExactFormatFileSpec).preRow enc Tryd.prog Tryd.f4 Rows.fnExactFormatFileRow.domain false Rows.fnExactFormatFileRow.laid) (((OpenSpec.ofChange Rows.fnExactFormatFileSpec).at F).post enc Tryd.prog Tryd.f4 false true false false) := by
 obtain ⟨places, hx⟩ := fnExactFormatFile_reads os enc
 refine returnsInHanded_of_row (C := Tryd.checked) (s := OpenSpec.ofChange Rows.fnExactFormatFileSpec) own started (by kernel_rfl) Tryd.func4
  (witness_row_at (enc := enc) (C := Tryd.checked) false (bG os) #[.agg #[.int .i64 0, .int .i64 0, .bool false, .int .i64 0, .slice none 0 0]] rfl (by kernel_rfl) (by kernel_rfl) (by kernel_rfl)
   (OpenSpec.preRow_of_cond 8 hx (by kernel_rfl) (fun k hk => by cases hk) (by kernel_rfl) (fnExactFormatFile_laid os))) ?_
 intro W base args ds gs before hval hW _ _ _ hL _ _
 refine nI (P := Tryd.prog) uI a2E nJ (f := 4) rfl (fun dd h => ?_) rfl Tryd.underlying4 (by kernel_rfl) (fun dss h => ?_) (mG hL) hval hW
 ·match dd, h with
  | [d0], _ => rfl
 ·match dss, h with
  | [d0], ⟨⟨n0, e0⟩, _⟩ =>
   obtain ⟨x0, rfl, h0⟩ := a0V e0
   exact oK x0 h0
theorem fnExactFormatFile_said : Rows.FnExactFormatFileSaid :=
 OpenClaim.holds_of_cond 4 Tryd.f4 rfl rfl rfl rfl rfl rfl rfl ⟨rfl, rfl, rfl, rfl, rfl⟩ rfl rfl rfl rfl rfl (by kernel_rfl) Tryd.func4 (by kernel_rfl)
  (of_decide_eq_true (by kernel_rfl)) (by unfold Func.isWrapper; first | (rw [if_pos (by decide +kernel)]; kernel_rfl) | (rw [if_neg (by decide +kernel)]; exact ⟨rfl, rfl⟩))
  (fun os started H enc _ F => by rw [OpenClaim.pre_eq_preRow]; exact fnExactFormatFile_lifted os started H enc F)
theorem fnExactFormatFile_plain (f : FuncId) (fn : Func) (hf : Tryd.pinned.checked.prog.funcNamed "loop.example/g00976/laws.FnExactFormatFile" = some f) (hfn : Tryd.pinned.checked.prog.funcs[f]? = some fn) :
    false = Tryd.pinned.checked.prog.looks [] ∧ ∀ (j : Nat) t, fn.params[j]? = some t → Tryd.pinned.checked.prog.wantsStandIn t = false := by
 obtain rfl : f = 4 := Option.some.inj ((show Tryd.prog.funcNamed "loop.example/g00976/laws.FnExactFormatFile" = some 4 by kernel_rfl).symm.trans hf) |>.symm
 obtain rfl : fn = Tryd.f4 := (Option.some.inj (Tryd.func4.symm.trans hfn)).symm
 refine ⟨by kernel_rfl, fun j t ht => ?_⟩
 have h := List.all_eq_true.1 (show Tryd.f4.params.toList.all (fun t => !Tryd.prog.wantsStandIn t) = true by kernel_rfl) t (List.mem_of_getElem? (i := j) (by simpa using ht))
 have h2 : Tryd.prog.wantsStandIn t = false := by simpa using h
 exact h2
theorem fnExactFormatFileCard_holds : Rows.FnExactFormatFileCardSaid :=
 Claim7.holds_tied_plain_at .later [] _ _ _ _ fnExactFormatFile_said (fun _ h => by cases h) (by kernel_rfl) (fun _ h => by cases h) fnExactFormatFile_row_tie rfl ⟨rfl, rfl⟩ (by kernel_rfl) rfl fnExactFormatFile_plain (by kernel_rfl)
#print axioms fnExactFormatFileCard_holds
end Go.Proofs.YtgfngchfmohhbaaDoor
