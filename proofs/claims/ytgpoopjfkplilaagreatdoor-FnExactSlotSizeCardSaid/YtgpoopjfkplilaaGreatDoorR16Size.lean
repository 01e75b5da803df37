/- Proved: the card of the law FnExactSlotSize: for every input, in every world in which the nine listed variables of the library lie as its text lays them, laws.FnExactSlotSize returns true and leaves its arguments as they were; the list is tied to the program's text. Conditions: the row's own ('laid'). -/
import Derived.Test.YtgpoopjfkplilaaGreatDoorZ16
import Derived.Test.YtgpoopjfkplilaaGreatDoorZ21
set_option linter.all false
namespace Go.Proofs.YtgpoopjfkplilaaGreatDoor
open Go Go.Sx Go.ChangeShapes Go.WideShapes Go.ChangeAt Go.RowKit
set_option maxRecDepth 100000 in
theorem fnExactSlotSize_laid (os : Os) : laidMet Tryz.prog Rows.fnExactSlotSizeRow.laid ((iQ os).forCall (fun _ _ => 0) ⟨#[], #[.agg #[.string ⟨#[]⟩, .string ⟨#[]⟩], .agg #[.slice none 0 0, .slice none 0 0, .int .i64 0, .slice none 0 0]], []⟩).memory :=
 a0l os #[.agg #[.string ⟨#[]⟩, .string ⟨#[]⟩], .agg #[.slice none 0 0, .slice none 0 0, .int .i64 0, .slice none 0 0]]
theorem fnExactSlotSize_reads (os : Os) {H : Type} (enc : TypeId × Value → H) : ∃ places, DataW.whole enc Tryz.prog ((iQ os).forCall (fun _ _ => 0) ⟨#[], #[.agg #[.string ⟨#[]⟩, .string ⟨#[]⟩], .agg #[.slice none 0 0, .slice none 0 0, .int .i64 0, .slice none 0 0]], []⟩).memory Tryz.f4.params.toList Rows.fnExactSlotSizeSpec.vars false (#[.agg #[.string ⟨#[]⟩, .string ⟨#[]⟩], .agg #[.slice none 0 0, .slice none 0 0, .int .i64 0, .slice none 0 0]] : Array Value).toList 8 = some ([.agg [.lit (.string []), .lit (.string [])], .agg [.agg [.nil, .nil, .lit (.int .i64 0)], .nil]], [], places) :=
 ⟨[], by kernel_rfl⟩
set_option maxRecDepth 100000 in
theorem fnExactSlotSize_lifted (os : Os) (started : os.Started) (H : Type) (enc : TypeId × Value → H) (F : Stop.Interp) :
    ReturnsInHanded {} Tryz.checked os 4 .any ((OpenSpec.ofChange Rows.fnExactSlotSizeSpec).preRow enc Tryz.prog Tryz.f4 Rows.fnExactSlotSizeRow.domain false Rows.fnExactSlotSizeRow.laid) (((OpenSpec.ofChange Rows.fnExactSlotSizeSpec).at F).post enc Tryz.prog Tryz.f4 false true false false) := by
 obtain ⟨places, hx⟩ := fnExactSlotSize_reads os enc
 refine returnsInHanded_of_row (C := Tryz.checked) (s := OpenSpec.ofChange Rows.fnExactSlotSizeSpec) own started (by kernel_rfl) Tryz.func4
  (witness_row_atRef (enc := enc) (C := Tryz.checked) false (iQ os) #[.agg #[.string ⟨#[]⟩, .string ⟨#[]⟩], .agg #[.slice none 0 0, .slice none 0 0, .int .i64 0, .slice none 0 0]] rfl (by kernel_rfl) (by kernel_rfl) (by kernel_rfl)
   (OpenSpec.preRow_of_cond 8 hx (by kernel_rfl) (fun k hk => by cases hk) (by kernel_rfl) (fnExactSlotSize_laid os))) ?_
 intro W base args ds gs before hval hW _ _ _ hL hS _
 refine a5Y (P := Tryz.prog) a2h b6E a5Z (f := 4) rfl (fun dd h => ?_) rfl Tryz.underlying4 (by kernel_rfl) (fun dss h => ?_) (a5j hL hS) hval hW
 ·match dd, h with
  | [d0, d1], _ => rfl
 ·match dss, h with
  | [d0, d1], ⟨⟨n0, e0⟩, ⟨n1, e1⟩, _⟩ =>
   obtain ⟨x0, rfl, h0⟩ := b0p e0
   obtain ⟨x1, rfl, h1⟩ := a7q e1
   exact a9N x0 x1 h0 h1
theorem fnExactSlotSize_and8 {a b c d e f g h : Bool} (ha : a = true) (hb : b = true) (hc : c = true) (hd : d = true) (he : e = true) (hf : f = true) (hg : g = true) (hh : h = true) : (a && b && c && d && e && f && g && h) = true := by simp [ha, hb, hc, hd, he, hf, hg, hh]
theorem fnExactSlotSize_enter : Tryz.prog.mayEnter = true := by kernel_rfl
theorem fnExactSlotSize_lifts : (Rows.fnExactSlotSizeRow.lifted == Tryz.prog.liftsFinal) = true := by kernel_rfl
theorem fnExactSlotSize_make : (Tryz.prog.make == some Rows.fnExactSlotSizeRow.make) = true := by kernel_rfl
theorem fnExactSlotSize_joined : joinedFacts Tryz.prog 4 Tryz.f4 (OpenSpec.ofChange Rows.fnExactSlotSizeSpec).bare Rows.fnExactSlotSizeRow = true := by
 refine fnExactSlotSize_and8 ?_ ?_ ?_ ?_ ?_ ?_ ?_ ?_
 ·kernel_rfl
 ·exact fnExactSlotSize_enter
 ·exact fnExactSlotSize_lifts
 ·exact fnExactSlotSize_make
 ·kernel_rfl
 ·kernel_rfl
 ·kernel_rfl
 ·kernel_rfl
set_option maxRecDepth 100000 in
theorem fnExactSlotSize_said : Rows.FnExactSlotSizeSaid :=
 OpenClaim.holds_of_cond 4 Tryz.f4 rfl rfl rfl rfl rfl rfl rfl ⟨rfl, rfl, rfl, rfl, rfl⟩ rfl rfl rfl rfl rfl (by kernel_rfl) Tryz.func4 fnExactSlotSize_joined
  (of_decide_eq_true (by kernel_rfl)) (by unfold Func.isWrapper; first | (rw [if_pos (by decide +kernel)]; kernel_rfl) | (rw [if_neg (by decide +kernel)]; exact ⟨rfl, rfl⟩))
  (fun os started H enc _ F => by rw [OpenClaim.pre_eq_preRow]; exact fnExactSlotSize_lifted os started H enc F)
theorem fnExactSlotSize_plain (f : FuncId) (fn : Func) (hf : Tryz.pinned.checked.prog.funcNamed "loop.example/g00976/laws.FnExactSlotSize" = some f) (hfn : Tryz.pinned.checked.prog.funcs[f]? = some fn) :
    true = Tryz.pinned.checked.prog.looks [] ∧ ∀ (j : Nat) t, fn.params[j]? = some t → Tryz.pinned.checked.prog.wantsStandIn t = false := by
 obtain rfl : f = 4 := Option.some.inj ((show Tryz.prog.funcNamed "loop.example/g00976/laws.FnExactSlotSize" = some 4 by kernel_rfl).symm.trans hf) |>.symm
 obtain rfl : fn = Tryz.f4 := (Option.some.inj (Tryz.func4.symm.trans hfn)).symm
 refine ⟨by kernel_rfl, fun j t ht => ?_⟩
 have h := List.all_eq_true.1 (show Tryz.f4.params.toList.all (fun t => !Tryz.prog.wantsStandIn t) = true by kernel_rfl) t (List.mem_of_getElem? (i := j) (by simpa using ht))
 have h2 : Tryz.prog.wantsStandIn t = false := by simpa using h
 exact h2
theorem fnExactSlotSizeCard_holds : Rows.FnExactSlotSizeCardSaid :=
 Claim7.holds_tied_plain_at .later [] _ _ _ _ fnExactSlotSize_said (fun _ h => by cases h) (by kernel_rfl) (fun _ h => by cases h) fnExactSlotSize_row_tie rfl ⟨rfl, rfl⟩ (by kernel_rfl) rfl fnExactSlotSize_plain (by kernel_rfl)
#print axioms fnExactSlotSizeCard_holds
end Go.Proofs.YtgpoopjfkplilaaGreatDoor
