/- Proved: the card of the law FnExactDecodeSlot: for every input, in every world in which the nine listed variables of the library lie as its text lays them, laws.FnExactDecodeSlot returns true and leaves its argument as it was; the list is tied to the program's text. Conditions: the row's own ('laid'). -/
import Derived.Test.YtgpoopjfkplilaaGreatDoorZ16
import Derived.Test.YtgpoopjfkplilaaGreatDoorZ20
set_option linter.all false
namespace Go.Proofs.YtgpoopjfkplilaaGreatDoor
open Go Go.Sx Go.ChangeShapes Go.WideShapes Go.ChangeAt Go.RowKit
set_option maxRecDepth 100000 in
theorem fnExactDecodeSlot_laid (os : Os) : laidMet Tryz.prog Rows.fnExactDecodeSlotRow.laid ((iQ os).forCall (fun _ _ => 0) ⟨#[], #[.string ⟨#[]⟩], []⟩).memory :=
 a0l os #[.string ⟨#[]⟩]
theorem fnExactDecodeSlot_reads (os : Os) {H : Type} (enc : TypeId × Value → H) : ∃ places, DataW.whole enc Tryz.prog ((iQ os).forCall (fun _ _ => 0) ⟨#[], #[.string ⟨#[]⟩], []⟩).memory Tryz.f7.params.toList Rows.fnExactDecodeSlotSpec.vars false (#[.string ⟨#[]⟩] : Array Value).toList 8 = some ([.lit (.string [])], [], places) :=
 ⟨[], by kernel_rfl⟩
set_option maxRecDepth 100000 in
theorem fnExactDecodeSlot_lifted (os : Os) (started : os.Started) (H : Type) (enc : TypeId × Value → H) (F : Stop.Interp) :
    ReturnsInHanded {} Tryz.checked os 7 .any ((OpenSpec.ofChange Rows.fnExactDecodeSlotSpec).preRow enc Tryz.prog Tryz.f7 Rows.fnExactDecodeSlotRow.domain false Rows.fnExactDecodeSlotRow.laid) (((OpenSpec.ofChange Rows.fnExactDecodeSlotSpec).at F).post enc Tryz.prog Tryz.f7 false true false false) := by
 obtain ⟨places, hx⟩ := fnExactDecodeSlot_reads os enc
 refine returnsInHanded_of_row (C := Tryz.checked) (s := OpenSpec.ofChange Rows.fnExactDecodeSlotSpec) own started (by kernel_rfl) Tryz.func7
  (witness_row_atRef (enc := enc) (C := Tryz.checked) false (iQ os) #[.string ⟨#[]⟩] rfl (by kernel_rfl) (by kernel_rfl) (by kernel_rfl)
   (OpenSpec.preRow_of_cond 8 hx (by kernel_rfl) (fun k hk => by cases hk) (by kernel_rfl) (fnExactDecodeSlot_laid os))) ?_
 intro W base args ds gs before hval hW _ _ _ hL hS _
 refine a5Y (P := Tryz.prog) a2h b6E a5Z (f := 7) rfl (fun dd h => ?_) rfl Tryz.underlying4 (by kernel_rfl) (fun dss h => ?_) (a5j hL hS) hval hW
 ·match dd, h with
  | [d0], _ => rfl
 ·match dss, h with
  | [d], ⟨⟨n, hd⟩, _⟩ =>
   obtain ⟨x, rfl, hx⟩ := a7r hd
   exact a3M x hx
theorem fnExactDecodeSlot_and8 {a b c d e f g h : Bool} (ha : a = true) (hb : b = true) (hc : c = true) (hd : d = true) (he : e = true) (hf : f = true) (hg : g = true) (hh : h = true) : (a && b && c && d && e && f && g && h) = true := by simp [ha, hb, hc, hd, he, hf, hg, hh]
theorem fnExactDecodeSlot_enter : Tryz.prog.mayEnter = true := by kernel_rfl
theorem fnExactDecodeSlot_lifts : (Rows.fnExactDecodeSlotRow.lifted == Tryz.prog.liftsFinal) = true := by kernel_rfl
theorem fnExactDecodeSlot_make : (Tryz.prog.make == some Rows.fnExactDecodeSlotRow.make) = true := by kernel_rfl
theorem fnExactDecodeSlot_joined : joinedFacts Tryz.prog 7 Tryz.f7 (OpenSpec.ofChange Rows.fnExactDecodeSlotSpec).bare Rows.fnExactDecodeSlotRow = true := by
 refine fnExactDecodeSlot_and8 ?_ ?_ ?_ ?_ ?_ ?_ ?_ ?_
 ·kernel_rfl
 ·exact fnExactDecodeSlot_enter
 ·exact fnExactDecodeSlot_lifts
 ·exact fnExactDecodeSlot_make
 ·kernel_rfl
 ·kernel_rfl
 ·kernel_rfl
 ·kernel_rfl
set_option maxRecDepth 100000 in
theorem fnExactDecodeSlot_said : Rows.FnExactDecodeSlotSaid :=
 OpenClaim.holds_of_cond 7 Tryz.f7 rfl rfl rfl rfl rfl rfl rfl ⟨rfl, rfl, rfl, rfl, rfl⟩ rfl rfl rfl rfl rfl (by kernel_rfl) Tryz.func7 fnExactDecodeSlot_joined
  (of_decide_eq_true (by kernel_rfl)) (by unfold Func.isWrapper; first | (rw [if_pos (by decide +kernel)]; kernel_rfl) | (rw [if_neg (by decide +kernel)]; exact ⟨rfl, rfl⟩))
  (fun os started H enc _ F => by rw [OpenClaim.pre_eq_preRow]; exact fnExactDecodeSlot_lifted os started H enc F)
theorem fnExactDecodeSlot_plain (f : FuncId) (fn : Func) (hf : Tryz.pinned.checked.prog.funcNamed "loop.example/g00976/laws.FnExactDecodeSlot" = some f) (hfn : Tryz.pinned.checked.prog.funcs[f]? = some fn) :
    true = Tryz.pinned.checked.prog.looks [] ∧ ∀ (j : Nat) t, fn.params[j]? = some t → Tryz.pinned.checked.prog.wantsStandIn t = false := by
 obtain rfl : f = 7 := Option.some.inj ((show Tryz.prog.funcNamed "loop.example/g00976/laws.FnExactDecodeSlot" = some 7 by kernel_rfl).symm.trans hf) |>.symm
 obtain rfl : fn = Tryz.f7 := (Option.some.inj (Tryz.func7.symm.trans hfn)).symm
 refine ⟨by kernel_rfl, fun j t ht => ?_⟩
 have h := List.all_eq_true.1 (show Tryz.f7.params.toList.all (fun t => !Tryz.prog.wantsStandIn t) = true by kernel_rfl) t (List.mem_of_getElem? (i := j) (by simpa using ht))
 have h2 : Tryz.prog.wantsStandIn t = false := by simpa using h
 exact h2
theorem fnExactDecodeSlotCard_holds : Rows.FnExactDecodeSlotCardSaid :=
 Claim7.holds_tied_plain_at .later [] _ _ _ _ fnExactDecodeSlot_said (fun _ h => by cases h) (by kernel_rfl) (fun _ h => by cases h) fnExactDecodeSlot_row_tie rfl ⟨rfl, rfl⟩ (by kernel_rfl) rfl fnExactDecodeSlot_plain (by kernel_rfl)
#print axioms fnExactDecodeSlotCard_holds
end Go.Proofs.YtgpoopjfkplilaaGreatDoor
