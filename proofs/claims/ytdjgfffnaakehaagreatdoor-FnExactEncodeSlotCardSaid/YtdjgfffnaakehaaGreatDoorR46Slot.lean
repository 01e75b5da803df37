/- Proved: the card of the law FnExactEncodeSlot: for every input, in every world in which the three listed tables of the library lie as its text lays them, laws.FnExactEncodeSlot returns true and leaves its arguments as they were; the list is tied to the program's text. Conditions: the row's own ('laid'). -/
import Derived.Test.YtdjgfffnaakehaaGreatDoorZ08
import Derived.Test.YtdjgfffnaakehaaGreatDoorZ15
set_option linter.all false
namespace Go.Proofs.YtdjgfffnaakehaaGreatDoor
open Go Go.Sx Go.ChangeShapes Go.WideShapes Go.ChangeAt Go.RowKit
set_option maxRecDepth 100000 in
theorem fnExactEncodeSlot_laid (os : Os) : laidMet Tryz.prog Rows.fnExactEncodeSlotRow.laid ((kG os).forCall (fun _ _ => 0) ⟨#[], #[.int .i64 0, .agg #[.slice none 0 0, .slice none 0 0, .int .i64 0, .slice none 0 0]], []⟩).memory :=
 laidMet_of_run' 8 (by kernel_rfl) (by kernel_rfl)
theorem fnExactEncodeSlot_reads (os : Os) {H : Type} (enc : TypeId × Value → H) : ∃ places, DataW.whole enc Tryz.prog ((kG os).forCall (fun _ _ => 0) ⟨#[], #[.int .i64 0, .agg #[.slice none 0 0, .slice none 0 0, .int .i64 0, .slice none 0 0]], []⟩).memory Tryz.f3.params.toList Rows.fnExactEncodeSlotSpec.vars false (#[.int .i64 0, .agg #[.slice none 0 0, .slice none 0 0, .int .i64 0, .slice none 0 0]] : Array Value).toList 8 = some ([.lit (.int .i64 0), .agg [.agg [.nil, .nil, .lit (.int .i64 0)], .nil]], [], places) :=
 ⟨[], by kernel_rfl⟩
set_option maxRecDepth 100000 in
theorem fnExactEncodeSlot_lifted (os : Os) (started : os.Started) (H : Type) (enc : TypeId × Value → H) (F : Stop.Interp) :
    ReturnsInHanded {} Tryz.checked os 3 .any ((OpenSpec.ofChange Rows.fnExactEncodeSlotSpec).preRow enc Tryz.prog Tryz.f3 Rows.fnExactEncodeSlotRow.domain false Rows.fnExactEncodeSlotRow.laid) (((OpenSpec.ofChange Rows.fnExactEncodeSlotSpec).at F).post enc Tryz.prog Tryz.f3 false true false false) := by
 obtain ⟨places, hx⟩ := fnExactEncodeSlot_reads os enc
 refine returnsInHanded_of_row (C := Tryz.checked) (s := OpenSpec.ofChange Rows.fnExactEncodeSlotSpec) own started (by kernel_rfl) Tryz.func3
  (witness_row_at (enc := enc) (C := Tryz.checked) false (kG os) #[.int .i64 0, .agg #[.slice none 0 0, .slice none 0 0, .int .i64 0, .slice none 0 0]] rfl (by kernel_rfl) (by kernel_rfl) (by kernel_rfl)
   (OpenSpec.preRow_of_cond 8 hx (by kernel_rfl) (fun k hk => by cases hk) (by kernel_rfl) (fnExactEncodeSlot_laid os))) ?_
 intro W base args ds gs before hval hW _ _ _ hL _ _
 refine a4M (P := Tryz.prog) a1W b0f a4N (f := 3) rfl (fun dd h => ?_) rfl Tryz.underlying4 (by kernel_rfl) (fun dss h => ?_) (a4x hL) hval hW
 ·match dd, h with
  | [d0, d1], _ => rfl
 ·match dss, h with
  | [d0, d1], ⟨⟨n0, e0⟩, ⟨n1, e1⟩, _⟩ =>
   obtain ⟨x0, rfl, h0⟩ := yU e0
   obtain ⟨x1, rfl, h1⟩ := wF e1
   exact a4w x0 x1 h0 h1
theorem fnExactEncodeSlot_and8 {a b c d e f g h : Bool} (ha : a = true) (hb : b = true) (hc : c = true) (hd : d = true) (he : e = true) (hf : f = true) (hg : g = true) (hh : h = true) : (a && b && c && d && e && f && g && h) = true := by simp [ha, hb, hc, hd, he, hf, hg, hh]
theorem fnExactEncodeSlot_enter : Tryz.prog.mayEnter = true := by kernel_rfl
theorem fnExactEncodeSlot_lifts : (Rows.fnExactEncodeSlotRow.lifted == Tryz.prog.liftsFinal) = true := by kernel_rfl
theorem fnExactEncodeSlot_make : (Tryz.prog.make == some Rows.fnExactEncodeSlotRow.make) = true := by kernel_rfl
theorem fnExactEncodeSlot_joined : joinedFacts Tryz.prog 3 Tryz.f3 (OpenSpec.ofChange Rows.fnExactEncodeSlotSpec).bare Rows.fnExactEncodeSlotRow = true := by
 refine fnExactEncodeSlot_and8 ?_ ?_ ?_ ?_ ?_ ?_ ?_ ?_
 ·kernel_rfl
 ·exact fnExactEncodeSlot_enter
 ·exact fnExactEncodeSlot_lifts
 ·exact fnExactEncodeSlot_make
 ·kernel_rfl
 ·kernel_rfl
 ·kernel_rfl
 ·kernel_rfl
set_option maxRecDepth 100000 in
theorem fnExactEncodeSlot_said : Rows.FnExactEncodeSlotSaid :=
 OpenClaim.holds_of_cond 3 Tryz.f3 rfl rfl rfl rfl rfl rfl rfl ⟨rfl, rfl, rfl, rfl, rfl⟩ rfl rfl rfl rfl rfl (by kernel_rfl) Tryz.func3 fnExactEncodeSlot_joined
  (of_decide_eq_true (by kernel_rfl)) (by unfold Func.isWrapper; first | (rw [if_pos (by decide +kernel)]; kernel_rfl) | (rw [if_neg (by decide +kernel)]; exact ⟨rfl, rfl⟩))
  (fun os started H enc _ F => by rw [OpenClaim.pre_eq_preRow]; exact fnExactEncodeSlot_lifted os started H enc F)
theorem fnExactEncodeSlot_plain (f : FuncId) (fn : Func) (hf : Tryz.pinned.checked.prog.funcNamed "loop.example/g00976/laws.FnExactEncodeSlot" = some f) (hfn : Tryz.pinned.checked.prog.funcs[f]? = some fn) :
    false = Tryz.pinned.checked.prog.looks [] ∧ ∀ (j : Nat) t, fn.params[j]? = some t → Tryz.pinned.checked.prog.wantsStandIn t = false := by
 obtain rfl : f = 3 := Option.some.inj ((show Tryz.prog.funcNamed "loop.example/g00976/laws.FnExactEncodeSlot" = some 3 by kernel_rfl).symm.trans hf) |>.symm
 obtain rfl : fn = Tryz.f3 := (Option.some.inj (Tryz.func3.symm.trans hfn)).symm
 refine ⟨by kernel_rfl, fun j t ht => ?_⟩
 have h := List.all_eq_true.1 (show Tryz.f3.params.toList.all (fun t => !Tryz.prog.wantsStandIn t) = true by kernel_rfl) t (List.mem_of_getElem? (i := j) (by simpa using ht))
 have h2 : Tryz.prog.wantsStandIn t = false := by simpa using h
 exact h2
theorem fnExactEncodeSlotCard_holds : Rows.FnExactEncodeSlotCardSaid :=
 Claim7.holds_tied_plain_at .later [] _ _ _ _ fnExactEncodeSlot_said (fun _ h => by cases h) (by kernel_rfl) (fun _ h => by cases h) fnExactEncodeSlot_row_tie rfl ⟨rfl, rfl⟩ (by kernel_rfl) rfl fnExactEncodeSlot_plain (by kernel_rfl)
#print axioms fnExactEncodeSlotCard_holds
end Go.Proofs.YtdjgfffnaakehaaGreatDoor
