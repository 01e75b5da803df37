/- Proved: the card of the law FnGroupNames: for every input, in every world in which the three listed tables of the library lie as its text lays them, laws.FnGroupNames returns true and leaves its argument as it was; the list is tied to the program's text. Conditions: the row's own ('laid'). -/
import Derived.Test.YtakopfjdmmnjcaaDoorZ07
import Derived.Test.YtakopfjdmmnjcaaDoorZ12
set_option linter.all false
namespace Go.Proofs.YtakopfjdmmnjcaaDoor
open Go Go.Sx Go.ChangeShapes Go.WideShapes Go.ChangeAt Go.RowKit
set_option maxRecDepth 100000 in
theorem qF (os : Os) : laidMet Tryd.prog Rows.fnGroupNamesRow.laid ((sG os).forCall (fun _ _ => 0) ⟨#[], #[.slice none 0 0], []⟩).memory :=
 laidMet_of_run' 8 (by kernel_rfl) (by kernel_rfl)
theorem oZ (os : Os) {H : Type} (enc : TypeId × Value → H) : ∃ places, DataW.whole enc Tryd.prog ((sG os).forCall (fun _ _ => 0) ⟨#[], #[.slice none 0 0], []⟩).memory Tryd.f3.params.toList Rows.fnGroupNamesSpec.vars false (#[.slice none 0 0] : Array Value).toList 8 = some ([.nil], [], places) :=
 ⟨[], by kernel_rfl⟩
set_option maxRecDepth 100000 in
theorem oC (os : Os) (started : os.Started) (H : Type) (enc : TypeId × Value → H) (F : Stop.Interp) :
    ReturnsInHanded {} Tryd.checked os 3 .any ((OpenSpec.ofChange Rows.fnGroupNamesSpec).preRow enc Tryd.prog Tryd.f3 Rows.fnGroupNamesRow.domain false Rows.fnGroupNamesRow.laid) (((OpenSpec.ofChange Rows.fnGroupNamesSpec).at F).post enc Tryd.prog Tryd.f3 false true false false) := by
 obtain ⟨places, hx⟩ := oZ os enc
 refine returnsInHanded_of_row (C := Tryd.checked) (s := OpenSpec.ofChange Rows.fnGroupNamesSpec) own started (by kernel_rfl) Tryd.func3
  (witness_row_at (enc := enc) (C := Tryd.checked) false (sG os) #[.slice none 0 0] rfl (by kernel_rfl) (by kernel_rfl) (by kernel_rfl)
   (OpenSpec.preRow_of_cond 8 hx (by kernel_rfl) (fun k hk => by cases hk) (by kernel_rfl) (qF os))) ?_
 intro W base args ds gs before hval hW _ _ _ hL _ _
 refine a6L (P := Tryd.prog) ttOK b0A a6M (f := 3) rfl (fun dd h => ?_) rfl Tryd.underlying4 (by kernel_rfl) (fun dss h => ?_) (a5X hL) hval hW
 ·match dd, h with
  | [d0], _ => rfl
 ·match dss, h with
  | [d0], ⟨⟨n0, h0⟩, _⟩ =>
   obtain ⟨l, rfl, hf⟩ := a9s h0
   exact a1o l hf
theorem qG {a b c d e f g h : Bool} (ha : a = true) (hb : b = true) (hc : c = true) (hd : d = true) (he : e = true) (hf : f = true) (hg : g = true) (hh : h = true) : (a && b && c && d && e && f && g && h) = true := by simp [ha, hb, hc, hd, he, hf, hg, hh]
theorem pE : Tryd.prog.mayEnter = true := by kernel_rfl
theorem pF : (Rows.fnGroupNamesRow.lifted == Tryd.prog.liftsFinal) = true := by kernel_rfl
theorem qI : (Tryd.prog.make == some Rows.fnGroupNamesRow.make) = true := by kernel_rfl
theorem oD : joinedFacts Tryd.prog 3 Tryd.f3 (OpenSpec.ofChange Rows.fnGroupNamesSpec).bare Rows.fnGroupNamesRow = true := by
 refine qG ?_ ?_ ?_ ?_ ?_ ?_ ?_ ?_
 ·kernel_rfl
 ·exact pE
 ·exact pF
 ·exact qI
 ·kernel_rfl
 ·kernel_rfl
 ·kernel_rfl
 ·kernel_rfl
set_option maxRecDepth 100000 in
theorem qJ : Rows.FnGroupNamesSaid :=
 OpenClaim.holds_of_cond 3 Tryd.f3 rfl rfl rfl rfl rfl rfl rfl ⟨rfl, rfl, rfl, rfl, rfl⟩ rfl rfl rfl rfl rfl (by kernel_rfl) Tryd.func3 oD
  (of_decide_eq_true (by kernel_rfl)) (by unfold Func.isWrapper; first | (rw [if_pos (by decide +kernel)]; kernel_rfl) | (rw [if_neg (by decide +kernel)]; exact ⟨rfl, rfl⟩))
  (fun os started H enc _ F => by rw [OpenClaim.pre_eq_preRow]; exact oC os started H enc F)
theorem pG (f : FuncId) (fn : Func) (hf : Tryd.pinned.checked.prog.funcNamed "loop.example/g00976/laws.FnGroupNames" = some f) (hfn : Tryd.pinned.checked.prog.funcs[f]? = some fn) :
    false = Tryd.pinned.checked.prog.looks [] ∧ ∀ (j : Nat) t, fn.params[j]? = some t → Tryd.pinned.checked.prog.wantsStandIn t = false := by
 obtain rfl : f = 3 := Option.some.inj ((show Tryd.prog.funcNamed "loop.example/g00976/laws.FnGroupNames" = some 3 by kernel_rfl).symm.trans hf) |>.symm
 obtain rfl : fn = Tryd.f3 := (Option.some.inj (Tryd.func3.symm.trans hfn)).symm
 refine ⟨by kernel_rfl, fun j t ht => ?_⟩
 have h := List.all_eq_true.1 (show Tryd.f3.params.toList.all (fun t => !Tryd.prog.wantsStandIn t) = true by kernel_rfl) t (List.mem_of_getElem? (i := j) (by simpa using ht))
 have h2 : Tryd.prog.wantsStandIn t = false := by simpa using h
 exact h2
theorem fnGroupNamesCard_holds : Rows.FnGroupNamesCardSaid :=
 Claim7.holds_tied_plain_at .later [] _ _ _ _ qJ (fun _ h => by cases h) (by kernel_rfl) (fun _ h => by cases h) fnGroupNames_row_tie rfl ⟨rfl, rfl⟩ (by kernel_rfl) rfl pG (by kernel_rfl)
#print axioms fnGroupNamesCard_holds
end Go.Proofs.YtakopfjdmmnjcaaDoor
