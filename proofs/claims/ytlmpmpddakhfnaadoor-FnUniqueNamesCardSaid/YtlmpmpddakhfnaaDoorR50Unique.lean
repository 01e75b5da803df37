/- Proved: the card of the law FnUniqueNames: for every input, in every world in which the three listed tables of the library lie as its text lays them, laws.FnUniqueNames returns true and leaves its argument as it was; the list is tied to the program's text. Conditions: the row's own ('laid'). -/
import Derived.Test.YtlmpmpddakhfnaaDoorZ07
import Derived.Test.YtlmpmpddakhfnaaDoorZ12
set_option linter.all false
namespace Go.Proofs.YtlmpmpddakhfnaaDoor
open Go Go.Sx Go.ChangeShapes Go.WideShapes Go.ChangeAt Go.RowKit
set_option maxRecDepth 100000 in
theorem nT (os : Os) : laidMet Tryd.prog Rows.fnUniqueNamesRow.laid ((qR os).forCall (fun _ _ => 0) ⟨#[], #[.slice none 0 0], []⟩).memory :=
 laidMet_of_run' 8 (by kernel_rfl) (by kernel_rfl)
theorem nH (os : Os) {H : Type} (enc : TypeId × Value → H) : ∃ places, DataW.whole enc Tryd.prog ((qR os).forCall (fun _ _ => 0) ⟨#[], #[.slice none 0 0], []⟩).memory Tryd.f4.params.toList Rows.fnUniqueNamesSpec.vars false (#[.slice none 0 0] : Array Value).toList 8 = some ([.nil], [], places) :=
 ⟨[], by kernel_rfl⟩
set_option maxRecDepth 100000 in
theorem lT (os : Os) (started : os.Started) (H : Type) (enc : TypeId × Value → H) (F : Stop.Interp) :
    ReturnsInHanded {} Tryd.checked os 4 .any ((OpenSpec.ofChange Rows.fnUniqueNamesSpec).preRow enc Tryd.prog Tryd.f4 Rows.fnUniqueNamesRow.domain false Rows.fnUniqueNamesRow.laid) (((OpenSpec.ofChange Rows.fnUniqueNamesSpec).at F).post enc Tryd.prog Tryd.f4 false true false false) := by
 obtain ⟨places, hx⟩ := nH os enc
 refine returnsInHanded_of_row (C := Tryd.checked) (s := OpenSpec.ofChange Rows.fnUniqueNamesSpec) own started (by kernel_rfl) Tryd.func4
  (witness_row_at (enc := enc) (C := Tryd.checked) false (qR os) #[.slice none 0 0] rfl (by kernel_rfl) (by kernel_rfl) (by kernel_rfl)
   (OpenSpec.preRow_of_cond 8 hx (by kernel_rfl) (fun k hk => by cases hk) (by kernel_rfl) (nT os))) ?_
 intro W base args ds gs before hval hW _ _ _ hL _ _
 refine a5q (P := Tryd.prog) tX a8Z a5r (f := 4) rfl (fun dd h => ?_) rfl Tryd.underlying4 (by kernel_rfl) (fun dss h => ?_) (a4D hL) hval hW
 ·match dd, h with
  | [d0], _ => rfl
 ·match dss, h with
  | [d0], ⟨⟨n0, h0⟩, _⟩ =>
   obtain ⟨l, rfl, hf⟩ := a7S h0
   exact yU l hf
theorem nU {a b c d e f g h : Bool} (ha : a = true) (hb : b = true) (hc : c = true) (hd : d = true) (he : e = true) (hf : f = true) (hg : g = true) (hh : h = true) : (a && b && c && d && e && f && g && h) = true := by simp [ha, hb, hc, hd, he, hf, hg, hh]
theorem nI : Tryd.prog.mayEnter = true := by kernel_rfl
theorem nJ : (Rows.fnUniqueNamesRow.lifted == Tryd.prog.liftsFinal) = true := by kernel_rfl
theorem nV : (Tryd.prog.make == some Rows.fnUniqueNamesRow.make) = true := by kernel_rfl
theorem lU : joinedFacts Tryd.prog 4 Tryd.f4 (OpenSpec.ofChange Rows.fnUniqueNamesSpec).bare Rows.fnUniqueNamesRow = true := by
 refine nU ?_ ?_ ?_ ?_ ?_ ?_ ?_ ?_
 ·kernel_rfl
 ·exact nI
 ·exact nJ
 ·exact nV
 ·kernel_rfl
 ·kernel_rfl
 ·kernel_rfl
 ·kernel_rfl
set_option maxRecDepth 100000 in
theorem nW : Rows.FnUniqueNamesSaid :=
 OpenClaim.holds_of_cond 4 Tryd.f4 rfl rfl rfl rfl rfl rfl rfl ⟨rfl, rfl, rfl, rfl, rfl⟩ rfl rfl rfl rfl rfl (by kernel_rfl) Tryd.func4 lU
  (of_decide_eq_true (by kernel_rfl)) (by unfold Func.isWrapper; first | (rw [if_pos (by decide +kernel)]; kernel_rfl) | (rw [if_neg (by decide +kernel)]; exact ⟨rfl, rfl⟩))
  (fun os started H enc _ F => by rw [OpenClaim.pre_eq_preRow]; exact lT os started H enc F)
theorem nK (f : FuncId) (fn : Func) (hf : Tryd.pinned.checked.prog.funcNamed "loop.example/g00976/laws.FnUniqueNames" = some f) (hfn : Tryd.pinned.checked.prog.funcs[f]? = some fn) :
    false = Tryd.pinned.checked.prog.looks [] ∧ ∀ (j : Nat) t, fn.params[j]? = some t → Tryd.pinned.checked.prog.wantsStandIn t = false := by
 obtain rfl : f = 4 := Option.some.inj ((show Tryd.prog.funcNamed "loop.example/g00976/laws.FnUniqueNames" = some 4 by kernel_rfl).symm.trans hf) |>.symm
 obtain rfl : fn = Tryd.f4 := (Option.some.inj (Tryd.func4.symm.trans hfn)).symm
 refine ⟨by kernel_rfl, fun j t ht => ?_⟩
 have h := List.all_eq_true.1 (show Tryd.f4.params.toList.all (fun t => !Tryd.prog.wantsStandIn t) = true by kernel_rfl) t (List.mem_of_getElem? (i := j) (by simpa using ht))
 have h2 : Tryd.prog.wantsStandIn t = false := by simpa using h
 exact h2
theorem fnUniqueNamesCard_holds : Rows.FnUniqueNamesCardSaid :=
 Claim7.holds_tied_plain_at .later [] _ _ _ _ nW (fun _ h => by cases h) (by kernel_rfl) (fun _ h => by cases h) fnUniqueNames_row_tie rfl ⟨rfl, rfl⟩ (by kernel_rfl) rfl nK (by kernel_rfl)
#print axioms fnUniqueNamesCard_holds
end Go.Proofs.YtlmpmpddakhfnaaDoor
