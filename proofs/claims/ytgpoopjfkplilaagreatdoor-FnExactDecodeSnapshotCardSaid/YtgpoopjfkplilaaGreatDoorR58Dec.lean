/- Proved: the card of the law FnExactDecodeSnapshot: for every input, in every world in which the nine listed variables of the library lie as its text lays them, laws.FnExactDecodeSnapshot returns true and leaves its argument as it was; the list is tied to the program's text. Conditions: the row's own ('laid'). -/
import Derived.Test.YtgpoopjfkplilaaGreatDoorZ16
import Derived.Test.YtgpoopjfkplilaaGreatDoorZ19
set_option linter.all false
namespace Go.Proofs.YtgpoopjfkplilaaGreatDoor
open Go Go.Sx Go.ChangeShapes Go.WideShapes Go.ChangeAt Go.RowKit
set_option maxRecDepth 100000 in
theorem fnExactDecodeSnapshot_laid (os : Os) : laidMet Tryz.prog Rows.fnExactDecodeSnapshotRow.laid ((uI os).forCall (fun _ _ => 0) ⟨#[], #[.slice none 0 0], []⟩).memory :=
 a9s os #[.slice none 0 0]
theorem fnExactDecodeSnapshot_reads (os : Os) {H : Type} (enc : TypeId × Value → H) : ∃ places, DataW.whole enc Tryz.prog ((uI os).forCall (fun _ _ => 0) ⟨#[], #[.slice none 0 0], []⟩).memory Tryz.f6.params.toList Rows.fnExactDecodeSnapshotSpec.vars false (#[.slice none 0 0] : Array Value).toList 8 = some ([.nil], [], places) :=
 ⟨[], by kernel_rfl⟩
set_option maxRecDepth 100000 in
theorem fnExactDecodeSnapshot_lifted (os : Os) (started : os.Started) (H : Type) (enc : TypeId × Value → H) (F : Stop.Interp) :
    ReturnsInHanded {} Tryz.checked os 6 .any ((OpenSpec.ofChange Rows.fnExactDecodeSnapshotSpec).preRow enc Tryz.prog Tryz.f6 Rows.fnExactDecodeSnapshotRow.domain false Rows.fnExactDecodeSnapshotRow.laid) (((OpenSpec.ofChange Rows.fnExactDecodeSnapshotSpec).at F).post enc Tryz.prog Tryz.f6 false true false false) := by
 obtain ⟨places, hx⟩ := fnExactDecodeSnapshot_reads os enc
 refine returnsInHanded_of_row (C := Tryz.checked) (s := OpenSpec.ofChange Rows.fnExactDecodeSnapshotSpec) own started (by kernel_rfl) Tryz.func6
  (witness_row_atRef (enc := enc) (C := Tryz.checked) false (uI os) #[.slice none 0 0] rfl (by kernel_rfl) (by kernel_rfl) (by kernel_rfl)
   (OpenSpec.preRow_of_cond 8 hx (by kernel_rfl) (fun k hk => by cases hk) (by kernel_rfl) (fnExactDecodeSnapshot_laid os))) ?_
 intro W base args ds gs before hval hW _ _ _ hL hS _
 refine b3y (P := Tryz.prog) a4m b7j b3z (f := 6) rfl (fun dd h => ?_) rfl Tryz.underlying4 (by kernel_rfl) (fun dss h => ?_) (b2E hL hS) hval hW
 ·match dd, h with
  | [d0], _ => rfl
 ·match dss, h with
  | [d], ⟨⟨n, hd⟩, _⟩ =>
   obtain ⟨x, rfl, hx⟩ := a7M hd
   exact b0B x hx
theorem fnExactDecodeSnapshot_and8 {a b c d e f g h : Bool} (ha : a = true) (hb : b = true) (hc : c = true) (hd : d = true) (he : e = true) (hf : f = true) (hg : g = true) (hh : h = true) : (a && b && c && d && e && f && g && h) = true := by simp [ha, hb, hc, hd, he, hf, hg, hh]
theorem fnExactDecodeSnapshot_enter : Tryz.prog.mayEnter = true := by kernel_rfl
theorem fnExactDecodeSnapshot_lifts : (Rows.fnExactDecodeSnapshotRow.lifted == Tryz.prog.liftsFinal) = true := by kernel_rfl
theorem fnExactDecodeSnapshot_make : (Tryz.prog.make == some Rows.fnExactDecodeSnapshotRow.make) = true := by kernel_rfl
theorem fnExactDecodeSnapshot_joined : joinedFacts Tryz.prog 6 Tryz.f6 (OpenSpec.ofChange Rows.fnExactDecodeSnapshotSpec).bare Rows.fnExactDecodeSnapshotRow = true := by
 refine fnExactDecodeSnapshot_and8 ?_ ?_ ?_ ?_ ?_ ?_ ?_ ?_
 ·kernel_rfl
 ·exact fnExactDecodeSnapshot_enter
 ·exact fnExactDecodeSnapshot_lifts
 ·exact fnExactDecodeSnapshot_make
 ·kernel_rfl
 ·kernel_rfl
 ·kernel_rfl
 ·kernel_rfl
set_option maxRecDepth 100000 in
theorem fnExactDecodeSnapshot_said : Rows.FnExactDecodeSnapshotSaid :=
 OpenClaim.holds_of_cond 6 Tryz.f6 rfl rfl rfl rfl rfl rfl rfl ⟨rfl, rfl, rfl, rfl, rfl⟩ rfl rfl rfl rfl rfl (by kernel_rfl) Tryz.func6 fnExactDecodeSnapshot_joined
  (of_decide_eq_true (by kernel_rfl)) (by unfold Func.isWrapper; first | (rw [if_pos (by decide +kernel)]; kernel_rfl) | (rw [if_neg (by decide +kernel)]; exact ⟨rfl, rfl⟩))
  (fun os started H enc _ F => by rw [OpenClaim.pre_eq_preRow]; exact fnExactDecodeSnapshot_lifted os started H enc F)
theorem fnExactDecodeSnapshot_plain (f : FuncId) (fn : Func) (hf : Tryz.pinned.checked.prog.funcNamed "loop.example/g00976/laws.FnExactDecodeSnapshot" = some f) (hfn : Tryz.pinned.checked.prog.funcs[f]? = some fn) :
    true = Tryz.pinned.checked.prog.looks [] ∧ ∀ (j : Nat) t, fn.params[j]? = some t → Tryz.pinned.checked.prog.wantsStandIn t = false := by
 obtain rfl : f = 6 := Option.some.inj ((show Tryz.prog.funcNamed "loop.example/g00976/laws.FnExactDecodeSnapshot" = some 6 by kernel_rfl).symm.trans hf) |>.symm
 obtain rfl : fn = Tryz.f6 := (Option.some.inj (Tryz.func6.symm.trans hfn)).symm
 refine ⟨by kernel_rfl, fun j t ht => ?_⟩
 have h := List.all_eq_true.1 (show Tryz.f6.params.toList.all (fun t => !Tryz.prog.wantsStandIn t) = true by kernel_rfl) t (List.mem_of_getElem? (i := j) (by simpa using ht))
 have h2 : Tryz.prog.wantsStandIn t = false := by simpa using h
 exact h2
theorem fnExactDecodeSnapshotCard_holds : Rows.FnExactDecodeSnapshotCardSaid :=
 Claim7.holds_tied_plain_at .later [] _ _ _ _ fnExactDecodeSnapshot_said (fun _ h => by cases h) (by kernel_rfl) (fun _ h => by cases h) fnExactDecodeSnapshot_row_tie rfl ⟨rfl, rfl⟩ (by kernel_rfl) rfl fnExactDecodeSnapshot_plain (by kernel_rfl)
#print axioms fnExactDecodeSnapshotCard_holds
end Go.Proofs.YtgpoopjfkplilaaGreatDoor
