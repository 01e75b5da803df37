/- Proved: the card of the law FnExactLatestSnapshot: for every input, in every world in which the nine listed variables of the library lie as its text lays them, laws.FnExactLatestSnapshot returns true and leaves its argument as it was; the list is tied to the program's text. Conditions: the row's own ('laid'). -/
import Derived.Test.YtgpoopjfkplilaaGreatDoorZ16
import Derived.Test.YtgpoopjfkplilaaGreatDoorZ21
set_option linter.all false
namespace Go.Proofs.YtgpoopjfkplilaaGreatDoor
open Go Go.Sx Go.ChangeShapes Go.WideShapes Go.ChangeAt Go.RowKit
set_option maxRecDepth 100000 in
theorem fnExactLatestSnapshot_laid (os : Os) : laidMet Tryz.prog Rows.fnExactLatestSnapshotRow.laid ((iQ os).forCall (fun _ _ => 0) ⟨#[], #[.agg #[.string ⟨#[]⟩, .string ⟨#[]⟩]], []⟩).memory :=
 a0l os #[.agg #[.string ⟨#[]⟩, .string ⟨#[]⟩]]
theorem fnExactLatestSnapshot_reads (os : Os) {H : Type} (enc : TypeId × Value → H) : ∃ places, DataW.whole enc Tryz.prog ((iQ os).forCall (fun _ _ => 0) ⟨#[], #[.agg #[.string ⟨#[]⟩, .string ⟨#[]⟩]], []⟩).memory Tryz.f3.params.toList Rows.fnExactLatestSnapshotSpec.vars false (#[.agg #[.string ⟨#[]⟩, .string ⟨#[]⟩]] : Array Value).toList 8 = some ([.agg [.lit (.string []), .lit (.string [])]], [], places) :=
 ⟨[], by kernel_rfl⟩
set_option maxRecDepth 100000 in
theorem fnExactLatestSnapshot_lifted (os : Os) (started : os.Started) (H : Type) (enc : TypeId × Value → H) (F : Stop.Interp) :
    ReturnsInHanded {} Tryz.checked os 3 .any ((OpenSpec.ofChange Rows.fnExactLatestSnapshotSpec).preRow enc Tryz.prog Tryz.f3 Rows.fnExactLatestSnapshotRow.domain false Rows.fnExactLatestSnapshotRow.laid) (((OpenSpec.ofChange Rows.fnExactLatestSnapshotSpec).at F).post enc Tryz.prog Tryz.f3 false true false false) := by
 obtain ⟨places, hx⟩ := fnExactLatestSnapshot_reads os enc
 refine returnsInHanded_of_row (C := Tryz.checked) (s := OpenSpec.ofChange Rows.fnExactLatestSnapshotSpec) own started (by kernel_rfl) Tryz.func3
  (witness_row_atRef (enc := enc) (C := Tryz.checked) false (iQ os) #[.agg #[.string ⟨#[]⟩, .string ⟨#[]⟩]] rfl (by kernel_rfl) (by kernel_rfl) (by kernel_rfl)
   (OpenSpec.preRow_of_cond 8 hx (by kernel_rfl) (fun k hk => by cases hk) (by kernel_rfl) (fnExactLatestSnapshot_laid os))) ?_
 intro W base args ds gs before hval hW _ _ _ hL hS _
 refine a5Y (P := Tryz.prog) a2h b6E a5Z (f := 3) rfl (fun dd h => ?_) rfl Tryz.underlying4 (by kernel_rfl) (fun dss h => ?_) (a5j hL hS) hval hW
 ·match dd, h with
  | [d0], _ => rfl
 ·match dss, h with
  | [d], ⟨⟨n, hd⟩, _⟩ =>
   obtain ⟨x, rfl, hx⟩ := b0p hd
   exact a6z x hx
theorem fnExactLatestSnapshot_and8 {a b c d e f g h : Bool} (ha : a = true) (hb : b = true) (hc : c = true) (hd : d = true) (he : e = true) (hf : f = true) (hg : g = true) (hh : h = true) : (a && b && c && d && e && f && g && h) = true := by simp [ha, hb, hc, hd, he, hf, hg, hh]
theorem fnExactLatestSnapshot_enter : Tryz.prog.mayEnter = true := by kernel_rfl
theorem fnExactLatestSnapshot_lifts : (Rows.fnExactLatestSnapshotRow.lifted == Tryz.prog.liftsFinal) = true := by kernel_rfl
theorem fnExactLatestSnapshot_make : (Tryz.prog.make == some Rows.fnExactLatestSnapshotRow.make) = true := by kernel_rfl
theorem fnExactLatestSnapshot_joined : joinedFacts Tryz.prog 3 Tryz.f3 (OpenSpec.ofChange Rows.fnExactLatestSnapshotSpec).bare Rows.fnExactLatestSnapshotRow = true := by
 refine fnExactLatestSnapshot_and8 ?_ ?_ ?_ ?_ ?_ ?_ ?_ ?_
 ·kernel_rfl
 ·exact fnExactLatestSnapshot_enter
 ·exact fnExactLatestSnapshot_lifts
 ·exact fnExactLatestSnapshot_make
 ·kernel_rfl
 ·kernel_rfl
 ·kernel_rfl
 ·kernel_rfl
set_option maxRecDepth 100000 in
theorem fnExactLatestSnapshot_said : Rows.FnExactLatestSnapshotSaid :=
 OpenClaim.holds_of_cond 3 Tryz.f3 rfl rfl rfl rfl rfl rfl rfl ⟨rfl, rfl, rfl, rfl, rfl⟩ rfl rfl rfl rfl rfl (by kernel_rfl) Tryz.func3 fnExactLatestSnapshot_joined
  (of_decide_eq_true (by kernel_rfl)) (by unfold Func.isWrapper; first | (rw [if_pos (by decide +kernel)]; kernel_rfl) | (rw [if_neg (by decide +kernel)]; exact ⟨rfl, rfl⟩))
  (fun os started H enc _ F => by rw [OpenClaim.pre_eq_preRow]; exact fnExactLatestSnapshot_lifted os started H enc F)
theorem fnExactLatestSnapshot_plain (f : FuncId) (fn : Func) (hf : Tryz.pinned.checked.prog.funcNamed "loop.example/g00976/laws.FnExactLatestSnapshot" = some f) (hfn : Tryz.pinned.checked.prog.funcs[f]? = some fn) :
    true = Tryz.pinned.checked.prog.looks [] ∧ ∀ (j : Nat) t, fn.params[j]? = some t → Tryz.pinned.checked.prog.wantsStandIn t = false := by
 obtain rfl : f = 3 := Option.some.inj ((show Tryz.prog.funcNamed "loop.example/g00976/laws.FnExactLatestSnapshot" = some 3 by kernel_rfl).symm.trans hf) |>.symm
 obtain rfl : fn = Tryz.f3 := (Option.some.inj (Tryz.func3.symm.trans hfn)).symm
 refine ⟨by kernel_rfl, fun j t ht => ?_⟩
 have h := List.all_eq_true.1 (show Tryz.f3.params.toList.all (fun t => !Tryz.prog.wantsStandIn t) = true by kernel_rfl) t (List.mem_of_getElem? (i := j) (by simpa using ht))
 have h2 : Tryz.prog.wantsStandIn t = false := by simpa using h
 exact h2
theorem fnExactLatestSnapshotCard_holds : Rows.FnExactLatestSnapshotCardSaid :=
 Claim7.holds_tied_plain_at .later [] _ _ _ _ fnExactLatestSnapshot_said (fun _ h => by cases h) (by kernel_rfl) (fun _ h => by cases h) fnExactLatestSnapshot_row_tie rfl ⟨rfl, rfl⟩ (by kernel_rfl) rfl fnExactLatestSnapshot_plain (by kernel_rfl)
#print axioms fnExactLatestSnapshotCard_holds
end Go.Proofs.YtgpoopjfkplilaaGreatDoor
