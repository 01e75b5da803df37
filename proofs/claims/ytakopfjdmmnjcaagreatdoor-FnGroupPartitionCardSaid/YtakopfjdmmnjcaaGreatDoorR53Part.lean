/- Proved: the card of the law FnGroupPartition: for every input, in every world in which the three listed tables of the library lie as its text lays them, laws.FnGroupPartition returns true and leaves its argument as it was; the list is tied to the program's text. Conditions: the row's own ('laid'). -/
import Derived.Test.YtakopfjdmmnjcaaGreatDoorZ07
import Derived.Test.YtakopfjdmmnjcaaGreatDoorZ23
set_option linter.all false
namespace Go.Proofs.YtakopfjdmmnjcaaGreatDoor
open Go Go.Sx Go.ChangeShapes Go.WideShapes Go.ChangeAt Go.RowKit
set_option maxRecDepth 100000 in
theorem uS (os : Os) : laidMet Tryz.prog Rows.fnGroupPartitionRow.laid ((a0F os).forCall (fun _ _ => 0) ⟨#[], #[.slice none 0 0], []⟩).memory :=
 laidMet_of_run' 8 (by kernel_rfl) (by kernel_rfl)
theorem sO (os : Os) {H : Type} (enc : TypeId × Value → H) : ∃ places, DataW.whole enc Tryz.prog ((a0F os).forCall (fun _ _ => 0) ⟨#[], #[.slice none 0 0], []⟩).memory Tryz.f3.params.toList Rows.fnGroupPartitionSpec.vars false (#[.slice none 0 0] : Array Value).toList 8 = some ([.nil], [], places) :=
 ⟨[], by kernel_rfl⟩
set_option maxRecDepth 100000 in
theorem qZ (os : Os) (started : os.Started) (H : Type) (enc : TypeId × Value → H) (F : Stop.Interp) :
    ReturnsInHanded {} Tryz.checked os 3 .any ((OpenSpec.ofChange Rows.fnGroupPartitionSpec).preRow enc Tryz.prog Tryz.f3 Rows.fnGroupPartitionRow.domain false Rows.fnGroupPartitionRow.laid) (((OpenSpec.ofChange Rows.fnGroupPartitionSpec).at F).post enc Tryz.prog Tryz.f3 false true false false) := by
 obtain ⟨places, hx⟩ := sO os enc
 refine returnsInHanded_of_row (C := Tryz.checked) (s := OpenSpec.ofChange Rows.fnGroupPartitionSpec) own started (by kernel_rfl) Tryz.func3
  (witness_row_at (enc := enc) (C := Tryz.checked) false (a0F os) #[.slice none 0 0] rfl (by kernel_rfl) (by kernel_rfl) (by kernel_rfl)
   (OpenSpec.preRow_of_cond 8 hx (by kernel_rfl) (fun k hk => by cases hk) (by kernel_rfl) (uS os))) ?_
 intro W base args ds gs before hval hW _ _ _ hL _ _
 refine b4U (P := Tryz.prog) ttOK b8S b4V (f := 3) rfl (fun dd h => ?_) rfl Tryz.underlying4 (by kernel_rfl) (fun dss h => ?_) (b4i hL) hval hW
 ·match dd, h with
  | [d0], _ => rfl
 ·match dss, h with
  | [d0], ⟨⟨n0, h0⟩, _⟩ =>
   obtain ⟨l, rfl, hf⟩ := b8b h0
   exact a9j l hf
theorem uT {a b c d e f g h : Bool} (ha : a = true) (hb : b = true) (hc : c = true) (hd : d = true) (he : e = true) (hf : f = true) (hg : g = true) (hh : h = true) : (a && b && c && d && e && f && g && h) = true := by simp [ha, hb, hc, hd, he, hf, hg, hh]
theorem sP : Tryz.prog.mayEnter = true := by kernel_rfl
theorem sQ : (Rows.fnGroupPartitionRow.lifted == Tryz.prog.liftsFinal) = true := by kernel_rfl
theorem uU : (Tryz.prog.make == some Rows.fnGroupPartitionRow.make) = true := by kernel_rfl
theorem rA : joinedFacts Tryz.prog 3 Tryz.f3 (OpenSpec.ofChange Rows.fnGroupPartitionSpec).bare Rows.fnGroupPartitionRow = true := by
 refine uT ?_ ?_ ?_ ?_ ?_ ?_ ?_ ?_
 ·kernel_rfl
 ·exact sP
 ·exact sQ
 ·exact uU
 ·kernel_rfl
 ·kernel_rfl
 ·kernel_rfl
 ·kernel_rfl
set_option maxRecDepth 100000 in
theorem uV : Rows.FnGroupPartitionSaid :=
 OpenClaim.holds_of_cond 3 Tryz.f3 rfl rfl rfl rfl rfl rfl rfl ⟨rfl, rfl, rfl, rfl, rfl⟩ rfl rfl rfl rfl rfl (by kernel_rfl) Tryz.func3 rA
  (of_decide_eq_true (by kernel_rfl)) (by unfold Func.isWrapper; first | (rw [if_pos (by decide +kernel)]; kernel_rfl) | (rw [if_neg (by decide +kernel)]; exact ⟨rfl, rfl⟩))
  (fun os started H enc _ F => by rw [OpenClaim.pre_eq_preRow]; exact qZ os started H enc F)
theorem sS (f : FuncId) (fn : Func) (hf : Tryz.pinned.checked.prog.funcNamed "loop.example/g00976/laws.FnGroupPartition" = some f) (hfn : Tryz.pinned.checked.prog.funcs[f]? = some fn) :
    false = Tryz.pinned.checked.prog.looks [] ∧ ∀ (j : Nat) t, fn.params[j]? = some t → Tryz.pinned.checked.prog.wantsStandIn t = false := by
 obtain rfl : f = 3 := Option.some.inj ((show Tryz.prog.funcNamed "loop.example/g00976/laws.FnGroupPartition" = some 3 by kernel_rfl).symm.trans hf) |>.symm
 obtain rfl : fn = Tryz.f3 := (Option.some.inj (Tryz.func3.symm.trans hfn)).symm
 refine ⟨by kernel_rfl, fun j t ht => ?_⟩
 have h := List.all_eq_true.1 (show Tryz.f3.params.toList.all (fun t => !Tryz.prog.wantsStandIn t) = true by kernel_rfl) t (List.mem_of_getElem? (i := j) (by simpa using ht))
 have h2 : Tryz.prog.wantsStandIn t = false := by simpa using h
 exact h2
theorem fnGroupPartitionCard_holds : Rows.FnGroupPartitionCardSaid :=
 Claim7.holds_tied_plain_at .later [] _ _ _ _ uV (fun _ h => by cases h) (by kernel_rfl) (fun _ h => by cases h) fnGroupPartition_row_tie rfl ⟨rfl, rfl⟩ (by kernel_rfl) rfl sS (by kernel_rfl)
#print axioms fnGroupPartitionCard_holds
end Go.Proofs.YtakopfjdmmnjcaaGreatDoor
