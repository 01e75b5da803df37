/- Proved: the card of the law FnSnapshotLines: for every input, in every world in which the nine listed variables of the library lie as its text lays them, laws.FnSnapshotLines returns true and leaves its argument as it was; the list is tied to the program's text. Conditions: the row's own ('laid'). -/
import Derived.Test.YtgpoopjfkplilaaGreatDoorZ14
import Derived.Test.YtgpoopjfkplilaaGreatDoorZ20
set_option linter.all false
namespace Go.Proofs.YtgpoopjfkplilaaGreatDoor
open Go Go.Sx Go.ChangeShapes Go.WideShapes Go.ChangeAt Go.RowKit
set_option maxRecDepth 100000 in
theorem sV (os : Os) : laidMet Tryz.prog Rows.fnSnapshotLinesRow.laid ((uT os).forCall (fun _ _ => 0) ⟨#[], #[.slice none 0 0], []⟩).memory :=
 a9G os #[.slice none 0 0]
theorem sJ (os : Os) {H : Type} (enc : TypeId × Value → H) : ∃ places, DataW.whole enc Tryz.prog ((uT os).forCall (fun _ _ => 0) ⟨#[], #[.slice none 0 0], []⟩).memory Tryz.f5.params.toList Rows.fnSnapshotLinesSpec.vars false (#[.slice none 0 0] : Array Value).toList 8 = some ([.nil], [], places) :=
 ⟨[], by kernel_rfl⟩
set_option maxRecDepth 100000 in
theorem qI (os : Os) (started : os.Started) (H : Type) (enc : TypeId × Value → H) (F : Stop.Interp) :
    ReturnsInHanded {} Tryz.checked os 5 .any ((OpenSpec.ofChange Rows.fnSnapshotLinesSpec).preRow enc Tryz.prog Tryz.f5 Rows.fnSnapshotLinesRow.domain false Rows.fnSnapshotLinesRow.laid) (((OpenSpec.ofChange Rows.fnSnapshotLinesSpec).at F).post enc Tryz.prog Tryz.f5 false true false false) := by
 obtain ⟨places, hx⟩ := sJ os enc
 refine returnsInHanded_of_row (C := Tryz.checked) (s := OpenSpec.ofChange Rows.fnSnapshotLinesSpec) own started (by kernel_rfl) Tryz.func5
  (witness_row_atRef (enc := enc) (C := Tryz.checked) false (uT os) #[.slice none 0 0] rfl (by kernel_rfl) (by kernel_rfl) (by kernel_rfl)
   (OpenSpec.preRow_of_cond 8 hx (by kernel_rfl) (fun k hk => by cases hk) (by kernel_rfl) (sV os))) ?_
 intro W base args ds gs before hval hW _ _ _ hL hS _
 refine b3T (P := Tryz.prog) zY b8s b3U (f := 5) rfl (fun dd h => ?_) rfl Tryz.underlying4 (by kernel_rfl) (fun dss h => ?_) (b2Y hL hS) hval hW
 ·match dd, h with
  | [d0], _ => rfl
 ·match dss, h with
  | [d], ⟨⟨n, hd⟩, _⟩ =>
   obtain ⟨x, rfl, hx⟩ := b7p hd
   exact a6E x hx
theorem sW {a b c d e f g h : Bool} (ha : a = true) (hb : b = true) (hc : c = true) (hd : d = true) (he : e = true) (hf : f = true) (hg : g = true) (hh : h = true) : (a && b && c && d && e && f && g && h) = true := by simp [ha, hb, hc, hd, he, hf, hg, hh]
theorem sK : Tryz.prog.mayEnter = true := by kernel_rfl
theorem sM : (Rows.fnSnapshotLinesRow.lifted == Tryz.prog.liftsFinal) = true := by kernel_rfl
theorem sZ : (Tryz.prog.make == some Rows.fnSnapshotLinesRow.make) = true := by kernel_rfl
theorem qJ : joinedFacts Tryz.prog 5 Tryz.f5 (OpenSpec.ofChange Rows.fnSnapshotLinesSpec).bare Rows.fnSnapshotLinesRow = true := by
 refine sW ?_ ?_ ?_ ?_ ?_ ?_ ?_ ?_
 ·kernel_rfl
 ·exact sK
 ·exact sM
 ·exact sZ
 ·kernel_rfl
 ·kernel_rfl
 ·kernel_rfl
 ·kernel_rfl
set_option maxRecDepth 100000 in
theorem tC : Rows.FnSnapshotLinesSaid :=
 OpenClaim.holds_of_cond 5 Tryz.f5 rfl rfl rfl rfl rfl rfl rfl ⟨rfl, rfl, rfl, rfl, rfl⟩ rfl rfl rfl rfl rfl (by kernel_rfl) Tryz.func5 qJ
  (of_decide_eq_true (by kernel_rfl)) (by unfold Func.isWrapper; first | (rw [if_pos (by decide +kernel)]; kernel_rfl) | (rw [if_neg (by decide +kernel)]; exact ⟨rfl, rfl⟩))
  (fun os started H enc _ F => by rw [OpenClaim.pre_eq_preRow]; exact qI os started H enc F)
theorem sN (f : FuncId) (fn : Func) (hf : Tryz.pinned.checked.prog.funcNamed "loop.example/g00976/laws.FnSnapshotLines" = some f) (hfn : Tryz.pinned.checked.prog.funcs[f]? = some fn) :
    true = Tryz.pinned.checked.prog.looks [] ∧ ∀ (j : Nat) t, fn.params[j]? = some t → Tryz.pinned.checked.prog.wantsStandIn t = false := by
 obtain rfl : f = 5 := Option.some.inj ((show Tryz.prog.funcNamed "loop.example/g00976/laws.FnSnapshotLines" = some 5 by kernel_rfl).symm.trans hf) |>.symm
 obtain rfl : fn = Tryz.f5 := (Option.some.inj (Tryz.func5.symm.trans hfn)).symm
 refine ⟨by kernel_rfl, fun j t ht => ?_⟩
 have h := List.all_eq_true.1 (show Tryz.f5.params.toList.all (fun t => !Tryz.prog.wantsStandIn t) = true by kernel_rfl) t (List.mem_of_getElem? (i := j) (by simpa using ht))
 have h2 : Tryz.prog.wantsStandIn t = false := by simpa using h
 exact h2
theorem fnSnapshotLinesCard_holds : Rows.FnSnapshotLinesCardSaid :=
 Claim7.holds_tied_plain_at .later [] _ _ _ _ tC (fun _ h => by cases h) (by kernel_rfl) (fun _ h => by cases h) fnSnapshotLines_row_tie rfl ⟨rfl, rfl⟩ (by kernel_rfl) rfl sN (by kernel_rfl)
#print axioms fnSnapshotLinesCard_holds
end Go.Proofs.YtgpoopjfkplilaaGreatDoor
