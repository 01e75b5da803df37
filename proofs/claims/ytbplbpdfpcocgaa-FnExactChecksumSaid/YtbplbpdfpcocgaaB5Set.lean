/-
  The rules by which the walk reckons.
-/
import Derived.Test.YtbplbpdfpcocgaaB4Loop
set_option linter.all false
namespace Go.Sx
open Go Go.RowKit

theorem uni_nil (sz : Nat) : uni sz [] := fun _ h => by cases h
theorem uni_cons (sz : Nat) (r : List D) (l : List (List D)) : uni sz (r :: l) ↔ r.length = sz ∧ uni sz l := by simp [uni]
theorem uni_append (sz : Nat) (l l' : List (List D)) : uni sz (l ++ l') ↔ uni sz l ∧ uni sz l' := by simp only [uni, List.mem_append]; exact ⟨fun h => ⟨fun r hr => h r (.inl hr), fun r hr => h r (.inr hr)⟩, fun h r hr => hr.elim (h.1 r) (h.2 r)⟩
theorem uni_map {α : Type} (sz : Nat) (f : α → List D) (l : List α) : uni sz (l.map f) ↔ ∀ x ∈ l, (f x).length = sz := by simp [uni]
theorem flatB_nil : flatB [] = true := rfl
theorem flatB_cons (r : List D) (l : List (List D)) : flatB (r :: l) = (r.all isV && flatB l) := rfl
theorem flatB_append (l l' : List (List D)) : flatB (l ++ l') = (flatB l && flatB l') := by simp [flatB]
theorem flatB_map {α : Type} (f : α → List D) (l : List α) : flatB (l.map f) = l.all (fun x => (f x).all isV) := by simp [flatB, List.all_map, Function.comp_def]
attribute [go_sem] uni_nil uni_cons uni_append uni_map flatB_nil flatB_cons flatB_append flatB_map

theorem rwAt_map {α : Type} (f : α → List D) (l : List α) (k : Nat) (h : k < l.length) : rwAt (l.map f) k = f l[k] := by
  simp [rwAt, List.getD_eq_getElem?_getD, h]

attribute [go_sem] dsO dsts fgt mds mhs loopI List.nodup_nil List.toList_toArray idsL frzH goneH absA absL memN nodupN isV partsC absR vcBuildSlice killA killS killB srcR vcAppend vcMake vcStoreRow capD capA capS capB capAll vcMakeFunc
attribute [go_sem] vcOps vcOp vcGuard dstOf nthO vcLoad vcStore vcFieldAddr vcField vcIndexAddr vcIndex vcBin binI binSt binB vcUn vcConv bnd vcSlice vcExtract vcLen buildC vcBuild vcCall
  ev constSV nth setN nthH setH nthP sub splice St.put St.push pack SV.cells boxable noU At.isU Ty.agg eqAs eqA eqV kindA kindV inR rwAt_map
  retVs retV resL retAs retA wIds notOne pureS pureA adS adA adH adT SV.all freeS freeA leT leH St.le loopK St.okB SV.below At.below HB.below
  List.length_cons List.length_nil List.length_map List.nil_append List.cons_append List.append_nil List.map_cons List.map_nil List.drop_succ_cons List.drop_zero List.flatMap_cons List.flatMap_nil List.all_cons List.all_nil
  List.replicate_succ List.replicate_zero Option.map_some Option.map_none Option.bind_some Option.bind_none Option.some.injEq
  Nat.reduceAdd Nat.reduceSub Nat.reduceEqDiff Nat.reduceBEq Nat.reduceLT Nat.zero_add Nat.add_zero Int.toNat_natCast
  ne_eq not_false_eq_true true_and and_true reduceCtorEq ite_true ite_false Bool.and_true Bool.true_and Bool.not_true Bool.not_false Bool.false_eq_true reduceIte if_true if_false beq_self_eq_true

end Go.Sx
