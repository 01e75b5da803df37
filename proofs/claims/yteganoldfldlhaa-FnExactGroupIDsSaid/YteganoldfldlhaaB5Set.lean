/-
  The rules by which the walk reckons.
-/
import Derived.Test.YteganoldfldlhaaB4Pmark
set_option linter.all false
namespace Go.Sx
open Go Go.RowKit

/-! A region's operations, one at a time. -/
structure vcRun (E : Env) (all l : List Oper) (st : St) (K : St → Prop) (t : Tie (all, l, K)) : Prop where
  out : vcOps E all l st K
def vcStep (E : Env) (all : List Oper) (o : Oper) (st : St) (k : St → Prop) (_ : Tie k) : Prop :=
  match o.guard with
  | none => vcOp E o.op st fun st' s => k (st'.put o.dst s)
  | some (j, b) => vcGuard (dstOf all j st) b (vcOp E o.op st fun st' s => k (st'.put o.dst s)) (k (st.put o.dst (.t []))) ⟨⟩ ⟨⟩
theorem run_cons {E : Env} {all r : List Oper} {o : Oper} {st : St} {K : St → Prop} (h : vcStep E all o st (fun st' => vcRun E all r st' K ⟨⟩) ⟨⟩) : vcRun E all (o :: r) st K ⟨⟩ := by
  have e : (fun st' => vcRun E all r st' K ⟨⟩) = (fun st' => vcOps E all r st' K) := funext fun s => propext ⟨fun h => h.out, fun h => ⟨h⟩⟩
  rw [e] at h
  unfold vcStep at h
  refine ⟨?_⟩
  unfold vcOps
  cases hg : o.guard with
  | none => rw [hg] at h; exact h
  | some jb => rw [hg] at h; exact h
theorem run_nil {E : Env} {all : List Oper} {st : St} {K : St → Prop} (h : K st) : vcRun E all [] st K ⟨⟩ := ⟨h⟩
structure vcDRun (E : Env) (all l : List Oper) (st : St) (K : St → Prop) (t : Tie (all, l, K)) : Prop where
  out : vcDs E all l st K
def vcDStep (E : Env) (all : List Oper) (o : Oper) (st : St) (k : St → Prop) (_ : Tie k) : Prop := sop E all o st k
theorem drun_cons {E : Env} {all r : List Oper} {o : Oper} {st : St} {K : St → Prop} (h : vcDStep E all o st (fun st' => vcDRun E all r st' K ⟨⟩) ⟨⟩) : vcDRun E all (o :: r) st K ⟨⟩ := by
  have e : (fun st' => vcDRun E all r st' K ⟨⟩) = (fun st' => vcDs E all r st' K) := funext fun s => propext ⟨fun h => h.out, fun h => ⟨h⟩⟩
  rw [e] at h
  exact ⟨h⟩
theorem drun_nil {E : Env} {all : List Oper} {st : St} {K : St → Prop} (h : K st) : vcDRun E all [] st K ⟨⟩ := ⟨h⟩
attribute [go_sem] vcStep vcDStep

theorem uni_nil (sz : Nat) : uni sz [] := fun _ h => by cases h
theorem uni_cons (sz : Nat) (r : List D) (l : List (List D)) : uni sz (r :: l) ↔ r.length = sz ∧ uni sz l := by simp [uni]
theorem uni_append (sz : Nat) (l l' : List (List D)) : uni sz (l ++ l') ↔ uni sz l ∧ uni sz l' := by simp only [uni, List.mem_append]; exact ⟨fun h => ⟨fun r hr => h r (.inl hr), fun r hr => h r (.inr hr)⟩, fun h r hr => hr.elim (h.1 r) (h.2 r)⟩
theorem uni_map {α : Type} (sz : Nat) (f : α → List D) (l : List α) : uni sz (l.map f) ↔ ∀ x ∈ l, (f x).length = sz := by simp [uni]
theorem flatB_nil : flatB [] = true := rfl
theorem flatB_cons (r : List D) (l : List (List D)) : flatB (r :: l) = (r.all isV && flatB l) := rfl
theorem flatB_append (l l' : List (List D)) : flatB (l ++ l') = (flatB l && flatB l') := by simp [flatB]
theorem flatB_map {α : Type} (f : α → List D) (l : List α) : flatB (l.map f) = l.all (fun x => (f x).all isV) := by simp [flatB, List.all_map, Function.comp_def]
attribute [go_sem] uni_nil uni_cons uni_append uni_map flatB_nil flatB_cons flatB_append flatB_map

theorem rwAt_map {α : Type} (f : α → List D) (l : List α) (k : Nat) (h : k < l.length) : rwAt (l.map f) k = f l[k] := by
  simp [rwAt, List.getD_eq_getElem?_getD, h]

/-- The first k elements are laid, the others still zero. -/
def fillR {α : Type} (enc : α → List D) (z : List D) (l : List α) (k : Nat) : List (List D) := (l.take k).map enc ++ List.replicate (l.length - k) z
theorem fillR_length {α : Type} (enc : α → List D) (z : List D) (l : List α) (k : Nat) : (fillR enc z l k).length = l.length := by
  simp [fillR]; omega
theorem rwAt_fillR {α : Type} (enc : α → List D) (z : List D) (l : List α) (k : Nat) (h : k < l.length) : rwAt (fillR enc z l k) k = z := by
  have h1 : ((l.take k).map enc).length = k := by simp; omega
  simp only [rwAt, fillR, List.getD_eq_getElem?_getD]
  rw [List.getElem?_append_right (by omega), h1]
  have h2 : 0 < l.length - k := by omega
  simp [List.getElem?_replicate, h2]
theorem fillR_set {α : Type} (enc : α → List D) (z : List D) (l : List α) (k : Nat) (h : k < l.length) : (fillR enc z l k).set k (enc l[k]) = fillR enc z l (k + 1) := by
  have h1 : ((l.take k).map enc).length = k := by simp; omega
  have h2 : l.length - k = (l.length - (k + 1)) + 1 := by omega
  simp only [fillR]
  rw [List.set_append_right _ _ (by omega), h1, Nat.sub_self, h2, List.replicate_succ, List.set_cons_zero, List.take_succ_eq_append_getElem h, List.map_append, List.append_assoc]
  rfl
theorem fillR_zero {α : Type} (enc : α → List D) (z : List D) (l : List α) : fillR enc z l 0 = List.replicate l.length z := by simp [fillR]
theorem fillR_all {α : Type} (enc : α → List D) (z : List D) (l : List α) : fillR enc z l l.length = l.map enc := by simp [fillR]
attribute [go_sem] fillR_length rwAt_fillR

@[congr] theorem kont_congr {P : Program} {C : Ctx} {ks : List Kn} {F : Ex → St → Prop} {e : Ex} {st st' : St} (h : st = st') : kont P C ks F e st = kont P C ks F e st' := by subst h; rfl
@[congr] theorem WP_congr {P : Program} {C : Ctx} {c : Code} {F : Ex → St → Prop} {st st' : St} (h : st = st') : WP P C c F st = WP P C c F st' := by subst h; rfl
theorem vcGuard_tt (y n : Prop) (a : Tie y) (b : Tie n) : vcGuard (.o (.d (.v (.bool true)))) true y n a b = y := by simp [vcGuard]
theorem vcGuard_tf (y n : Prop) (a : Tie y) (b : Tie n) : vcGuard (.o (.d (.v (.bool true)))) false y n a b = n := by simp [vcGuard]
theorem vcGuard_ft (y n : Prop) (a : Tie y) (b : Tie n) : vcGuard (.o (.d (.v (.bool false)))) true y n a b = n := by simp [vcGuard]
theorem vcGuard_ff (y n : Prop) (a : Tie y) (b : Tie n) : vcGuard (.o (.d (.v (.bool false)))) false y n a b = y := by simp [vcGuard]
theorem vcGuard_u (b : Bool) (y n : Prop) (a : Tie y) (c : Tie n) : vcGuard (.t []) b y n a c = n := by simp [vcGuard]
theorem vcPick_t (y n : Prop) (a : Tie y) (b : Tie n) : vcPick (.o (.d (.v (.bool true)))) y n a b = y := by simp [vcPick]
theorem vcPick_f (y n : Prop) (a : Tie y) (b : Tie n) : vcPick (.o (.d (.v (.bool false)))) y n a b = n := by simp [vcPick]
attribute [go_sem] vcGuard_tt vcGuard_tf vcGuard_ft vcGuard_ff vcGuard_u vcPick_t vcPick_f
theorem nodup_N : ∀ l : List Nat, l.Nodup ↔ nodupN l = true
  | [] => by simp [nodupN]
  | x :: l => by
    rw [List.nodup_cons, nodup_N l, ← memN_iff]
    simp [nodupN]
attribute [go_sem] Bool.or_false Bool.false_or Bool.or_true Bool.true_or bytesR strOf rowsOf vcConvS Nat.reduceBNe Array.toList_empty nodup_N
theorem cnd_t {E : Env} {c : Operand} {x y : Code} {F : Ex → St → Prop} {st : St} (hc : ev st c = .o (.d (.v (.bool true)))) (h : WP E.P E.C x F st) : WP E.P E.C (.cond c x y) F st := WP_cond (E := E) hc (fun _ => h) (fun e => by cases e)
theorem cnd_f {E : Env} {c : Operand} {x y : Code} {F : Ex → St → Prop} {st : St} (hc : ev st c = .o (.d (.v (.bool false)))) (h : WP E.P E.C y F st) : WP E.P E.C (.cond c x y) F st := WP_cond (E := E) hc (fun e => by cases e) (fun _ => h)
theorem byteAt_le (s : ByteArray) (k : Nat) : 0 ≤ byteAt s k ∧ byteAt s k ≤ 255 := by
  unfold byteAt
  have := (s.data.toList.getD k 0).toNat_lt
  omega
theorem szlit (l : List UInt8) : (ByteArray.mk l.toArray).size = l.length := rfl
attribute [go_sem] Int.reduceEq Int.reduceLT Int.reduceLE Int.reduceAdd Int.reduceSub Int.reduceMul Int.reduceNeg Int.reduceToNat decide_false List.size_toArray Nat.reducePow szlit ByteArray.size_append idsS flat1 true_implies false_implies implies_true Bool.true_eq_false maxLen decide_true isD sop vcD dsO dsts fgt mds mhs loopI List.toList_toArray idsL frzH goneH absA absL memN nodupN isV partsC absR vcBuildSlice killA killS killB srcR vcAppend vcMake vcStoreRow capD capA capS capB capAll vcMakeFunc
attribute [go_sem] vcOp dstOf vcStoreOwn nthO vcLoad vcStore vcFieldAddr vcField vcIndexAddr vcIndex vcBin vcBinN vcNil binI binSt binB vcUn vcConv bnd vcSlice vcExtract vcLen buildC vcBuild vcCall
  ev constSV nth setN nthH setH nthP sub splice St.put St.push pack SV.cells boxable noU At.isU Ty.agg eqAs eqA eqV kindA kindV inR rwAt_map
  retVs retV resL retAs retA wIds notOne pureS pureA adS adA adH adT SV.all freeS freeA leT leH St.le loopK St.okB SV.below At.below HB.below
  List.length_cons List.length_nil List.length_map List.nil_append List.cons_append List.append_nil List.map_cons List.map_nil List.drop_succ_cons List.drop_zero List.flatMap_cons List.flatMap_nil List.all_cons List.all_nil
  List.replicate_succ List.replicate_zero Option.map_some Option.map_none Option.bind_some Option.bind_none Option.some.injEq
  Nat.reduceAdd Nat.reduceSub Nat.reduceEqDiff Nat.reduceBEq Nat.reduceLT Nat.zero_add Nat.add_zero Int.toNat_natCast
  ne_eq not_false_eq_true true_and and_true reduceCtorEq ite_true ite_false Bool.and_true Bool.true_and Bool.not_true Bool.not_false Bool.false_eq_true reduceIte if_true if_false beq_self_eq_true


/-! What marks leave. -/
def mkL {α : Type} (mk : α → Int → α) (cn : α → Nat) : List α → Int → List α
  | [], _ => []
  | x :: l, k => mk x k :: mkL mk cn l (k + cn x)
def csum {α : Type} (cn : α → Nat) : List α → Nat
  | [] => 0
  | x :: l => cn x + csum cn l
theorem mkL_length {α : Type} (mk : α → Int → α) (cn : α → Nat) : ∀ (l : List α) (k : Int), (mkL mk cn l k).length = l.length
  | [], _ => rfl
  | x :: l, k => by simp [mkL, mkL_length mk cn l]
theorem mkL_get {α : Type} (mk : α → Int → α) (cn : α → Nat) : ∀ (l : List α) (k : Int) (j : Nat) (h : j < (mkL mk cn l k).length), (mkL mk cn l k)[j] = mk (l[j]'(by rw [mkL_length] at h; exact h)) (k + (csum cn (l.take j) : Nat))
  | [], _, _, h => by simp [mkL] at h
  | x :: l, k, 0, h => by simp [mkL, csum]
  | x :: l, k, j + 1, h => by
    simp only [mkL, List.getElem_cons_succ, List.take_succ_cons, csum]
    rw [mkL_get mk cn l]
    congr 1
    omega
theorem csum_take {α : Type} (cn : α → Nat) : ∀ (l : List α) {k : Nat} (h : k < l.length), csum cn (l.take (k + 1)) = csum cn (l.take k) + cn l[k]
  | [], _, h => by simp at h
  | x :: l, 0, _ => by simp [csum]
  | x :: l, k + 1, h => by
    have := csum_take cn l (k := k) (by simpa using h)
    simp only [List.take_succ_cons, List.getElem_cons_succ, csum]; omega
theorem csum_le {α : Type} (cn : α → Nat) : ∀ (l : List α) (k : Nat), csum cn (l.take k) ≤ csum cn l
  | [], k => by simp
  | x :: l, 0 => by simp [csum]
  | x :: l, k + 1 => by
    have := csum_le cn l k
    simp only [List.take_succ_cons, csum]; omega
theorem csum_len {α : Type} (cn : α → Nat) (h : ∀ x, 1 ≤ cn x) : ∀ (l : List α), l.length ≤ csum cn l
  | [] => by simp [csum]
  | x :: l => by
    have := csum_len cn h l
    have := h x
    simp only [List.length_cons, csum]; omega
/-- The first j elements are marked. -/
def midR {α : Type} (enc : α → List D) (mk : α → Int → α) (cn : α → Nat) (l : List α) (k : Int) (j : Nat) : List (List D) := ((mkL mk cn l k).take j).map enc ++ (l.drop j).map enc
theorem midR_length {α : Type} (enc : α → List D) (mk : α → Int → α) (cn : α → Nat) (l : List α) (k : Int) (j : Nat) : (midR enc mk cn l k j).length = l.length := by
  simp [midR, mkL_length]; omega
theorem midR_zero {α : Type} (enc : α → List D) (mk : α → Int → α) (cn : α → Nat) (l : List α) (k : Int) : midR enc mk cn l k 0 = l.map enc := by simp [midR]
theorem midR_all {α : Type} (enc : α → List D) (mk : α → Int → α) (cn : α → Nat) (l : List α) (k : Int) : midR enc mk cn l k l.length = (mkL mk cn l k).map enc := by
  simp only [midR, List.drop_length, List.map_nil, List.append_nil]
  rw [List.take_of_length_le (by rw [mkL_length]; exact Nat.le_refl _)]
theorem rwAt_midR {α : Type} (enc : α → List D) (mk : α → Int → α) (cn : α → Nat) (l : List α) (k : Int) (j : Nat) (h : j < l.length) : rwAt (midR enc mk cn l k j) j = enc l[j] := by
  have h1 : (((mkL mk cn l k).take j).map enc).length = j := by simp [mkL_length]; omega
  simp only [rwAt, midR, List.getD_eq_getElem?_getD]
  rw [List.getElem?_append_right (by omega), h1]
  simp [h]
theorem midR_set {α : Type} (enc : α → List D) (mk : α → Int → α) (cn : α → Nat) (l : List α) (k : Int) (j : Nat) (h : j < l.length) :
    (midR enc mk cn l k j).set j (enc (mk l[j] (k + (csum cn (l.take j) : Nat)))) = midR enc mk cn l k (j + 1) := by
  have h1 : (((mkL mk cn l k).take j).map enc).length = j := by simp [mkL_length]; omega
  have h2 : j < (mkL mk cn l k).length := by rw [mkL_length]; exact h
  simp only [midR]
  rw [List.set_append_right _ _ (by omega), h1, Nat.sub_self, List.drop_eq_getElem_cons h, List.map_cons, List.set_cons_zero, List.take_succ_eq_append_getElem h2, List.map_append, List.append_assoc, mkL_get]
  rfl
theorem rwAt_set (rows : List (List D)) (j : Nat) (r : List D) (h : j < rows.length) : rwAt (rows.set j r) j = r := by
  simp [rwAt, List.getD_eq_getElem?_getD, h]
attribute [go_sem] List.flatten_cons List.flatten_nil midR_length rwAt_midR rwAt_set mkL_length mkL_get List.length_set List.set_set pureOS pureO isWS adG mrkOK markH isG shp preH stM adSb partOK partH
end Go.Sx
