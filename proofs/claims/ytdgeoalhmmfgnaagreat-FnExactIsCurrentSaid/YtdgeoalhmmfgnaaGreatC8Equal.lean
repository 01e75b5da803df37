/- EqualStores, EqualDirs, EqualResults, EqualSnapshots, EqualCatalogs: both functions. -/
import Derived.Test.YtdgeoalhmmfgnaaGreatH2
set_option linter.all false
set_option maxRecDepth 100000
namespace Go.Proofs.YtdgeoalhmmfgnaaGreat
open Go Go.Sx Go.RowKit Go.Proofs
def eqL {α : Type} (p : α → α → Bool) : List α → List α → Bool
 | [], [] => true
 | x :: xs, y :: ys => p x y && eqL p xs ys
 | _, _ => false
theorem eqL_len {α : Type} (p : α → α → Bool) : ∀ {a b : List α}, a.length ≠ b.length → eqL p a b = false
 | [], [], h => by simp at h
 | x :: xs, y :: ys, h => by
  have := eqL_len p (a := xs) (b := ys) (by simpa using h)
  simp [eqL, this]
 | [], _ :: _, _ => rfl
 | _ :: _, [], _ => rfl
@[go_sem] def beqInt (a b : Int) : Bool := decide (a = b)
@[go_sem] def beqField (a b : TField) : Bool := decide (a.fName = b.fName) && decide (a.fKind = b.fKind)
@[go_sem] def beqAttr (a b : TAttr) : Bool := decide (a.fName = b.fName) && (decide (a.fValue.fKind = b.fValue.fKind) && (decide (a.fValue.fInt = b.fValue.fInt) && decide (a.fValue.fStr = b.fValue.fStr)))
@[go_sem] def beqNode (a b : TNode) : Bool := decide (a.fOp = b.fOp) && (decide (a.fLeft = b.fLeft) && (decide (a.fRight = b.fRight) && (decide (a.fName = b.fName) && (decide (a.fValue.fKind = b.fValue.fKind) && (decide (a.fValue.fInt = b.fValue.fInt) && decide (a.fValue.fStr = b.fValue.fStr))))))
def beqFile (a b : TFile) : Bool := decide (a.fID = b.fID) && (decide (a.fOwner = b.fOwner) && ((a.fShared == b.fShared) && (decide (a.fLink = b.fLink) && eqL beqAttr a.fAttrs b.fAttrs)))
def beqDir (a b : TDir) : Bool := decide (a.fName = b.fName) && eqL beqNode a.fQuery b.fQuery
def beqResult (a b : TResult) : Bool := decide (a.fName = b.fName) && eqL beqInt a.fIDs b.fIDs
def beqStore (a b : TStore) : Bool := eqL beqField a.fSchema b.fSchema && (eqL beqFile a.fFiles b.fFiles && decide (a.fNextID = b.fNextID))
def beqSnapshot (a b : TSnapshot) : Bool := beqStore a.fStore b.fStore && eqL beqDir a.fDirs b.fDirs
def beqCatalog (a b : TCatalog) : Bool := beqStore a.fStore b.fStore && (eqL beqDir a.fDirs b.fDirs && eqL beqResult a.fResults b.fResults)
theorem specInts_ok (a b : List Int) (ha : a.length ≤ 1048576) : FnC Tryz.prog 43 [.o (.d (.sl (a.map encI))), .o (.d (.sl (b.map encI)))] (ob (eqL beqInt a b)) := by
 have hal : a.length ≤ 1048576 := by omega
 refine ent Tryz.func43 rfl Tryz.call43 rfl (fun C => ?_); simp only [go_sem, st0, Tryz.ntmps43]
 repeat' (with_reducible first | refine nX ?_ | (refine mX ?_; try simp only [go_sem]) | refine kO ?_ (by decide) | refine reg ?_ | (refine regx (by simp only [bodyX, isStX, Bool.false_eq_true, if_false, if_true]; rfl) (by kernel_rfl) (by kernel_rfl) (by decide) ?_ ?_ ?_; (focus simp only [go_sem]; done); (focus simp only [go_sem]; done)) | refine xE ?_ (by simp only [tailX, isStX, Bool.false_eq_true, if_false, if_true]; rfl) (by simp only [go_sem]; rfl) | refine regd (by kernel_rfl) ?_ | (refine cndt ?_ ?_; (focus simp only [go_sem]; done)) | (refine cndf ?_ ?_; (focus simp only [go_sem]; done)) | (refine And.intro ?_ ?_; focus omega))
 refine cnd rfl (fun h0 => ?_) (fun h0 => ?_)
 ·have e : eqL beqInt a b = false := eqL_len _ (by simp only [Bool.not_eq_true', decide_eq_false_iff_not] at h0; omega)
  repeat' (with_reducible first | refine nX ?_ | (refine mX ?_; try simp only [go_sem]) | refine kO ?_ (by decide) | refine reg ?_ | (refine regx (by simp only [bodyX, isStX, Bool.false_eq_true, if_false, if_true]; rfl) (by kernel_rfl) (by kernel_rfl) (by decide) ?_ ?_ ?_; (focus simp only [go_sem]; done); (focus simp only [go_sem]; done)) | refine xE ?_ (by simp only [tailX, isStX, Bool.false_eq_true, if_false, if_true]; rfl) (by simp only [go_sem]; rfl) | refine regd (by kernel_rfl) ?_ | (refine cndt ?_ ?_; (focus simp only [go_sem]; done)) | (refine cndf ?_ ?_; (focus simp only [go_sem]; done)) | (refine And.intro ?_ ?_; focus omega))
  exact retK_ret ⟨⟨_, rfl, by simp only [go_sem, e]⟩, trivial⟩
 have h0 : a.length = b.length := by simpa [Int.ofNat_inj] using h0
 repeat' (with_reducible first | refine nX ?_ | (refine mX ?_; try simp only [go_sem]) | refine kO ?_ (by decide) | refine reg ?_ | (refine regx (by simp only [bodyX, isStX, Bool.false_eq_true, if_false, if_true]; rfl) (by kernel_rfl) (by kernel_rfl) (by decide) ?_ ?_ ?_; (focus simp only [go_sem]; done); (focus simp only [go_sem]; done)) | refine xE ?_ (by simp only [tailX, isStX, Bool.false_eq_true, if_false, if_true]; rfl) (by simp only [go_sem]; rfl) | refine regd (by kernel_rfl) ?_ | (refine cndt ?_ ?_; (focus simp only [go_sem]; done)) | (refine cndf ?_ ?_; (focus simp only [go_sem]; done)) | (refine And.intro ?_ ?_; focus omega))
 refine WP_lp (α := Nat) (fun k => [(5, oi k)]) (fun _ => []) (fun k => k ≤ a.length ∧ eqL beqInt a b = eqL beqInt (a.drop k) (b.drop k)) (fun k => a.length - k) 0 (fun _ => ?_) ?_ ?_ (fun k hk => ?_)
 ·simp only [go_sem]
 ·simp only [go_sem]; simp
 ·simp
 ·obtain ⟨hk, hq⟩ := hk
  simp only [go_sem]
  repeat' (with_reducible first | refine nX ?_ | (refine mX ?_; try simp only [go_sem]) | refine kO ?_ (by decide) | refine reg ?_ | (refine regx (by simp only [bodyX, isStX, Bool.false_eq_true, if_false, if_true]; rfl) (by kernel_rfl) (by kernel_rfl) (by decide) ?_ ?_ ?_; (focus simp only [go_sem]; done); (focus simp only [go_sem]; done)) | refine xE ?_ (by simp only [tailX, isStX, Bool.false_eq_true, if_false, if_true]; rfl) (by simp only [go_sem]; rfl) | refine regd (by kernel_rfl) ?_ | (refine cndt ?_ ?_; (focus simp only [go_sem]; done)) | (refine cndf ?_ ?_; (focus simp only [go_sem]; done)) | (refine And.intro ?_ ?_; focus omega))
  refine cnd rfl (fun h => ?_) (fun h => ?_)
  ·simp only [decide_eq_true_eq, Int.ofNat_lt] at h
   have hb : k < b.length := by omega
   rw [List.drop_eq_getElem_cons h, List.drop_eq_getElem_cons hb, eqL] at hq
   repeat' (with_reducible first | refine nX ?_ | (refine mX ?_; try simp only [go_sem, h, hb]) | refine kO ?_ (by decide) | refine reg ?_ | (refine regx (by simp only [bodyX, isStX, Bool.false_eq_true, if_false, if_true]; rfl) (by kernel_rfl) (by kernel_rfl) (by decide) ?_ ?_ ?_; (focus simp only [go_sem]; done); (focus simp only [go_sem]; done)) | refine xE ?_ (by simp only [tailX, isStX, Bool.false_eq_true, if_false, if_true]; rfl) (by simp only [go_sem]; rfl) | refine regd (by kernel_rfl) ?_ | (refine cndt ?_ ?_; (focus simp only [go_sem]; done)) | (refine cndf ?_ ?_; (focus simp only [go_sem]; done)) | (refine And.intro ?_ ?_; focus omega))
   refine cnd (b := !(beqInt a[k] b[k])) (by rfl) (fun h2 => ?_) (fun h2 => ?_)
   ·simp only [Bool.not_eq_true'] at h2
    rw [h2, Bool.false_and] at hq
    repeat' (with_reducible first | refine nX ?_ | (refine mX ?_; try simp only [go_sem]) | refine kO ?_ (by decide) | refine reg ?_ | (refine regx (by simp only [bodyX, isStX, Bool.false_eq_true, if_false, if_true]; rfl) (by kernel_rfl) (by kernel_rfl) (by decide) ?_ ?_ ?_; (focus simp only [go_sem]; done); (focus simp only [go_sem]; done)) | refine xE ?_ (by simp only [tailX, isStX, Bool.false_eq_true, if_false, if_true]; rfl) (by simp only [go_sem]; rfl) | refine regd (by kernel_rfl) ?_ | (refine cndt ?_ ?_; (focus simp only [go_sem]; done)) | (refine cndf ?_ ?_; (focus simp only [go_sem]; done)) | (refine And.intro ?_ ?_; focus omega))
    exact retK_ret ⟨⟨_, rfl, by simp only [go_sem, hq]⟩, trivial⟩
   ·simp only [Bool.not_eq_false'] at h2
    rw [h2, Bool.true_and] at hq
    repeat' (with_reducible first | refine nX ?_ | (refine mX ?_; try simp only [go_sem]) | refine kO ?_ (by decide) | refine reg ?_ | (refine regx (by simp only [bodyX, isStX, Bool.false_eq_true, if_false, if_true]; rfl) (by kernel_rfl) (by kernel_rfl) (by decide) ?_ ?_ ?_; (focus simp only [go_sem]; done); (focus simp only [go_sem]; done)) | refine xE ?_ (by simp only [tailX, isStX, Bool.false_eq_true, if_false, if_true]; rfl) (by simp only [go_sem]; rfl) | refine regd (by kernel_rfl) ?_ | (refine cndt ?_ ?_; (focus simp only [go_sem]; done)) | (refine cndf ?_ ?_; (focus simp only [go_sem]; done)) | (refine And.intro ?_ ?_; focus omega))
    refine L_next (k + 1) ?_ ?_ ?_
    ·simp only [go_sem]; simp
    ·exact ⟨h, hq⟩
    ·omega
  ·simp only [decide_eq_false_iff_not] at h
   have e : k = a.length := by omega
   subst e
   rw [List.drop_length, List.drop_of_length_le (by omega), eqL] at hq
   repeat' (with_reducible first | refine nX ?_ | (refine mX ?_; try simp only [go_sem]) | refine kO ?_ (by decide) | refine reg ?_ | (refine regx (by simp only [bodyX, isStX, Bool.false_eq_true, if_false, if_true]; rfl) (by kernel_rfl) (by kernel_rfl) (by decide) ?_ ?_ ?_; (focus simp only [go_sem]; done); (focus simp only [go_sem]; done)) | refine xE ?_ (by simp only [tailX, isStX, Bool.false_eq_true, if_false, if_true]; rfl) (by simp only [go_sem]; rfl) | refine regd (by kernel_rfl) ?_ | (refine cndt ?_ ?_; (focus simp only [go_sem]; done)) | (refine cndf ?_ ?_; (focus simp only [go_sem]; done)) | (refine And.intro ?_ ?_; focus omega))
   exact retK_ret ⟨⟨_, rfl, by simp only [go_sem, hq]⟩, trivial⟩
theorem implIntsEq_ok (a b : List Int) (ha : a.length ≤ 1048576) : FnC Tryz.prog 63 [.o (.d (.sl (a.map encI))), .o (.d (.sl (b.map encI)))] (ob (eqL beqInt a b)) := by
 have hal : a.length ≤ 1048576 := by omega
 refine ent Tryz.func63 rfl Tryz.call63 rfl (fun C => ?_); simp only [go_sem, st0, Tryz.ntmps63]
 repeat' (with_reducible first | refine nX ?_ | (refine mX ?_; try simp only [go_sem]) | refine kO ?_ (by decide) | refine reg ?_ | (refine regx (by simp only [bodyX, isStX, Bool.false_eq_true, if_false, if_true]; rfl) (by kernel_rfl) (by kernel_rfl) (by decide) ?_ ?_ ?_; (focus simp only [go_sem]; done); (focus simp only [go_sem]; done)) | refine xE ?_ (by simp only [tailX, isStX, Bool.false_eq_true, if_false, if_true]; rfl) (by simp only [go_sem]; rfl) | refine regd (by kernel_rfl) ?_ | (refine cndt ?_ ?_; (focus simp only [go_sem]; done)) | (refine cndf ?_ ?_; (focus simp only [go_sem]; done)) | (refine And.intro ?_ ?_; focus omega))
 refine cnd rfl (fun h0 => ?_) (fun h0 => ?_)
 ·have e : eqL beqInt a b = false := eqL_len _ (by simp only [Bool.not_eq_true', decide_eq_false_iff_not] at h0; omega)
  repeat' (with_reducible first | refine nX ?_ | (refine mX ?_; try simp only [go_sem]) | refine kO ?_ (by decide) | refine reg ?_ | (refine regx (by simp only [bodyX, isStX, Bool.false_eq_true, if_false, if_true]; rfl) (by kernel_rfl) (by kernel_rfl) (by decide) ?_ ?_ ?_; (focus simp only [go_sem]; done); (focus simp only [go_sem]; done)) | refine xE ?_ (by simp only [tailX, isStX, Bool.false_eq_true, if_false, if_true]; rfl) (by simp only [go_sem]; rfl) | refine regd (by kernel_rfl) ?_ | (refine cndt ?_ ?_; (focus simp only [go_sem]; done)) | (refine cndf ?_ ?_; (focus simp only [go_sem]; done)) | (refine And.intro ?_ ?_; focus omega))
  exact retK_ret ⟨⟨_, rfl, by simp only [go_sem, e]⟩, trivial⟩
 have h0 : a.length = b.length := by simpa [Int.ofNat_inj] using h0
 repeat' (with_reducible first | refine nX ?_ | (refine mX ?_; try simp only [go_sem]) | refine kO ?_ (by decide) | refine reg ?_ | (refine regx (by simp only [bodyX, isStX, Bool.false_eq_true, if_false, if_true]; rfl) (by kernel_rfl) (by kernel_rfl) (by decide) ?_ ?_ ?_; (focus simp only [go_sem]; done); (focus simp only [go_sem]; done)) | refine xE ?_ (by simp only [tailX, isStX, Bool.false_eq_true, if_false, if_true]; rfl) (by simp only [go_sem]; rfl) | refine regd (by kernel_rfl) ?_ | (refine cndt ?_ ?_; (focus simp only [go_sem]; done)) | (refine cndf ?_ ?_; (focus simp only [go_sem]; done)) | (refine And.intro ?_ ?_; focus omega))
 refine WP_lp (α := Nat) (fun k => [(13, oi k)]) (fun _ => []) (fun k => k ≤ a.length ∧ eqL beqInt a b = eqL beqInt (a.drop k) (b.drop k)) (fun k => a.length - k) 0 (fun _ => ?_) ?_ ?_ (fun k hk => ?_)
 ·simp only [go_sem]
 ·simp only [go_sem]; simp
 ·simp
 ·obtain ⟨hk, hq⟩ := hk
  simp only [go_sem]
  repeat' (with_reducible first | refine nX ?_ | (refine mX ?_; try simp only [go_sem]) | refine kO ?_ (by decide) | refine reg ?_ | (refine regx (by simp only [bodyX, isStX, Bool.false_eq_true, if_false, if_true]; rfl) (by kernel_rfl) (by kernel_rfl) (by decide) ?_ ?_ ?_; (focus simp only [go_sem]; done); (focus simp only [go_sem]; done)) | refine xE ?_ (by simp only [tailX, isStX, Bool.false_eq_true, if_false, if_true]; rfl) (by simp only [go_sem]; rfl) | refine regd (by kernel_rfl) ?_ | (refine cndt ?_ ?_; (focus simp only [go_sem]; done)) | (refine cndf ?_ ?_; (focus simp only [go_sem]; done)) | (refine And.intro ?_ ?_; focus omega))
  refine cnd rfl (fun h => ?_) (fun h => ?_)
  ·simp only [decide_eq_true_eq, Int.ofNat_lt] at h
   have hb : k < b.length := by omega
   rw [List.drop_eq_getElem_cons h, List.drop_eq_getElem_cons hb, eqL] at hq
   repeat' (with_reducible first | refine nX ?_ | (refine mX ?_; try simp only [go_sem, h, hb]) | refine kO ?_ (by decide) | refine reg ?_ | (refine regx (by simp only [bodyX, isStX, Bool.false_eq_true, if_false, if_true]; rfl) (by kernel_rfl) (by kernel_rfl) (by decide) ?_ ?_ ?_; (focus simp only [go_sem]; done); (focus simp only [go_sem]; done)) | refine xE ?_ (by simp only [tailX, isStX, Bool.false_eq_true, if_false, if_true]; rfl) (by simp only [go_sem]; rfl) | refine regd (by kernel_rfl) ?_ | (refine cndt ?_ ?_; (focus simp only [go_sem]; done)) | (refine cndf ?_ ?_; (focus simp only [go_sem]; done)) | (refine And.intro ?_ ?_; focus omega))
   refine cnd (b := !(beqInt a[k] b[k])) (by rfl) (fun h2 => ?_) (fun h2 => ?_)
   ·simp only [Bool.not_eq_true'] at h2
    rw [h2, Bool.false_and] at hq
    repeat' (with_reducible first | refine nX ?_ | (refine mX ?_; try simp only [go_sem]) | refine kO ?_ (by decide) | refine reg ?_ | (refine regx (by simp only [bodyX, isStX, Bool.false_eq_true, if_false, if_true]; rfl) (by kernel_rfl) (by kernel_rfl) (by decide) ?_ ?_ ?_; (focus simp only [go_sem]; done); (focus simp only [go_sem]; done)) | refine xE ?_ (by simp only [tailX, isStX, Bool.false_eq_true, if_false, if_true]; rfl) (by simp only [go_sem]; rfl) | refine regd (by kernel_rfl) ?_ | (refine cndt ?_ ?_; (focus simp only [go_sem]; done)) | (refine cndf ?_ ?_; (focus simp only [go_sem]; done)) | (refine And.intro ?_ ?_; focus omega))
    exact retK_ret ⟨⟨_, rfl, by simp only [go_sem, hq]⟩, trivial⟩
   ·simp only [Bool.not_eq_false'] at h2
    rw [h2, Bool.true_and] at hq
    repeat' (with_reducible first | refine nX ?_ | (refine mX ?_; try simp only [go_sem]) | refine kO ?_ (by decide) | refine reg ?_ | (refine regx (by simp only [bodyX, isStX, Bool.false_eq_true, if_false, if_true]; rfl) (by kernel_rfl) (by kernel_rfl) (by decide) ?_ ?_ ?_; (focus simp only [go_sem]; done); (focus simp only [go_sem]; done)) | refine xE ?_ (by simp only [tailX, isStX, Bool.false_eq_true, if_false, if_true]; rfl) (by simp only [go_sem]; rfl) | refine regd (by kernel_rfl) ?_ | (refine cndt ?_ ?_; (focus simp only [go_sem]; done)) | (refine cndf ?_ ?_; (focus simp only [go_sem]; done)) | (refine And.intro ?_ ?_; focus omega))
    refine L_next (k + 1) ?_ ?_ ?_
    ·simp only [go_sem]; simp
    ·exact ⟨h, hq⟩
    ·omega
  ·simp only [decide_eq_false_iff_not] at h
   have e : k = a.length := by omega
   subst e
   rw [List.drop_length, List.drop_of_length_le (by omega), eqL] at hq
   repeat' (with_reducible first | refine nX ?_ | (refine mX ?_; try simp only [go_sem]) | refine kO ?_ (by decide) | refine reg ?_ | (refine regx (by simp only [bodyX, isStX, Bool.false_eq_true, if_false, if_true]; rfl) (by kernel_rfl) (by kernel_rfl) (by decide) ?_ ?_ ?_; (focus simp only [go_sem]; done); (focus simp only [go_sem]; done)) | refine xE ?_ (by simp only [tailX, isStX, Bool.false_eq_true, if_false, if_true]; rfl) (by simp only [go_sem]; rfl) | refine regd (by kernel_rfl) ?_ | (refine cndt ?_ ?_; (focus simp only [go_sem]; done)) | (refine cndf ?_ ?_; (focus simp only [go_sem]; done)) | (refine And.intro ?_ ?_; focus omega))
   exact retK_ret ⟨⟨_, rfl, by simp only [go_sem, hq]⟩, trivial⟩
theorem specEqualResults_ok (a b : List TResult) (ha : wResultS a ≤ 1048576) : FnC Tryz.prog 30 [.o (.d (.sl (a.map encResult))), .o (.d (.sl (b.map encResult)))] (ob (eqL beqResult a b)) := by
 have hal : a.length ≤ 1048576 := by unfold wResultS at ha; omega
 refine ent Tryz.func30 rfl Tryz.call30 rfl (fun C => ?_); simp only [go_sem, st0, Tryz.ntmps30]
 repeat' (with_reducible first | refine nX ?_ | (refine mX ?_; try simp only [go_sem]) | refine kO ?_ (by decide) | refine reg ?_ | (refine regx (by simp only [bodyX, isStX, Bool.false_eq_true, if_false, if_true]; rfl) (by kernel_rfl) (by kernel_rfl) (by decide) ?_ ?_ ?_; (focus simp only [go_sem]; done); (focus simp only [go_sem]; done)) | refine xE ?_ (by simp only [tailX, isStX, Bool.false_eq_true, if_false, if_true]; rfl) (by simp only [go_sem]; rfl) | refine regd (by kernel_rfl) ?_ | (refine cndt ?_ ?_; (focus simp only [go_sem]; done)) | (refine cndf ?_ ?_; (focus simp only [go_sem]; done)) | (refine And.intro ?_ ?_; focus omega))
 refine cnd rfl (fun h0 => ?_) (fun h0 => ?_)
 ·have e : eqL beqResult a b = false := eqL_len _ (by simp only [Bool.not_eq_true', decide_eq_false_iff_not] at h0; omega)
  repeat' (with_reducible first | refine nX ?_ | (refine mX ?_; try simp only [go_sem]) | refine kO ?_ (by decide) | refine reg ?_ | (refine regx (by simp only [bodyX, isStX, Bool.false_eq_true, if_false, if_true]; rfl) (by kernel_rfl) (by kernel_rfl) (by decide) ?_ ?_ ?_; (focus simp only [go_sem]; done); (focus simp only [go_sem]; done)) | refine xE ?_ (by simp only [tailX, isStX, Bool.false_eq_true, if_false, if_true]; rfl) (by simp only [go_sem]; rfl) | refine regd (by kernel_rfl) ?_ | (refine cndt ?_ ?_; (focus simp only [go_sem]; done)) | (refine cndf ?_ ?_; (focus simp only [go_sem]; done)) | (refine And.intro ?_ ?_; focus omega))
  exact retK_ret ⟨⟨_, rfl, by simp only [go_sem, e]⟩, trivial⟩
 have h0 : a.length = b.length := by simpa [Int.ofNat_inj] using h0
 repeat' (with_reducible first | refine nX ?_ | (refine mX ?_; try simp only [go_sem]) | refine kO ?_ (by decide) | refine reg ?_ | (refine regx (by simp only [bodyX, isStX, Bool.false_eq_true, if_false, if_true]; rfl) (by kernel_rfl) (by kernel_rfl) (by decide) ?_ ?_ ?_; (focus simp only [go_sem]; done); (focus simp only [go_sem]; done)) | refine xE ?_ (by simp only [tailX, isStX, Bool.false_eq_true, if_false, if_true]; rfl) (by simp only [go_sem]; rfl) | refine regd (by kernel_rfl) ?_ | (refine cndt ?_ ?_; (focus simp only [go_sem]; done)) | (refine cndf ?_ ?_; (focus simp only [go_sem]; done)) | (refine And.intro ?_ ?_; focus omega))
 refine WP_lp (α := Nat) (fun k => [(5, oi k)]) (fun _ => []) (fun k => k ≤ a.length ∧ eqL beqResult a b = eqL beqResult (a.drop k) (b.drop k)) (fun k => a.length - k) 0 (fun _ => ?_) ?_ ?_ (fun k hk => ?_)
 ·simp only [go_sem]
 ·simp only [go_sem]; simp
 ·simp
 ·obtain ⟨hk, hq⟩ := hk
  simp only [go_sem]
  repeat' (with_reducible first | refine nX ?_ | (refine mX ?_; try simp only [go_sem]) | refine kO ?_ (by decide) | refine reg ?_ | (refine regx (by simp only [bodyX, isStX, Bool.false_eq_true, if_false, if_true]; rfl) (by kernel_rfl) (by kernel_rfl) (by decide) ?_ ?_ ?_; (focus simp only [go_sem]; done); (focus simp only [go_sem]; done)) | refine xE ?_ (by simp only [tailX, isStX, Bool.false_eq_true, if_false, if_true]; rfl) (by simp only [go_sem]; rfl) | refine regd (by kernel_rfl) ?_ | (refine cndt ?_ ?_; (focus simp only [go_sem]; done)) | (refine cndf ?_ ?_; (focus simp only [go_sem]; done)) | (refine And.intro ?_ ?_; focus omega))
  refine cnd rfl (fun h => ?_) (fun h => ?_)
  ·simp only [decide_eq_true_eq, Int.ofNat_lt] at h
   have hb : k < b.length := by omega
   rw [List.drop_eq_getElem_cons h, List.drop_eq_getElem_cons hb, eqL] at hq
   have hw := wsum_get wResult a h
   have hv : a[k].fIDs.length ≤ wResult a[k] := by unfold wResult; omega
   have hx : a[k].fIDs.length ≤ 1048576 := by unfold wResultS at ha; omega
   by_cases h1 : a[k].fName = b[k].fName
   case neg =>
    have h2 : beqResult a[k] b[k] = false := by simp [beqResult, h1]
    rw [h2, Bool.false_and] at hq
    repeat' (with_reducible first | refine nX ?_ | (refine mX ?_; try simp only [go_sem, h, hb, h1, decide_false]) | refine kO ?_ (by decide) | refine reg ?_ | (refine regx (by simp only [bodyX, isStX, Bool.false_eq_true, if_false, if_true]; rfl) (by kernel_rfl) (by kernel_rfl) (by decide) ?_ ?_ ?_; (focus simp only [go_sem]; done); (focus simp only [go_sem]; done)) | refine xE ?_ (by simp only [tailX, isStX, Bool.false_eq_true, if_false, if_true]; rfl) (by simp only [go_sem]; rfl) | refine regd (by kernel_rfl) ?_ | (refine cndt ?_ ?_; (focus simp only [go_sem]; done)) | (refine cndf ?_ ?_; (focus simp only [go_sem]; done)) | (refine And.intro ?_ ?_; focus omega))
    exact retK_ret ⟨⟨_, rfl, by simp only [go_sem, hq]⟩, trivial⟩
   have h3 : beqResult a[k] b[k] = eqL beqInt a[k].fIDs b[k].fIDs := by simp [beqResult, h1]
   repeat' (with_reducible first | refine nX ?_ | (refine mX ?_; try simp only [go_sem, h, hb, h1, decide_false]) | refine kO ?_ (by decide) | refine reg ?_ | (refine regx (by simp only [bodyX, isStX, Bool.false_eq_true, if_false, if_true]; rfl) (by kernel_rfl) (by kernel_rfl) (by decide) ?_ ?_ ?_; (focus simp only [go_sem]; done); (focus simp only [go_sem]; done)) | refine xE ?_ (by simp only [tailX, isStX, Bool.false_eq_true, if_false, if_true]; rfl) (by simp only [go_sem]; rfl) | refine regd (by kernel_rfl) ?_ | (refine cA (specInts_ok a[k].fIDs b[k].fIDs hx) ?_ ?_; focus simp only [go_sem, and_self]; done) | (refine cX (specInts_ok a[k].fIDs b[k].fIDs hx) ?_ ?_; focus simp only [go_sem, and_self]; done) | (refine cY (specInts_ok a[k].fIDs b[k].fIDs hx) ?_ ?_; focus simp only [go_sem, and_self]; done) | (refine cD (specInts_ok a[k].fIDs b[k].fIDs hx) ?_ ?_; focus simp only [go_sem, and_self]; done) | (refine cndt ?_ ?_; (focus simp only [go_sem]; done)) | (refine cndf ?_ ?_; (focus simp only [go_sem]; done)) | (refine And.intro ?_ ?_; focus omega))
   refine cnd (b := !(beqResult a[k] b[k])) (by rw [h3]; rfl) (fun h2 => ?_) (fun h2 => ?_)
   ·simp only [Bool.not_eq_true'] at h2
    rw [h2, Bool.false_and] at hq
    repeat' (with_reducible first | refine nX ?_ | (refine mX ?_; try simp only [go_sem]) | refine kO ?_ (by decide) | refine reg ?_ | (refine regx (by simp only [bodyX, isStX, Bool.false_eq_true, if_false, if_true]; rfl) (by kernel_rfl) (by kernel_rfl) (by decide) ?_ ?_ ?_; (focus simp only [go_sem]; done); (focus simp only [go_sem]; done)) | refine xE ?_ (by simp only [tailX, isStX, Bool.false_eq_true, if_false, if_true]; rfl) (by simp only [go_sem]; rfl) | refine regd (by kernel_rfl) ?_ | (refine cndt ?_ ?_; (focus simp only [go_sem]; done)) | (refine cndf ?_ ?_; (focus simp only [go_sem]; done)) | (refine And.intro ?_ ?_; focus omega))
    exact retK_ret ⟨⟨_, rfl, by simp only [go_sem, hq]⟩, trivial⟩
   ·simp only [Bool.not_eq_false'] at h2
    rw [h2, Bool.true_and] at hq
    repeat' (with_reducible first | refine nX ?_ | (refine mX ?_; try simp only [go_sem]) | refine kO ?_ (by decide) | refine reg ?_ | (refine regx (by simp only [bodyX, isStX, Bool.false_eq_true, if_false, if_true]; rfl) (by kernel_rfl) (by kernel_rfl) (by decide) ?_ ?_ ?_; (focus simp only [go_sem]; done); (focus simp only [go_sem]; done)) | refine xE ?_ (by simp only [tailX, isStX, Bool.false_eq_true, if_false, if_true]; rfl) (by simp only [go_sem]; rfl) | refine regd (by kernel_rfl) ?_ | (refine cndt ?_ ?_; (focus simp only [go_sem]; done)) | (refine cndf ?_ ?_; (focus simp only [go_sem]; done)) | (refine And.intro ?_ ?_; focus omega))
    refine L_next (k + 1) ?_ ?_ ?_
    ·simp only [go_sem]; simp
    ·exact ⟨h, hq⟩
    ·omega
  ·simp only [decide_eq_false_iff_not] at h
   have e : k = a.length := by omega
   subst e
   rw [List.drop_length, List.drop_of_length_le (by omega), eqL] at hq
   repeat' (with_reducible first | refine nX ?_ | (refine mX ?_; try simp only [go_sem]) | refine kO ?_ (by decide) | refine reg ?_ | (refine regx (by simp only [bodyX, isStX, Bool.false_eq_true, if_false, if_true]; rfl) (by kernel_rfl) (by kernel_rfl) (by decide) ?_ ?_ ?_; (focus simp only [go_sem]; done); (focus simp only [go_sem]; done)) | refine xE ?_ (by simp only [tailX, isStX, Bool.false_eq_true, if_false, if_true]; rfl) (by simp only [go_sem]; rfl) | refine regd (by kernel_rfl) ?_ | (refine cndt ?_ ?_; (focus simp only [go_sem]; done)) | (refine cndf ?_ ?_; (focus simp only [go_sem]; done)) | (refine And.intro ?_ ?_; focus omega))
   exact retK_ret ⟨⟨_, rfl, by simp only [go_sem, hq]⟩, trivial⟩
theorem implEqualResults1_ok (x y : TResult) (h : wResult x ≤ 1048576) : FnC Tryz.prog 62 [gResult x, gResult y] (ob (beqResult x y)) := by
 have hx : x.fIDs.length ≤ 1048576 := by unfold wResult at h; omega
 refine ent Tryz.func62 rfl Tryz.call62 rfl (fun C => ?_); simp only [go_sem, st0, Tryz.ntmps62]
 by_cases h1 : x.fName = y.fName
 case neg =>
  repeat' (with_reducible first | refine nX ?_ | (refine mX ?_; try simp only [go_sem, h1, decide_false]) | refine kO ?_ (by decide) | refine reg ?_ | (refine regx (by simp only [bodyX, isStX, Bool.false_eq_true, if_false, if_true]; rfl) (by kernel_rfl) (by kernel_rfl) (by decide) ?_ ?_ ?_; (focus simp only [go_sem]; done); (focus simp only [go_sem]; done)) | refine xE ?_ (by simp only [tailX, isStX, Bool.false_eq_true, if_false, if_true]; rfl) (by simp only [go_sem]; rfl) | refine regd (by kernel_rfl) ?_ | (refine cndt ?_ ?_; (focus simp only [go_sem]; done)) | (refine cndf ?_ ?_; (focus simp only [go_sem]; done)) | (refine And.intro ?_ ?_; focus omega))
  exact retK_ret ⟨⟨_, rfl, by simp only [go_sem, beqResult, h1, decide_false, Bool.false_and]⟩, trivial⟩
 repeat' (with_reducible first | refine nX ?_ | (refine mX ?_; try simp only [go_sem, h1, decide_false]) | refine kO ?_ (by decide) | refine reg ?_ | (refine regx (by simp only [bodyX, isStX, Bool.false_eq_true, if_false, if_true]; rfl) (by kernel_rfl) (by kernel_rfl) (by decide) ?_ ?_ ?_; (focus simp only [go_sem]; done); (focus simp only [go_sem]; done)) | refine xE ?_ (by simp only [tailX, isStX, Bool.false_eq_true, if_false, if_true]; rfl) (by simp only [go_sem]; rfl) | refine regd (by kernel_rfl) ?_ | (refine cA (implIntsEq_ok x.fIDs y.fIDs hx) ?_ ?_; focus simp only [go_sem, and_self]; done) | (refine cX (implIntsEq_ok x.fIDs y.fIDs hx) ?_ ?_; focus simp only [go_sem, and_self]; done) | (refine cY (implIntsEq_ok x.fIDs y.fIDs hx) ?_ ?_; focus simp only [go_sem, and_self]; done) | (refine cD (implIntsEq_ok x.fIDs y.fIDs hx) ?_ ?_; focus simp only [go_sem, and_self]; done) | (refine cndt ?_ ?_; (focus simp only [go_sem]; done)) | (refine cndf ?_ ?_; (focus simp only [go_sem]; done)) | (refine And.intro ?_ ?_; focus omega))
 exact retK_ret ⟨⟨_, rfl, by simp only [go_sem, beqResult, h1, Bool.true_and]⟩, trivial⟩
theorem implResultsEq_ok (a b : List TResult) (ha : wResultS a ≤ 1048576) : FnC Tryz.prog 61 [.o (.d (.sl (a.map encResult))), .o (.d (.sl (b.map encResult))), .o (.f 62 [])] (ob (eqL beqResult a b)) := by
 have hal : a.length ≤ 1048576 := by unfold wResultS at ha; omega
 refine ent Tryz.func61 rfl Tryz.call61 rfl (fun C => ?_); simp only [go_sem, st0, Tryz.ntmps61]
 repeat' (with_reducible first | refine nX ?_ | (refine mX ?_; try simp only [go_sem]) | refine kO ?_ (by decide) | refine reg ?_ | (refine regx (by simp only [bodyX, isStX, Bool.false_eq_true, if_false, if_true]; rfl) (by kernel_rfl) (by kernel_rfl) (by decide) ?_ ?_ ?_; (focus simp only [go_sem]; done); (focus simp only [go_sem]; done)) | refine xE ?_ (by simp only [tailX, isStX, Bool.false_eq_true, if_false, if_true]; rfl) (by simp only [go_sem]; rfl) | refine regd (by kernel_rfl) ?_ | (refine cndt ?_ ?_; (focus simp only [go_sem]; done)) | (refine cndf ?_ ?_; (focus simp only [go_sem]; done)) | (refine And.intro ?_ ?_; focus omega))
 refine cnd rfl (fun h0 => ?_) (fun h0 => ?_)
 ·have e : eqL beqResult a b = false := eqL_len _ (by simp only [Bool.not_eq_true', decide_eq_false_iff_not] at h0; omega)
  repeat' (with_reducible first | refine nX ?_ | (refine mX ?_; try simp only [go_sem]) | refine kO ?_ (by decide) | refine reg ?_ | (refine regx (by simp only [bodyX, isStX, Bool.false_eq_true, if_false, if_true]; rfl) (by kernel_rfl) (by kernel_rfl) (by decide) ?_ ?_ ?_; (focus simp only [go_sem]; done); (focus simp only [go_sem]; done)) | refine xE ?_ (by simp only [tailX, isStX, Bool.false_eq_true, if_false, if_true]; rfl) (by simp only [go_sem]; rfl) | refine regd (by kernel_rfl) ?_ | (refine cndt ?_ ?_; (focus simp only [go_sem]; done)) | (refine cndf ?_ ?_; (focus simp only [go_sem]; done)) | (refine And.intro ?_ ?_; focus omega))
  exact retK_ret ⟨⟨_, rfl, by simp only [go_sem, e]⟩, trivial⟩
 have h0 : a.length = b.length := by simpa [Int.ofNat_inj] using h0
 repeat' (with_reducible first | refine nX ?_ | (refine mX ?_; try simp only [go_sem]) | refine kO ?_ (by decide) | refine reg ?_ | (refine regx (by simp only [bodyX, isStX, Bool.false_eq_true, if_false, if_true]; rfl) (by kernel_rfl) (by kernel_rfl) (by decide) ?_ ?_ ?_; (focus simp only [go_sem]; done); (focus simp only [go_sem]; done)) | refine xE ?_ (by simp only [tailX, isStX, Bool.false_eq_true, if_false, if_true]; rfl) (by simp only [go_sem]; rfl) | refine regd (by kernel_rfl) ?_ | (refine cndt ?_ ?_; (focus simp only [go_sem]; done)) | (refine cndf ?_ ?_; (focus simp only [go_sem]; done)) | (refine And.intro ?_ ?_; focus omega))
 refine WP_lp (α := Nat) (fun k => [(17, oi k)]) (fun _ => []) (fun k => k ≤ a.length ∧ eqL beqResult a b = eqL beqResult (a.drop k) (b.drop k)) (fun k => a.length - k) 0 (fun _ => ?_) ?_ ?_ (fun k hk => ?_)
 ·simp only [go_sem]
 ·simp only [go_sem]; simp
 ·simp
 ·obtain ⟨hk, hq⟩ := hk
  simp only [go_sem]
  repeat' (with_reducible first | refine nX ?_ | (refine mX ?_; try simp only [go_sem]) | refine kO ?_ (by decide) | refine reg ?_ | (refine regx (by simp only [bodyX, isStX, Bool.false_eq_true, if_false, if_true]; rfl) (by kernel_rfl) (by kernel_rfl) (by decide) ?_ ?_ ?_; (focus simp only [go_sem]; done); (focus simp only [go_sem]; done)) | refine xE ?_ (by simp only [tailX, isStX, Bool.false_eq_true, if_false, if_true]; rfl) (by simp only [go_sem]; rfl) | refine regd (by kernel_rfl) ?_ | (refine cndt ?_ ?_; (focus simp only [go_sem]; done)) | (refine cndf ?_ ?_; (focus simp only [go_sem]; done)) | (refine And.intro ?_ ?_; focus omega))
  refine cnd rfl (fun h => ?_) (fun h => ?_)
  ·simp only [decide_eq_true_eq, Int.ofNat_lt] at h
   have hb : k < b.length := by omega
   rw [List.drop_eq_getElem_cons h, List.drop_eq_getElem_cons hb, eqL] at hq
   repeat' (with_reducible first | refine nX ?_ | (refine mX ?_; try simp only [go_sem, h, hb]) | refine kO ?_ (by decide) | refine reg ?_ | (refine regx (by simp only [bodyX, isStX, Bool.false_eq_true, if_false, if_true]; rfl) (by kernel_rfl) (by kernel_rfl) (by decide) ?_ ?_ ?_; (focus simp only [go_sem]; done); (focus simp only [go_sem]; done)) | refine xE ?_ (by simp only [tailX, isStX, Bool.false_eq_true, if_false, if_true]; rfl) (by simp only [go_sem]; rfl) | refine regd (by kernel_rfl) ?_ | (refine cA (implEqualResults1_ok a[k] b[k] (by have := wsum_get wResult a h; unfold wResultS at ha; omega)) ?_ ?_; focus simp only [go_sem, and_self]; done) | (refine cX (implEqualResults1_ok a[k] b[k] (by have := wsum_get wResult a h; unfold wResultS at ha; omega)) ?_ ?_; focus simp only [go_sem, and_self]; done) | (refine cY (implEqualResults1_ok a[k] b[k] (by have := wsum_get wResult a h; unfold wResultS at ha; omega)) ?_ ?_; focus simp only [go_sem, and_self]; done) | (refine cD (implEqualResults1_ok a[k] b[k] (by have := wsum_get wResult a h; unfold wResultS at ha; omega)) ?_ ?_; focus simp only [go_sem, and_self]; done) | (refine cndt ?_ ?_; (focus simp only [go_sem]; done)) | (refine cndf ?_ ?_; (focus simp only [go_sem]; done)) | (refine And.intro ?_ ?_; focus omega))
   refine cnd (b := !(beqResult a[k] b[k])) (by rfl) (fun h2 => ?_) (fun h2 => ?_)
   ·simp only [Bool.not_eq_true'] at h2
    rw [h2, Bool.false_and] at hq
    repeat' (with_reducible first | refine nX ?_ | (refine mX ?_; try simp only [go_sem]) | refine kO ?_ (by decide) | refine reg ?_ | (refine regx (by simp only [bodyX, isStX, Bool.false_eq_true, if_false, if_true]; rfl) (by kernel_rfl) (by kernel_rfl) (by decide) ?_ ?_ ?_; (focus simp only [go_sem]; done); (focus simp only [go_sem]; done)) | refine xE ?_ (by simp only [tailX, isStX, Bool.false_eq_true, if_false, if_true]; rfl) (by simp only [go_sem]; rfl) | refine regd (by kernel_rfl) ?_ | (refine cndt ?_ ?_; (focus simp only [go_sem]; done)) | (refine cndf ?_ ?_; (focus simp only [go_sem]; done)) | (refine And.intro ?_ ?_; focus omega))
    exact retK_ret ⟨⟨_, rfl, by simp only [go_sem, hq]⟩, trivial⟩
   ·simp only [Bool.not_eq_false'] at h2
    rw [h2, Bool.true_and] at hq
    repeat' (with_reducible first | refine nX ?_ | (refine mX ?_; try simp only [go_sem]) | refine kO ?_ (by decide) | refine reg ?_ | (refine regx (by simp only [bodyX, isStX, Bool.false_eq_true, if_false, if_true]; rfl) (by kernel_rfl) (by kernel_rfl) (by decide) ?_ ?_ ?_; (focus simp only [go_sem]; done); (focus simp only [go_sem]; done)) | refine xE ?_ (by simp only [tailX, isStX, Bool.false_eq_true, if_false, if_true]; rfl) (by simp only [go_sem]; rfl) | refine regd (by kernel_rfl) ?_ | (refine cndt ?_ ?_; (focus simp only [go_sem]; done)) | (refine cndf ?_ ?_; (focus simp only [go_sem]; done)) | (refine And.intro ?_ ?_; focus omega))
    refine L_next (k + 1) ?_ ?_ ?_
    ·simp only [go_sem]; simp
    ·exact ⟨h, hq⟩
    ·omega
  ·simp only [decide_eq_false_iff_not] at h
   have e : k = a.length := by omega
   subst e
   rw [List.drop_length, List.drop_of_length_le (by omega), eqL] at hq
   repeat' (with_reducible first | refine nX ?_ | (refine mX ?_; try simp only [go_sem]) | refine kO ?_ (by decide) | refine reg ?_ | (refine regx (by simp only [bodyX, isStX, Bool.false_eq_true, if_false, if_true]; rfl) (by kernel_rfl) (by kernel_rfl) (by decide) ?_ ?_ ?_; (focus simp only [go_sem]; done); (focus simp only [go_sem]; done)) | refine xE ?_ (by simp only [tailX, isStX, Bool.false_eq_true, if_false, if_true]; rfl) (by simp only [go_sem]; rfl) | refine regd (by kernel_rfl) ?_ | (refine cndt ?_ ?_; (focus simp only [go_sem]; done)) | (refine cndf ?_ ?_; (focus simp only [go_sem]; done)) | (refine And.intro ?_ ?_; focus omega))
   exact retK_ret ⟨⟨_, rfl, by simp only [go_sem, hq]⟩, trivial⟩
theorem implEqualResults_ok (a b : List TResult) (ha : wResultS a ≤ 1048576) : FnC Tryz.prog 32 [.o (.d (.sl (a.map encResult))), .o (.d (.sl (b.map encResult)))] (ob (eqL beqResult a b)) := by
 refine ent Tryz.func32 rfl Tryz.call32 rfl (fun C => ?_); simp only [go_sem, st0, Tryz.ntmps32]
 repeat' (with_reducible first | refine nX ?_ | (refine mX ?_; try simp only [go_sem]) | refine kO ?_ (by decide) | refine reg ?_ | (refine regx (by simp only [bodyX, isStX, Bool.false_eq_true, if_false, if_true]; rfl) (by kernel_rfl) (by kernel_rfl) (by decide) ?_ ?_ ?_; (focus simp only [go_sem]; done); (focus simp only [go_sem]; done)) | refine xE ?_ (by simp only [tailX, isStX, Bool.false_eq_true, if_false, if_true]; rfl) (by simp only [go_sem]; rfl) | refine regd (by kernel_rfl) ?_ | (refine cA (implResultsEq_ok a b ha) ?_ ?_; focus simp only [go_sem, and_self]; done) | (refine cX (implResultsEq_ok a b ha) ?_ ?_; focus simp only [go_sem, and_self]; done) | (refine cY (implResultsEq_ok a b ha) ?_ ?_; focus simp only [go_sem, and_self]; done) | (refine cD (implResultsEq_ok a b ha) ?_ ?_; focus simp only [go_sem, and_self]; done) | (refine cndt ?_ ?_; (focus simp only [go_sem]; done)) | (refine cndf ?_ ?_; (focus simp only [go_sem]; done)) | (refine And.intro ?_ ?_; focus omega))
 exact retK_ret ⟨⟨_, rfl, by simp only [go_sem]⟩, trivial⟩
end Go.Proofs.YtdgeoalhmmfgnaaGreat
