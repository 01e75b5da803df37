/-
  EqualStores, EqualDirs, EqualResults, EqualSnapshots, EqualCatalogs: both functions.
-/
import Derived.Test.YtgglopecipbbfaaGreatH2
set_option linter.all false
set_option maxRecDepth 100000
namespace Go.Proofs.YtgglopecipbbfaaGreat
open Go Go.Sx Go.RowKit Go.Proofs

def eqL {α : Type} (p : α → α → Bool) : List α → List α → Bool
  | [], [] => true
  | x :: xs, y :: ys => p x y && eqL p xs ys
  | _, _ => false
theorem eqL_len {α : Type} (p : α → α → Bool) : ∀ {a b : List α}, a.length ≠ b.length → eqL p a b = false
  | [], [], h => by simp at h
  | x :: xs, y :: ys, h => by
    have := eqL_len p (a := xs) (b := ys) (by simpa using h)
    simp [eqL, this]
  | [], _ :: _, _ => rfl
  | _ :: _, [], _ => rfl
@[go_sem] def beqInt (a b : Int) : Bool := decide (a = b)
@[go_sem] def beqField (a b : TField) : Bool := decide (a.fName = b.fName) && decide (a.fKind = b.fKind)
@[go_sem] def beqAttr (a b : TAttr) : Bool := decide (a.fName = b.fName) && (decide (a.fValue.fKind = b.fValue.fKind) && (decide (a.fValue.fInt = b.fValue.fInt) && decide (a.fValue.fStr = b.fValue.fStr)))
@[go_sem] def beqNode (a b : TNode) : Bool := decide (a.fOp = b.fOp) && (decide (a.fLeft = b.fLeft) && (decide (a.fRight = b.fRight) && (decide (a.fName = b.fName) && (decide (a.fValue.fKind = b.fValue.fKind) && (decide (a.fValue.fInt = b.fValue.fInt) && decide (a.fValue.fStr = b.fValue.fStr))))))
def beqFile (a b : TFile) : Bool := decide (a.fID = b.fID) && (decide (a.fOwner = b.fOwner) && ((a.fShared == b.fShared) && (decide (a.fLink = b.fLink) && eqL beqAttr a.fAttrs b.fAttrs)))
def beqDir (a b : TDir) : Bool := decide (a.fName = b.fName) && eqL beqNode a.fQuery b.fQuery
def beqResult (a b : TResult) : Bool := decide (a.fName = b.fName) && eqL beqInt a.fIDs b.fIDs
def beqStore (a b : TStore) : Bool := eqL beqField a.fSchema b.fSchema && (eqL beqFile a.fFiles b.fFiles && decide (a.fNextID = b.fNextID))
def beqSnapshot (a b : TSnapshot) : Bool := beqStore a.fStore b.fStore && eqL beqDir a.fDirs b.fDirs
def beqCatalog (a b : TCatalog) : Bool := beqStore a.fStore b.fStore && (eqL beqDir a.fDirs b.fDirs && eqL beqResult a.fResults b.fResults)

theorem specInts_ok (a b : List Int) (ha : a.length ≤ 4300000) : FnC Tryz.prog 85 [.o (.d (.sl (a.map encI))), .o (.d (.sl (b.map encI)))] (ob (eqL beqInt a b)) := by
  have hal : a.length ≤ 4300000 := by omega
  refine ent Tryz.func85 rfl Tryz.call85 rfl (fun C => ?_); simp only [go_sem, st0, Tryz.ntmps85]
  repeat' (with_reducible first | refine nY ?_ | (refine mX ?_; try simp only [go_sem]) | refine kO ?_ (by decide) | (refine regx (by simp only [bodyX, isStX, Bool.false_eq_true, if_false, if_true]; rfl) (by kernel_rfl) (by kernel_rfl) (by decide) ?_ ?_ ?_; (focus simp only [go_sem]; done); (focus simp only [go_sem]; done)) | refine xE ?_ (by simp only [tailX, isStX, Bool.false_eq_true, if_false, if_true]; rfl) (by simp only [go_sem]; rfl) | refine regd (by kernel_rfl) ?_ | (refine And.intro ?_ ?_; focus omega))
  refine cnd rfl (fun h0 => ?_) (fun h0 => ?_)
  · have e : eqL beqInt a b = false := eqL_len _ (by simp only [Bool.not_eq_true', decide_eq_false_iff_not] at h0; omega)
    repeat' (with_reducible first | refine nY ?_ | (refine mX ?_; try simp only [go_sem]) | refine kO ?_ (by decide) | (refine regx (by simp only [bodyX, isStX, Bool.false_eq_true, if_false, if_true]; rfl) (by kernel_rfl) (by kernel_rfl) (by decide) ?_ ?_ ?_; (focus simp only [go_sem]; done); (focus simp only [go_sem]; done)) | refine xE ?_ (by simp only [tailX, isStX, Bool.false_eq_true, if_false, if_true]; rfl) (by simp only [go_sem]; rfl) | refine regd (by kernel_rfl) ?_ | (refine And.intro ?_ ?_; focus omega))
    exact retK_ret ⟨⟨_, rfl, by simp only [go_sem, e]⟩, trivial⟩
  have h0 : a.length = b.length := by simpa [Int.ofNat_inj] using h0
  repeat' (with_reducible first | refine nY ?_ | (refine mX ?_; try simp only [go_sem]) | refine kO ?_ (by decide) | (refine regx (by simp only [bodyX, isStX, Bool.false_eq_true, if_false, if_true]; rfl) (by kernel_rfl) (by kernel_rfl) (by decide) ?_ ?_ ?_; (focus simp only [go_sem]; done); (focus simp only [go_sem]; done)) | refine xE ?_ (by simp only [tailX, isStX, Bool.false_eq_true, if_false, if_true]; rfl) (by simp only [go_sem]; rfl) | refine regd (by kernel_rfl) ?_ | (refine And.intro ?_ ?_; focus omega))
  refine WP_lp (α := Nat) (fun k => [(5, oi k)]) (fun _ => []) (fun k => k ≤ a.length ∧ eqL beqInt a b = eqL beqInt (a.drop k) (b.drop k)) (fun k => a.length - k) 0 (fun _ => ?_) ?_ ?_ (fun k hk => ?_)
  · simp only [go_sem]
  · simp only [go_sem]; simp
  · simp
  · obtain ⟨hk, hq⟩ := hk
    simp only [go_sem]
    repeat' (with_reducible first | refine nY ?_ | (refine mX ?_; try simp only [go_sem]) | refine kO ?_ (by decide) | (refine regx (by simp only [bodyX, isStX, Bool.false_eq_true, if_false, if_true]; rfl) (by kernel_rfl) (by kernel_rfl) (by decide) ?_ ?_ ?_; (focus simp only [go_sem]; done); (focus simp only [go_sem]; done)) | refine xE ?_ (by simp only [tailX, isStX, Bool.false_eq_true, if_false, if_true]; rfl) (by simp only [go_sem]; rfl) | refine regd (by kernel_rfl) ?_ | (refine And.intro ?_ ?_; focus omega))
    refine cnd rfl (fun h => ?_) (fun h => ?_)
    · simp only [decide_eq_true_eq, Int.ofNat_lt] at h
      have hb : k < b.length := by omega
      rw [List.drop_eq_getElem_cons h, List.drop_eq_getElem_cons hb, eqL] at hq
      
      repeat' (with_reducible first | refine nY ?_ | (refine mX ?_; try simp only [go_sem, h, hb]) | refine kO ?_ (by decide) | (refine regx (by simp only [bodyX, isStX, Bool.false_eq_true, if_false, if_true]; rfl) (by kernel_rfl) (by kernel_rfl) (by decide) ?_ ?_ ?_; (focus simp only [go_sem]; done); (focus simp only [go_sem]; done)) | refine xE ?_ (by simp only [tailX, isStX, Bool.false_eq_true, if_false, if_true]; rfl) (by simp only [go_sem]; rfl) | refine regd (by kernel_rfl) ?_ | (refine And.intro ?_ ?_; focus omega))
      refine cnd (b := !(beqInt a[k] b[k])) (by rfl) (fun h2 => ?_) (fun h2 => ?_)
      · simp only [Bool.not_eq_true'] at h2
        rw [h2, Bool.false_and] at hq
        repeat' (with_reducible first | refine nY ?_ | (refine mX ?_; try simp only [go_sem]) | refine kO ?_ (by decide) | (refine regx (by simp only [bodyX, isStX, Bool.false_eq_true, if_false, if_true]; rfl) (by kernel_rfl) (by kernel_rfl) (by decide) ?_ ?_ ?_; (focus simp only [go_sem]; done); (focus simp only [go_sem]; done)) | refine xE ?_ (by simp only [tailX, isStX, Bool.false_eq_true, if_false, if_true]; rfl) (by simp only [go_sem]; rfl) | refine regd (by kernel_rfl) ?_ | (refine And.intro ?_ ?_; focus omega))
        exact retK_ret ⟨⟨_, rfl, by simp only [go_sem, hq]⟩, trivial⟩
      · simp only [Bool.not_eq_false'] at h2
        rw [h2, Bool.true_and] at hq
        repeat' (with_reducible first | refine nY ?_ | (refine mX ?_; try simp only [go_sem]) | refine kO ?_ (by decide) | (refine regx (by simp only [bodyX, isStX, Bool.false_eq_true, if_false, if_true]; rfl) (by kernel_rfl) (by kernel_rfl) (by decide) ?_ ?_ ?_; (focus simp only [go_sem]; done); (focus simp only [go_sem]; done)) | refine xE ?_ (by simp only [tailX, isStX, Bool.false_eq_true, if_false, if_true]; rfl) (by simp only [go_sem]; rfl) | refine regd (by kernel_rfl) ?_ | (refine And.intro ?_ ?_; focus omega))
        refine L_next (k + 1) ?_ ?_ ?_
        · simp only [go_sem]; simp
        · exact ⟨h, hq⟩
        · omega
    · simp only [decide_eq_false_iff_not] at h
      have e : k = a.length := by omega
      subst e
      rw [List.drop_length, List.drop_of_length_le (by omega), eqL] at hq
      repeat' (with_reducible first | refine nY ?_ | (refine mX ?_; try simp only [go_sem]) | refine kO ?_ (by decide) | (refine regx (by simp only [bodyX, isStX, Bool.false_eq_true, if_false, if_true]; rfl) (by kernel_rfl) (by kernel_rfl) (by decide) ?_ ?_ ?_; (focus simp only [go_sem]; done); (focus simp only [go_sem]; done)) | refine xE ?_ (by simp only [tailX, isStX, Bool.false_eq_true, if_false, if_true]; rfl) (by simp only [go_sem]; rfl) | refine regd (by kernel_rfl) ?_ | (refine And.intro ?_ ?_; focus omega))
      exact retK_ret ⟨⟨_, rfl, by simp only [go_sem, hq]⟩, trivial⟩

theorem implIntsEq_ok (a b : List Int) (ha : a.length ≤ 4300000) : FnC Tryz.prog 168 [.o (.d (.sl (a.map encI))), .o (.d (.sl (b.map encI)))] (ob (eqL beqInt a b)) := by
  have hal : a.length ≤ 4300000 := by omega
  refine ent Tryz.func168 rfl Tryz.call168 rfl (fun C => ?_); simp only [go_sem, st0, Tryz.ntmps168]
  repeat' (with_reducible first | refine nY ?_ | (refine mX ?_; try simp only [go_sem]) | refine kO ?_ (by decide) | (refine regx (by simp only [bodyX, isStX, Bool.false_eq_true, if_false, if_true]; rfl) (by kernel_rfl) (by kernel_rfl) (by decide) ?_ ?_ ?_; (focus simp only [go_sem]; done); (focus simp only [go_sem]; done)) | refine xE ?_ (by simp only [tailX, isStX, Bool.false_eq_true, if_false, if_true]; rfl) (by simp only [go_sem]; rfl) | refine regd (by kernel_rfl) ?_ | (refine And.intro ?_ ?_; focus omega))
  refine cnd rfl (fun h0 => ?_) (fun h0 => ?_)
  · have e : eqL beqInt a b = false := eqL_len _ (by simp only [Bool.not_eq_true', decide_eq_false_iff_not] at h0; omega)
    repeat' (with_reducible first | refine nY ?_ | (refine mX ?_; try simp only [go_sem]) | refine kO ?_ (by decide) | (refine regx (by simp only [bodyX, isStX, Bool.false_eq_true, if_false, if_true]; rfl) (by kernel_rfl) (by kernel_rfl) (by decide) ?_ ?_ ?_; (focus simp only [go_sem]; done); (focus simp only [go_sem]; done)) | refine xE ?_ (by simp only [tailX, isStX, Bool.false_eq_true, if_false, if_true]; rfl) (by simp only [go_sem]; rfl) | refine regd (by kernel_rfl) ?_ | (refine And.intro ?_ ?_; focus omega))
    exact retK_ret ⟨⟨_, rfl, by simp only [go_sem, e]⟩, trivial⟩
  have h0 : a.length = b.length := by simpa [Int.ofNat_inj] using h0
  repeat' (with_reducible first | refine nY ?_ | (refine mX ?_; try simp only [go_sem]) | refine kO ?_ (by decide) | (refine regx (by simp only [bodyX, isStX, Bool.false_eq_true, if_false, if_true]; rfl) (by kernel_rfl) (by kernel_rfl) (by decide) ?_ ?_ ?_; (focus simp only [go_sem]; done); (focus simp only [go_sem]; done)) | refine xE ?_ (by simp only [tailX, isStX, Bool.false_eq_true, if_false, if_true]; rfl) (by simp only [go_sem]; rfl) | refine regd (by kernel_rfl) ?_ | (refine And.intro ?_ ?_; focus omega))
  refine WP_lp (α := Nat) (fun k => [(13, oi k)]) (fun _ => []) (fun k => k ≤ a.length ∧ eqL beqInt a b = eqL beqInt (a.drop k) (b.drop k)) (fun k => a.length - k) 0 (fun _ => ?_) ?_ ?_ (fun k hk => ?_)
  · simp only [go_sem]
  · simp only [go_sem]; simp
  · simp
  · obtain ⟨hk, hq⟩ := hk
    simp only [go_sem]
    repeat' (with_reducible first | refine nY ?_ | (refine mX ?_; try simp only [go_sem]) | refine kO ?_ (by decide) | (refine regx (by simp only [bodyX, isStX, Bool.false_eq_true, if_false, if_true]; rfl) (by kernel_rfl) (by kernel_rfl) (by decide) ?_ ?_ ?_; (focus simp only [go_sem]; done); (focus simp only [go_sem]; done)) | refine xE ?_ (by simp only [tailX, isStX, Bool.false_eq_true, if_false, if_true]; rfl) (by simp only [go_sem]; rfl) | refine regd (by kernel_rfl) ?_ | (refine And.intro ?_ ?_; focus omega))
    refine cnd rfl (fun h => ?_) (fun h => ?_)
    · simp only [decide_eq_true_eq, Int.ofNat_lt] at h
      have hb : k < b.length := by omega
      rw [List.drop_eq_getElem_cons h, List.drop_eq_getElem_cons hb, eqL] at hq
      
      repeat' (with_reducible first | refine nY ?_ | (refine mX ?_; try simp only [go_sem, h, hb]) | refine kO ?_ (by decide) | (refine regx (by simp only [bodyX, isStX, Bool.false_eq_true, if_false, if_true]; rfl) (by kernel_rfl) (by kernel_rfl) (by decide) ?_ ?_ ?_; (focus simp only [go_sem]; done); (focus simp only [go_sem]; done)) | refine xE ?_ (by simp only [tailX, isStX, Bool.false_eq_true, if_false, if_true]; rfl) (by simp only [go_sem]; rfl) | refine regd (by kernel_rfl) ?_ | (refine And.intro ?_ ?_; focus omega))
      refine cnd (b := !(beqInt a[k] b[k])) (by rfl) (fun h2 => ?_) (fun h2 => ?_)
      · simp only [Bool.not_eq_true'] at h2
        rw [h2, Bool.false_and] at hq
        repeat' (with_reducible first | refine nY ?_ | (refine mX ?_; try simp only [go_sem]) | refine kO ?_ (by decide) | (refine regx (by simp only [bodyX, isStX, Bool.false_eq_true, if_false, if_true]; rfl) (by kernel_rfl) (by kernel_rfl) (by decide) ?_ ?_ ?_; (focus simp only [go_sem]; done); (focus simp only [go_sem]; done)) | refine xE ?_ (by simp only [tailX, isStX, Bool.false_eq_true, if_false, if_true]; rfl) (by simp only [go_sem]; rfl) | refine regd (by kernel_rfl) ?_ | (refine And.intro ?_ ?_; focus omega))
        exact retK_ret ⟨⟨_, rfl, by simp only [go_sem, hq]⟩, trivial⟩
      · simp only [Bool.not_eq_false'] at h2
        rw [h2, Bool.true_and] at hq
        repeat' (with_reducible first | refine nY ?_ | (refine mX ?_; try simp only [go_sem]) | refine kO ?_ (by decide) | (refine regx (by simp only [bodyX, isStX, Bool.false_eq_true, if_false, if_true]; rfl) (by kernel_rfl) (by kernel_rfl) (by decide) ?_ ?_ ?_; (focus simp only [go_sem]; done); (focus simp only [go_sem]; done)) | refine xE ?_ (by simp only [tailX, isStX, Bool.false_eq_true, if_false, if_true]; rfl) (by simp only [go_sem]; rfl) | refine regd (by kernel_rfl) ?_ | (refine And.intro ?_ ?_; focus omega))
        refine L_next (k + 1) ?_ ?_ ?_
        · simp only [go_sem]; simp
        · exact ⟨h, hq⟩
        · omega
    · simp only [decide_eq_false_iff_not] at h
      have e : k = a.length := by omega
      subst e
      rw [List.drop_length, List.drop_of_length_le (by omega), eqL] at hq
      repeat' (with_reducible first | refine nY ?_ | (refine mX ?_; try simp only [go_sem]) | refine kO ?_ (by decide) | (refine regx (by simp only [bodyX, isStX, Bool.false_eq_true, if_false, if_true]; rfl) (by kernel_rfl) (by kernel_rfl) (by decide) ?_ ?_ ?_; (focus simp only [go_sem]; done); (focus simp only [go_sem]; done)) | refine xE ?_ (by simp only [tailX, isStX, Bool.false_eq_true, if_false, if_true]; rfl) (by simp only [go_sem]; rfl) | refine regd (by kernel_rfl) ?_ | (refine And.intro ?_ ?_; focus omega))
      exact retK_ret ⟨⟨_, rfl, by simp only [go_sem, hq]⟩, trivial⟩


end Go.Proofs.YtgglopecipbbfaaGreat
