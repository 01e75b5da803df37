/-
  What a valid query asks, and the edit for it, in plain words.
-/
import Derived.Test.YteganoldfldlhaaH20Node
import Derived.Test.YteganoldfldlhaaC5Get
import Derived.Test.YteganoldfldlhaaC12Merge
import Derived.Test.YteganoldfldlhaaK8Int
set_option linter.all false
set_option maxRecDepth 100000
set_option maxHeartbeats 4000000
namespace Go.Proofs.Yteganoldfldlhaa
open Go Go.Sx Go.RowKit Go.Proofs

def lessV (v : TValue) (n : Int) : Bool := decide (v.fKind = 1) && decide (v.fInt < n)
def mt (q : List TNode) (f : TFile) (r : List TResult) : Nat → Nat → Bool
  | 0, _ => false
  | k + 1, i => match q[i]? with
    | none => false
    | some n =>
      if n.fOp = 1 then true
      else if n.fOp = 2 then !decide ((getAttr n.fName f.fAttrs).fKind = 0)
      else if n.fOp = 3 then eqVal (getAttr n.fName f.fAttrs) n.fValue
      else if n.fOp = 4 then lessV (getAttr n.fName f.fAttrs) n.fValue.fInt
      else if n.fOp = 5 then !mt q f r k n.fLeft.toNat
      else if n.fOp = 6 then mt q f r k n.fLeft.toNat && mt q f r k n.fRight.toNat
      else if n.fOp = 7 then mt q f r k n.fLeft.toNat || mt q f r k n.fRight.toNat
      else if n.fOp = 8 then hasI (resIDs n.fName r) f.fID
      else !decide (f.fLink = 0) && hasI (resIDs n.fName r) f.fLink
def oneE (a b : TEdit) : TEdit := if a.fOK then (if b.fOK then ⟨false, []⟩ else a) else (if b.fOK then b else ⟨false, []⟩)
def wt (q : List TNode) (f : TFile) (r : List TResult) : Nat → Nat → Bool → TEdit
  | 0, _, _ => ⟨false, []⟩
  | k + 1, i, b => match q[i]? with
    | none => ⟨false, []⟩
    | some n =>
      if mt q f r (k + 1) i = b then ⟨true, []⟩
      else if n.fOp = 3 then (if b then ⟨true, [⟨n.fName, n.fValue⟩]⟩ else ⟨false, []⟩)
      else if n.fOp = 2 then (if b then ⟨false, []⟩ else ⟨true, [⟨n.fName, ⟨0, 0, ⟨#[]⟩⟩⟩]⟩)
      else if n.fOp = 5 then wt q f r k n.fLeft.toNat (!b)
      else if n.fOp = 6 then (if b then mergeE (wt q f r k n.fLeft.toNat b) (wt q f r k n.fRight.toNat b) else oneE (wt q f r k n.fLeft.toNat b) (wt q f r k n.fRight.toNat b))
      else if n.fOp = 7 then (if b then oneE (wt q f r k n.fLeft.toNat b) (wt q f r k n.fRight.toNat b) else mergeE (wt q f r k n.fLeft.toNat b) (wt q f r k n.fRight.toNat b))
      else ⟨false, []⟩
theorem oneE_w (a b : TEdit) : wEdit (oneE a b) ≤ wEdit a + wEdit b := by
  unfold oneE
  have e0 : wEdit ⟨false, []⟩ = 0 := rfl
  split <;> split <;> omega
theorem wt_w {q : List TNode} {f : TFile} {r : List TResult} (h : okQ q = true) : ∀ (k i : Nat) (b : Bool), wEdit (wt q f r k i b) ≤ 16 * 2 ^ k
  | 0, i, b => by simp [wt, wEdit, wAttrS, wsum]
  | k + 1, i, b => by
    have e0 : wEdit ⟨false, []⟩ = 0 := rfl
    have e1 : wEdit ⟨true, []⟩ = 0 := rfl
    have hp : 1 ≤ 2 ^ k := Nat.one_le_two_pow
    have hs : 2 ^ (k + 1) = 2 * 2 ^ k := by rw [Nat.pow_succ]; omega
    have ih := wt_w (f := f) (r := r) h k
    rw [hs]
    unfold wt
    split
    · omega
    rename_i n hn
    have hok := okQ_at h hn
    split
    · omega
    split
    · rename_i h3
      have hw := okNode_w hok (.inr h3)
      have := hw.2 h3
      split
      · simp [wEdit, wAttrS, wsum, wAttr, wValue]; omega
      · omega
    split
    · rename_i h2
      have hw := okNode_w hok (.inl h2)
      have e3 : (⟨#[]⟩ : ByteArray).size = 0 := rfl
      split
      · omega
      · simp [wEdit, wAttrS, wsum, wAttr, wValue]; omega
    split
    · have := ih n.fLeft.toNat (!b); omega
    split
    · have h1 := ih n.fLeft.toNat b
      have h2 := ih n.fRight.toNat b
      have h3 := mergeE_w (wt q f r k n.fLeft.toNat b) (wt q f r k n.fRight.toNat b)
      have h4 := oneE_w (wt q f r k n.fLeft.toNat b) (wt q f r k n.fRight.toNat b)
      split <;> omega
    split
    · have h1 := ih n.fLeft.toNat b
      have h2 := ih n.fRight.toNat b
      have h3 := mergeE_w (wt q f r k n.fLeft.toNat b) (wt q f r k n.fRight.toNat b)
      have h4 := oneE_w (wt q f r k n.fLeft.toNat b) (wt q f r k n.fRight.toNat b)
      split <;> omega
    · omega
theorem wEdit_len (e : TEdit) : e.fSet.length ≤ wEdit e := by unfold wEdit; exact (by unfold wAttrS; omega)
end Go.Proofs.Yteganoldfldlhaa
