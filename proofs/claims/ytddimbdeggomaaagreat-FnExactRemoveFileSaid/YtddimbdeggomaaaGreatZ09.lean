/- Joined texts. -/
import Derived.Test.YtddimbdeggomaaaGreatZ08
import Derived.Test.YtddimbdeggomaaaGreatZ06
import Derived.Test.YtddimbdeggomaaaGreatZ07
set_option linter.all false
section
set_option maxRecDepth 100000
set_option maxHeartbeats 4000000
namespace Go.Proofs.YtddimbdeggomaaaGreat
open Go Go.Sx Go.RowKit Go.Proofs
def eV (v : TValue) : Bool := decide (v.fKind = 0) && (decide (v.fInt = 0) && decide (v.fStr = ⟨#[]⟩))
def kidL (n : TNode) (i : Nat) : Bool := inB n.fLeft 0 ((i : Int) - 1) && decide (0 < (i : Int))
def kidR (n : TNode) (i : Nat) : Bool := inB n.fRight 0 ((i : Int) - 1)
def noKids (n : TNode) : Bool := decide (n.fLeft = 0) && decide (n.fRight = 0)
def noText (n : TNode) : Bool := decide (n.fName = ⟨#[]⟩) && eV n.fValue
def okNode (n : TNode) (i : Nat) : Bool :=
 if n.fOp = 1 then noKids n && noText n
 else if n.fOp = 2 then isText n.fName 1 && (noKids n && eV n.fValue)
 else if n.fOp = 3 then isText n.fName 1 && (okVal n.fValue && (!decide (n.fValue.fKind = 0) && noKids n))
 else if n.fOp = 4 then isText n.fName 1 && (okVal n.fValue && (decide (n.fValue.fKind = 1) && noKids n))
 else if n.fOp = 5 then kidL n i && (decide (n.fRight = 0) && noText n)
 else if n.fOp = 6 ∨ n.fOp = 7 then kidL n i && (kidR n i && noText n)
 else if n.fOp = 8 ∨ n.fOp = 9 then isText n.fName 6 && (noKids n && eV n.fValue)
 else false
def okAt (q : List TNode) (i : Nat) : Bool := match q[i]? with
 | none => true
 | some n => okNode n i && (decide (q.length ≤ i + 1) || decide (refs q i = 1))
def okQ (q : List TNode) : Bool := (List.range q.length).all (okAt q) && inB (q.length : Int) 1 9
theorem okQ_at {q : List TNode} (h : okQ q = true) {i : Nat} {n : TNode} (hi : q[i]? = some n) : okNode n i = true := by
 unfold okQ at h
 simp only [Bool.and_eq_true, List.all_eq_true, List.mem_range] at h
 have hl : i < q.length := by
  rcases Nat.lt_or_ge i q.length with hl | hl
  ·exact hl
  ·rw [List.getElem?_eq_none hl] at hi; cases hi
 have := h.1 i hl
 unfold okAt at this
 rw [hi] at this
 simp only [Bool.and_eq_true] at this
 exact this.1
theorem okQ_len {q : List TNode} (h : okQ q = true) : 1 ≤ q.length ∧ q.length ≤ 9 := by
 unfold okQ inB at h
 simp only [Bool.and_eq_true, decide_eq_true_eq] at h
 omega
theorem isText_le {s : ByteArray} {n : Int} (h : isText s n = true) : (s.size : Int) ≤ n := by
 unfold isText inB at h
 simp only [Bool.and_eq_true, decide_eq_true_eq] at h
 omega
theorem okNode_left {n : TNode} {i : Nat} (h : okNode n i = true) (ho : n.fOp = 5 ∨ n.fOp = 6 ∨ n.fOp = 7) : ∃ l : Nat, n.fLeft = (l : Int) ∧ l < i := by
 have hk : kidL n i = true := by
  unfold okNode at h
  rcases ho with ho | ho | ho <;> simp [ho] at h <;> exact h.1
 unfold kidL inB at hk
 simp only [Bool.and_eq_true, decide_eq_true_eq] at hk
 exact ⟨n.fLeft.toNat, by omega, by omega⟩
theorem okNode_right {n : TNode} {i : Nat} (h : okNode n i = true) (ho : n.fOp = 6 ∨ n.fOp = 7) : ∃ l : Nat, n.fRight = (l : Int) ∧ l < i := by
 have hk : kidR n i = true ∧ kidL n i = true := by
  unfold okNode at h
  rcases ho with ho | ho <;> simp [ho] at h <;> exact ⟨h.2.1, h.1⟩
 unfold kidL kidR inB at hk
 simp only [Bool.and_eq_true, decide_eq_true_eq] at hk
 exact ⟨n.fRight.toNat, by omega, by omega⟩
theorem okNode_op {n : TNode} {i : Nat} (h : okNode n i = true) : n.fOp = 1 ∨ n.fOp = 2 ∨ n.fOp = 3 ∨ n.fOp = 4 ∨ n.fOp = 5 ∨ n.fOp = 6 ∨ n.fOp = 7 ∨ n.fOp = 8 ∨ n.fOp = 9 := by
 unfold okNode at h
 repeat' split at h
 all_goals first | omega | cases h
theorem implIsValidNode_ok (n : TNode) (i : Nat) (hi : i ≤ 4300000) (hs : n.fValue.fStr.size ≤ 4300000) (hn : n.fName.size ≤ 4300000) : FnC Tryz.prog 302 [gNode n, oi i] (ob (okNode n i)) := by
 refine ent Tryz.func302 rfl Tryz.call302 rfl (fun C => ?_); simp only [go_sem, st0, Tryz.ntmps302]
 by_cases h1 : n.fOp = 1
 ·cases hz : (decide (n.fLeft = 0) && (decide (n.fRight = 0) && (decide (n.fName = ⟨#[]⟩) && (decide (n.fValue.fKind = 0) && (decide (n.fValue.fInt = 0) && decide (n.fValue.fStr = ⟨#[]⟩))))))
  all_goals
   have hr : okNode n i = (decide (n.fLeft = 0) && (decide (n.fRight = 0) && (decide (n.fName = ⟨#[]⟩) && (decide (n.fValue.fKind = 0) && (decide (n.fValue.fInt = 0) && decide (n.fValue.fStr = ⟨#[]⟩)))))) := by simp [okNode, h1, noKids, noText, eV, Bool.and_assoc]
   rw [hz] at hr
   have q0 := @h1; have q1 := @decide_true; have q2 := @hz; refine w3_0 ?_
   exact retK_ret ⟨⟨_, rfl, by simp only [go_sem, hr]⟩, trivial⟩
 by_cases h2 : n.fOp = 2
 ·cases hz : (decide (n.fLeft = 0) && (decide (n.fRight = 0) && (decide (n.fValue.fKind = 0) && (decide (n.fValue.fInt = 0) && decide (n.fValue.fStr = ⟨#[]⟩))))) <;> cases ht : isText n.fName 1
  all_goals
   have hr : okNode n i = (isText n.fName 1 && (decide (n.fLeft = 0) && (decide (n.fRight = 0) && (decide (n.fValue.fKind = 0) && (decide (n.fValue.fInt = 0) && decide (n.fValue.fStr = ⟨#[]⟩)))))) := by simp [okNode, h2, noKids, noText, eV, Bool.and_assoc]
   rw [hz, ht] at hr
   have q0 := @h1; have q1 := @h2; have q2 := @decide_true; have q3 := @decide_false; have q4 := @hz; have q5 := @ht; refine w6_1 (implIsValidAttrName_ok n.fName) ?_
   exact retK_ret ⟨⟨_, rfl, by simp only [go_sem, hr, Bool.and_true, Bool.and_false]⟩, trivial⟩
 by_cases h3 : n.fOp = 3
 ·have hr : okNode n i = (isText n.fName 1 && (okVal n.fValue && (!decide (n.fValue.fKind = 0) && (decide (n.fLeft = 0) && decide (n.fRight = 0))))) := by simp [okNode, h3, noKids]
  repeat' (with_reducible first | refine nY ?_ | (refine mX ?_; try simp only [go_sem, h1, h2, h3, decide_true, decide_false]) | refine kO ?_ (by decide) | (refine rS [5, 7] [] (by simp only [go_sem]; rfl) (by simp only [go_sem]; rfl) (by decide +kernel) ?_ ?_; (focus simp only [go_sem]; done)) | refine st_cons (aX ?_) (uX ?_) | refine st_nil (aX ?_) ?_ | (refine uA ?_; simp only [go_sem, h1, h2, h3, decide_true, decide_false]; (repeat' first | omega | refine And.intro ?_ ?_); done) | (refine cC (implIsValidAttrName_ok n.fName) ?_ ?_; focus simp only [go_sem, and_self]; done) | (refine cC (implIsValidValue_ok n.fValue hs) ?_ ?_; focus simp only [go_sem, and_self]; done) | (refine And.intro ?_ ?_; focus omega))
  cases hz : (decide (n.fLeft = 0) && decide (n.fRight = 0))
  ·rw [hz] at hr
   simp only [go_sem, hz]
   repeat' (with_reducible first | refine nY ?_ | (refine mX ?_; try simp only [go_sem, h1, h2, h3, decide_true, decide_false, hz]) | refine kO ?_ (by decide) | (refine rS [5, 7] [] (by simp only [go_sem]; rfl) (by simp only [go_sem]; rfl) (by decide +kernel) ?_ ?_; (focus simp only [go_sem]; done)) | refine st_cons (aX ?_) (uX ?_) | refine st_nil (aX ?_) ?_ | (refine uA ?_; simp only [go_sem, h1, h2, h3, decide_true, decide_false, hz]; (repeat' first | omega | refine And.intro ?_ ?_); done) | (refine cC (implIsValidAttrName_ok n.fName) ?_ ?_; focus simp only [go_sem, and_self]; done) | (refine cC (implIsValidValue_ok n.fValue hs) ?_ ?_; focus simp only [go_sem, and_self]; done) | (refine And.intro ?_ ?_; focus omega))
   exact retK_ret ⟨⟨_, rfl, by simp only [go_sem, hr, Bool.and_true, Bool.and_false, Bool.true_and, Bool.false_and, Bool.not_true, Bool.not_false]⟩, trivial⟩
  rw [hz] at hr
  simp only [go_sem, hz]
  repeat' (with_reducible first | refine nY ?_ | (refine mX ?_; try simp only [go_sem, h1, h2, h3, decide_true, decide_false, hz]) | refine kO ?_ (by decide) | (refine rS [5, 7] [] (by simp only [go_sem]; rfl) (by simp only [go_sem]; rfl) (by decide +kernel) ?_ ?_; (focus simp only [go_sem]; done)) | refine st_cons (aX ?_) (uX ?_) | refine st_nil (aX ?_) ?_ | (refine uA ?_; simp only [go_sem, h1, h2, h3, decide_true, decide_false, hz]; (repeat' first | omega | refine And.intro ?_ ?_); done) | (refine cC (implIsValidAttrName_ok n.fName) ?_ ?_; focus simp only [go_sem, and_self]; done) | (refine cC (implIsValidValue_ok n.fValue hs) ?_ ?_; focus simp only [go_sem, and_self]; done) | (refine And.intro ?_ ?_; focus omega))
  cases ht : isText n.fName 1
  ·rw [ht] at hr
   simp only [go_sem, ht]
   repeat' (with_reducible first | refine nY ?_ | (refine mX ?_; try simp only [go_sem, h1, h2, h3, decide_true, decide_false, hz, ht]) | refine kO ?_ (by decide) | (refine rS [5, 7] [] (by simp only [go_sem]; rfl) (by simp only [go_sem]; rfl) (by decide +kernel) ?_ ?_; (focus simp only [go_sem]; done)) | refine st_cons (aX ?_) (uX ?_) | refine st_nil (aX ?_) ?_ | (refine uA ?_; simp only [go_sem, h1, h2, h3, decide_true, decide_false, hz, ht]; (repeat' first | omega | refine And.intro ?_ ?_); done) | (refine cC (implIsValidAttrName_ok n.fName) ?_ ?_; focus simp only [go_sem, and_self]; done) | (refine cC (implIsValidValue_ok n.fValue hs) ?_ ?_; focus simp only [go_sem, and_self]; done) | (refine And.intro ?_ ?_; focus omega))
   exact retK_ret ⟨⟨_, rfl, by simp only [go_sem, hr, Bool.and_true, Bool.and_false, Bool.true_and, Bool.false_and, Bool.not_true, Bool.not_false]⟩, trivial⟩
  rw [ht] at hr
  simp only [go_sem, ht]
  repeat' (with_reducible first | refine nY ?_ | (refine mX ?_; try simp only [go_sem, h1, h2, h3, decide_true, decide_false, hz, ht]) | refine kO ?_ (by decide) | (refine rS [5, 7] [] (by simp only [go_sem]; rfl) (by simp only [go_sem]; rfl) (by decide +kernel) ?_ ?_; (focus simp only [go_sem]; done)) | refine st_cons (aX ?_) (uX ?_) | refine st_nil (aX ?_) ?_ | (refine uA ?_; simp only [go_sem, h1, h2, h3, decide_true, decide_false, hz, ht]; (repeat' first | omega | refine And.intro ?_ ?_); done) | (refine cC (implIsValidAttrName_ok n.fName) ?_ ?_; focus simp only [go_sem, and_self]; done) | (refine cC (implIsValidValue_ok n.fValue hs) ?_ ?_; focus simp only [go_sem, and_self]; done) | (refine And.intro ?_ ?_; focus omega))
  cases hv : okVal n.fValue
  ·rw [hv] at hr
   simp only [go_sem, hv]
   repeat' (with_reducible first | refine nY ?_ | (refine mX ?_; try simp only [go_sem, h1, h2, h3, decide_true, decide_false, hz, ht, hv]) | refine kO ?_ (by decide) | (refine rS [5, 7] [] (by simp only [go_sem]; rfl) (by simp only [go_sem]; rfl) (by decide +kernel) ?_ ?_; (focus simp only [go_sem]; done)) | refine st_cons (aX ?_) (uX ?_) | refine st_nil (aX ?_) ?_ | (refine uA ?_; simp only [go_sem, h1, h2, h3, decide_true, decide_false, hz, ht, hv]; (repeat' first | omega | refine And.intro ?_ ?_); done) | (refine cC (implIsValidAttrName_ok n.fName) ?_ ?_; focus simp only [go_sem, and_self]; done) | (refine cC (implIsValidValue_ok n.fValue hs) ?_ ?_; focus simp only [go_sem, and_self]; done) | (refine And.intro ?_ ?_; focus omega))
   exact retK_ret ⟨⟨_, rfl, by simp only [go_sem, hr, Bool.and_true, Bool.and_false, Bool.true_and, Bool.false_and, Bool.not_true, Bool.not_false]⟩, trivial⟩
  rw [hv] at hr
  simp only [go_sem, hv]
  repeat' (with_reducible first | refine nY ?_ | (refine mX ?_; try simp only [go_sem, h1, h2, h3, decide_true, decide_false, hz, ht, hv]) | refine kO ?_ (by decide) | (refine rS [5, 7] [] (by simp only [go_sem]; rfl) (by simp only [go_sem]; rfl) (by decide +kernel) ?_ ?_; (focus simp only [go_sem]; done)) | refine st_cons (aX ?_) (uX ?_) | refine st_nil (aX ?_) ?_ | (refine uA ?_; simp only [go_sem, h1, h2, h3, decide_true, decide_false, hz, ht, hv]; (repeat' first | omega | refine And.intro ?_ ?_); done) | (refine cC (implIsValidAttrName_ok n.fName) ?_ ?_; focus simp only [go_sem, and_self]; done) | (refine cC (implIsValidValue_ok n.fValue hs) ?_ ?_; focus simp only [go_sem, and_self]; done) | (refine And.intro ?_ ?_; focus omega))
  by_cases hk : n.fValue.fKind = 0
  ·simp only [hk, decide_true] at hr
   simp only [go_sem, hk, decide_true]
   repeat' (with_reducible first | refine nY ?_ | (refine mX ?_; try simp only [go_sem, h1, h2, h3, decide_true, decide_false, hz, ht, hv, hk]) | refine kO ?_ (by decide) | (refine rS [5, 7] [] (by simp only [go_sem]; rfl) (by simp only [go_sem]; rfl) (by decide +kernel) ?_ ?_; (focus simp only [go_sem]; done)) | refine st_cons (aX ?_) (uX ?_) | refine st_nil (aX ?_) ?_ | (refine uA ?_; simp only [go_sem, h1, h2, h3, decide_true, decide_false, hz, ht, hv, hk]; (repeat' first | omega | refine And.intro ?_ ?_); done) | (refine cC (implIsValidAttrName_ok n.fName) ?_ ?_; focus simp only [go_sem, and_self]; done) | (refine cC (implIsValidValue_ok n.fValue hs) ?_ ?_; focus simp only [go_sem, and_self]; done) | (refine And.intro ?_ ?_; focus omega))
   exact retK_ret ⟨⟨_, rfl, by simp only [go_sem, hr, Bool.and_true, Bool.and_false, Bool.true_and, Bool.false_and, Bool.not_true, Bool.not_false]⟩, trivial⟩
  simp only [hk, decide_false] at hr
  simp only [go_sem, hk, decide_false]
  repeat' (with_reducible first | refine nY ?_ | (refine mX ?_; try simp only [go_sem, h1, h2, h3, decide_true, decide_false, hz, ht, hv, hk]) | refine kO ?_ (by decide) | (refine rS [5, 7] [] (by simp only [go_sem]; rfl) (by simp only [go_sem]; rfl) (by decide +kernel) ?_ ?_; (focus simp only [go_sem]; done)) | refine st_cons (aX ?_) (uX ?_) | refine st_nil (aX ?_) ?_ | (refine uA ?_; simp only [go_sem, h1, h2, h3, decide_true, decide_false, hz, ht, hv, hk]; (repeat' first | omega | refine And.intro ?_ ?_); done) | (refine cC (implIsValidAttrName_ok n.fName) ?_ ?_; focus simp only [go_sem, and_self]; done) | (refine cC (implIsValidValue_ok n.fValue hs) ?_ ?_; focus simp only [go_sem, and_self]; done) | (refine And.intro ?_ ?_; focus omega))
  exact retK_ret ⟨⟨_, rfl, by simp only [go_sem, hr, Bool.and_true, Bool.and_false, Bool.true_and, Bool.false_and, Bool.not_true, Bool.not_false]⟩, trivial⟩
 by_cases h4 : n.fOp = 4
 ·have hr : okNode n i = (isText n.fName 1 && (okVal n.fValue && (!decide (n.fValue.fKind = 0) && (decide (n.fValue.fKind = 1) && (decide (n.fLeft = 0) && decide (n.fRight = 0)))))) := by
   simp only [okNode, h4, noKids]
   by_cases hk : n.fValue.fKind = 1 <;> simp [hk]
  repeat' (with_reducible first | refine nY ?_ | (refine mX ?_; try simp only [go_sem, h1, h2, h3, h4, decide_true, decide_false]) | refine kO ?_ (by decide) | (refine rS [5, 7] [] (by simp only [go_sem]; rfl) (by simp only [go_sem]; rfl) (by decide +kernel) ?_ ?_; (focus simp only [go_sem]; done)) | refine st_cons (aX ?_) (uX ?_) | refine st_nil (aX ?_) ?_ | (refine uA ?_; simp only [go_sem, h1, h2, h3, h4, decide_true, decide_false]; (repeat' first | omega | refine And.intro ?_ ?_); done) | (refine cC (implIsValidAttrName_ok n.fName) ?_ ?_; focus simp only [go_sem, and_self]; done) | (refine cC (implIsValidValue_ok n.fValue hs) ?_ ?_; focus simp only [go_sem, and_self]; done) | (refine And.intro ?_ ?_; focus omega))
  cases hz : (decide (n.fLeft = 0) && decide (n.fRight = 0))
  ·rw [hz] at hr
   simp only [go_sem, hz]
   repeat' (with_reducible first | refine nY ?_ | (refine mX ?_; try simp only [go_sem, h1, h2, h3, h4, decide_true, decide_false, hz]) | refine kO ?_ (by decide) | (refine rS [5, 7] [] (by simp only [go_sem]; rfl) (by simp only [go_sem]; rfl) (by decide +kernel) ?_ ?_; (focus simp only [go_sem]; done)) | refine st_cons (aX ?_) (uX ?_) | refine st_nil (aX ?_) ?_ | (refine uA ?_; simp only [go_sem, h1, h2, h3, h4, decide_true, decide_false, hz]; (repeat' first | omega | refine And.intro ?_ ?_); done) | (refine cC (implIsValidAttrName_ok n.fName) ?_ ?_; focus simp only [go_sem, and_self]; done) | (refine cC (implIsValidValue_ok n.fValue hs) ?_ ?_; focus simp only [go_sem, and_self]; done) | (refine And.intro ?_ ?_; focus omega))
   exact retK_ret ⟨⟨_, rfl, by simp only [go_sem, hr, Bool.and_true, Bool.and_false, Bool.true_and, Bool.false_and, Bool.not_true, Bool.not_false]⟩, trivial⟩
  rw [hz] at hr
  simp only [go_sem, hz]
  repeat' (with_reducible first | refine nY ?_ | (refine mX ?_; try simp only [go_sem, h1, h2, h3, h4, decide_true, decide_false, hz]) | refine kO ?_ (by decide) | (refine rS [5, 7] [] (by simp only [go_sem]; rfl) (by simp only [go_sem]; rfl) (by decide +kernel) ?_ ?_; (focus simp only [go_sem]; done)) | refine st_cons (aX ?_) (uX ?_) | refine st_nil (aX ?_) ?_ | (refine uA ?_; simp only [go_sem, h1, h2, h3, h4, decide_true, decide_false, hz]; (repeat' first | omega | refine And.intro ?_ ?_); done) | (refine cC (implIsValidAttrName_ok n.fName) ?_ ?_; focus simp only [go_sem, and_self]; done) | (refine cC (implIsValidValue_ok n.fValue hs) ?_ ?_; focus simp only [go_sem, and_self]; done) | (refine And.intro ?_ ?_; focus omega))
  cases ht : isText n.fName 1
  ·rw [ht] at hr
   simp only [go_sem, ht]
   repeat' (with_reducible first | refine nY ?_ | (refine mX ?_; try simp only [go_sem, h1, h2, h3, h4, decide_true, decide_false, hz, ht]) | refine kO ?_ (by decide) | (refine rS [5, 7] [] (by simp only [go_sem]; rfl) (by simp only [go_sem]; rfl) (by decide +kernel) ?_ ?_; (focus simp only [go_sem]; done)) | refine st_cons (aX ?_) (uX ?_) | refine st_nil (aX ?_) ?_ | (refine uA ?_; simp only [go_sem, h1, h2, h3, h4, decide_true, decide_false, hz, ht]; (repeat' first | omega | refine And.intro ?_ ?_); done) | (refine cC (implIsValidAttrName_ok n.fName) ?_ ?_; focus simp only [go_sem, and_self]; done) | (refine cC (implIsValidValue_ok n.fValue hs) ?_ ?_; focus simp only [go_sem, and_self]; done) | (refine And.intro ?_ ?_; focus omega))
   exact retK_ret ⟨⟨_, rfl, by simp only [go_sem, hr, Bool.and_true, Bool.and_false, Bool.true_and, Bool.false_and, Bool.not_true, Bool.not_false]⟩, trivial⟩
  rw [ht] at hr
  simp only [go_sem, ht]
  repeat' (with_reducible first | refine nY ?_ | (refine mX ?_; try simp only [go_sem, h1, h2, h3, h4, decide_true, decide_false, hz, ht]) | refine kO ?_ (by decide) | (refine rS [5, 7] [] (by simp only [go_sem]; rfl) (by simp only [go_sem]; rfl) (by decide +kernel) ?_ ?_; (focus simp only [go_sem]; done)) | refine st_cons (aX ?_) (uX ?_) | refine st_nil (aX ?_) ?_ | (refine uA ?_; simp only [go_sem, h1, h2, h3, h4, decide_true, decide_false, hz, ht]; (repeat' first | omega | refine And.intro ?_ ?_); done) | (refine cC (implIsValidAttrName_ok n.fName) ?_ ?_; focus simp only [go_sem, and_self]; done) | (refine cC (implIsValidValue_ok n.fValue hs) ?_ ?_; focus simp only [go_sem, and_self]; done) | (refine And.intro ?_ ?_; focus omega))
  cases hv : okVal n.fValue
  ·rw [hv] at hr
   simp only [go_sem, hv]
   repeat' (with_reducible first | refine nY ?_ | (refine mX ?_; try simp only [go_sem, h1, h2, h3, h4, decide_true, decide_false, hz, ht, hv]) | refine kO ?_ (by decide) | (refine rS [5, 7] [] (by simp only [go_sem]; rfl) (by simp only [go_sem]; rfl) (by decide +kernel) ?_ ?_; (focus simp only [go_sem]; done)) | refine st_cons (aX ?_) (uX ?_) | refine st_nil (aX ?_) ?_ | (refine uA ?_; simp only [go_sem, h1, h2, h3, h4, decide_true, decide_false, hz, ht, hv]; (repeat' first | omega | refine And.intro ?_ ?_); done) | (refine cC (implIsValidAttrName_ok n.fName) ?_ ?_; focus simp only [go_sem, and_self]; done) | (refine cC (implIsValidValue_ok n.fValue hs) ?_ ?_; focus simp only [go_sem, and_self]; done) | (refine And.intro ?_ ?_; focus omega))
   exact retK_ret ⟨⟨_, rfl, by simp only [go_sem, hr, Bool.and_true, Bool.and_false, Bool.true_and, Bool.false_and, Bool.not_true, Bool.not_false]⟩, trivial⟩
  rw [hv] at hr
  simp only [go_sem, hv]
  repeat' (with_reducible first | refine nY ?_ | (refine mX ?_; try simp only [go_sem, h1, h2, h3, h4, decide_true, decide_false, hz, ht, hv]) | refine kO ?_ (by decide) | (refine rS [5, 7] [] (by simp only [go_sem]; rfl) (by simp only [go_sem]; rfl) (by decide +kernel) ?_ ?_; (focus simp only [go_sem]; done)) | refine st_cons (aX ?_) (uX ?_) | refine st_nil (aX ?_) ?_ | (refine uA ?_; simp only [go_sem, h1, h2, h3, h4, decide_true, decide_false, hz, ht, hv]; (repeat' first | omega | refine And.intro ?_ ?_); done) | (refine cC (implIsValidAttrName_ok n.fName) ?_ ?_; focus simp only [go_sem, and_self]; done) | (refine cC (implIsValidValue_ok n.fValue hs) ?_ ?_; focus simp only [go_sem, and_self]; done) | (refine And.intro ?_ ?_; focus omega))
  by_cases hk : n.fValue.fKind = 0
  ·simp only [hk, decide_true] at hr
   simp only [go_sem, hk, decide_true]
   repeat' (with_reducible first | refine nY ?_ | (refine mX ?_; try simp only [go_sem, h1, h2, h3, h4, decide_true, decide_false, hz, ht, hv, hk]) | refine kO ?_ (by decide) | (refine rS [5, 7] [] (by simp only [go_sem]; rfl) (by simp only [go_sem]; rfl) (by decide +kernel) ?_ ?_; (focus simp only [go_sem]; done)) | refine st_cons (aX ?_) (uX ?_) | refine st_nil (aX ?_) ?_ | (refine uA ?_; simp only [go_sem, h1, h2, h3, h4, decide_true, decide_false, hz, ht, hv, hk]; (repeat' first | omega | refine And.intro ?_ ?_); done) | (refine cC (implIsValidAttrName_ok n.fName) ?_ ?_; focus simp only [go_sem, and_self]; done) | (refine cC (implIsValidValue_ok n.fValue hs) ?_ ?_; focus simp only [go_sem, and_self]; done) | (refine And.intro ?_ ?_; focus omega))
   exact retK_ret ⟨⟨_, rfl, by simp only [go_sem, hr, Bool.and_true, Bool.and_false, Bool.true_and, Bool.false_and, Bool.not_true, Bool.not_false]⟩, trivial⟩
  simp only [hk, decide_false] at hr
  simp only [go_sem, hk, decide_false]
  repeat' (with_reducible first | refine nY ?_ | (refine mX ?_; try simp only [go_sem, h1, h2, h3, h4, decide_true, decide_false, hz, ht, hv, hk]) | refine kO ?_ (by decide) | (refine rS [5, 7] [] (by simp only [go_sem]; rfl) (by simp only [go_sem]; rfl) (by decide +kernel) ?_ ?_; (focus simp only [go_sem]; done)) | refine st_cons (aX ?_) (uX ?_) | refine st_nil (aX ?_) ?_ | (refine uA ?_; simp only [go_sem, h1, h2, h3, h4, decide_true, decide_false, hz, ht, hv, hk]; (repeat' first | omega | refine And.intro ?_ ?_); done) | (refine cC (implIsValidAttrName_ok n.fName) ?_ ?_; focus simp only [go_sem, and_self]; done) | (refine cC (implIsValidValue_ok n.fValue hs) ?_ ?_; focus simp only [go_sem, and_self]; done) | (refine And.intro ?_ ?_; focus omega))
  by_cases hj : n.fValue.fKind = 1
  rotate_left
  ·simp only [hj, decide_false] at hr
   simp only [go_sem, hj, decide_false]
   repeat' (with_reducible first | refine nY ?_ | (refine mX ?_; try simp only [go_sem, h1, h2, h3, h4, decide_true, decide_false, hz, ht, hv, hk, hj]) | refine kO ?_ (by decide) | (refine rS [5, 7] [] (by simp only [go_sem]; rfl) (by simp only [go_sem]; rfl) (by decide +kernel) ?_ ?_; (focus simp only [go_sem]; done)) | refine st_cons (aX ?_) (uX ?_) | refine st_nil (aX ?_) ?_ | (refine uA ?_; simp only [go_sem, h1, h2, h3, h4, decide_true, decide_false, hz, ht, hv, hk, hj]; (repeat' first | omega | refine And.intro ?_ ?_); done) | (refine cC (implIsValidAttrName_ok n.fName) ?_ ?_; focus simp only [go_sem, and_self]; done) | (refine cC (implIsValidValue_ok n.fValue hs) ?_ ?_; focus simp only [go_sem, and_self]; done) | (refine And.intro ?_ ?_; focus omega))
   exact retK_ret ⟨⟨_, rfl, by simp only [go_sem, hr, Bool.and_true, Bool.and_false, Bool.true_and, Bool.false_and, Bool.not_true, Bool.not_false]⟩, trivial⟩
  simp only [hj, decide_true] at hr
  simp only [go_sem, hj, decide_true]
  repeat' (with_reducible first | refine nY ?_ | (refine mX ?_; try simp only [go_sem, h1, h2, h3, h4, decide_true, decide_false, hz, ht, hv, hk, hj]) | refine kO ?_ (by decide) | (refine rS [5, 7] [] (by simp only [go_sem]; rfl) (by simp only [go_sem]; rfl) (by decide +kernel) ?_ ?_; (focus simp only [go_sem]; done)) | refine st_cons (aX ?_) (uX ?_) | refine st_nil (aX ?_) ?_ | (refine uA ?_; simp only [go_sem, h1, h2, h3, h4, decide_true, decide_false, hz, ht, hv, hk, hj]; (repeat' first | omega | refine And.intro ?_ ?_); done) | (refine cC (implIsValidAttrName_ok n.fName) ?_ ?_; focus simp only [go_sem, and_self]; done) | (refine cC (implIsValidValue_ok n.fValue hs) ?_ ?_; focus simp only [go_sem, and_self]; done) | (refine And.intro ?_ ?_; focus omega))
  exact retK_ret ⟨⟨_, rfl, by simp only [go_sem, hr, Bool.and_true, Bool.and_false, Bool.true_and, Bool.false_and, Bool.not_true, Bool.not_false]⟩, trivial⟩
 by_cases h5 : n.fOp = 5
 ·have hr : okNode n i = ((decide (n.fRight = 0) && (decide (n.fName = ⟨#[]⟩) && (decide (n.fValue.fKind = 0) && (decide (n.fValue.fInt = 0) && decide (n.fValue.fStr = ⟨#[]⟩))))) && (decide (0 < (i : Int)) && inB n.fLeft 0 ((i : Int) - 1))) := by simp [okNode, h5, kidL, noText, eV, Bool.and_assoc, Bool.and_comm, Bool.and_left_comm]
  have q0 := @h1; have q1 := @h2; have q2 := @h3; have q3 := @h4; have q4 := @h5; have q5 := @decide_true; have q6 := @decide_false; refine w7_1 (within_ok n.fLeft 0 ((i : Int) - 1)) ?_
  cases hz : (decide (n.fRight = 0) && (decide (n.fName = ⟨#[]⟩) && (decide (n.fValue.fKind = 0) && (decide (n.fValue.fInt = 0) && decide (n.fValue.fStr = ⟨#[]⟩)))))
  ·rw [hz] at hr
   simp only [go_sem, hz]
   have q0 := @h1; have q1 := @h2; have q2 := @h3; have q3 := @h4; have q4 := @h5; have q5 := @decide_true; have q6 := @decide_false; have q7 := @hz; refine w8_1 (within_ok n.fLeft 0 ((i : Int) - 1)) ?_
   exact retK_ret ⟨⟨_, rfl, by simp only [go_sem, hr, Bool.and_true, Bool.and_false, Bool.true_and, Bool.false_and, Bool.not_true, Bool.not_false]⟩, trivial⟩
  rw [hz] at hr
  simp only [go_sem, hz]
  have q0 := @h1; have q1 := @h2; have q2 := @h3; have q3 := @h4; have q4 := @h5; have q5 := @decide_true; have q6 := @decide_false; have q7 := @hz; refine w8_1 (within_ok n.fLeft 0 ((i : Int) - 1)) ?_
  by_cases hp : 0 < (i : Int)
  rotate_left
  ·simp only [hp, decide_false] at hr
   simp only [go_sem, hp, decide_false]
   have q0 := @h1; have q1 := @h2; have q2 := @h3; have q3 := @h4; have q4 := @h5; have q5 := @decide_true; have q6 := @decide_false; have q7 := @hz; have q8 := @hp; refine w9_1 (within_ok n.fLeft 0 ((i : Int) - 1)) ?_
   exact retK_ret ⟨⟨_, rfl, by simp only [go_sem, hr, Bool.and_true, Bool.and_false, Bool.true_and, Bool.false_and, Bool.not_true, Bool.not_false]⟩, trivial⟩
  simp only [hp, decide_true] at hr
  simp only [go_sem, hp, decide_true]
  have q0 := @h1; have q1 := @h2; have q2 := @h3; have q3 := @h4; have q4 := @h5; have q5 := @decide_true; have q6 := @decide_false; have q7 := @hz; have q8 := @hp; refine w9_1 (within_ok n.fLeft 0 ((i : Int) - 1)) ?_
  exact retK_ret ⟨⟨_, rfl, by simp only [go_sem, hr, Bool.and_true, Bool.and_false, Bool.true_and, Bool.false_and, Bool.not_true, Bool.not_false]⟩, trivial⟩
 by_cases h67 : n.fOp = 6 ∨ n.fOp = 7
 ·have hr : okNode n i = ((decide (n.fName = ⟨#[]⟩) && (decide (n.fValue.fKind = 0) && (decide (n.fValue.fInt = 0) && decide (n.fValue.fStr = ⟨#[]⟩)))) && (decide (0 < (i : Int)) && (inB n.fLeft 0 ((i : Int) - 1) && inB n.fRight 0 ((i : Int) - 1)))) := by
   rcases h67 with h67 | h67 <;> simp [okNode, h67, kidL, kidR, noText, eV, Bool.and_assoc, Bool.and_comm, Bool.and_left_comm]
  by_cases h6 : n.fOp = 6
  ·skip
   repeat' (with_reducible first | refine nY ?_ | (refine mX ?_; try simp only [go_sem, h1, h2, h3, h4, h5, h6, decide_true, decide_false]) | refine kO ?_ (by decide) | (refine rS [5, 7] [] (by simp only [go_sem]; rfl) (by simp only [go_sem]; rfl) (by decide +kernel) ?_ ?_; (focus simp only [go_sem]; done)) | refine st_cons (aX ?_) (uX ?_) | refine st_nil (aX ?_) ?_ | (refine uA ?_; simp only [go_sem, h1, h2, h3, h4, h5, h6, decide_true, decide_false]; (repeat' first | omega | refine And.intro ?_ ?_); done) | (refine cC (within_ok n.fLeft 0 ((i : Int) - 1)) ?_ ?_; focus simp only [go_sem, and_self]; done) | (refine cC (within_ok n.fRight 0 ((i : Int) - 1)) ?_ ?_; focus simp only [go_sem, and_self]; done) | (refine And.intro ?_ ?_; focus omega))
   cases hz : (decide (n.fName = ⟨#[]⟩) && (decide (n.fValue.fKind = 0) && (decide (n.fValue.fInt = 0) && decide (n.fValue.fStr = ⟨#[]⟩))))
   ·rw [hz] at hr
    simp only [go_sem, hz]
    have q0 := @h1; have q1 := @h2; have q2 := @h3; have q3 := @h4; have q4 := @h5; have q5 := @h6; have q6 := @decide_true; have q7 := @decide_false; have q8 := @hz; refine w9_2 (within_ok n.fLeft 0 ((i : Int) - 1)) (within_ok n.fRight 0 ((i : Int) - 1)) ?_
    exact retK_ret ⟨⟨_, rfl, by simp only [go_sem, hr, Bool.and_true, Bool.and_false, Bool.true_and, Bool.false_and, Bool.not_true, Bool.not_false]⟩, trivial⟩
   rw [hz] at hr
   simp only [go_sem, hz]
   have q0 := @h1; have q1 := @h2; have q2 := @h3; have q3 := @h4; have q4 := @h5; have q5 := @h6; have q6 := @decide_true; have q7 := @decide_false; have q8 := @hz; refine w9_2 (within_ok n.fLeft 0 ((i : Int) - 1)) (within_ok n.fRight 0 ((i : Int) - 1)) ?_
   by_cases hp : 0 < (i : Int)
   rotate_left
   ·simp only [hp, decide_false] at hr
    simp only [go_sem, hp, decide_false]
    have q0 := @h1; have q1 := @h2; have q2 := @h3; have q3 := @h4; have q4 := @h5; have q5 := @h6; have q6 := @decide_true; have q7 := @decide_false; have q8 := @hz; have q9 := @hp; refine w10_2 (within_ok n.fLeft 0 ((i : Int) - 1)) (within_ok n.fRight 0 ((i : Int) - 1)) ?_
    exact retK_ret ⟨⟨_, rfl, by simp only [go_sem, hr, Bool.and_true, Bool.and_false, Bool.true_and, Bool.false_and, Bool.not_true, Bool.not_false]⟩, trivial⟩
   simp only [hp, decide_true] at hr
   simp only [go_sem, hp, decide_true]
   have q0 := @h1; have q1 := @h2; have q2 := @h3; have q3 := @h4; have q4 := @h5; have q5 := @h6; have q6 := @decide_true; have q7 := @decide_false; have q8 := @hz; have q9 := @hp; refine w10_2 (within_ok n.fLeft 0 ((i : Int) - 1)) (within_ok n.fRight 0 ((i : Int) - 1)) ?_
   cases hl : inB n.fLeft 0 ((i : Int) - 1)
   ·rw [hl] at hr
    simp only [go_sem, hl]
    repeat' (with_reducible first | refine nY ?_ | (refine mX ?_; try simp only [go_sem, h1, h2, h3, h4, h5, h6, decide_true, decide_false, hz, hp, hl]) | refine kO ?_ (by decide) | (refine cC (within_ok n.fLeft 0 ((i : Int) - 1)) ?_ ?_; focus simp only [go_sem, and_self]; done) | (refine cC (within_ok n.fRight 0 ((i : Int) - 1)) ?_ ?_; focus simp only [go_sem, and_self]; done) | (refine And.intro ?_ ?_; focus omega))
    exact retK_ret ⟨⟨_, rfl, by simp only [go_sem, hr, Bool.and_true, Bool.and_false, Bool.true_and, Bool.false_and, Bool.not_true, Bool.not_false]⟩, trivial⟩
   rw [hl] at hr
   simp only [go_sem, hl]
   repeat' (with_reducible first | refine nY ?_ | (refine mX ?_; try simp only [go_sem, h1, h2, h3, h4, h5, h6, decide_true, decide_false, hz, hp, hl]) | refine kO ?_ (by decide) | (refine cC (within_ok n.fLeft 0 ((i : Int) - 1)) ?_ ?_; focus simp only [go_sem, and_self]; done) | (refine cC (within_ok n.fRight 0 ((i : Int) - 1)) ?_ ?_; focus simp only [go_sem, and_self]; done) | (refine And.intro ?_ ?_; focus omega))
   exact retK_ret ⟨⟨_, rfl, by simp only [go_sem, hr, Bool.and_true, Bool.and_false, Bool.true_and, Bool.false_and, Bool.not_true, Bool.not_false]⟩, trivial⟩
  ·have h7 : n.fOp = 7 := by omega
   repeat' (with_reducible first | refine nY ?_ | (refine mX ?_; try simp only [go_sem, h1, h2, h3, h4, h5, h6, h7, decide_true, decide_false]) | refine kO ?_ (by decide) | (refine rS [5, 7] [] (by simp only [go_sem]; rfl) (by simp only [go_sem]; rfl) (by decide +kernel) ?_ ?_; (focus simp only [go_sem]; done)) | refine st_cons (aX ?_) (uX ?_) | refine st_nil (aX ?_) ?_ | (refine uA ?_; simp only [go_sem, h1, h2, h3, h4, h5, h6, h7, decide_true, decide_false]; (repeat' first | omega | refine And.intro ?_ ?_); done) | (refine cC (within_ok n.fLeft 0 ((i : Int) - 1)) ?_ ?_; focus simp only [go_sem, and_self]; done) | (refine cC (within_ok n.fRight 0 ((i : Int) - 1)) ?_ ?_; focus simp only [go_sem, and_self]; done) | (refine And.intro ?_ ?_; focus omega))
   cases hz : (decide (n.fName = ⟨#[]⟩) && (decide (n.fValue.fKind = 0) && (decide (n.fValue.fInt = 0) && decide (n.fValue.fStr = ⟨#[]⟩))))
   ·rw [hz] at hr
    simp only [go_sem, hz]
    have q0 := @h1; have q1 := @h2; have q2 := @h3; have q3 := @h4; have q4 := @h5; have q5 := @h6; have q6 := @h7; have q7 := @decide_true; have q8 := @decide_false; have q9 := @hz; refine w10_2 (within_ok n.fLeft 0 ((i : Int) - 1)) (within_ok n.fRight 0 ((i : Int) - 1)) ?_
    exact retK_ret ⟨⟨_, rfl, by simp only [go_sem, hr, Bool.and_true, Bool.and_false, Bool.true_and, Bool.false_and, Bool.not_true, Bool.not_false]⟩, trivial⟩
   rw [hz] at hr
   simp only [go_sem, hz]
   have q0 := @h1; have q1 := @h2; have q2 := @h3; have q3 := @h4; have q4 := @h5; have q5 := @h6; have q6 := @h7; have q7 := @decide_true; have q8 := @decide_false; have q9 := @hz; refine w10_2 (within_ok n.fLeft 0 ((i : Int) - 1)) (within_ok n.fRight 0 ((i : Int) - 1)) ?_
   by_cases hp : 0 < (i : Int)
   rotate_left
   ·simp only [hp, decide_false] at hr
    simp only [go_sem, hp, decide_false]
    repeat' (with_reducible first | refine nY ?_ | (refine mX ?_; try simp only [go_sem, h1, h2, h3, h4, h5, h6, h7, decide_true, decide_false, hz, hp]) | refine kO ?_ (by decide) | (refine cC (within_ok n.fLeft 0 ((i : Int) - 1)) ?_ ?_; focus simp only [go_sem, and_self]; done) | (refine cC (within_ok n.fRight 0 ((i : Int) - 1)) ?_ ?_; focus simp only [go_sem, and_self]; done) | (refine And.intro ?_ ?_; focus omega))
    exact retK_ret ⟨⟨_, rfl, by simp only [go_sem, hr, Bool.and_true, Bool.and_false, Bool.true_and, Bool.false_and, Bool.not_true, Bool.not_false]⟩, trivial⟩
   simp only [hp, decide_true] at hr
   simp only [go_sem, hp, decide_true]
   repeat' (with_reducible first | refine nY ?_ | (refine mX ?_; try simp only [go_sem, h1, h2, h3, h4, h5, h6, h7, decide_true, decide_false, hz, hp]) | refine kO ?_ (by decide) | (refine cC (within_ok n.fLeft 0 ((i : Int) - 1)) ?_ ?_; focus simp only [go_sem, and_self]; done) | (refine cC (within_ok n.fRight 0 ((i : Int) - 1)) ?_ ?_; focus simp only [go_sem, and_self]; done) | (refine And.intro ?_ ?_; focus omega))
   cases hl : inB n.fLeft 0 ((i : Int) - 1)
   ·rw [hl] at hr
    simp only [go_sem, hl]
    repeat' (with_reducible first | refine nY ?_ | (refine mX ?_; try simp only [go_sem, h1, h2, h3, h4, h5, h6, h7, decide_true, decide_false, hz, hp, hl]) | refine kO ?_ (by decide) | (refine cC (within_ok n.fLeft 0 ((i : Int) - 1)) ?_ ?_; focus simp only [go_sem, and_self]; done) | (refine cC (within_ok n.fRight 0 ((i : Int) - 1)) ?_ ?_; focus simp only [go_sem, and_self]; done) | (refine And.intro ?_ ?_; focus omega))
    exact retK_ret ⟨⟨_, rfl, by simp only [go_sem, hr, Bool.and_true, Bool.and_false, Bool.true_and, Bool.false_and, Bool.not_true, Bool.not_false]⟩, trivial⟩
   rw [hl] at hr
   simp only [go_sem, hl]
   repeat' (with_reducible first | refine nY ?_ | (refine mX ?_; try simp only [go_sem, h1, h2, h3, h4, h5, h6, h7, decide_true, decide_false, hz, hp, hl]) | refine kO ?_ (by decide) | (refine cC (within_ok n.fLeft 0 ((i : Int) - 1)) ?_ ?_; focus simp only [go_sem, and_self]; done) | (refine cC (within_ok n.fRight 0 ((i : Int) - 1)) ?_ ?_; focus simp only [go_sem, and_self]; done) | (refine And.intro ?_ ?_; focus omega))
   exact retK_ret ⟨⟨_, rfl, by simp only [go_sem, hr, Bool.and_true, Bool.and_false, Bool.true_and, Bool.false_and, Bool.not_true, Bool.not_false]⟩, trivial⟩
 have h6 : ¬ n.fOp = 6 := by omega
 have h7 : ¬ n.fOp = 7 := by omega
 by_cases h8 : n.fOp = 8
 ·have hr : okNode n i = (isText n.fName 6 && (decide (n.fLeft = 0) && (decide (n.fRight = 0) && (decide (n.fValue.fKind = 0) && (decide (n.fValue.fInt = 0) && decide (n.fValue.fStr = ⟨#[]⟩)))))) := by simp [okNode, h8, noKids, eV, Bool.and_assoc]
  have q0 := @h1; have q1 := @h2; have q2 := @h3; have q3 := @h4; have q4 := @h5; have q5 := @h6; have q6 := @h7; have q7 := @h8; have q8 := @decide_true; have q9 := @decide_false; refine w10_1 (implIsValidString_ok n.fName hn) ?_
  cases hz : (decide (n.fLeft = 0) && (decide (n.fRight = 0) && (decide (n.fValue.fKind = 0) && (decide (n.fValue.fInt = 0) && decide (n.fValue.fStr = ⟨#[]⟩)))))
  ·rw [hz] at hr
   simp only [go_sem, hz]
   repeat' (with_reducible first | refine nY ?_ | (refine mX ?_; try simp only [go_sem, h1, h2, h3, h4, h5, h6, h7, h8, decide_true, decide_false, hz]) | refine kO ?_ (by decide) | (refine cC (implIsValidString_ok n.fName hn) ?_ ?_; focus simp only [go_sem, and_self]; done) | (refine And.intro ?_ ?_; focus omega))
   exact retK_ret ⟨⟨_, rfl, by simp only [go_sem, hr, Bool.and_true, Bool.and_false, Bool.true_and, Bool.false_and, Bool.not_true, Bool.not_false]⟩, trivial⟩
  rw [hz] at hr
  simp only [go_sem, hz]
  repeat' (with_reducible first | refine nY ?_ | (refine mX ?_; try simp only [go_sem, h1, h2, h3, h4, h5, h6, h7, h8, decide_true, decide_false, hz]) | refine kO ?_ (by decide) | (refine cC (implIsValidString_ok n.fName hn) ?_ ?_; focus simp only [go_sem, and_self]; done) | (refine And.intro ?_ ?_; focus omega))
  exact retK_ret ⟨⟨_, rfl, by simp only [go_sem, hr, Bool.and_true, Bool.and_false, Bool.true_and, Bool.false_and, Bool.not_true, Bool.not_false]⟩, trivial⟩
 by_cases h9 : n.fOp = 9
 ·have hr : okNode n i = (isText n.fName 6 && (decide (n.fLeft = 0) && (decide (n.fRight = 0) && (decide (n.fValue.fKind = 0) && (decide (n.fValue.fInt = 0) && decide (n.fValue.fStr = ⟨#[]⟩)))))) := by simp [okNode, h9, noKids, eV, Bool.and_assoc]
  repeat' (with_reducible first | refine nY ?_ | (refine mX ?_; try simp only [go_sem, h1, h2, h3, h4, h5, h6, h7, h8, h9, decide_true, decide_false]) | refine kO ?_ (by decide) | (refine cC (implIsValidString_ok n.fName hn) ?_ ?_; focus simp only [go_sem, and_self]; done) | (refine And.intro ?_ ?_; focus omega))
  cases hz : (decide (n.fLeft = 0) && (decide (n.fRight = 0) && (decide (n.fValue.fKind = 0) && (decide (n.fValue.fInt = 0) && decide (n.fValue.fStr = ⟨#[]⟩)))))
  ·rw [hz] at hr
   simp only [go_sem, hz]
   repeat' (with_reducible first | refine nY ?_ | (refine mX ?_; try simp only [go_sem, h1, h2, h3, h4, h5, h6, h7, h8, h9, decide_true, decide_false, hz]) | refine kO ?_ (by decide) | (refine cC (implIsValidString_ok n.fName hn) ?_ ?_; focus simp only [go_sem, and_self]; done) | (refine And.intro ?_ ?_; focus omega))
   exact retK_ret ⟨⟨_, rfl, by simp only [go_sem, hr, Bool.and_true, Bool.and_false, Bool.true_and, Bool.false_and, Bool.not_true, Bool.not_false]⟩, trivial⟩
  rw [hz] at hr
  simp only [go_sem, hz]
  repeat' (with_reducible first | refine nY ?_ | (refine mX ?_; try simp only [go_sem, h1, h2, h3, h4, h5, h6, h7, h8, h9, decide_true, decide_false, hz]) | refine kO ?_ (by decide) | (refine cC (implIsValidString_ok n.fName hn) ?_ ?_; focus simp only [go_sem, and_self]; done) | (refine And.intro ?_ ?_; focus omega))
  exact retK_ret ⟨⟨_, rfl, by simp only [go_sem, hr, Bool.and_true, Bool.and_false, Bool.true_and, Bool.false_and, Bool.not_true, Bool.not_false]⟩, trivial⟩
 have hr : okNode n i = false := by simp [okNode, h1, h2, h3, h4, h5, h6, h7, h8, h9]
 have q0 := @h1; have q1 := @h2; have q2 := @h3; have q3 := @h4; have q4 := @h5; have q5 := @h6; have q6 := @h7; have q7 := @h8; have q8 := @h9; have q9 := @decide_false; refine w10_0 ?_
 exact retK_ret ⟨⟨_, rfl, by simp only [go_sem, hr]⟩, trivial⟩
end Go.Proofs.YtddimbdeggomaaaGreat
end
section
namespace Go.Proofs.YtddimbdeggomaaaGreat
open Go Go.Sx Go.RowKit Go.Proofs
def getAttr (name : ByteArray) : List TAttr → TValue
 | [] => ⟨0, 0, ⟨#[]⟩⟩
 | a :: r => if a.fName = name then a.fValue else getAttr name r
theorem implGetAttr_ok (x : TFile) (name : ByteArray) (h : wFile x ≤ 4300000) : FnC Tryz.prog 298 [gFile x, os name] (gValue (getAttr name x.fAttrs)) := by
 unfold wFile wAttrS at h
 generalize hg : getAttr name x.fAttrs = res
 refine ent Tryz.func298 rfl Tryz.call298 rfl (fun C => ?_); simp only [go_sem, st0, Tryz.ntmps298]
 refine w0_0 ?_
 refine WP_lp (α := Nat) (fun k => [(10, oi k)]) (fun _ => []) (fun k => k ≤ x.fAttrs.length ∧ getAttr name (x.fAttrs.drop k) = res) (fun k => x.fAttrs.length - k) 0 (fun _ => ?_) ?_ ?_ (fun k hk => ?_)
 ·simp only [go_sem]
 ·simp only [go_sem]; simp
 ·simp [hg]
 ·obtain ⟨hk, hq⟩ := hk
  simp only [go_sem]
  refine w0_0 ?_
  refine cnd rfl (fun h => ?_) (fun h => ?_)
  ·simp only [decide_eq_true_eq, Int.ofNat_lt] at h
   have hd := List.drop_eq_getElem_cons h
   rw [hd, getAttr] at hq
   by_cases h1 : x.fAttrs[k].fName = name
   ·rw [if_pos h1] at hq
    subst hq
    have q0 := @h; have q1 := @h1; refine w2_0 ?_
    exact retK_ret ⟨⟨_, rfl, by simp only [go_sem]⟩, trivial⟩
   ·rw [if_neg h1] at hq
    have q0 := @h; have q1 := @h1; refine w2_0 ?_
    refine L_next (k + 1) ?_ ?_ ?_
    ·simp only [go_sem]; simp
    ·exact ⟨h, hq⟩
    ·omega
  ·simp only [decide_eq_false_iff_not] at h
   have e : k = x.fAttrs.length := by omega
   rw [e, List.drop_length, getAttr] at hq
   subst hq
   refine w0_0 ?_
   exact retK_ret ⟨⟨_, rfl, by simp only [go_sem]⟩, trivial⟩
theorem specGetAttr_ok (x : TFile) (name : ByteArray) (h : wFile x ≤ 4300000) : FnC Tryz.prog 289 [gFile x, os name] (gValue (getAttr name x.fAttrs)) := by
 unfold wFile wAttrS at h
 generalize hg : getAttr name x.fAttrs = res
 refine ent Tryz.func289 rfl Tryz.call289 rfl (fun C => ?_); simp only [go_sem, st0, Tryz.ntmps289]
 refine w0_0 ?_
 refine WP_lp (α := Nat) (fun k => [(5, oi k)]) (fun _ => []) (fun k => k ≤ x.fAttrs.length ∧ getAttr name (x.fAttrs.drop k) = res) (fun k => x.fAttrs.length - k) 0 (fun _ => ?_) ?_ ?_ (fun k hk => ?_)
 ·simp only [go_sem]
 ·simp only [go_sem]; simp
 ·simp [hg]
 ·obtain ⟨hk, hq⟩ := hk
  simp only [go_sem]
  refine w0_0 ?_
  refine cnd rfl (fun h => ?_) (fun h => ?_)
  ·simp only [decide_eq_true_eq, Int.ofNat_lt] at h
   have hd := List.drop_eq_getElem_cons h
   rw [hd, getAttr] at hq
   by_cases h1 : x.fAttrs[k].fName = name
   ·rw [if_pos h1] at hq
    subst hq
    have q0 := @h; have q1 := @h1; refine w2_0 ?_
    exact retK_ret ⟨⟨_, rfl, by simp only [go_sem]⟩, trivial⟩
   ·rw [if_neg h1] at hq
    have q0 := @h; have q1 := @h1; refine w2_0 ?_
    refine L_next (k + 1) ?_ ?_ ?_
    ·simp only [go_sem]; simp
    ·exact ⟨h, hq⟩
    ·omega
  ·simp only [decide_eq_false_iff_not] at h
   have e : k = x.fAttrs.length := by omega
   rw [e, List.drop_length, getAttr] at hq
   subst hq
   refine w0_0 ?_
   exact retK_ret ⟨⟨_, rfl, by simp only [go_sem]⟩, trivial⟩
end Go.Proofs.YtddimbdeggomaaaGreat
end
section
set_option maxRecDepth 100000
set_option maxHeartbeats 4000000
namespace Go.Proofs.YtddimbdeggomaaaGreat
def eqVal (x v : TValue) : Bool := decide (x.fKind = v.fKind) && (decide (x.fInt = v.fInt) && decide (x.fStr = v.fStr))
def hasI (l : List Int) (i : Int) : Bool := l.any fun x => decide (x = i)
def resIDs (s : ByteArray) : List TResult → List Int
 | [] => []
 | x :: r => if x.fName = s then x.fIDs else resIDs s r
def lessV (v : TValue) (n : Int) : Bool := decide (v.fKind = 1) && decide (v.fInt < n)
def mt (q : List TNode) (f : TFile) (r : List TResult) : Nat → Nat → Bool
 | 0, _ => false
 | k + 1, i => match q[i]? with
  | none => false
  | some n =>
   if n.fOp = 1 then true
   else if n.fOp = 2 then !decide ((getAttr n.fName f.fAttrs).fKind = 0)
   else if n.fOp = 3 then eqVal (getAttr n.fName f.fAttrs) n.fValue
   else if n.fOp = 4 then lessV (getAttr n.fName f.fAttrs) n.fValue.fInt
   else if n.fOp = 5 then !mt q f r k n.fLeft.toNat
   else if n.fOp = 6 then mt q f r k n.fLeft.toNat && mt q f r k n.fRight.toNat
   else if n.fOp = 7 then mt q f r k n.fLeft.toNat || mt q f r k n.fRight.toNat
   else if n.fOp = 8 then hasI (resIDs n.fName r) f.fID
   else !decide (f.fLink = 0) && hasI (resIDs n.fName r) f.fLink
end Go.Proofs.YtddimbdeggomaaaGreat
end
section
set_option maxRecDepth 100000
set_option maxHeartbeats 4000000
namespace Go.Proofs.YtddimbdeggomaaaGreat
open Go Go.Sx Go.RowKit Go.Proofs
theorem hasI_drop (l : List Int) (s : Int) (k : Nat) (h : k < l.length) : hasI (l.drop k) s = (decide (l[k] = s) || hasI (l.drop (k + 1)) s) := by
 rw [List.drop_eq_getElem_cons h]; rfl
theorem indexI_ok (l : List Int) (s : Int) (hl : l.length ≤ 67108864) : FnC Tryz.prog 331 [.o (.d (.sl (l.map encI))), oi s] (oi (idxP (fun x => decide (s = x)) l 0)) := by
 refine ent Tryz.func331 rfl Tryz.call331 rfl (fun C => ?_); simp only [go_sem, st0, Tryz.ntmps331]
 refine w0_0 ?_
 refine WP_lp (α := Nat) (fun k => [(8, oi k)]) (fun _ => []) (fun k => k ≤ l.length ∧ idxP (fun x => decide (s = x)) l 0 = idxP (fun x => decide (s = x)) (l.drop k) k) (fun k => l.length - k) 0 (fun _ => ?_) ?_ ?_ (fun k hk => ?_)
 ·simp only [go_sem]
 ·simp only [go_sem]; simp
 ·simp
 ·obtain ⟨hk, hq⟩ := hk
  simp only [go_sem]
  refine w0_0 ?_
  refine cnd rfl (fun h => ?_) (fun h => ?_)
  ·simp only [decide_eq_true_eq, Int.ofNat_lt] at h
   have hd := List.drop_eq_getElem_cons h
   rw [hd, idxP] at hq
   have q0 := @h; refine w1_0 ?_
   refine cnd (b := decide (s = l[k])) rfl (fun h2 => ?_) (fun h2 => ?_)
   ·rw [if_pos h2] at hq
    refine w0_0 ?_
    exact retK_ret ⟨⟨_, rfl, by simp only [go_sem, hq]⟩, trivial⟩
   ·rw [if_neg (by simp [h2])] at hq
    refine w0_0 ?_
    refine L_next (k + 1) ?_ ?_ ?_
    ·simp only [go_sem]; simp
    ·rw [hq]; exact ⟨h, by simp⟩
    ·omega
  ·simp only [decide_eq_false_iff_not] at h
   have e : k = l.length := by omega
   subst e
   simp only [List.drop_length, idxP] at hq
   refine w0_0 ?_
   exact retK_ret ⟨⟨_, rfl, by simp only [go_sem, hq]⟩, trivial⟩
theorem hasI_idx (l : List Int) (s : Int) : decide (0 ≤ idxP (fun x => decide (s = x)) l 0) = hasI l s := by
 rw [idxP_any]; unfold hasI
 congr 1; funext x; congr 1; exact propext eq_comm
theorem containsI_ok (l : List Int) (s : Int) (hl : l.length ≤ 67108864) : FnC Tryz.prog 311 [.o (.d (.sl (l.map encI))), oi s] (ob (hasI l s)) := by
 refine ent Tryz.func311 rfl Tryz.call311 rfl (fun C => ?_); simp only [go_sem, st0, Tryz.ntmps311]
 refine w0_1 (indexI_ok l s hl) ?_
 exact retK_ret ⟨⟨_, rfl, by simp only [go_sem, hasI_idx]⟩, trivial⟩
theorem implContainsID_ok (l : List Int) (s : Int) (hl : l.length ≤ 67108864) : FnC Tryz.prog 281 [.o (.d (.sl (l.map encI))), oi s] (ob (hasI l s)) := by
 refine ent Tryz.func281 rfl Tryz.call281 rfl (fun C => ?_); simp only [go_sem, st0, Tryz.ntmps281]
 refine w0_1 (containsI_ok l s hl) ?_
 exact retK_ret ⟨⟨_, rfl, by simp only [go_sem]⟩, trivial⟩
theorem specContainsID_ok (l : List Int) (s : Int) (hl : l.length ≤ 67108864) : FnC Tryz.prog 278 [.o (.d (.sl (l.map encI))), oi s] (ob (hasI l s)) := by
 refine ent Tryz.func278 rfl Tryz.call278 rfl (fun C => ?_); simp only [go_sem, st0, Tryz.ntmps278]
 refine w0_0 ?_
 refine WP_lp (α := Nat) (fun k => [(5, oi k)]) (fun k => []) (fun k => k ≤ l.length ∧ hasI (l.drop k) s = hasI l s) (fun k => l.length - k) 0 (fun _ => ?_) ?_ ?_ (fun k hk => ?_)
 ·simp only [go_sem]; try simp
 ·simp only [go_sem]; try simp
 ·simp
 ·simp only [go_sem]
  obtain ⟨hk, hg⟩ := hk
  refine w0_0 ?_
  refine cnd rfl (fun h1 => ?_) (fun h1 => ?_)
  ·simp only [decide_eq_true_eq, Int.ofNat_lt] at h1
   have hd := hasI_drop l s k h1
   rw [hg] at hd
   have q0 := @h1; refine w1_0 ?_
   refine cnd rfl (fun hv => ?_) (fun hv => ?_)
   ·rw [hv, Bool.true_or] at hd
    refine w0_0 ?_
    exact retK_ret ⟨⟨_, rfl, by simp only [go_sem, hd]⟩, trivial⟩
   ·rw [hv, Bool.false_or] at hd
    refine w0_0 ?_
    refine L_next (k + 1) ?_ ?_ ?_
    ·simp only [go_sem]; try simp
    ·exact ⟨by omega, hd.symm⟩
    ·omega
  ·simp only [decide_eq_false_iff_not] at h1
   have e : k = l.length := by omega
   subst e
   have hn : hasI l s = false := by rw [← hg, List.drop_length]; rfl
   refine w0_0 ?_
   exact retK_ret ⟨⟨_, rfl, by simp only [go_sem, hn]⟩, trivial⟩
theorem resIDs_drop (s : ByteArray) (l : List TResult) (k : Nat) (h : k < l.length) : resIDs s (l.drop k) = if l[k].fName = s then l[k].fIDs else resIDs s (l.drop (k + 1)) := by
 rw [List.drop_eq_getElem_cons h]; rfl
theorem implResIDs_ok (l : List TResult) (s : ByteArray) (hl : wResultS l ≤ 67108864) : FnC Tryz.prog 165 [.o (.d (.sl (l.map encResult))), os s] (.o (.w 3 1 ((resIDs s l).map encI))) := by
 unfold wResultS at hl
 generalize hg : resIDs s l = res
 refine ent Tryz.func165 rfl Tryz.call165 rfl (fun C => ?_); simp only [go_sem, st0, Tryz.ntmps165]
 refine w0_0 ?_
 refine WP_lp (α := Nat) (fun k => [(9, oi k)]) (fun k => []) (fun k => k ≤ l.length ∧ resIDs s (l.drop k) = res) (fun k => l.length - k) 0 (fun _ => ?_) ?_ ?_ (fun k hk => ?_)
 ·simp only [go_sem]; try simp
 ·simp only [go_sem]; try simp
 ·simp [hg]
 ·simp only [go_sem]
  obtain ⟨hk, hq⟩ := hk
  refine w0_0 ?_
  refine cnd rfl (fun h1 => ?_) (fun h1 => ?_)
  ·simp only [decide_eq_true_eq, Int.ofNat_lt] at h1
   rw [resIDs_drop s l k h1] at hq
   by_cases hv : l[k].fName = s
   ·rw [if_pos hv] at hq
    have hw := wsum_get wResult l h1
    have hwl : l[k].fIDs.length ≤ wResult l[k] := by unfold wResult; omega
    have q0 := @h1; have q1 := @hv; refine w2_1 (cloneInt_ok l[k].fIDs (by omega)) ?_
    exact retK_ret ⟨⟨_, rfl, by simp only [go_sem, hq]⟩, trivial⟩
   ·rw [if_neg hv] at hq
    have q0 := @h1; have q1 := @hv; refine w2_0 ?_
    refine L_next (k + 1) ?_ ?_ ?_
    ·simp only [go_sem]; try simp
    ·exact ⟨by omega, hq⟩
    ·omega
  ·simp only [decide_eq_false_iff_not] at h1
   have e : k = l.length := by omega
   subst e
   rw [List.drop_length] at hq
   have hn : res = [] := hq.symm
   subst hn
   refine w0_0 ?_
   exact retK_ret ⟨⟨_, rfl, by simp only [go_sem]⟩, trivial⟩
theorem specResIDs_ok (l : List TResult) (s : ByteArray) (hl : wResultS l ≤ 67108864) : FnC Tryz.prog 81 [.o (.d (.sl (l.map encResult))), os s] (.o (.w 3 1 ((resIDs s l).map encI))) := by
 unfold wResultS at hl
 generalize hg : resIDs s l = res
 refine ent Tryz.func81 rfl Tryz.call81 rfl (fun C => ?_); simp only [go_sem, st0, Tryz.ntmps81]
 refine w0_0 ?_
 refine WP_lp (α := Nat) (fun k => [(5, oi k)]) (fun k => []) (fun k => k ≤ l.length ∧ resIDs s (l.drop k) = res) (fun k => l.length - k) 0 (fun _ => ?_) ?_ ?_ (fun k hk => ?_)
 ·simp only [go_sem]; try simp
 ·simp only [go_sem]; try simp
 ·simp [hg]
 ·simp only [go_sem]
  obtain ⟨hk, hq⟩ := hk
  refine w0_0 ?_
  refine cnd rfl (fun h1 => ?_) (fun h1 => ?_)
  ·simp only [decide_eq_true_eq, Int.ofNat_lt] at h1
   rw [resIDs_drop s l k h1] at hq
   by_cases hv : l[k].fName = s
   ·rw [if_pos hv] at hq
    have hw := wsum_get wResult l h1
    have hwl : l[k].fIDs.length ≤ wResult l[k] := by unfold wResult; omega
    have q0 := @h1; have q1 := @hv; refine w2_0 ?_
    exact retK_ret ⟨⟨_, rfl, by simp only [go_sem, hq]⟩, trivial⟩
   ·rw [if_neg hv] at hq
    have q0 := @h1; have q1 := @hv; refine w2_0 ?_
    refine L_next (k + 1) ?_ ?_ ?_
    ·simp only [go_sem]; try simp
    ·exact ⟨by omega, hq⟩
    ·omega
  ·simp only [decide_eq_false_iff_not] at h1
   have e : k = l.length := by omega
   subst e
   rw [List.drop_length] at hq
   have hn : res = [] := hq.symm
   subst hn
   refine w0_0 ?_
   exact retK_ret ⟨⟨_, rfl, by simp only [go_sem]⟩, trivial⟩
end Go.Proofs.YtddimbdeggomaaaGreat
end
section
namespace Go.Proofs.YtddimbdeggomaaaGreat
open Go Go.Sx Go.RowKit Go.Proofs
def subI (a b : List Int) : List Int := a.filter fun x => !hasI b x
theorem subI_len (a b : List Int) : (subI a b).length ≤ a.length := List.length_filter_le _ _
def diff1 (a : List TResult) (x : TResult) : List TDiff :=
 if 0 < (subI x.fIDs (resIDs x.fName a)).length + (subI (resIDs x.fName a) x.fIDs).length then [⟨x.fName, subI x.fIDs (resIDs x.fName a), subI (resIDs x.fName a) x.fIDs⟩] else []
def diffR (a b : List TResult) : List TDiff := b.flatMap (diff1 a)
theorem diffR_take (a b : List TResult) (k : Nat) (h : k < b.length) : diffR a (b.take (k + 1)) = diffR a (b.take k) ++ diff1 a b[k] := by
 unfold diffR; rw [List.take_succ_eq_append_getElem h, List.flatMap_append]; simp
theorem diff1_len (a : List TResult) (x : TResult) : (diff1 a x).length ≤ 1 := by unfold diff1; split <;> simp
theorem diffR_len (a b : List TResult) (k : Nat) : (diffR a (b.take k)).length ≤ k := by
 have key : ∀ l : List TResult, (diffR a l).length ≤ l.length := by
  intro l
  induction l with
  | nil => simp [diffR]
  | cons x l ih => have := diff1_len a x; simp only [diffR, List.flatMap_cons, List.length_append, List.length_cons] at ih ⊢; omega
 exact Nat.le_trans (key _) (by rw [List.length_take]; omega)
theorem resIDs_w (s : ByteArray) (a : List TResult) : (resIDs s a).length ≤ wResultS a := by
 induction a with
 | nil => simp [resIDs]
 | cons x a ih =>
  unfold wResultS at ih ⊢
  have e : wResult x = x.fName.size + x.fIDs.length := rfl
  simp only [resIDs, wsum, List.length_cons]
  split <;> omega
theorem diffR_w (a : List TResult) : ∀ b : List TResult, wDiffS (diffR a b) ≤ wResultS b + b.length * wResultS a
 | [] => by simp [diffR, wDiffS, wsum]
 | x :: b => by
  have ih := diffR_w a b
  have h1 := subI_len x.fIDs (resIDs x.fName a)
  have h2 := subI_len (resIDs x.fName a) x.fIDs
  have h3 := resIDs_w x.fName a
  have key : ∀ l m : List TDiff, wDiffS (l ++ m) = wDiffS l + wDiffS m := by
   intro l m
   unfold wDiffS
   have : wsum wDiff (l ++ m) = wsum wDiff l + wsum wDiff m := by
    induction l with
    | nil => simp [wsum]
    | cons y l ih => simp only [List.cons_append, wsum, ih]; omega
   rw [this, List.length_append]; omega
  have e : diffR a (x :: b) = diff1 a x ++ diffR a b := by simp [diffR]
  have h4 : wDiffS (diff1 a x) ≤ 1 + wResult x + wResultS a := by
   unfold diff1
   split
   ·have e : wResult x = x.fName.size + x.fIDs.length := rfl
    unfold wDiffS; simp only [wsum, List.length_cons, List.length_nil, wDiff]; omega
   ·simp [wDiffS, wsum]
  rw [e, key]
  have h5 : wResultS (x :: b) = wResultS b + 1 + wResult x := by unfold wResultS; simp only [wsum, List.length_cons]; omega
  rw [h5, List.length_cons, Nat.succ_mul]
  omega
end Go.Proofs.YtddimbdeggomaaaGreat
end
