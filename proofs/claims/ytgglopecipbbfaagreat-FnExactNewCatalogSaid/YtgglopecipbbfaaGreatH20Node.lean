/-
  IsValidNode, IsValidQuery: both functions.
-/
import Derived.Test.YtgglopecipbbfaaGreatH19Cnt
set_option linter.all false
set_option maxRecDepth 100000
set_option maxHeartbeats 4000000
namespace Go.Proofs.YtgglopecipbbfaaGreat
open Go Go.Sx Go.RowKit Go.Proofs

def eV (v : TValue) : Bool := decide (v.fKind = 0) && (decide (v.fInt = 0) && decide (v.fStr = ⟨#[]⟩))
def kidL (n : TNode) (i : Nat) : Bool := inB n.fLeft 0 ((i : Int) - 1) && decide (0 < (i : Int))
def kidR (n : TNode) (i : Nat) : Bool := inB n.fRight 0 ((i : Int) - 1)
def noKids (n : TNode) : Bool := decide (n.fLeft = 0) && decide (n.fRight = 0)
def noText (n : TNode) : Bool := decide (n.fName = ⟨#[]⟩) && eV n.fValue
def okNode (n : TNode) (i : Nat) : Bool :=
  if n.fOp = 1 then noKids n && noText n
  else if n.fOp = 2 then isText n.fName 1 && (noKids n && eV n.fValue)
  else if n.fOp = 3 then isText n.fName 1 && (okVal n.fValue && (!decide (n.fValue.fKind = 0) && noKids n))
  else if n.fOp = 4 then isText n.fName 1 && (okVal n.fValue && (decide (n.fValue.fKind = 1) && noKids n))
  else if n.fOp = 5 then kidL n i && (decide (n.fRight = 0) && noText n)
  else if n.fOp = 6 ∨ n.fOp = 7 then kidL n i && (kidR n i && noText n)
  else if n.fOp = 8 ∨ n.fOp = 9 then isText n.fName 6 && (noKids n && eV n.fValue)
  else false
def okAt (q : List TNode) (i : Nat) : Bool := match q[i]? with
  | none => true
  | some n => okNode n i && (decide (q.length ≤ i + 1) || decide (refs q i = 1))
def okQ (q : List TNode) : Bool := (List.range q.length).all (okAt q) && inB (q.length : Int) 1 9

theorem okQ_at {q : List TNode} (h : okQ q = true) {i : Nat} {n : TNode} (hi : q[i]? = some n) : okNode n i = true := by
  unfold okQ at h
  simp only [Bool.and_eq_true, List.all_eq_true, List.mem_range] at h
  have hl : i < q.length := by
    rcases Nat.lt_or_ge i q.length with hl | hl
    · exact hl
    · rw [List.getElem?_eq_none hl] at hi; cases hi
  have := h.1 i hl
  unfold okAt at this
  rw [hi] at this
  simp only [Bool.and_eq_true] at this
  exact this.1
theorem okQ_len {q : List TNode} (h : okQ q = true) : 1 ≤ q.length ∧ q.length ≤ 9 := by
  unfold okQ inB at h
  simp only [Bool.and_eq_true, decide_eq_true_eq] at h
  omega
theorem isText_le {s : ByteArray} {n : Int} (h : isText s n = true) : (s.size : Int) ≤ n := by
  unfold isText inB at h
  simp only [Bool.and_eq_true, decide_eq_true_eq] at h
  omega
theorem okNode_left {n : TNode} {i : Nat} (h : okNode n i = true) (ho : n.fOp = 5 ∨ n.fOp = 6 ∨ n.fOp = 7) : ∃ l : Nat, n.fLeft = (l : Int) ∧ l < i := by
  have hk : kidL n i = true := by
    unfold okNode at h
    rcases ho with ho | ho | ho <;> simp [ho] at h <;> exact h.1
  unfold kidL inB at hk
  simp only [Bool.and_eq_true, decide_eq_true_eq] at hk
  exact ⟨n.fLeft.toNat, by omega, by omega⟩
theorem okNode_right {n : TNode} {i : Nat} (h : okNode n i = true) (ho : n.fOp = 6 ∨ n.fOp = 7) : ∃ l : Nat, n.fRight = (l : Int) ∧ l < i := by
  have hk : kidR n i = true ∧ kidL n i = true := by
    unfold okNode at h
    rcases ho with ho | ho <;> simp [ho] at h <;> exact ⟨h.2.1, h.1⟩
  unfold kidL kidR inB at hk
  simp only [Bool.and_eq_true, decide_eq_true_eq] at hk
  exact ⟨n.fRight.toNat, by omega, by omega⟩
theorem okNode_op {n : TNode} {i : Nat} (h : okNode n i = true) : n.fOp = 1 ∨ n.fOp = 2 ∨ n.fOp = 3 ∨ n.fOp = 4 ∨ n.fOp = 5 ∨ n.fOp = 6 ∨ n.fOp = 7 ∨ n.fOp = 8 ∨ n.fOp = 9 := by
  unfold okNode at h
  repeat' split at h
  all_goals first | omega | cases h
theorem implIsValidNode_ok (n : TNode) (i : Nat) (hi : i ≤ 4300000) (hs : n.fValue.fStr.size ≤ 4300000) (hn : n.fName.size ≤ 4300000) : FnC Tryz.prog 302 [gNode n, oi i] (ob (okNode n i)) := by
  refine ent Tryz.func302 rfl Tryz.call302 rfl (fun C => ?_); simp only [go_sem, st0, Tryz.ntmps302]
  by_cases h1 : n.fOp = 1
  · cases hz : (decide (n.fLeft = 0) && (decide (n.fRight = 0) && (decide (n.fName = ⟨#[]⟩) && (decide (n.fValue.fKind = 0) && (decide (n.fValue.fInt = 0) && decide (n.fValue.fStr = ⟨#[]⟩))))))
    all_goals
      have hr : okNode n i = (decide (n.fLeft = 0) && (decide (n.fRight = 0) && (decide (n.fName = ⟨#[]⟩) && (decide (n.fValue.fKind = 0) && (decide (n.fValue.fInt = 0) && decide (n.fValue.fStr = ⟨#[]⟩)))))) := by simp [okNode, h1, noKids, noText, eV, Bool.and_assoc]
      rw [hz] at hr
      repeat' (with_reducible first | refine nY ?_ | (refine mX ?_; try simp only [go_sem, h1, decide_true, hz]) | refine kO ?_ (by decide) | (refine And.intro ?_ ?_; focus omega))
      exact retK_ret ⟨⟨_, rfl, by simp only [go_sem, hr]⟩, trivial⟩
  by_cases h2 : n.fOp = 2
  · cases hz : (decide (n.fLeft = 0) && (decide (n.fRight = 0) && (decide (n.fValue.fKind = 0) && (decide (n.fValue.fInt = 0) && decide (n.fValue.fStr = ⟨#[]⟩))))) <;> cases ht : isText n.fName 1
    all_goals
      have hr : okNode n i = (isText n.fName 1 && (decide (n.fLeft = 0) && (decide (n.fRight = 0) && (decide (n.fValue.fKind = 0) && (decide (n.fValue.fInt = 0) && decide (n.fValue.fStr = ⟨#[]⟩)))))) := by simp [okNode, h2, noKids, noText, eV, Bool.and_assoc]
      rw [hz, ht] at hr
      repeat' (with_reducible first | refine nY ?_ | (refine mX ?_; try simp only [go_sem, h1, h2, decide_true, decide_false, hz, ht]) | refine kO ?_ (by decide) | (refine cC (implIsValidAttrName_ok n.fName) ?_ ?_; focus simp only [go_sem, and_self]; done) | (refine And.intro ?_ ?_; focus omega))
      exact retK_ret ⟨⟨_, rfl, by simp only [go_sem, hr, Bool.and_true, Bool.and_false]⟩, trivial⟩
  by_cases h3 : n.fOp = 3
  · have hr : okNode n i = (isText n.fName 1 && (okVal n.fValue && (!decide (n.fValue.fKind = 0) && (decide (n.fLeft = 0) && decide (n.fRight = 0))))) := by simp [okNode, h3, noKids]
    repeat' (with_reducible first | refine nY ?_ | (refine mX ?_; try simp only [go_sem, h1, h2, h3, decide_true, decide_false]) | refine kO ?_ (by decide) | (refine rS [5, 7] [] (by simp only [go_sem]; rfl) (by simp only [go_sem]; rfl) (by decide +kernel) ?_ ?_; (focus simp only [go_sem]; done)) | refine st_cons (aX ?_) (uX ?_) | refine st_nil (aX ?_) ?_ | (refine uA ?_; simp only [go_sem, h1, h2, h3, decide_true, decide_false]; (repeat' first | omega | refine And.intro ?_ ?_); done) | (refine cC (implIsValidAttrName_ok n.fName) ?_ ?_; focus simp only [go_sem, and_self]; done) | (refine cC (implIsValidValue_ok n.fValue hs) ?_ ?_; focus simp only [go_sem, and_self]; done) | (refine And.intro ?_ ?_; focus omega))
    cases hz : (decide (n.fLeft = 0) && decide (n.fRight = 0))
    · rw [hz] at hr
      simp only [go_sem, hz]
      repeat' (with_reducible first | refine nY ?_ | (refine mX ?_; try simp only [go_sem, h1, h2, h3, decide_true, decide_false, hz]) | refine kO ?_ (by decide) | (refine rS [5, 7] [] (by simp only [go_sem]; rfl) (by simp only [go_sem]; rfl) (by decide +kernel) ?_ ?_; (focus simp only [go_sem]; done)) | refine st_cons (aX ?_) (uX ?_) | refine st_nil (aX ?_) ?_ | (refine uA ?_; simp only [go_sem, h1, h2, h3, decide_true, decide_false, hz]; (repeat' first | omega | refine And.intro ?_ ?_); done) | (refine cC (implIsValidAttrName_ok n.fName) ?_ ?_; focus simp only [go_sem, and_self]; done) | (refine cC (implIsValidValue_ok n.fValue hs) ?_ ?_; focus simp only [go_sem, and_self]; done) | (refine And.intro ?_ ?_; focus omega))
      exact retK_ret ⟨⟨_, rfl, by simp only [go_sem, hr, Bool.and_true, Bool.and_false, Bool.true_and, Bool.false_and, Bool.not_true, Bool.not_false]⟩, trivial⟩
    rw [hz] at hr
    simp only [go_sem, hz]
    repeat' (with_reducible first | refine nY ?_ | (refine mX ?_; try simp only [go_sem, h1, h2, h3, decide_true, decide_false, hz]) | refine kO ?_ (by decide) | (refine rS [5, 7] [] (by simp only [go_sem]; rfl) (by simp only [go_sem]; rfl) (by decide +kernel) ?_ ?_; (focus simp only [go_sem]; done)) | refine st_cons (aX ?_) (uX ?_) | refine st_nil (aX ?_) ?_ | (refine uA ?_; simp only [go_sem, h1, h2, h3, decide_true, decide_false, hz]; (repeat' first | omega | refine And.intro ?_ ?_); done) | (refine cC (implIsValidAttrName_ok n.fName) ?_ ?_; focus simp only [go_sem, and_self]; done) | (refine cC (implIsValidValue_ok n.fValue hs) ?_ ?_; focus simp only [go_sem, and_self]; done) | (refine And.intro ?_ ?_; focus omega))
    cases ht : isText n.fName 1
    · rw [ht] at hr
      simp only [go_sem, ht]
      repeat' (with_reducible first | refine nY ?_ | (refine mX ?_; try simp only [go_sem, h1, h2, h3, decide_true, decide_false, hz, ht]) | refine kO ?_ (by decide) | (refine rS [5, 7] [] (by simp only [go_sem]; rfl) (by simp only [go_sem]; rfl) (by decide +kernel) ?_ ?_; (focus simp only [go_sem]; done)) | refine st_cons (aX ?_) (uX ?_) | refine st_nil (aX ?_) ?_ | (refine uA ?_; simp only [go_sem, h1, h2, h3, decide_true, decide_false, hz, ht]; (repeat' first | omega | refine And.intro ?_ ?_); done) | (refine cC (implIsValidAttrName_ok n.fName) ?_ ?_; focus simp only [go_sem, and_self]; done) | (refine cC (implIsValidValue_ok n.fValue hs) ?_ ?_; focus simp only [go_sem, and_self]; done) | (refine And.intro ?_ ?_; focus omega))
      exact retK_ret ⟨⟨_, rfl, by simp only [go_sem, hr, Bool.and_true, Bool.and_false, Bool.true_and, Bool.false_and, Bool.not_true, Bool.not_false]⟩, trivial⟩
    rw [ht] at hr
    simp only [go_sem, ht]
    repeat' (with_reducible first | refine nY ?_ | (refine mX ?_; try simp only [go_sem, h1, h2, h3, decide_true, decide_false, hz, ht]) | refine kO ?_ (by decide) | (refine rS [5, 7] [] (by simp only [go_sem]; rfl) (by simp only [go_sem]; rfl) (by decide +kernel) ?_ ?_; (focus simp only [go_sem]; done)) | refine st_cons (aX ?_) (uX ?_) | refine st_nil (aX ?_) ?_ | (refine uA ?_; simp only [go_sem, h1, h2, h3, decide_true, decide_false, hz, ht]; (repeat' first | omega | refine And.intro ?_ ?_); done) | (refine cC (implIsValidAttrName_ok n.fName) ?_ ?_; focus simp only [go_sem, and_self]; done) | (refine cC (implIsValidValue_ok n.fValue hs) ?_ ?_; focus simp only [go_sem, and_self]; done) | (refine And.intro ?_ ?_; focus omega))
    cases hv : okVal n.fValue
    · rw [hv] at hr
      simp only [go_sem, hv]
      repeat' (with_reducible first | refine nY ?_ | (refine mX ?_; try simp only [go_sem, h1, h2, h3, decide_true, decide_false, hz, ht, hv]) | refine kO ?_ (by decide) | (refine rS [5, 7] [] (by simp only [go_sem]; rfl) (by simp only [go_sem]; rfl) (by decide +kernel) ?_ ?_; (focus simp only [go_sem]; done)) | refine st_cons (aX ?_) (uX ?_) | refine st_nil (aX ?_) ?_ | (refine uA ?_; simp only [go_sem, h1, h2, h3, decide_true, decide_false, hz, ht, hv]; (repeat' first | omega | refine And.intro ?_ ?_); done) | (refine cC (implIsValidAttrName_ok n.fName) ?_ ?_; focus simp only [go_sem, and_self]; done) | (refine cC (implIsValidValue_ok n.fValue hs) ?_ ?_; focus simp only [go_sem, and_self]; done) | (refine And.intro ?_ ?_; focus omega))
      exact retK_ret ⟨⟨_, rfl, by simp only [go_sem, hr, Bool.and_true, Bool.and_false, Bool.true_and, Bool.false_and, Bool.not_true, Bool.not_false]⟩, trivial⟩
    rw [hv] at hr
    simp only [go_sem, hv]
    repeat' (with_reducible first | refine nY ?_ | (refine mX ?_; try simp only [go_sem, h1, h2, h3, decide_true, decide_false, hz, ht, hv]) | refine kO ?_ (by decide) | (refine rS [5, 7] [] (by simp only [go_sem]; rfl) (by simp only [go_sem]; rfl) (by decide +kernel) ?_ ?_; (focus simp only [go_sem]; done)) | refine st_cons (aX ?_) (uX ?_) | refine st_nil (aX ?_) ?_ | (refine uA ?_; simp only [go_sem, h1, h2, h3, decide_true, decide_false, hz, ht, hv]; (repeat' first | omega | refine And.intro ?_ ?_); done) | (refine cC (implIsValidAttrName_ok n.fName) ?_ ?_; focus simp only [go_sem, and_self]; done) | (refine cC (implIsValidValue_ok n.fValue hs) ?_ ?_; focus simp only [go_sem, and_self]; done) | (refine And.intro ?_ ?_; focus omega))
    by_cases hk : n.fValue.fKind = 0
    · simp only [hk, decide_true] at hr
      simp only [go_sem, hk, decide_true]
      repeat' (with_reducible first | refine nY ?_ | (refine mX ?_; try simp only [go_sem, h1, h2, h3, decide_true, decide_false, hz, ht, hv, hk]) | refine kO ?_ (by decide) | (refine rS [5, 7] [] (by simp only [go_sem]; rfl) (by simp only [go_sem]; rfl) (by decide +kernel) ?_ ?_; (focus simp only [go_sem]; done)) | refine st_cons (aX ?_) (uX ?_) | refine st_nil (aX ?_) ?_ | (refine uA ?_; simp only [go_sem, h1, h2, h3, decide_true, decide_false, hz, ht, hv, hk]; (repeat' first | omega | refine And.intro ?_ ?_); done) | (refine cC (implIsValidAttrName_ok n.fName) ?_ ?_; focus simp only [go_sem, and_self]; done) | (refine cC (implIsValidValue_ok n.fValue hs) ?_ ?_; focus simp only [go_sem, and_self]; done) | (refine And.intro ?_ ?_; focus omega))
      exact retK_ret ⟨⟨_, rfl, by simp only [go_sem, hr, Bool.and_true, Bool.and_false, Bool.true_and, Bool.false_and, Bool.not_true, Bool.not_false]⟩, trivial⟩
    simp only [hk, decide_false] at hr
    simp only [go_sem, hk, decide_false]
    repeat' (with_reducible first | refine nY ?_ | (refine mX ?_; try simp only [go_sem, h1, h2, h3, decide_true, decide_false, hz, ht, hv, hk]) | refine kO ?_ (by decide) | (refine rS [5, 7] [] (by simp only [go_sem]; rfl) (by simp only [go_sem]; rfl) (by decide +kernel) ?_ ?_; (focus simp only [go_sem]; done)) | refine st_cons (aX ?_) (uX ?_) | refine st_nil (aX ?_) ?_ | (refine uA ?_; simp only [go_sem, h1, h2, h3, decide_true, decide_false, hz, ht, hv, hk]; (repeat' first | omega | refine And.intro ?_ ?_); done) | (refine cC (implIsValidAttrName_ok n.fName) ?_ ?_; focus simp only [go_sem, and_self]; done) | (refine cC (implIsValidValue_ok n.fValue hs) ?_ ?_; focus simp only [go_sem, and_self]; done) | (refine And.intro ?_ ?_; focus omega))
    exact retK_ret ⟨⟨_, rfl, by simp only [go_sem, hr, Bool.and_true, Bool.and_false, Bool.true_and, Bool.false_and, Bool.not_true, Bool.not_false]⟩, trivial⟩
  by_cases h4 : n.fOp = 4
  · have hr : okNode n i = (isText n.fName 1 && (okVal n.fValue && (!decide (n.fValue.fKind = 0) && (decide (n.fValue.fKind = 1) && (decide (n.fLeft = 0) && decide (n.fRight = 0)))))) := by
      simp only [okNode, h4, noKids]
      by_cases hk : n.fValue.fKind = 1 <;> simp [hk]
    repeat' (with_reducible first | refine nY ?_ | (refine mX ?_; try simp only [go_sem, h1, h2, h3, h4, decide_true, decide_false]) | refine kO ?_ (by decide) | (refine rS [5, 7] [] (by simp only [go_sem]; rfl) (by simp only [go_sem]; rfl) (by decide +kernel) ?_ ?_; (focus simp only [go_sem]; done)) | refine st_cons (aX ?_) (uX ?_) | refine st_nil (aX ?_) ?_ | (refine uA ?_; simp only [go_sem, h1, h2, h3, h4, decide_true, decide_false]; (repeat' first | omega | refine And.intro ?_ ?_); done) | (refine cC (implIsValidAttrName_ok n.fName) ?_ ?_; focus simp only [go_sem, and_self]; done) | (refine cC (implIsValidValue_ok n.fValue hs) ?_ ?_; focus simp only [go_sem, and_self]; done) | (refine And.intro ?_ ?_; focus omega))
    cases hz : (decide (n.fLeft = 0) && decide (n.fRight = 0))
    · rw [hz] at hr
      simp only [go_sem, hz]
      repeat' (with_reducible first | refine nY ?_ | (refine mX ?_; try simp only [go_sem, h1, h2, h3, h4, decide_true, decide_false, hz]) | refine kO ?_ (by decide) | (refine rS [5, 7] [] (by simp only [go_sem]; rfl) (by simp only [go_sem]; rfl) (by decide +kernel) ?_ ?_; (focus simp only [go_sem]; done)) | refine st_cons (aX ?_) (uX ?_) | refine st_nil (aX ?_) ?_ | (refine uA ?_; simp only [go_sem, h1, h2, h3, h4, decide_true, decide_false, hz]; (repeat' first | omega | refine And.intro ?_ ?_); done) | (refine cC (implIsValidAttrName_ok n.fName) ?_ ?_; focus simp only [go_sem, and_self]; done) | (refine cC (implIsValidValue_ok n.fValue hs) ?_ ?_; focus simp only [go_sem, and_self]; done) | (refine And.intro ?_ ?_; focus omega))
      exact retK_ret ⟨⟨_, rfl, by simp only [go_sem, hr, Bool.and_true, Bool.and_false, Bool.true_and, Bool.false_and, Bool.not_true, Bool.not_false]⟩, trivial⟩
    rw [hz] at hr
    simp only [go_sem, hz]
    repeat' (with_reducible first | refine nY ?_ | (refine mX ?_; try simp only [go_sem, h1, h2, h3, h4, decide_true, decide_false, hz]) | refine kO ?_ (by decide) | (refine rS [5, 7] [] (by simp only [go_sem]; rfl) (by simp only [go_sem]; rfl) (by decide +kernel) ?_ ?_; (focus simp only [go_sem]; done)) | refine st_cons (aX ?_) (uX ?_) | refine st_nil (aX ?_) ?_ | (refine uA ?_; simp only [go_sem, h1, h2, h3, h4, decide_true, decide_false, hz]; (repeat' first | omega | refine And.intro ?_ ?_); done) | (refine cC (implIsValidAttrName_ok n.fName) ?_ ?_; focus simp only [go_sem, and_self]; done) | (refine cC (implIsValidValue_ok n.fValue hs) ?_ ?_; focus simp only [go_sem, and_self]; done) | (refine And.intro ?_ ?_; focus omega))
    cases ht : isText n.fName 1
    · rw [ht] at hr
      simp only [go_sem, ht]
      repeat' (with_reducible first | refine nY ?_ | (refine mX ?_; try simp only [go_sem, h1, h2, h3, h4, decide_true, decide_false, hz, ht]) | refine kO ?_ (by decide) | (refine rS [5, 7] [] (by simp only [go_sem]; rfl) (by simp only [go_sem]; rfl) (by decide +kernel) ?_ ?_; (focus simp only [go_sem]; done)) | refine st_cons (aX ?_) (uX ?_) | refine st_nil (aX ?_) ?_ | (refine uA ?_; simp only [go_sem, h1, h2, h3, h4, decide_true, decide_false, hz, ht]; (repeat' first | omega | refine And.intro ?_ ?_); done) | (refine cC (implIsValidAttrName_ok n.fName) ?_ ?_; focus simp only [go_sem, and_self]; done) | (refine cC (implIsValidValue_ok n.fValue hs) ?_ ?_; focus simp only [go_sem, and_self]; done) | (refine And.intro ?_ ?_; focus omega))
      exact retK_ret ⟨⟨_, rfl, by simp only [go_sem, hr, Bool.and_true, Bool.and_false, Bool.true_and, Bool.false_and, Bool.not_true, Bool.not_false]⟩, trivial⟩
    rw [ht] at hr
    simp only [go_sem, ht]
    repeat' (with_reducible first | refine nY ?_ | (refine mX ?_; try simp only [go_sem, h1, h2, h3, h4, decide_true, decide_false, hz, ht]) | refine kO ?_ (by decide) | (refine rS [5, 7] [] (by simp only [go_sem]; rfl) (by simp only [go_sem]; rfl) (by decide +kernel) ?_ ?_; (focus simp only [go_sem]; done)) | refine st_cons (aX ?_) (uX ?_) | refine st_nil (aX ?_) ?_ | (refine uA ?_; simp only [go_sem, h1, h2, h3, h4, decide_true, decide_false, hz, ht]; (repeat' first | omega | refine And.intro ?_ ?_); done) | (refine cC (implIsValidAttrName_ok n.fName) ?_ ?_; focus simp only [go_sem, and_self]; done) | (refine cC (implIsValidValue_ok n.fValue hs) ?_ ?_; focus simp only [go_sem, and_self]; done) | (refine And.intro ?_ ?_; focus omega))
    cases hv : okVal n.fValue
    · rw [hv] at hr
      simp only [go_sem, hv]
      repeat' (with_reducible first | refine nY ?_ | (refine mX ?_; try simp only [go_sem, h1, h2, h3, h4, decide_true, decide_false, hz, ht, hv]) | refine kO ?_ (by decide) | (refine rS [5, 7] [] (by simp only [go_sem]; rfl) (by simp only [go_sem]; rfl) (by decide +kernel) ?_ ?_; (focus simp only [go_sem]; done)) | refine st_cons (aX ?_) (uX ?_) | refine st_nil (aX ?_) ?_ | (refine uA ?_; simp only [go_sem, h1, h2, h3, h4, decide_true, decide_false, hz, ht, hv]; (repeat' first | omega | refine And.intro ?_ ?_); done) | (refine cC (implIsValidAttrName_ok n.fName) ?_ ?_; focus simp only [go_sem, and_self]; done) | (refine cC (implIsValidValue_ok n.fValue hs) ?_ ?_; focus simp only [go_sem, and_self]; done) | (refine And.intro ?_ ?_; focus omega))
      exact retK_ret ⟨⟨_, rfl, by simp only [go_sem, hr, Bool.and_true, Bool.and_false, Bool.true_and, Bool.false_and, Bool.not_true, Bool.not_false]⟩, trivial⟩
    rw [hv] at hr
    simp only [go_sem, hv]
    repeat' (with_reducible first | refine nY ?_ | (refine mX ?_; try simp only [go_sem, h1, h2, h3, h4, decide_true, decide_false, hz, ht, hv]) | refine kO ?_ (by decide) | (refine rS [5, 7] [] (by simp only [go_sem]; rfl) (by simp only [go_sem]; rfl) (by decide +kernel) ?_ ?_; (focus simp only [go_sem]; done)) | refine st_cons (aX ?_) (uX ?_) | refine st_nil (aX ?_) ?_ | (refine uA ?_; simp only [go_sem, h1, h2, h3, h4, decide_true, decide_false, hz, ht, hv]; (repeat' first | omega | refine And.intro ?_ ?_); done) | (refine cC (implIsValidAttrName_ok n.fName) ?_ ?_; focus simp only [go_sem, and_self]; done) | (refine cC (implIsValidValue_ok n.fValue hs) ?_ ?_; focus simp only [go_sem, and_self]; done) | (refine And.intro ?_ ?_; focus omega))
    by_cases hk : n.fValue.fKind = 0
    · simp only [hk, decide_true] at hr
      simp only [go_sem, hk, decide_true]
      repeat' (with_reducible first | refine nY ?_ | (refine mX ?_; try simp only [go_sem, h1, h2, h3, h4, decide_true, decide_false, hz, ht, hv, hk]) | refine kO ?_ (by decide) | (refine rS [5, 7] [] (by simp only [go_sem]; rfl) (by simp only [go_sem]; rfl) (by decide +kernel) ?_ ?_; (focus simp only [go_sem]; done)) | refine st_cons (aX ?_) (uX ?_) | refine st_nil (aX ?_) ?_ | (refine uA ?_; simp only [go_sem, h1, h2, h3, h4, decide_true, decide_false, hz, ht, hv, hk]; (repeat' first | omega | refine And.intro ?_ ?_); done) | (refine cC (implIsValidAttrName_ok n.fName) ?_ ?_; focus simp only [go_sem, and_self]; done) | (refine cC (implIsValidValue_ok n.fValue hs) ?_ ?_; focus simp only [go_sem, and_self]; done) | (refine And.intro ?_ ?_; focus omega))
      exact retK_ret ⟨⟨_, rfl, by simp only [go_sem, hr, Bool.and_true, Bool.and_false, Bool.true_and, Bool.false_and, Bool.not_true, Bool.not_false]⟩, trivial⟩
    simp only [hk, decide_false] at hr
    simp only [go_sem, hk, decide_false]
    repeat' (with_reducible first | refine nY ?_ | (refine mX ?_; try simp only [go_sem, h1, h2, h3, h4, decide_true, decide_false, hz, ht, hv, hk]) | refine kO ?_ (by decide) | (refine rS [5, 7] [] (by simp only [go_sem]; rfl) (by simp only [go_sem]; rfl) (by decide +kernel) ?_ ?_; (focus simp only [go_sem]; done)) | refine st_cons (aX ?_) (uX ?_) | refine st_nil (aX ?_) ?_ | (refine uA ?_; simp only [go_sem, h1, h2, h3, h4, decide_true, decide_false, hz, ht, hv, hk]; (repeat' first | omega | refine And.intro ?_ ?_); done) | (refine cC (implIsValidAttrName_ok n.fName) ?_ ?_; focus simp only [go_sem, and_self]; done) | (refine cC (implIsValidValue_ok n.fValue hs) ?_ ?_; focus simp only [go_sem, and_self]; done) | (refine And.intro ?_ ?_; focus omega))
    by_cases hj : n.fValue.fKind = 1
    rotate_left
    · simp only [hj, decide_false] at hr
      simp only [go_sem, hj, decide_false]
      repeat' (with_reducible first | refine nY ?_ | (refine mX ?_; try simp only [go_sem, h1, h2, h3, h4, decide_true, decide_false, hz, ht, hv, hk, hj]) | refine kO ?_ (by decide) | (refine rS [5, 7] [] (by simp only [go_sem]; rfl) (by simp only [go_sem]; rfl) (by decide +kernel) ?_ ?_; (focus simp only [go_sem]; done)) | refine st_cons (aX ?_) (uX ?_) | refine st_nil (aX ?_) ?_ | (refine uA ?_; simp only [go_sem, h1, h2, h3, h4, decide_true, decide_false, hz, ht, hv, hk, hj]; (repeat' first | omega | refine And.intro ?_ ?_); done) | (refine cC (implIsValidAttrName_ok n.fName) ?_ ?_; focus simp only [go_sem, and_self]; done) | (refine cC (implIsValidValue_ok n.fValue hs) ?_ ?_; focus simp only [go_sem, and_self]; done) | (refine And.intro ?_ ?_; focus omega))
      exact retK_ret ⟨⟨_, rfl, by simp only [go_sem, hr, Bool.and_true, Bool.and_false, Bool.true_and, Bool.false_and, Bool.not_true, Bool.not_false]⟩, trivial⟩
    simp only [hj, decide_true] at hr
    simp only [go_sem, hj, decide_true]
    repeat' (with_reducible first | refine nY ?_ | (refine mX ?_; try simp only [go_sem, h1, h2, h3, h4, decide_true, decide_false, hz, ht, hv, hk, hj]) | refine kO ?_ (by decide) | (refine rS [5, 7] [] (by simp only [go_sem]; rfl) (by simp only [go_sem]; rfl) (by decide +kernel) ?_ ?_; (focus simp only [go_sem]; done)) | refine st_cons (aX ?_) (uX ?_) | refine st_nil (aX ?_) ?_ | (refine uA ?_; simp only [go_sem, h1, h2, h3, h4, decide_true, decide_false, hz, ht, hv, hk, hj]; (repeat' first | omega | refine And.intro ?_ ?_); done) | (refine cC (implIsValidAttrName_ok n.fName) ?_ ?_; focus simp only [go_sem, and_self]; done) | (refine cC (implIsValidValue_ok n.fValue hs) ?_ ?_; focus simp only [go_sem, and_self]; done) | (refine And.intro ?_ ?_; focus omega))
    exact retK_ret ⟨⟨_, rfl, by simp only [go_sem, hr, Bool.and_true, Bool.and_false, Bool.true_and, Bool.false_and, Bool.not_true, Bool.not_false]⟩, trivial⟩
  by_cases h5 : n.fOp = 5
  · have hr : okNode n i = ((decide (n.fRight = 0) && (decide (n.fName = ⟨#[]⟩) && (decide (n.fValue.fKind = 0) && (decide (n.fValue.fInt = 0) && decide (n.fValue.fStr = ⟨#[]⟩))))) && (decide (0 < (i : Int)) && inB n.fLeft 0 ((i : Int) - 1))) := by simp [okNode, h5, kidL, noText, eV, Bool.and_assoc, Bool.and_comm, Bool.and_left_comm]
    repeat' (with_reducible first | refine nY ?_ | (refine mX ?_; try simp only [go_sem, h1, h2, h3, h4, h5, decide_true, decide_false]) | refine kO ?_ (by decide) | (refine cC (within_ok n.fLeft 0 ((i : Int) - 1)) ?_ ?_; focus simp only [go_sem, and_self]; done) | (refine And.intro ?_ ?_; focus omega))
    cases hz : (decide (n.fRight = 0) && (decide (n.fName = ⟨#[]⟩) && (decide (n.fValue.fKind = 0) && (decide (n.fValue.fInt = 0) && decide (n.fValue.fStr = ⟨#[]⟩)))))
    · rw [hz] at hr
      simp only [go_sem, hz]
      repeat' (with_reducible first | refine nY ?_ | (refine mX ?_; try simp only [go_sem, h1, h2, h3, h4, h5, decide_true, decide_false, hz]) | refine kO ?_ (by decide) | (refine cC (within_ok n.fLeft 0 ((i : Int) - 1)) ?_ ?_; focus simp only [go_sem, and_self]; done) | (refine And.intro ?_ ?_; focus omega))
      exact retK_ret ⟨⟨_, rfl, by simp only [go_sem, hr, Bool.and_true, Bool.and_false, Bool.true_and, Bool.false_and, Bool.not_true, Bool.not_false]⟩, trivial⟩
    rw [hz] at hr
    simp only [go_sem, hz]
    repeat' (with_reducible first | refine nY ?_ | (refine mX ?_; try simp only [go_sem, h1, h2, h3, h4, h5, decide_true, decide_false, hz]) | refine kO ?_ (by decide) | (refine cC (within_ok n.fLeft 0 ((i : Int) - 1)) ?_ ?_; focus simp only [go_sem, and_self]; done) | (refine And.intro ?_ ?_; focus omega))
    by_cases hp : 0 < (i : Int)
    rotate_left
    · simp only [hp, decide_false] at hr
      simp only [go_sem, hp, decide_false]
      repeat' (with_reducible first | refine nY ?_ | (refine mX ?_; try simp only [go_sem, h1, h2, h3, h4, h5, decide_true, decide_false, hz, hp]) | refine kO ?_ (by decide) | (refine cC (within_ok n.fLeft 0 ((i : Int) - 1)) ?_ ?_; focus simp only [go_sem, and_self]; done) | (refine And.intro ?_ ?_; focus omega))
      exact retK_ret ⟨⟨_, rfl, by simp only [go_sem, hr, Bool.and_true, Bool.and_false, Bool.true_and, Bool.false_and, Bool.not_true, Bool.not_false]⟩, trivial⟩
    simp only [hp, decide_true] at hr
    simp only [go_sem, hp, decide_true]
    repeat' (with_reducible first | refine nY ?_ | (refine mX ?_; try simp only [go_sem, h1, h2, h3, h4, h5, decide_true, decide_false, hz, hp]) | refine kO ?_ (by decide) | (refine cC (within_ok n.fLeft 0 ((i : Int) - 1)) ?_ ?_; focus simp only [go_sem, and_self]; done) | (refine And.intro ?_ ?_; focus omega))
    exact retK_ret ⟨⟨_, rfl, by simp only [go_sem, hr, Bool.and_true, Bool.and_false, Bool.true_and, Bool.false_and, Bool.not_true, Bool.not_false]⟩, trivial⟩
  by_cases h67 : n.fOp = 6 ∨ n.fOp = 7
  · have hr : okNode n i = ((decide (n.fName = ⟨#[]⟩) && (decide (n.fValue.fKind = 0) && (decide (n.fValue.fInt = 0) && decide (n.fValue.fStr = ⟨#[]⟩)))) && (decide (0 < (i : Int)) && (inB n.fLeft 0 ((i : Int) - 1) && inB n.fRight 0 ((i : Int) - 1)))) := by
      rcases h67 with h67 | h67 <;> simp [okNode, h67, kidL, kidR, noText, eV, Bool.and_assoc, Bool.and_comm, Bool.and_left_comm]
    by_cases h6 : n.fOp = 6
    · skip
      repeat' (with_reducible first | refine nY ?_ | (refine mX ?_; try simp only [go_sem, h1, h2, h3, h4, h5, h6, decide_true, decide_false]) | refine kO ?_ (by decide) | (refine rS [5, 7] [] (by simp only [go_sem]; rfl) (by simp only [go_sem]; rfl) (by decide +kernel) ?_ ?_; (focus simp only [go_sem]; done)) | refine st_cons (aX ?_) (uX ?_) | refine st_nil (aX ?_) ?_ | (refine uA ?_; simp only [go_sem, h1, h2, h3, h4, h5, h6, decide_true, decide_false]; (repeat' first | omega | refine And.intro ?_ ?_); done) | (refine cC (within_ok n.fLeft 0 ((i : Int) - 1)) ?_ ?_; focus simp only [go_sem, and_self]; done) | (refine cC (within_ok n.fRight 0 ((i : Int) - 1)) ?_ ?_; focus simp only [go_sem, and_self]; done) | (refine And.intro ?_ ?_; focus omega))
      cases hz : (decide (n.fName = ⟨#[]⟩) && (decide (n.fValue.fKind = 0) && (decide (n.fValue.fInt = 0) && decide (n.fValue.fStr = ⟨#[]⟩))))
      · rw [hz] at hr
        simp only [go_sem, hz]
        repeat' (with_reducible first | refine nY ?_ | (refine mX ?_; try simp only [go_sem, h1, h2, h3, h4, h5, h6, decide_true, decide_false, hz]) | refine kO ?_ (by decide) | (refine cC (within_ok n.fLeft 0 ((i : Int) - 1)) ?_ ?_; focus simp only [go_sem, and_self]; done) | (refine cC (within_ok n.fRight 0 ((i : Int) - 1)) ?_ ?_; focus simp only [go_sem, and_self]; done) | (refine And.intro ?_ ?_; focus omega))
        exact retK_ret ⟨⟨_, rfl, by simp only [go_sem, hr, Bool.and_true, Bool.and_false, Bool.true_and, Bool.false_and, Bool.not_true, Bool.not_false]⟩, trivial⟩
      rw [hz] at hr
      simp only [go_sem, hz]
      repeat' (with_reducible first | refine nY ?_ | (refine mX ?_; try simp only [go_sem, h1, h2, h3, h4, h5, h6, decide_true, decide_false, hz]) | refine kO ?_ (by decide) | (refine cC (within_ok n.fLeft 0 ((i : Int) - 1)) ?_ ?_; focus simp only [go_sem, and_self]; done) | (refine cC (within_ok n.fRight 0 ((i : Int) - 1)) ?_ ?_; focus simp only [go_sem, and_self]; done) | (refine And.intro ?_ ?_; focus omega))
      by_cases hp : 0 < (i : Int)
      rotate_left
      · simp only [hp, decide_false] at hr
        simp only [go_sem, hp, decide_false]
        repeat' (with_reducible first | refine nY ?_ | (refine mX ?_; try simp only [go_sem, h1, h2, h3, h4, h5, h6, decide_true, decide_false, hz, hp]) | refine kO ?_ (by decide) | (refine cC (within_ok n.fLeft 0 ((i : Int) - 1)) ?_ ?_; focus simp only [go_sem, and_self]; done) | (refine cC (within_ok n.fRight 0 ((i : Int) - 1)) ?_ ?_; focus simp only [go_sem, and_self]; done) | (refine And.intro ?_ ?_; focus omega))
        exact retK_ret ⟨⟨_, rfl, by simp only [go_sem, hr, Bool.and_true, Bool.and_false, Bool.true_and, Bool.false_and, Bool.not_true, Bool.not_false]⟩, trivial⟩
      simp only [hp, decide_true] at hr
      simp only [go_sem, hp, decide_true]
      repeat' (with_reducible first | refine nY ?_ | (refine mX ?_; try simp only [go_sem, h1, h2, h3, h4, h5, h6, decide_true, decide_false, hz, hp]) | refine kO ?_ (by decide) | (refine cC (within_ok n.fLeft 0 ((i : Int) - 1)) ?_ ?_; focus simp only [go_sem, and_self]; done) | (refine cC (within_ok n.fRight 0 ((i : Int) - 1)) ?_ ?_; focus simp only [go_sem, and_self]; done) | (refine And.intro ?_ ?_; focus omega))
      cases hl : inB n.fLeft 0 ((i : Int) - 1)
      · rw [hl] at hr
        simp only [go_sem, hl]
        repeat' (with_reducible first | refine nY ?_ | (refine mX ?_; try simp only [go_sem, h1, h2, h3, h4, h5, h6, decide_true, decide_false, hz, hp, hl]) | refine kO ?_ (by decide) | (refine cC (within_ok n.fLeft 0 ((i : Int) - 1)) ?_ ?_; focus simp only [go_sem, and_self]; done) | (refine cC (within_ok n.fRight 0 ((i : Int) - 1)) ?_ ?_; focus simp only [go_sem, and_self]; done) | (refine And.intro ?_ ?_; focus omega))
        exact retK_ret ⟨⟨_, rfl, by simp only [go_sem, hr, Bool.and_true, Bool.and_false, Bool.true_and, Bool.false_and, Bool.not_true, Bool.not_false]⟩, trivial⟩
      rw [hl] at hr
      simp only [go_sem, hl]
      repeat' (with_reducible first | refine nY ?_ | (refine mX ?_; try simp only [go_sem, h1, h2, h3, h4, h5, h6, decide_true, decide_false, hz, hp, hl]) | refine kO ?_ (by decide) | (refine cC (within_ok n.fLeft 0 ((i : Int) - 1)) ?_ ?_; focus simp only [go_sem, and_self]; done) | (refine cC (within_ok n.fRight 0 ((i : Int) - 1)) ?_ ?_; focus simp only [go_sem, and_self]; done) | (refine And.intro ?_ ?_; focus omega))
      exact retK_ret ⟨⟨_, rfl, by simp only [go_sem, hr, Bool.and_true, Bool.and_false, Bool.true_and, Bool.false_and, Bool.not_true, Bool.not_false]⟩, trivial⟩
    · have h7 : n.fOp = 7 := by omega
      repeat' (with_reducible first | refine nY ?_ | (refine mX ?_; try simp only [go_sem, h1, h2, h3, h4, h5, h6, h7, decide_true, decide_false]) | refine kO ?_ (by decide) | (refine rS [5, 7] [] (by simp only [go_sem]; rfl) (by simp only [go_sem]; rfl) (by decide +kernel) ?_ ?_; (focus simp only [go_sem]; done)) | refine st_cons (aX ?_) (uX ?_) | refine st_nil (aX ?_) ?_ | (refine uA ?_; simp only [go_sem, h1, h2, h3, h4, h5, h6, h7, decide_true, decide_false]; (repeat' first | omega | refine And.intro ?_ ?_); done) | (refine cC (within_ok n.fLeft 0 ((i : Int) - 1)) ?_ ?_; focus simp only [go_sem, and_self]; done) | (refine cC (within_ok n.fRight 0 ((i : Int) - 1)) ?_ ?_; focus simp only [go_sem, and_self]; done) | (refine And.intro ?_ ?_; focus omega))
      cases hz : (decide (n.fName = ⟨#[]⟩) && (decide (n.fValue.fKind = 0) && (decide (n.fValue.fInt = 0) && decide (n.fValue.fStr = ⟨#[]⟩))))
      · rw [hz] at hr
        simp only [go_sem, hz]
        repeat' (with_reducible first | refine nY ?_ | (refine mX ?_; try simp only [go_sem, h1, h2, h3, h4, h5, h6, h7, decide_true, decide_false, hz]) | refine kO ?_ (by decide) | (refine cC (within_ok n.fLeft 0 ((i : Int) - 1)) ?_ ?_; focus simp only [go_sem, and_self]; done) | (refine cC (within_ok n.fRight 0 ((i : Int) - 1)) ?_ ?_; focus simp only [go_sem, and_self]; done) | (refine And.intro ?_ ?_; focus omega))
        exact retK_ret ⟨⟨_, rfl, by simp only [go_sem, hr, Bool.and_true, Bool.and_false, Bool.true_and, Bool.false_and, Bool.not_true, Bool.not_false]⟩, trivial⟩
      rw [hz] at hr
      simp only [go_sem, hz]
      repeat' (with_reducible first | refine nY ?_ | (refine mX ?_; try simp only [go_sem, h1, h2, h3, h4, h5, h6, h7, decide_true, decide_false, hz]) | refine kO ?_ (by decide) | (refine cC (within_ok n.fLeft 0 ((i : Int) - 1)) ?_ ?_; focus simp only [go_sem, and_self]; done) | (refine cC (within_ok n.fRight 0 ((i : Int) - 1)) ?_ ?_; focus simp only [go_sem, and_self]; done) | (refine And.intro ?_ ?_; focus omega))
      by_cases hp : 0 < (i : Int)
      rotate_left
      · simp only [hp, decide_false] at hr
        simp only [go_sem, hp, decide_false]
        repeat' (with_reducible first | refine nY ?_ | (refine mX ?_; try simp only [go_sem, h1, h2, h3, h4, h5, h6, h7, decide_true, decide_false, hz, hp]) | refine kO ?_ (by decide) | (refine cC (within_ok n.fLeft 0 ((i : Int) - 1)) ?_ ?_; focus simp only [go_sem, and_self]; done) | (refine cC (within_ok n.fRight 0 ((i : Int) - 1)) ?_ ?_; focus simp only [go_sem, and_self]; done) | (refine And.intro ?_ ?_; focus omega))
        exact retK_ret ⟨⟨_, rfl, by simp only [go_sem, hr, Bool.and_true, Bool.and_false, Bool.true_and, Bool.false_and, Bool.not_true, Bool.not_false]⟩, trivial⟩
      simp only [hp, decide_true] at hr
      simp only [go_sem, hp, decide_true]
      repeat' (with_reducible first | refine nY ?_ | (refine mX ?_; try simp only [go_sem, h1, h2, h3, h4, h5, h6, h7, decide_true, decide_false, hz, hp]) | refine kO ?_ (by decide) | (refine cC (within_ok n.fLeft 0 ((i : Int) - 1)) ?_ ?_; focus simp only [go_sem, and_self]; done) | (refine cC (within_ok n.fRight 0 ((i : Int) - 1)) ?_ ?_; focus simp only [go_sem, and_self]; done) | (refine And.intro ?_ ?_; focus omega))
      cases hl : inB n.fLeft 0 ((i : Int) - 1)
      · rw [hl] at hr
        simp only [go_sem, hl]
        repeat' (with_reducible first | refine nY ?_ | (refine mX ?_; try simp only [go_sem, h1, h2, h3, h4, h5, h6, h7, decide_true, decide_false, hz, hp, hl]) | refine kO ?_ (by decide) | (refine cC (within_ok n.fLeft 0 ((i : Int) - 1)) ?_ ?_; focus simp only [go_sem, and_self]; done) | (refine cC (within_ok n.fRight 0 ((i : Int) - 1)) ?_ ?_; focus simp only [go_sem, and_self]; done) | (refine And.intro ?_ ?_; focus omega))
        exact retK_ret ⟨⟨_, rfl, by simp only [go_sem, hr, Bool.and_true, Bool.and_false, Bool.true_and, Bool.false_and, Bool.not_true, Bool.not_false]⟩, trivial⟩
      rw [hl] at hr
      simp only [go_sem, hl]
      repeat' (with_reducible first | refine nY ?_ | (refine mX ?_; try simp only [go_sem, h1, h2, h3, h4, h5, h6, h7, decide_true, decide_false, hz, hp, hl]) | refine kO ?_ (by decide) | (refine cC (within_ok n.fLeft 0 ((i : Int) - 1)) ?_ ?_; focus simp only [go_sem, and_self]; done) | (refine cC (within_ok n.fRight 0 ((i : Int) - 1)) ?_ ?_; focus simp only [go_sem, and_self]; done) | (refine And.intro ?_ ?_; focus omega))
      exact retK_ret ⟨⟨_, rfl, by simp only [go_sem, hr, Bool.and_true, Bool.and_false, Bool.true_and, Bool.false_and, Bool.not_true, Bool.not_false]⟩, trivial⟩
  have h6 : ¬ n.fOp = 6 := by omega
  have h7 : ¬ n.fOp = 7 := by omega
  by_cases h8 : n.fOp = 8
  · have hr : okNode n i = (isText n.fName 6 && (decide (n.fLeft = 0) && (decide (n.fRight = 0) && (decide (n.fValue.fKind = 0) && (decide (n.fValue.fInt = 0) && decide (n.fValue.fStr = ⟨#[]⟩)))))) := by simp [okNode, h8, noKids, eV, Bool.and_assoc]
    repeat' (with_reducible first | refine nY ?_ | (refine mX ?_; try simp only [go_sem, h1, h2, h3, h4, h5, h6, h7, h8, decide_true, decide_false]) | refine kO ?_ (by decide) | (refine cC (implIsValidString_ok n.fName hn) ?_ ?_; focus simp only [go_sem, and_self]; done) | (refine And.intro ?_ ?_; focus omega))
    cases hz : (decide (n.fLeft = 0) && (decide (n.fRight = 0) && (decide (n.fValue.fKind = 0) && (decide (n.fValue.fInt = 0) && decide (n.fValue.fStr = ⟨#[]⟩)))))
    · rw [hz] at hr
      simp only [go_sem, hz]
      repeat' (with_reducible first | refine nY ?_ | (refine mX ?_; try simp only [go_sem, h1, h2, h3, h4, h5, h6, h7, h8, decide_true, decide_false, hz]) | refine kO ?_ (by decide) | (refine cC (implIsValidString_ok n.fName hn) ?_ ?_; focus simp only [go_sem, and_self]; done) | (refine And.intro ?_ ?_; focus omega))
      exact retK_ret ⟨⟨_, rfl, by simp only [go_sem, hr, Bool.and_true, Bool.and_false, Bool.true_and, Bool.false_and, Bool.not_true, Bool.not_false]⟩, trivial⟩
    rw [hz] at hr
    simp only [go_sem, hz]
    repeat' (with_reducible first | refine nY ?_ | (refine mX ?_; try simp only [go_sem, h1, h2, h3, h4, h5, h6, h7, h8, decide_true, decide_false, hz]) | refine kO ?_ (by decide) | (refine cC (implIsValidString_ok n.fName hn) ?_ ?_; focus simp only [go_sem, and_self]; done) | (refine And.intro ?_ ?_; focus omega))
    exact retK_ret ⟨⟨_, rfl, by simp only [go_sem, hr, Bool.and_true, Bool.and_false, Bool.true_and, Bool.false_and, Bool.not_true, Bool.not_false]⟩, trivial⟩
  by_cases h9 : n.fOp = 9
  · have hr : okNode n i = (isText n.fName 6 && (decide (n.fLeft = 0) && (decide (n.fRight = 0) && (decide (n.fValue.fKind = 0) && (decide (n.fValue.fInt = 0) && decide (n.fValue.fStr = ⟨#[]⟩)))))) := by simp [okNode, h9, noKids, eV, Bool.and_assoc]
    repeat' (with_reducible first | refine nY ?_ | (refine mX ?_; try simp only [go_sem, h1, h2, h3, h4, h5, h6, h7, h8, h9, decide_true, decide_false]) | refine kO ?_ (by decide) | (refine cC (implIsValidString_ok n.fName hn) ?_ ?_; focus simp only [go_sem, and_self]; done) | (refine And.intro ?_ ?_; focus omega))
    cases hz : (decide (n.fLeft = 0) && (decide (n.fRight = 0) && (decide (n.fValue.fKind = 0) && (decide (n.fValue.fInt = 0) && decide (n.fValue.fStr = ⟨#[]⟩)))))
    · rw [hz] at hr
      simp only [go_sem, hz]
      repeat' (with_reducible first | refine nY ?_ | (refine mX ?_; try simp only [go_sem, h1, h2, h3, h4, h5, h6, h7, h8, h9, decide_true, decide_false, hz]) | refine kO ?_ (by decide) | (refine cC (implIsValidString_ok n.fName hn) ?_ ?_; focus simp only [go_sem, and_self]; done) | (refine And.intro ?_ ?_; focus omega))
      exact retK_ret ⟨⟨_, rfl, by simp only [go_sem, hr, Bool.and_true, Bool.and_false, Bool.true_and, Bool.false_and, Bool.not_true, Bool.not_false]⟩, trivial⟩
    rw [hz] at hr
    simp only [go_sem, hz]
    repeat' (with_reducible first | refine nY ?_ | (refine mX ?_; try simp only [go_sem, h1, h2, h3, h4, h5, h6, h7, h8, h9, decide_true, decide_false, hz]) | refine kO ?_ (by decide) | (refine cC (implIsValidString_ok n.fName hn) ?_ ?_; focus simp only [go_sem, and_self]; done) | (refine And.intro ?_ ?_; focus omega))
    exact retK_ret ⟨⟨_, rfl, by simp only [go_sem, hr, Bool.and_true, Bool.and_false, Bool.true_and, Bool.false_and, Bool.not_true, Bool.not_false]⟩, trivial⟩
  have hr : okNode n i = false := by simp [okNode, h1, h2, h3, h4, h5, h6, h7, h8, h9]
  repeat' (with_reducible first | refine nY ?_ | (refine mX ?_; try simp only [go_sem, h1, h2, h3, h4, h5, h6, h7, h8, h9, decide_false]) | refine kO ?_ (by decide) | (refine And.intro ?_ ?_; focus omega))
  exact retK_ret ⟨⟨_, rfl, by simp only [go_sem, hr]⟩, trivial⟩
end Go.Proofs.YtgglopecipbbfaaGreat
