/-
  IsValidNode of the reference; IsValidQuery, both.
-/
import Derived.Test.YtgglopecipbbfaaGreatH20Node
import Derived.Test.YtgglopecipbbfaaGreatL5
set_option linter.all false
set_option maxRecDepth 100000
set_option maxHeartbeats 4000000
namespace Go.Proofs.YtgglopecipbbfaaGreat
open Go Go.Sx Go.RowKit Go.Proofs

theorem specIsValidNode_ok (n : TNode) (i : Nat) (hi : i ≤ 4300000) (hs : n.fValue.fStr.size ≤ 4300000) (hn : n.fName.size ≤ 4300000) : FnC Tryz.prog 284 [gNode n, oi i] (ob (okNode n i)) := by
  refine ent Tryz.func284 rfl Tryz.call284 rfl (fun C => ?_); simp only [go_sem, st0, Tryz.ntmps284]
  repeat' (with_reducible first | refine nX ?_ | (refine mX ?_; try simp only [go_sem]) | refine kO ?_ (by decide) | (refine And.intro ?_ ?_; focus omega))
  refine reg ?_
  repeat' (with_reducible first | refine nX ?_ | (refine mX ?_; try simp only [go_sem]) | refine kO ?_ (by decide) | (refine And.intro ?_ ?_; focus omega))
  refine WP_cut [(5, ob (kidL n i))] [] ?_ ?_
  · cases hl : inB n.fLeft 0 ((i : Int) - 1) <;> by_cases hp : 0 < (i : Int)
    all_goals
      refine reg ?_
      repeat' (with_reducible first | refine nX ?_ | (refine mX ?_; try simp only [go_sem, hl, hp, decide_true, decide_false]) | refine kO ?_ (by decide) | (refine cC (l01In_ok n.fLeft 0 ((i : Int) - 1)) ?_ ?_; focus simp only [go_sem, and_self]; done) | (refine And.intro ?_ ?_; focus omega))
      exact cut_done (by simp only [go_sem, kidL, hl, hp, decide_true, decide_false, Bool.and_true, Bool.and_false]; simp) (by simp only [go_sem])
  simp only [go_sem]
  repeat' (with_reducible first | refine nX ?_ | (refine mX ?_; try simp only [go_sem]) | refine kO ?_ (by decide) | (refine And.intro ?_ ?_; focus omega))
  refine WP_cut [(6, ob (kidL n i && kidR n i))] [] ?_ ?_
  · cases hl : kidL n i <;> cases hq : kidR n i
    all_goals
      refine reg ?_
      repeat' (with_reducible first | refine nX ?_ | (refine mX ?_; try simp only [go_sem, hl, hq]) | refine kO ?_ (by decide) | (refine cC ((l01In_ok n.fRight 0 ((i : Int) - 1) : FnC Tryz.prog _ _ (ob (kidR n i)))) ?_ ?_; focus simp only [go_sem, and_self]; done) | (refine And.intro ?_ ?_; focus omega))
      exact cut_done (by simp only [go_sem, hl, hq, Bool.and_true, Bool.and_false]; simp) (by simp only [go_sem])
  simp only [go_sem]
  by_cases h1 : n.fOp = 1
  · have hr : okNode n i = (decide (n.fLeft = 0) && (decide (n.fRight = 0) && (decide (n.fName = ⟨#[]⟩) && (decide (n.fValue.fKind = 0) && (decide (n.fValue.fInt = 0) && decide (n.fValue.fStr = ⟨#[]⟩)))))) := by simp [okNode, h1, noKids, noText, eV, Bool.and_assoc]
    repeat' (with_reducible first | refine nY ?_ | (refine mX ?_; try simp only [go_sem, h1, decide_true, decide_false]) | refine kO ?_ (by decide) | (refine And.intro ?_ ?_; focus omega))
    exact retK_ret ⟨⟨_, rfl, by simp only [go_sem, hr, Bool.and_true, Bool.and_false, Bool.true_and, Bool.false_and, Bool.not_true, Bool.not_false]⟩, trivial⟩
  by_cases h2 : n.fOp = 2
  · have hr : okNode n i = (isText n.fName 1 && (decide (n.fLeft = 0) && (decide (n.fRight = 0) && (decide (n.fValue.fKind = 0) && (decide (n.fValue.fInt = 0) && decide (n.fValue.fStr = ⟨#[]⟩)))))) := by simp [okNode, h2, noKids, noText, eV, Bool.and_assoc]
    repeat' (with_reducible first | refine nY ?_ | (refine mX ?_; try simp only [go_sem, h1, h2, decide_true, decide_false]) | refine kO ?_ (by decide) | (refine cC (specIsValidAttrName_ok n.fName hn) ?_ ?_; focus simp only [go_sem, and_self]; done) | (refine And.intro ?_ ?_; focus omega))
    cases ht : isText n.fName 1
    · rw [ht] at hr
      simp only [go_sem, ht]
      repeat' (with_reducible first | refine nY ?_ | (refine mX ?_; try simp only [go_sem, h1, h2, decide_true, decide_false, ht]) | refine kO ?_ (by decide) | (refine And.intro ?_ ?_; focus omega))
      exact retK_ret ⟨⟨_, rfl, by simp only [go_sem, hr, Bool.and_true, Bool.and_false, Bool.true_and, Bool.false_and, Bool.not_true, Bool.not_false]⟩, trivial⟩
    rw [ht] at hr
    simp only [go_sem, ht]
    repeat' (with_reducible first | refine nY ?_ | (refine mX ?_; try simp only [go_sem, h1, h2, decide_true, decide_false, ht]) | refine kO ?_ (by decide) | (refine cC (specIsValidAttrName_ok n.fName hn) ?_ ?_; focus simp only [go_sem, and_self]; done) | (refine And.intro ?_ ?_; focus omega))
    exact retK_ret ⟨⟨_, rfl, by simp only [go_sem, hr, Bool.and_true, Bool.and_false, Bool.true_and, Bool.false_and, Bool.not_true, Bool.not_false]⟩, trivial⟩
  by_cases h3 : n.fOp = 3
  · have hr : okNode n i = (isText n.fName 1 && (okVal n.fValue && (!decide (n.fValue.fKind = 0) && (decide (n.fLeft = 0) && decide (n.fRight = 0))))) := by simp [okNode, h3, noKids]
    repeat' (with_reducible first | refine nY ?_ | (refine mX ?_; try simp only [go_sem, h1, h2, h3, decide_true, decide_false]) | refine kO ?_ (by decide) | (refine cC (specIsValidAttrName_ok n.fName hn) ?_ ?_; focus simp only [go_sem, and_self]; done) | (refine cC (specIsValidValue_ok n.fValue hs) ?_ ?_; focus simp only [go_sem, and_self]; done) | (refine And.intro ?_ ?_; focus omega))
    cases ht : isText n.fName 1
    · rw [ht] at hr
      simp only [go_sem, ht]
      repeat' (with_reducible first | refine nY ?_ | (refine mX ?_; try simp only [go_sem, h1, h2, h3, decide_true, decide_false, ht]) | refine kO ?_ (by decide) | (refine And.intro ?_ ?_; focus omega))
      exact retK_ret ⟨⟨_, rfl, by simp only [go_sem, hr, Bool.and_true, Bool.and_false, Bool.true_and, Bool.false_and, Bool.not_true, Bool.not_false]⟩, trivial⟩
    rw [ht] at hr
    simp only [go_sem, ht]
    repeat' (with_reducible first | refine nY ?_ | (refine mX ?_; try simp only [go_sem, h1, h2, h3, decide_true, decide_false, ht]) | refine kO ?_ (by decide) | (refine cC (specIsValidAttrName_ok n.fName hn) ?_ ?_; focus simp only [go_sem, and_self]; done) | (refine cC (specIsValidValue_ok n.fValue hs) ?_ ?_; focus simp only [go_sem, and_self]; done) | (refine And.intro ?_ ?_; focus omega))
    cases hv : okVal n.fValue
    · rw [hv] at hr
      simp only [go_sem, hv]
      repeat' (with_reducible first | refine nY ?_ | (refine mX ?_; try simp only [go_sem, h1, h2, h3, decide_true, decide_false, ht, hv]) | refine kO ?_ (by decide) | (refine And.intro ?_ ?_; focus omega))
      exact retK_ret ⟨⟨_, rfl, by simp only [go_sem, hr, Bool.and_true, Bool.and_false, Bool.true_and, Bool.false_and, Bool.not_true, Bool.not_false]⟩, trivial⟩
    rw [hv] at hr
    simp only [go_sem, hv]
    repeat' (with_reducible first | refine nY ?_ | (refine mX ?_; try simp only [go_sem, h1, h2, h3, decide_true, decide_false, ht, hv]) | refine kO ?_ (by decide) | (refine cC (specIsValidAttrName_ok n.fName hn) ?_ ?_; focus simp only [go_sem, and_self]; done) | (refine cC (specIsValidValue_ok n.fValue hs) ?_ ?_; focus simp only [go_sem, and_self]; done) | (refine And.intro ?_ ?_; focus omega))
    by_cases hk : n.fValue.fKind = 0
    · simp only [hk, decide_true] at hr
      simp only [go_sem, hk, decide_true]
      repeat' (with_reducible first | refine nY ?_ | (refine mX ?_; try simp only [go_sem, h1, h2, h3, decide_true, decide_false, ht, hv, hk]) | refine kO ?_ (by decide) | (refine And.intro ?_ ?_; focus omega))
      exact retK_ret ⟨⟨_, rfl, by simp only [go_sem, hr, Bool.and_true, Bool.and_false, Bool.true_and, Bool.false_and, Bool.not_true, Bool.not_false]⟩, trivial⟩
    simp only [hk, decide_false] at hr
    simp only [go_sem, hk, decide_false]
    repeat' (with_reducible first | refine nY ?_ | (refine mX ?_; try simp only [go_sem, h1, h2, h3, decide_true, decide_false, ht, hv, hk]) | refine kO ?_ (by decide) | (refine cC (specIsValidAttrName_ok n.fName hn) ?_ ?_; focus simp only [go_sem, and_self]; done) | (refine cC (specIsValidValue_ok n.fValue hs) ?_ ?_; focus simp only [go_sem, and_self]; done) | (refine And.intro ?_ ?_; focus omega))
    by_cases hL : n.fLeft = 0
    rotate_left
    · simp only [hL, decide_false] at hr
      simp only [go_sem, hL, decide_false]
      repeat' (with_reducible first | refine nY ?_ | (refine mX ?_; try simp only [go_sem, h1, h2, h3, decide_true, decide_false, ht, hv, hk, hL]) | refine kO ?_ (by decide) | (refine And.intro ?_ ?_; focus omega))
      exact retK_ret ⟨⟨_, rfl, by simp only [go_sem, hr, Bool.and_true, Bool.and_false, Bool.true_and, Bool.false_and, Bool.not_true, Bool.not_false]⟩, trivial⟩
    simp only [hL, decide_true] at hr
    simp only [go_sem, hL, decide_true]
    repeat' (with_reducible first | refine nY ?_ | (refine mX ?_; try simp only [go_sem, h1, h2, h3, decide_true, decide_false, ht, hv, hk, hL]) | refine kO ?_ (by decide) | (refine cC (specIsValidAttrName_ok n.fName hn) ?_ ?_; focus simp only [go_sem, and_self]; done) | (refine cC (specIsValidValue_ok n.fValue hs) ?_ ?_; focus simp only [go_sem, and_self]; done) | (refine And.intro ?_ ?_; focus omega))
    exact retK_ret ⟨⟨_, rfl, by simp only [go_sem, hr, Bool.and_true, Bool.and_false, Bool.true_and, Bool.false_and, Bool.not_true, Bool.not_false]⟩, trivial⟩
  by_cases h4 : n.fOp = 4
  · have hr : okNode n i = (isText n.fName 1 && (okVal n.fValue && (decide (n.fValue.fKind = 1) && (decide (n.fLeft = 0) && decide (n.fRight = 0))))) := by simp [okNode, h4, noKids]
    repeat' (with_reducible first | refine nY ?_ | (refine mX ?_; try simp only [go_sem, h1, h2, h3, h4, decide_true, decide_false]) | refine kO ?_ (by decide) | (refine cC (specIsValidAttrName_ok n.fName hn) ?_ ?_; focus simp only [go_sem, and_self]; done) | (refine cC (specIsValidValue_ok n.fValue hs) ?_ ?_; focus simp only [go_sem, and_self]; done) | (refine And.intro ?_ ?_; focus omega))
    cases ht : isText n.fName 1
    · rw [ht] at hr
      simp only [go_sem, ht]
      repeat' (with_reducible first | refine nY ?_ | (refine mX ?_; try simp only [go_sem, h1, h2, h3, h4, decide_true, decide_false, ht]) | refine kO ?_ (by decide) | (refine And.intro ?_ ?_; focus omega))
      exact retK_ret ⟨⟨_, rfl, by simp only [go_sem, hr, Bool.and_true, Bool.and_false, Bool.true_and, Bool.false_and, Bool.not_true, Bool.not_false]⟩, trivial⟩
    rw [ht] at hr
    simp only [go_sem, ht]
    repeat' (with_reducible first | refine nY ?_ | (refine mX ?_; try simp only [go_sem, h1, h2, h3, h4, decide_true, decide_false, ht]) | refine kO ?_ (by decide) | (refine cC (specIsValidAttrName_ok n.fName hn) ?_ ?_; focus simp only [go_sem, and_self]; done) | (refine cC (specIsValidValue_ok n.fValue hs) ?_ ?_; focus simp only [go_sem, and_self]; done) | (refine And.intro ?_ ?_; focus omega))
    cases hv : okVal n.fValue
    · rw [hv] at hr
      simp only [go_sem, hv]
      repeat' (with_reducible first | refine nY ?_ | (refine mX ?_; try simp only [go_sem, h1, h2, h3, h4, decide_true, decide_false, ht, hv]) | refine kO ?_ (by decide) | (refine And.intro ?_ ?_; focus omega))
      exact retK_ret ⟨⟨_, rfl, by simp only [go_sem, hr, Bool.and_true, Bool.and_false, Bool.true_and, Bool.false_and, Bool.not_true, Bool.not_false]⟩, trivial⟩
    rw [hv] at hr
    simp only [go_sem, hv]
    repeat' (with_reducible first | refine nY ?_ | (refine mX ?_; try simp only [go_sem, h1, h2, h3, h4, decide_true, decide_false, ht, hv]) | refine kO ?_ (by decide) | (refine cC (specIsValidAttrName_ok n.fName hn) ?_ ?_; focus simp only [go_sem, and_self]; done) | (refine cC (specIsValidValue_ok n.fValue hs) ?_ ?_; focus simp only [go_sem, and_self]; done) | (refine And.intro ?_ ?_; focus omega))
    by_cases hk : n.fValue.fKind = 1
    rotate_left
    · simp only [hk, decide_false] at hr
      simp only [go_sem, hk, decide_false]
      repeat' (with_reducible first | refine nY ?_ | (refine mX ?_; try simp only [go_sem, h1, h2, h3, h4, decide_true, decide_false, ht, hv, hk]) | refine kO ?_ (by decide) | (refine And.intro ?_ ?_; focus omega))
      exact retK_ret ⟨⟨_, rfl, by simp only [go_sem, hr, Bool.and_true, Bool.and_false, Bool.true_and, Bool.false_and, Bool.not_true, Bool.not_false]⟩, trivial⟩
    simp only [hk, decide_true] at hr
    simp only [go_sem, hk, decide_true]
    repeat' (with_reducible first | refine nY ?_ | (refine mX ?_; try simp only [go_sem, h1, h2, h3, h4, decide_true, decide_false, ht, hv, hk]) | refine kO ?_ (by decide) | (refine cC (specIsValidAttrName_ok n.fName hn) ?_ ?_; focus simp only [go_sem, and_self]; done) | (refine cC (specIsValidValue_ok n.fValue hs) ?_ ?_; focus simp only [go_sem, and_self]; done) | (refine And.intro ?_ ?_; focus omega))
    by_cases hL : n.fLeft = 0
    rotate_left
    · simp only [hL, decide_false] at hr
      simp only [go_sem, hL, decide_false]
      repeat' (with_reducible first | refine nY ?_ | (refine mX ?_; try simp only [go_sem, h1, h2, h3, h4, decide_true, decide_false, ht, hv, hk, hL]) | refine kO ?_ (by decide) | (refine And.intro ?_ ?_; focus omega))
      exact retK_ret ⟨⟨_, rfl, by simp only [go_sem, hr, Bool.and_true, Bool.and_false, Bool.true_and, Bool.false_and, Bool.not_true, Bool.not_false]⟩, trivial⟩
    simp only [hL, decide_true] at hr
    simp only [go_sem, hL, decide_true]
    repeat' (with_reducible first | refine nY ?_ | (refine mX ?_; try simp only [go_sem, h1, h2, h3, h4, decide_true, decide_false, ht, hv, hk, hL]) | refine kO ?_ (by decide) | (refine cC (specIsValidAttrName_ok n.fName hn) ?_ ?_; focus simp only [go_sem, and_self]; done) | (refine cC (specIsValidValue_ok n.fValue hs) ?_ ?_; focus simp only [go_sem, and_self]; done) | (refine And.intro ?_ ?_; focus omega))
    exact retK_ret ⟨⟨_, rfl, by simp only [go_sem, hr, Bool.and_true, Bool.and_false, Bool.true_and, Bool.false_and, Bool.not_true, Bool.not_false]⟩, trivial⟩
  by_cases h5 : n.fOp = 5
  · have hr : okNode n i = (kidL n i && (decide (n.fRight = 0) && (decide (n.fName = ⟨#[]⟩) && (decide (n.fValue.fKind = 0) && (decide (n.fValue.fInt = 0) && decide (n.fValue.fStr = ⟨#[]⟩)))))) := by simp [okNode, h5, noText, eV]
    repeat' (with_reducible first | refine nY ?_ | (refine mX ?_; try simp only [go_sem, h1, h2, h3, h4, h5, decide_true, decide_false]) | refine kO ?_ (by decide) | (refine And.intro ?_ ?_; focus omega))
    cases hk : kidL n i
    · rw [hk] at hr
      simp only [go_sem, hk]
      repeat' (with_reducible first | refine nY ?_ | (refine mX ?_; try simp only [go_sem, h1, h2, h3, h4, h5, decide_true, decide_false, hk]) | refine kO ?_ (by decide) | (refine And.intro ?_ ?_; focus omega))
      exact retK_ret ⟨⟨_, rfl, by simp only [go_sem, hr, Bool.and_true, Bool.and_false, Bool.true_and, Bool.false_and, Bool.not_true, Bool.not_false]⟩, trivial⟩
    rw [hk] at hr
    simp only [go_sem, hk]
    repeat' (with_reducible first | refine nY ?_ | (refine mX ?_; try simp only [go_sem, h1, h2, h3, h4, h5, decide_true, decide_false, hk]) | refine kO ?_ (by decide) | (refine And.intro ?_ ?_; focus omega))
    by_cases hR : n.fRight = 0
    rotate_left
    · simp only [hR, decide_false] at hr
      simp only [go_sem, hR, decide_false]
      repeat' (with_reducible first | refine nY ?_ | (refine mX ?_; try simp only [go_sem, h1, h2, h3, h4, h5, decide_true, decide_false, hk, hR]) | refine kO ?_ (by decide) | (refine And.intro ?_ ?_; focus omega))
      exact retK_ret ⟨⟨_, rfl, by simp only [go_sem, hr, Bool.and_true, Bool.and_false, Bool.true_and, Bool.false_and, Bool.not_true, Bool.not_false]⟩, trivial⟩
    simp only [hR, decide_true] at hr
    simp only [go_sem, hR, decide_true]
    repeat' (with_reducible first | refine nY ?_ | (refine mX ?_; try simp only [go_sem, h1, h2, h3, h4, h5, decide_true, decide_false, hk, hR]) | refine kO ?_ (by decide) | (refine And.intro ?_ ?_; focus omega))
    by_cases hN : n.fName = ⟨#[]⟩
    rotate_left
    · simp only [hN, decide_false] at hr
      simp only [go_sem, hN, decide_false]
      repeat' (with_reducible first | refine nY ?_ | (refine mX ?_; try simp only [go_sem, h1, h2, h3, h4, h5, decide_true, decide_false, hk, hR, hN]) | refine kO ?_ (by decide) | (refine And.intro ?_ ?_; focus omega))
      exact retK_ret ⟨⟨_, rfl, by simp only [go_sem, hr, Bool.and_true, Bool.and_false, Bool.true_and, Bool.false_and, Bool.not_true, Bool.not_false]⟩, trivial⟩
    simp only [hN, decide_true] at hr
    simp only [go_sem, hN, decide_true]
    repeat' (with_reducible first | refine nY ?_ | (refine mX ?_; try simp only [go_sem, h1, h2, h3, h4, h5, decide_true, decide_false, hk, hR, hN]) | refine kO ?_ (by decide) | (refine And.intro ?_ ?_; focus omega))
    exact retK_ret ⟨⟨_, rfl, by simp only [go_sem, hr, Bool.and_true, Bool.and_false, Bool.true_and, Bool.false_and, Bool.not_true, Bool.not_false]⟩, trivial⟩
  by_cases h6 : n.fOp = 6
  · have hr : okNode n i = ((kidL n i && kidR n i) && (decide (n.fName = ⟨#[]⟩) && (decide (n.fValue.fKind = 0) && (decide (n.fValue.fInt = 0) && decide (n.fValue.fStr = ⟨#[]⟩))))) := by simp [okNode, h6, noText, eV, Bool.and_assoc]
    repeat' (with_reducible first | refine nY ?_ | (refine mX ?_; try simp only [go_sem, h1, h2, h3, h4, h5, h6, decide_true, decide_false]) | refine kO ?_ (by decide) | (refine And.intro ?_ ?_; focus omega))
    cases hk : (kidL n i && kidR n i)
    · rw [hk] at hr
      simp only [go_sem, hk]
      repeat' (with_reducible first | refine nY ?_ | (refine mX ?_; try simp only [go_sem, h1, h2, h3, h4, h5, h6, decide_true, decide_false, hk]) | refine kO ?_ (by decide) | (refine And.intro ?_ ?_; focus omega))
      exact retK_ret ⟨⟨_, rfl, by simp only [go_sem, hr, Bool.and_true, Bool.and_false, Bool.true_and, Bool.false_and, Bool.not_true, Bool.not_false]⟩, trivial⟩
    rw [hk] at hr
    simp only [go_sem, hk]
    repeat' (with_reducible first | refine nY ?_ | (refine mX ?_; try simp only [go_sem, h1, h2, h3, h4, h5, h6, decide_true, decide_false, hk]) | refine kO ?_ (by decide) | (refine And.intro ?_ ?_; focus omega))
    by_cases hN : n.fName = ⟨#[]⟩
    rotate_left
    · simp only [hN, decide_false] at hr
      simp only [go_sem, hN, decide_false]
      repeat' (with_reducible first | refine nY ?_ | (refine mX ?_; try simp only [go_sem, h1, h2, h3, h4, h5, h6, decide_true, decide_false, hk, hN]) | refine kO ?_ (by decide) | (refine And.intro ?_ ?_; focus omega))
      exact retK_ret ⟨⟨_, rfl, by simp only [go_sem, hr, Bool.and_true, Bool.and_false, Bool.true_and, Bool.false_and, Bool.not_true, Bool.not_false]⟩, trivial⟩
    simp only [hN, decide_true] at hr
    simp only [go_sem, hN, decide_true]
    repeat' (with_reducible first | refine nY ?_ | (refine mX ?_; try simp only [go_sem, h1, h2, h3, h4, h5, h6, decide_true, decide_false, hk, hN]) | refine kO ?_ (by decide) | (refine And.intro ?_ ?_; focus omega))
    exact retK_ret ⟨⟨_, rfl, by simp only [go_sem, hr, Bool.and_true, Bool.and_false, Bool.true_and, Bool.false_and, Bool.not_true, Bool.not_false]⟩, trivial⟩
  by_cases h7 : n.fOp = 7
  · have hr : okNode n i = ((kidL n i && kidR n i) && (decide (n.fName = ⟨#[]⟩) && (decide (n.fValue.fKind = 0) && (decide (n.fValue.fInt = 0) && decide (n.fValue.fStr = ⟨#[]⟩))))) := by simp [okNode, h7, noText, eV, Bool.and_assoc]
    repeat' (with_reducible first | refine nY ?_ | (refine mX ?_; try simp only [go_sem, h1, h2, h3, h4, h5, h6, h7, decide_true, decide_false]) | refine kO ?_ (by decide) | (refine And.intro ?_ ?_; focus omega))
    cases hk : (kidL n i && kidR n i)
    · rw [hk] at hr
      simp only [go_sem, hk]
      repeat' (with_reducible first | refine nY ?_ | (refine mX ?_; try simp only [go_sem, h1, h2, h3, h4, h5, h6, h7, decide_true, decide_false, hk]) | refine kO ?_ (by decide) | (refine And.intro ?_ ?_; focus omega))
      exact retK_ret ⟨⟨_, rfl, by simp only [go_sem, hr, Bool.and_true, Bool.and_false, Bool.true_and, Bool.false_and, Bool.not_true, Bool.not_false]⟩, trivial⟩
    rw [hk] at hr
    simp only [go_sem, hk]
    repeat' (with_reducible first | refine nY ?_ | (refine mX ?_; try simp only [go_sem, h1, h2, h3, h4, h5, h6, h7, decide_true, decide_false, hk]) | refine kO ?_ (by decide) | (refine And.intro ?_ ?_; focus omega))
    by_cases hN : n.fName = ⟨#[]⟩
    rotate_left
    · simp only [hN, decide_false] at hr
      simp only [go_sem, hN, decide_false]
      repeat' (with_reducible first | refine nY ?_ | (refine mX ?_; try simp only [go_sem, h1, h2, h3, h4, h5, h6, h7, decide_true, decide_false, hk, hN]) | refine kO ?_ (by decide) | (refine And.intro ?_ ?_; focus omega))
      exact retK_ret ⟨⟨_, rfl, by simp only [go_sem, hr, Bool.and_true, Bool.and_false, Bool.true_and, Bool.false_and, Bool.not_true, Bool.not_false]⟩, trivial⟩
    simp only [hN, decide_true] at hr
    simp only [go_sem, hN, decide_true]
    repeat' (with_reducible first | refine nY ?_ | (refine mX ?_; try simp only [go_sem, h1, h2, h3, h4, h5, h6, h7, decide_true, decide_false, hk, hN]) | refine kO ?_ (by decide) | (refine And.intro ?_ ?_; focus omega))
    exact retK_ret ⟨⟨_, rfl, by simp only [go_sem, hr, Bool.and_true, Bool.and_false, Bool.true_and, Bool.false_and, Bool.not_true, Bool.not_false]⟩, trivial⟩
  by_cases h8 : n.fOp = 8
  · have hr : okNode n i = (isText n.fName 6 && (decide (n.fLeft = 0) && (decide (n.fRight = 0) && (decide (n.fValue.fKind = 0) && (decide (n.fValue.fInt = 0) && decide (n.fValue.fStr = ⟨#[]⟩)))))) := by simp [okNode, h8, noKids, eV, Bool.and_assoc]
    repeat' (with_reducible first | refine nY ?_ | (refine mX ?_; try simp only [go_sem, h1, h2, h3, h4, h5, h6, h7, h8, decide_true, decide_false]) | refine kO ?_ (by decide) | (refine cC (specIsValidString_ok n.fName hn) ?_ ?_; focus simp only [go_sem, and_self]; done) | (refine And.intro ?_ ?_; focus omega))
    cases ht : isText n.fName 6
    · rw [ht] at hr
      simp only [go_sem, ht]
      repeat' (with_reducible first | refine nY ?_ | (refine mX ?_; try simp only [go_sem, h1, h2, h3, h4, h5, h6, h7, h8, decide_true, decide_false, ht]) | refine kO ?_ (by decide) | (refine And.intro ?_ ?_; focus omega))
      exact retK_ret ⟨⟨_, rfl, by simp only [go_sem, hr, Bool.and_true, Bool.and_false, Bool.true_and, Bool.false_and, Bool.not_true, Bool.not_false]⟩, trivial⟩
    rw [ht] at hr
    simp only [go_sem, ht]
    repeat' (with_reducible first | refine nY ?_ | (refine mX ?_; try simp only [go_sem, h1, h2, h3, h4, h5, h6, h7, h8, decide_true, decide_false, ht]) | refine kO ?_ (by decide) | (refine cC (specIsValidString_ok n.fName hn) ?_ ?_; focus simp only [go_sem, and_self]; done) | (refine And.intro ?_ ?_; focus omega))
    exact retK_ret ⟨⟨_, rfl, by simp only [go_sem, hr, Bool.and_true, Bool.and_false, Bool.true_and, Bool.false_and, Bool.not_true, Bool.not_false]⟩, trivial⟩
  by_cases h9 : n.fOp = 9
  · have hr : okNode n i = (isText n.fName 6 && (decide (n.fLeft = 0) && (decide (n.fRight = 0) && (decide (n.fValue.fKind = 0) && (decide (n.fValue.fInt = 0) && decide (n.fValue.fStr = ⟨#[]⟩)))))) := by simp [okNode, h9, noKids, eV, Bool.and_assoc]
    repeat' (with_reducible first | refine nY ?_ | (refine mX ?_; try simp only [go_sem, h1, h2, h3, h4, h5, h6, h7, h8, h9, decide_true, decide_false]) | refine kO ?_ (by decide) | (refine cC (specIsValidString_ok n.fName hn) ?_ ?_; focus simp only [go_sem, and_self]; done) | (refine And.intro ?_ ?_; focus omega))
    cases ht : isText n.fName 6
    · rw [ht] at hr
      simp only [go_sem, ht]
      repeat' (with_reducible first | refine nY ?_ | (refine mX ?_; try simp only [go_sem, h1, h2, h3, h4, h5, h6, h7, h8, h9, decide_true, decide_false, ht]) | refine kO ?_ (by decide) | (refine And.intro ?_ ?_; focus omega))
      exact retK_ret ⟨⟨_, rfl, by simp only [go_sem, hr, Bool.and_true, Bool.and_false, Bool.true_and, Bool.false_and, Bool.not_true, Bool.not_false]⟩, trivial⟩
    rw [ht] at hr
    simp only [go_sem, ht]
    repeat' (with_reducible first | refine nY ?_ | (refine mX ?_; try simp only [go_sem, h1, h2, h3, h4, h5, h6, h7, h8, h9, decide_true, decide_false, ht]) | refine kO ?_ (by decide) | (refine cC (specIsValidString_ok n.fName hn) ?_ ?_; focus simp only [go_sem, and_self]; done) | (refine And.intro ?_ ?_; focus omega))
    exact retK_ret ⟨⟨_, rfl, by simp only [go_sem, hr, Bool.and_true, Bool.and_false, Bool.true_and, Bool.false_and, Bool.not_true, Bool.not_false]⟩, trivial⟩
  have hr : okNode n i = false := by simp [okNode, h1, h2, h3, h4, h5, h6, h7, h8, h9]
  repeat' (with_reducible first | refine nY ?_ | (refine mX ?_; try simp only [go_sem, h1, h2, h3, h4, h5, h6, h7, h8, h9, decide_true, decide_false]) | refine kO ?_ (by decide) | (refine And.intro ?_ ?_; focus omega))
  exact retK_ret ⟨⟨_, rfl, by simp only [go_sem, hr]⟩, trivial⟩
theorem okAt_eq (q : List TNode) (i : Nat) (h : i < q.length) : okAt q i = (okNode q[i] i && (decide (q.length ≤ i + 1) || decide (refs q i = 1))) := by
  unfold okAt; rw [List.getElem?_eq_getElem h]

theorem implIsValidQuery_ok (q : List TNode) (hl : wNodeS q ≤ 4300000) : FnC Tryz.prog 271 [.o (.d (.sl (q.map encNode)))] (ob (okQ q)) := by
  unfold wNodeS at hl
  refine ent Tryz.func271 rfl Tryz.call271 rfl (fun C => ?_); simp only [go_sem, st0, Tryz.ntmps271]
  repeat' (with_reducible first | refine nY ?_ | (refine mX ?_; try simp only [go_sem]) | refine kO ?_ (by decide) | (refine And.intro ?_ ?_; focus omega))
  refine WP_lp (α := Nat) (fun k => [(7, oi k)]) (fun _ => []) (fun k => k ≤ q.length ∧ (List.range q.length).all (okAt q) = ((List.range q.length).drop k).all (okAt q)) (fun k => q.length - k) 0 (fun _ => ?_) ?_ ?_ (fun k hk => ?_)
  · simp only [go_sem]
  · simp only [go_sem]; simp
  · simp
  · obtain ⟨hk, hq⟩ := hk
    simp only [go_sem]
    repeat' (with_reducible first | refine nY ?_ | (refine mX ?_; try simp only [go_sem]) | refine kO ?_ (by decide) | (refine And.intro ?_ ?_; focus omega))
    refine cnd rfl (fun h => ?_) (fun h => ?_)
    · simp only [decide_eq_true_eq, Int.ofNat_lt] at h
      have h' : k < (List.range q.length).length := by simpa using h
      have hd := List.drop_eq_getElem_cons h'
      rw [hd, List.all_cons, List.getElem_range, okAt_eq q k h] at hq
      have hw := wsum_get wNode q h
      have hw1 : q[k].fName.size + q[k].fValue.fStr.size ≤ wNode q[k] := by unfold wNode wValue; omega
      cases hn : okNode q[k] k
      · rw [hn] at hq
        have hf : okQ q = false := by unfold okQ; rw [hq]; simp
        repeat' (with_reducible first | refine nY ?_ | (refine mX ?_; try simp only [go_sem, h, hn]) | refine kO ?_ (by decide) | (refine cC (implIsValidNode_ok q[k] k (by omega) (by omega) (by omega)) ?_ ?_; focus simp only [go_sem, and_self]; done) | (refine And.intro ?_ ?_; focus omega))
        exact retK_ret ⟨⟨_, rfl, by simp only [go_sem, hf]⟩, trivial⟩
      by_cases he : (k : Int) < (q.length : Int) - 1
      · have he2 : ¬ q.length ≤ k + 1 := by omega
        by_cases hc : (refs q k : Int) = 1
        · have hc2 : refs q k = 1 := by omega
          repeat' (with_reducible first | refine nY ?_ | (refine mX ?_; try simp only [go_sem, h, hn, he, hc, decide_true, decide_false]) | refine kO ?_ (by decide) | (refine cC (implIsValidNode_ok q[k] k (by omega) (by omega) (by omega)) ?_ ?_; focus simp only [go_sem, and_self]; done) | (refine cC (implCount_ok q k (by omega)) ?_ ?_; focus simp only [go_sem, and_self]; done) | (refine And.intro ?_ ?_; focus omega))
          refine L_next (k + 1) ?_ ?_ ?_
          · simp only [go_sem]; simp
          · refine ⟨h, ?_⟩
            rw [hq, hn]; simp [hc2]
          · omega
        · have hc2 : ¬ refs q k = 1 := by omega
          have hf : okQ q = false := by unfold okQ; rw [hq, hn]; simp [hc2, he2]
          repeat' (with_reducible first | refine nY ?_ | (refine mX ?_; try simp only [go_sem, h, hn, he, hc, decide_true, decide_false]) | refine kO ?_ (by decide) | (refine cC (implIsValidNode_ok q[k] k (by omega) (by omega) (by omega)) ?_ ?_; focus simp only [go_sem, and_self]; done) | (refine cC (implCount_ok q k (by omega)) ?_ ?_; focus simp only [go_sem, and_self]; done) | (refine And.intro ?_ ?_; focus omega))
          exact retK_ret ⟨⟨_, rfl, by simp only [go_sem, hf]⟩, trivial⟩
      · have he2 : q.length ≤ k + 1 := by omega
        repeat' (with_reducible first | refine nY ?_ | (refine mX ?_; try simp only [go_sem, h, hn, he, decide_true, decide_false]) | refine kO ?_ (by decide) | (refine cC (implIsValidNode_ok q[k] k (by omega) (by omega) (by omega)) ?_ ?_; focus simp only [go_sem, and_self]; done) | (refine cC (implCount_ok q k (by omega)) ?_ ?_; focus simp only [go_sem, and_self]; done) | (refine And.intro ?_ ?_; focus omega))
        refine L_next (k + 1) ?_ ?_ ?_
        · simp only [go_sem]; simp
        · refine ⟨h, ?_⟩
          rw [hq, hn]; simp [he2]
        · omega
    · simp only [decide_eq_false_iff_not] at h
      have e : k = q.length := by omega
      have hq' : (List.range q.length).all (okAt q) = true := by
        rw [hq, List.drop_of_length_le (by simp [e])]; rfl
      repeat' (with_reducible first | refine nY ?_ | (refine mX ?_; try simp only [go_sem]) | refine kO ?_ (by decide) | (refine cC (within_ok q.length 1 9) ?_ ?_; focus simp only [go_sem, and_self]; done) | (refine And.intro ?_ ?_; focus omega))
      exact retK_ret ⟨⟨_, rfl, by simp only [go_sem, okQ, hq', Bool.true_and]⟩, trivial⟩
theorem specIsValidQuery_ok (q : List TNode) (hl : wNodeS q ≤ 4300000) : FnC Tryz.prog 233 [.o (.d (.sl (q.map encNode)))] (ob (okQ q)) := by
  unfold wNodeS at hl
  refine ent Tryz.func233 rfl Tryz.call233 rfl (fun C => ?_); simp only [go_sem, st0, Tryz.ntmps233]
  repeat' (with_reducible first | refine nY ?_ | (refine mX ?_; try simp only [go_sem]) | refine kO ?_ (by decide) | (refine And.intro ?_ ?_; focus omega))
  refine WP_lp (α := Nat) (fun k => [(3, oi k)]) (fun _ => []) (fun k => k ≤ q.length ∧ (List.range q.length).all (okAt q) = ((List.range q.length).drop k).all (okAt q)) (fun k => q.length - k) 0 (fun _ => ?_) ?_ ?_ (fun k hk => ?_)
  · simp only [go_sem]
  · simp only [go_sem]; simp
  · simp
  · obtain ⟨hk, hq⟩ := hk
    simp only [go_sem]
    repeat' (with_reducible first | refine nY ?_ | (refine mX ?_; try simp only [go_sem]) | refine kO ?_ (by decide) | (refine And.intro ?_ ?_; focus omega))
    refine cnd rfl (fun h => ?_) (fun h => ?_)
    · simp only [decide_eq_true_eq, Int.ofNat_lt] at h
      have h' : k < (List.range q.length).length := by simpa using h
      have hd := List.drop_eq_getElem_cons h'
      rw [hd, List.all_cons, List.getElem_range, okAt_eq q k h] at hq
      have hw := wsum_get wNode q h
      have hw1 : q[k].fName.size + q[k].fValue.fStr.size ≤ wNode q[k] := by unfold wNode wValue; omega
      cases hn : okNode q[k] k
      · rw [hn] at hq
        have hf : okQ q = false := by unfold okQ; rw [hq]; simp
        repeat' (with_reducible first | refine nY ?_ | (refine mX ?_; try simp only [go_sem, h, hn]) | refine kO ?_ (by decide) | (refine cC (specIsValidNode_ok q[k] k (by omega) (by omega) (by omega)) ?_ ?_; focus simp only [go_sem, and_self]; done) | (refine And.intro ?_ ?_; focus omega))
        exact retK_ret ⟨⟨_, rfl, by simp only [go_sem, hf]⟩, trivial⟩
      by_cases he : (k : Int) < (q.length : Int) - 1
      · have he2 : ¬ q.length ≤ k + 1 := by omega
        by_cases hc : (refs q k : Int) = 1
        · have hc2 : refs q k = 1 := by omega
          repeat' (with_reducible first | refine nY ?_ | (refine mX ?_; try simp only [go_sem, h, hn, he, hc, decide_true, decide_false]) | refine kO ?_ (by decide) | (refine cC (specIsValidNode_ok q[k] k (by omega) (by omega) (by omega)) ?_ ?_; focus simp only [go_sem, and_self]; done) | (refine cC (specCount_ok q k (by omega)) ?_ ?_; focus simp only [go_sem, and_self]; done) | (refine And.intro ?_ ?_; focus omega))
          refine L_next (k + 1) ?_ ?_ ?_
          · simp only [go_sem]; simp
          · refine ⟨h, ?_⟩
            rw [hq, hn]; simp [hc2]
          · omega
        · have hc2 : ¬ refs q k = 1 := by omega
          have hf : okQ q = false := by unfold okQ; rw [hq, hn]; simp [hc2, he2]
          repeat' (with_reducible first | refine nY ?_ | (refine mX ?_; try simp only [go_sem, h, hn, he, hc, decide_true, decide_false]) | refine kO ?_ (by decide) | (refine cC (specIsValidNode_ok q[k] k (by omega) (by omega) (by omega)) ?_ ?_; focus simp only [go_sem, and_self]; done) | (refine cC (specCount_ok q k (by omega)) ?_ ?_; focus simp only [go_sem, and_self]; done) | (refine And.intro ?_ ?_; focus omega))
          exact retK_ret ⟨⟨_, rfl, by simp only [go_sem, hf]⟩, trivial⟩
      · have he2 : q.length ≤ k + 1 := by omega
        repeat' (with_reducible first | refine nY ?_ | (refine mX ?_; try simp only [go_sem, h, hn, he, decide_true, decide_false]) | refine kO ?_ (by decide) | (refine cC (specIsValidNode_ok q[k] k (by omega) (by omega) (by omega)) ?_ ?_; focus simp only [go_sem, and_self]; done) | (refine cC (specCount_ok q k (by omega)) ?_ ?_; focus simp only [go_sem, and_self]; done) | (refine And.intro ?_ ?_; focus omega))
        refine L_next (k + 1) ?_ ?_ ?_
        · simp only [go_sem]; simp
        · refine ⟨h, ?_⟩
          rw [hq, hn]; simp [he2]
        · omega
    · simp only [decide_eq_false_iff_not] at h
      have e : k = q.length := by omega
      have hq' : (List.range q.length).all (okAt q) = true := by
        rw [hq, List.drop_of_length_le (by simp [e])]; rfl
      repeat' (with_reducible first | refine nY ?_ | (refine mX ?_; try simp only [go_sem]) | refine kO ?_ (by decide) | (refine cC (l01In_ok q.length 1 9) ?_ ?_; focus simp only [go_sem, and_self]; done) | (refine And.intro ?_ ?_; focus omega))
      exact retK_ret ⟨⟨_, rfl, by simp only [go_sem, okQ, hq', Bool.true_and]⟩, trivial⟩
end Go.Proofs.YtgglopecipbbfaaGreat
