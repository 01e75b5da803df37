/- Joined texts. -/
import Derived.Test.YtolgdibgnndoaaaZ09
import Derived.Test.YtolgdibgnndoaaaZ04
import Derived.Test.YtolgdibgnndoaaaZ08
import Derived.Test.YtolgdibgnndoaaaZ10
set_option linter.all false
section
set_option maxRecDepth 100000
set_option maxHeartbeats 4000000
namespace Go.Proofs.Ytolgdibgnndoaaa
open Go Go.Sx Go.RowKit Go.Proofs
theorem fG (n : TNode) (i : Nat) (hi : i ≤ 4300000) (hs : n.fValue.fStr.size ≤ 4300000) (hn : n.fName.size ≤ 4300000) : FnC Try.prog 71 [a5d n, oi i] (ob (aT n i)) := by
 refine ent Try.func71 rfl Try.call71 rfl (fun C => ?_); simp only [go_sem, st0, Try.ntmps71]
 repeat' (with_reducible first | refine nX ?_ | (refine mX ?_; try simp only [go_sem]) | refine kD ?_ | refine aO ?_ | fail)
 refine reg ?_
 repeat' (with_reducible first | refine nX ?_ | (refine mX ?_; try simp only [go_sem]) | refine kD ?_ | refine aO ?_ | fail)
 refine a4O [(5, ob (nL n i))] [] ?_ ?_
 ·cases hl : inB n.fLeft 0 ((i : Int) - 1) <;> by_cases hp : 0 < (i : Int)
  all_goals
   refine reg ?_
   have qH := aI @hl (aI @hp (aI @decide_true @decide_false)); repeat' (with_reducible first | refine nX ?_ | (refine mX ?_; try simp only [go_sem, qH]) | refine kD ?_ | refine cP (lV n.fLeft 0 ((i : Int) - 1)) ?_ | refine aO ?_ | fail)
   exact a1m (by simp only [go_sem, nL, hl, hp, decide_true, decide_false, Bool.and_true, Bool.and_false]; simp) (by simp only [go_sem])
 simp only [go_sem]
 repeat' (with_reducible first | refine nX ?_ | (refine mX ?_; try simp only [go_sem]) | refine kD ?_ | refine aO ?_ | fail)
 refine a4O [(6, ob (nL n i && xN n i))] [] ?_ ?_
 ·cases hl : nL n i <;> cases hq : xN n i
  all_goals
   refine reg ?_
   have qH := aI @hl @hq; repeat' (with_reducible first | refine nX ?_ | (refine mX ?_; try simp only [go_sem, qH]) | refine kD ?_ | refine cP ((lV n.fRight 0 ((i : Int) - 1) : FnC Try.prog _ _ (ob (xN n i)))) ?_ | refine aO ?_ | fail)
   exact a1m (by simp only [go_sem, hl, hq, Bool.and_true, Bool.and_false]; simp) (by simp only [go_sem])
 simp only [go_sem]
 by_cases h1 : n.fOp = 1
 ·have hr : aT n i = (decide (n.fLeft = 0) && (decide (n.fRight = 0) && (decide (n.fName = ⟨#[]⟩) && (decide (n.fValue.fKind = 0) && (decide (n.fValue.fInt = 0) && decide (n.fValue.fStr = ⟨#[]⟩)))))) := by simp [aT, h1, gB, jD, eV, Bool.and_assoc]
  have q0 := @h1; have q1 := @decide_true; have q2 := @decide_false; refine pO ?_
  exact aA ⟨⟨_, rfl, by simp only [go_sem, hr, bT]⟩, trivial⟩
 by_cases h2 : n.fOp = 2
 ·have hr : aT n i = (bL n.fName 1 && (decide (n.fLeft = 0) && (decide (n.fRight = 0) && (decide (n.fValue.fKind = 0) && (decide (n.fValue.fInt = 0) && decide (n.fValue.fStr = ⟨#[]⟩)))))) := by simp [aT, h2, gB, jD, eV, Bool.and_assoc]
  have q0 := @h1; have q1 := @h2; have q2 := @decide_true; have q3 := @decide_false; refine a9X (aN n.fName hn) ?_
  cases ht : bL n.fName 1
  ·rw [ht] at hr
   simp only [go_sem, ht]
   have q0 := @h1; have q1 := @h2; have q2 := @decide_true; have q3 := @decide_false; have q4 := @ht; refine a7B ?_
   exact aA ⟨⟨_, rfl, by simp only [go_sem, hr, bT]⟩, trivial⟩
  rw [ht] at hr
  simp only [go_sem, ht]
  have q0 := @h1; have q1 := @h2; have q2 := @decide_true; have q3 := @decide_false; have q4 := @ht; refine a2s (aN n.fName hn) ?_
  exact aA ⟨⟨_, rfl, by simp only [go_sem, hr, bT]⟩, trivial⟩
 by_cases h3 : n.fOp = 3
 ·have hr : aT n i = (bL n.fName 1 && (eO n.fValue && (!decide (n.fValue.fKind = 0) && (decide (n.fLeft = 0) && decide (n.fRight = 0))))) := by simp [aT, h3, gB]
  have q0 := @h1; have q1 := @h2; have q2 := @h3; have q3 := @decide_true; have q4 := @decide_false; refine a7C (aN n.fName hn) (bC n.fValue hs) ?_
  cases ht : bL n.fName 1
  ·rw [ht] at hr
   simp only [go_sem, ht]
   have q0 := @h1; have q1 := @h2; have q2 := @h3; have q3 := @decide_true; have q4 := @decide_false; have q5 := @ht; refine a8D ?_
   exact aA ⟨⟨_, rfl, by simp only [go_sem, hr, bT]⟩, trivial⟩
  rw [ht] at hr
  simp only [go_sem, ht]
  have q0 := @h1; have q1 := @h2; have q2 := @h3; have q3 := @decide_true; have q4 := @decide_false; have q5 := @ht; refine a3R (aN n.fName hn) (bC n.fValue hs) ?_
  cases hv : eO n.fValue
  ·rw [hv] at hr
   simp only [go_sem, hv]
   have q0 := @h1; have q1 := @h2; have q2 := @h3; have q3 := @decide_true; have q4 := @decide_false; have q5 := @ht; have q6 := @hv; refine a4R ?_
   exact aA ⟨⟨_, rfl, by simp only [go_sem, hr, bT]⟩, trivial⟩
  rw [hv] at hr
  simp only [go_sem, hv]
  have q0 := @h1; have q1 := @h2; have q2 := @h3; have q3 := @decide_true; have q4 := @decide_false; have q5 := @ht; have q6 := @hv; refine a6r (aN n.fName hn) (bC n.fValue hs) ?_
  by_cases hk : n.fValue.fKind = 0
  ·simp only [hk, decide_true] at hr
   simp only [go_sem, hk, decide_true]
   have q0 := @h1; have q1 := @h2; have q2 := @h3; have q3 := @decide_true; have q4 := @decide_false; have q5 := @ht; have q6 := @hv; have q7 := @hk; refine a2t ?_
   exact aA ⟨⟨_, rfl, by simp only [go_sem, hr, bT]⟩, trivial⟩
  simp only [hk, decide_false] at hr
  simp only [go_sem, hk, decide_false]
  have q0 := @h1; have q1 := @h2; have q2 := @h3; have q3 := @decide_true; have q4 := @decide_false; have q5 := @ht; have q6 := @hv; have q7 := @hk; refine a8E (aN n.fName hn) (bC n.fValue hs) ?_
  by_cases hL : n.fLeft = 0
  rotate_left
  ·simp only [hL, decide_false] at hr
   simp only [go_sem, hL, decide_false]
   have q0 := @h1; have q1 := @h2; have q2 := @h3; have q3 := @decide_true; have q4 := @decide_false; have q5 := @ht; have q6 := @hv; have q7 := @hk; have q8 := @hL; refine a2v ?_
   exact aA ⟨⟨_, rfl, by simp only [go_sem, hr, bT]⟩, trivial⟩
  simp only [hL, decide_true] at hr
  simp only [go_sem, hL, decide_true]
  have q0 := @h1; have q1 := @h2; have q2 := @h3; have q3 := @decide_true; have q4 := @decide_false; have q5 := @ht; have q6 := @hv; have q7 := @hk; have q8 := @hL; refine a2w (aN n.fName hn) (bC n.fValue hs) ?_
  exact aA ⟨⟨_, rfl, by simp only [go_sem, hr, bT]⟩, trivial⟩
 by_cases h4 : n.fOp = 4
 ·have hr : aT n i = (bL n.fName 1 && (eO n.fValue && (decide (n.fValue.fKind = 1) && (decide (n.fLeft = 0) && decide (n.fRight = 0))))) := by simp [aT, h4, gB]
  have q0 := @h1; have q1 := @h2; have q2 := @h3; have q3 := @h4; have q4 := @decide_true; have q5 := @decide_false; refine a3R (aN n.fName hn) (bC n.fValue hs) ?_
  cases ht : bL n.fName 1
  ·rw [ht] at hr
   simp only [go_sem, ht]
   have q0 := @h1; have q1 := @h2; have q2 := @h3; have q3 := @h4; have q4 := @decide_true; have q5 := @decide_false; have q6 := @ht; refine a4R ?_
   exact aA ⟨⟨_, rfl, by simp only [go_sem, hr, bT]⟩, trivial⟩
  rw [ht] at hr
  simp only [go_sem, ht]
  have q0 := @h1; have q1 := @h2; have q2 := @h3; have q3 := @h4; have q4 := @decide_true; have q5 := @decide_false; have q6 := @ht; refine a6r (aN n.fName hn) (bC n.fValue hs) ?_
  cases hv : eO n.fValue
  ·rw [hv] at hr
   simp only [go_sem, hv]
   have q0 := @h1; have q1 := @h2; have q2 := @h3; have q3 := @h4; have q4 := @decide_true; have q5 := @decide_false; have q6 := @ht; have q7 := @hv; refine a2t ?_
   exact aA ⟨⟨_, rfl, by simp only [go_sem, hr, bT]⟩, trivial⟩
  rw [hv] at hr
  simp only [go_sem, hv]
  have q0 := @h1; have q1 := @h2; have q2 := @h3; have q3 := @h4; have q4 := @decide_true; have q5 := @decide_false; have q6 := @ht; have q7 := @hv; refine a8E (aN n.fName hn) (bC n.fValue hs) ?_
  by_cases hk : n.fValue.fKind = 1
  rotate_left
  ·simp only [hk, decide_false] at hr
   simp only [go_sem, hk, decide_false]
   have q0 := @h1; have q1 := @h2; have q2 := @h3; have q3 := @h4; have q4 := @decide_true; have q5 := @decide_false; have q6 := @ht; have q7 := @hv; have q8 := @hk; refine a2v ?_
   exact aA ⟨⟨_, rfl, by simp only [go_sem, hr, bT]⟩, trivial⟩
  simp only [hk, decide_true] at hr
  simp only [go_sem, hk, decide_true]
  have q0 := @h1; have q1 := @h2; have q2 := @h3; have q3 := @h4; have q4 := @decide_true; have q5 := @decide_false; have q6 := @ht; have q7 := @hv; have q8 := @hk; refine a2w (aN n.fName hn) (bC n.fValue hs) ?_
  by_cases hL : n.fLeft = 0
  rotate_left
  ·simp only [hL, decide_false] at hr
   simp only [go_sem, hL, decide_false]
   have q0 := @h1; have q1 := @h2; have q2 := @h3; have q3 := @h4; have q4 := @decide_true; have q5 := @decide_false; have q6 := @ht; have q7 := @hv; have q8 := @hk; have q9 := @hL; refine uO ?_
   exact aA ⟨⟨_, rfl, by simp only [go_sem, hr, bT]⟩, trivial⟩
  simp only [hL, decide_true] at hr
  simp only [go_sem, hL, decide_true]
  have q0 := @h1; have q1 := @h2; have q2 := @h3; have q3 := @h4; have q4 := @decide_true; have q5 := @decide_false; have q6 := @ht; have q7 := @hv; have q8 := @hk; have q9 := @hL; refine zF (aN n.fName hn) (bC n.fValue hs) ?_
  exact aA ⟨⟨_, rfl, by simp only [go_sem, hr, bT]⟩, trivial⟩
 by_cases h5 : n.fOp = 5
 ·have hr : aT n i = (nL n i && (decide (n.fRight = 0) && (decide (n.fName = ⟨#[]⟩) && (decide (n.fValue.fKind = 0) && (decide (n.fValue.fInt = 0) && decide (n.fValue.fStr = ⟨#[]⟩)))))) := by simp [aT, h5, jD, eV]
  have q0 := @h1; have q1 := @h2; have q2 := @h3; have q3 := @h4; have q4 := @h5; have q5 := @decide_true; have q6 := @decide_false; refine a4R ?_
  cases hk : nL n i
  ·rw [hk] at hr
   simp only [go_sem, hk]
   have q0 := @h1; have q1 := @h2; have q2 := @h3; have q3 := @h4; have q4 := @h5; have q5 := @decide_true; have q6 := @decide_false; have q7 := @hk; refine a2t ?_
   exact aA ⟨⟨_, rfl, by simp only [go_sem, hr, bT]⟩, trivial⟩
  rw [hk] at hr
  simp only [go_sem, hk]
  have q0 := @h1; have q1 := @h2; have q2 := @h3; have q3 := @h4; have q4 := @h5; have q5 := @decide_true; have q6 := @decide_false; have q7 := @hk; refine a2t ?_
  by_cases hR : n.fRight = 0
  rotate_left
  ·simp only [hR, decide_false] at hr
   simp only [go_sem, hR, decide_false]
   have q0 := @h1; have q1 := @h2; have q2 := @h3; have q3 := @h4; have q4 := @h5; have q5 := @decide_true; have q6 := @decide_false; have q7 := @hk; have q8 := @hR; refine a2v ?_
   exact aA ⟨⟨_, rfl, by simp only [go_sem, hr, bT]⟩, trivial⟩
  simp only [hR, decide_true] at hr
  simp only [go_sem, hR, decide_true]
  have q0 := @h1; have q1 := @h2; have q2 := @h3; have q3 := @h4; have q4 := @h5; have q5 := @decide_true; have q6 := @decide_false; have q7 := @hk; have q8 := @hR; refine a2v ?_
  by_cases hN : n.fName = ⟨#[]⟩
  rotate_left
  ·simp only [hN, decide_false] at hr
   simp only [go_sem, hN, decide_false]
   have q0 := @h1; have q1 := @h2; have q2 := @h3; have q3 := @h4; have q4 := @h5; have q5 := @decide_true; have q6 := @decide_false; have q7 := @hk; have q8 := @hR; have q9 := @hN; refine uO ?_
   exact aA ⟨⟨_, rfl, by simp only [go_sem, hr, bT]⟩, trivial⟩
  simp only [hN, decide_true] at hr
  simp only [go_sem, hN, decide_true]
  have q0 := @h1; have q1 := @h2; have q2 := @h3; have q3 := @h4; have q4 := @h5; have q5 := @decide_true; have q6 := @decide_false; have q7 := @hk; have q8 := @hR; have q9 := @hN; refine uO ?_
  exact aA ⟨⟨_, rfl, by simp only [go_sem, hr, bT]⟩, trivial⟩
 by_cases h6 : n.fOp = 6
 ·have hr : aT n i = ((nL n i && xN n i) && (decide (n.fName = ⟨#[]⟩) && (decide (n.fValue.fKind = 0) && (decide (n.fValue.fInt = 0) && decide (n.fValue.fStr = ⟨#[]⟩))))) := by simp [aT, h6, jD, eV, Bool.and_assoc]
  have q0 := @h1; have q1 := @h2; have q2 := @h3; have q3 := @h4; have q4 := @h5; have q5 := @h6; have q6 := @decide_true; have q7 := @decide_false; refine a2t ?_
  cases hk : (nL n i && xN n i)
  ·rw [hk] at hr
   simp only [go_sem, hk]
   have q0 := @h1; have q1 := @h2; have q2 := @h3; have q3 := @h4; have q4 := @h5; have q5 := @h6; have q6 := @decide_true; have q7 := @decide_false; have q8 := @hk; refine a2v ?_
   exact aA ⟨⟨_, rfl, by simp only [go_sem, hr, bT]⟩, trivial⟩
  rw [hk] at hr
  simp only [go_sem, hk]
  have q0 := @h1; have q1 := @h2; have q2 := @h3; have q3 := @h4; have q4 := @h5; have q5 := @h6; have q6 := @decide_true; have q7 := @decide_false; have q8 := @hk; refine a2v ?_
  by_cases hN : n.fName = ⟨#[]⟩
  rotate_left
  ·simp only [hN, decide_false] at hr
   simp only [go_sem, hN, decide_false]
   have q0 := @h1; have q1 := @h2; have q2 := @h3; have q3 := @h4; have q4 := @h5; have q5 := @h6; have q6 := @decide_true; have q7 := @decide_false; have q8 := @hk; have q9 := @hN; refine uO ?_
   exact aA ⟨⟨_, rfl, by simp only [go_sem, hr, bT]⟩, trivial⟩
  simp only [hN, decide_true] at hr
  simp only [go_sem, hN, decide_true]
  have q0 := @h1; have q1 := @h2; have q2 := @h3; have q3 := @h4; have q4 := @h5; have q5 := @h6; have q6 := @decide_true; have q7 := @decide_false; have q8 := @hk; have q9 := @hN; refine uO ?_
  exact aA ⟨⟨_, rfl, by simp only [go_sem, hr, bT]⟩, trivial⟩
 by_cases h7 : n.fOp = 7
 ·have hr : aT n i = ((nL n i && xN n i) && (decide (n.fName = ⟨#[]⟩) && (decide (n.fValue.fKind = 0) && (decide (n.fValue.fInt = 0) && decide (n.fValue.fStr = ⟨#[]⟩))))) := by simp [aT, h7, jD, eV, Bool.and_assoc]
  have q0 := @h1; have q1 := @h2; have q2 := @h3; have q3 := @h4; have q4 := @h5; have q5 := @h6; have q6 := @h7; have q7 := @decide_true; have q8 := @decide_false; refine a2v ?_
  cases hk : (nL n i && xN n i)
  ·rw [hk] at hr
   simp only [go_sem, hk]
   have q0 := @h1; have q1 := @h2; have q2 := @h3; have q3 := @h4; have q4 := @h5; have q5 := @h6; have q6 := @h7; have q7 := @decide_true; have q8 := @decide_false; have q9 := @hk; refine uO ?_
   exact aA ⟨⟨_, rfl, by simp only [go_sem, hr, bT]⟩, trivial⟩
  rw [hk] at hr
  simp only [go_sem, hk]
  have q0 := @h1; have q1 := @h2; have q2 := @h3; have q3 := @h4; have q4 := @h5; have q5 := @h6; have q6 := @h7; have q7 := @decide_true; have q8 := @decide_false; have q9 := @hk; refine uO ?_
  by_cases hN : n.fName = ⟨#[]⟩
  rotate_left
  ·simp only [hN, decide_false] at hr
   simp only [go_sem, hN, decide_false]
   have qH := aI @h1 (aI @h2 (aI @h3 (aI @h4 (aI @h5 (aI @h6 (aI @h7 (aI @decide_true (aI @decide_false (aI @hk @hN))))))))); repeat' (with_reducible first | refine nY ?_ | (refine mX ?_; try simp only [go_sem, qH]) | refine kD ?_ | refine aO ?_ | fail)
   exact aA ⟨⟨_, rfl, by simp only [go_sem, hr, bT]⟩, trivial⟩
  simp only [hN, decide_true] at hr
  simp only [go_sem, hN, decide_true]
  have qH := aI @h1 (aI @h2 (aI @h3 (aI @h4 (aI @h5 (aI @h6 (aI @h7 (aI @decide_true (aI @decide_false (aI @hk @hN))))))))); repeat' (with_reducible first | refine nY ?_ | (refine mX ?_; try simp only [go_sem, qH]) | refine kD ?_ | refine aO ?_ | fail)
  exact aA ⟨⟨_, rfl, by simp only [go_sem, hr, bT]⟩, trivial⟩
 by_cases h8 : n.fOp = 8
 ·have hr : aT n i = (bL n.fName 6 && (decide (n.fLeft = 0) && (decide (n.fRight = 0) && (decide (n.fValue.fKind = 0) && (decide (n.fValue.fInt = 0) && decide (n.fValue.fStr = ⟨#[]⟩)))))) := by simp [aT, h8, gB, eV, Bool.and_assoc]
  have q0 := @h1; have q1 := @h2; have q2 := @h3; have q3 := @h4; have q4 := @h5; have q5 := @h6; have q6 := @h7; have q7 := @h8; have q8 := @decide_true; have q9 := @decide_false; refine a6T (dE n.fName hn) ?_
  cases ht : bL n.fName 6
  ·rw [ht] at hr
   simp only [go_sem, ht]
   have qH := aI @h1 (aI @h2 (aI @h3 (aI @h4 (aI @h5 (aI @h6 (aI @h7 (aI @h8 (aI @decide_true (aI @decide_false @ht))))))))); repeat' (with_reducible first | refine nY ?_ | (refine mX ?_; try simp only [go_sem, qH]) | refine kD ?_ | refine aO ?_ | fail)
   exact aA ⟨⟨_, rfl, by simp only [go_sem, hr, bT]⟩, trivial⟩
  rw [ht] at hr
  simp only [go_sem, ht]
  have qH := aI @h1 (aI @h2 (aI @h3 (aI @h4 (aI @h5 (aI @h6 (aI @h7 (aI @h8 (aI @decide_true (aI @decide_false @ht))))))))); repeat' (with_reducible first | refine nY ?_ | (refine mX ?_; try simp only [go_sem, qH]) | refine kD ?_ | refine cP (dE n.fName hn) ?_ | refine aO ?_ | fail)
  exact aA ⟨⟨_, rfl, by simp only [go_sem, hr, bT]⟩, trivial⟩
 by_cases h9 : n.fOp = 9
 ·have hr : aT n i = (bL n.fName 6 && (decide (n.fLeft = 0) && (decide (n.fRight = 0) && (decide (n.fValue.fKind = 0) && (decide (n.fValue.fInt = 0) && decide (n.fValue.fStr = ⟨#[]⟩)))))) := by simp [aT, h9, gB, eV, Bool.and_assoc]
  have qH := aI @h1 (aI @h2 (aI @h3 (aI @h4 (aI @h5 (aI @h6 (aI @h7 (aI @h8 (aI @h9 (aI @decide_true @decide_false))))))))); repeat' (with_reducible first | refine nY ?_ | (refine mX ?_; try simp only [go_sem, qH]) | refine kD ?_ | refine cP (dE n.fName hn) ?_ | refine aO ?_ | fail)
  cases ht : bL n.fName 6
  ·rw [ht] at hr
   simp only [go_sem, ht]
   have qH := aI @h1 (aI @h2 (aI @h3 (aI @h4 (aI @h5 (aI @h6 (aI @h7 (aI @h8 (aI @h9 (aI @decide_true (aI @decide_false @ht)))))))))); repeat' (with_reducible first | refine nY ?_ | (refine mX ?_; try simp only [go_sem, qH]) | refine kD ?_ | refine aO ?_ | fail)
   exact aA ⟨⟨_, rfl, by simp only [go_sem, hr, bT]⟩, trivial⟩
  rw [ht] at hr
  simp only [go_sem, ht]
  have qH := aI @h1 (aI @h2 (aI @h3 (aI @h4 (aI @h5 (aI @h6 (aI @h7 (aI @h8 (aI @h9 (aI @decide_true (aI @decide_false @ht)))))))))); repeat' (with_reducible first | refine nY ?_ | (refine mX ?_; try simp only [go_sem, qH]) | refine kD ?_ | refine cP (dE n.fName hn) ?_ | refine aO ?_ | fail)
  exact aA ⟨⟨_, rfl, by simp only [go_sem, hr, bT]⟩, trivial⟩
 have hr : aT n i = false := by simp [aT, h1, h2, h3, h4, h5, h6, h7, h8, h9]
 have qH := aI @h1 (aI @h2 (aI @h3 (aI @h4 (aI @h5 (aI @h6 (aI @h7 (aI @h8 (aI @h9 (aI @decide_true @decide_false))))))))); repeat' (with_reducible first | refine nY ?_ | (refine mX ?_; try simp only [go_sem, qH]) | refine kD ?_ | refine aO ?_ | fail)
 exact aA ⟨⟨_, rfl, by simp only [go_sem, hr]⟩, trivial⟩
theorem a3r (q : List TNode) (i : Nat) (h : i < q.length) : yJ q i = (aT q[i] i && (decide (q.length ≤ i + 1) || decide (refs q i = 1))) := by
 unfold yJ; rw [List.getElem?_eq_getElem h]
theorem eU (q : List TNode) (hl : eD q ≤ 4300000) : FnC Try.prog 55 [.o (.d (.sl (q.map bA)))] (ob (okQ q)) := by
 unfold eD at hl
 refine ent Try.func55 rfl Try.call55 rfl (fun C => ?_); simp only [go_sem, st0, Try.ntmps55]
 refine aF ?_
 refine eY (α := Nat) (fun k => [(7, oi k)]) (fun _ => []) (fun k => k ≤ q.length ∧ (List.range q.length).all (yJ q) = ((List.range q.length).drop k).all (yJ q)) (fun k => q.length - k) 0 (fun _ => ?_) ?_ ?_ (fun k hk => ?_)
 ·simp only [go_sem]
 ·simp only [go_sem]; simp
 ·simp
 ·obtain ⟨hk, hq⟩ := hk
  simp only [go_sem]
  refine aF ?_
  refine cnd rfl (fun h => ?_) (fun h => ?_)
  ·simp only [decide_eq_true_eq, Int.ofNat_lt] at h
   have h' : k < (List.range q.length).length := by simpa using h
   have hd := List.drop_eq_getElem_cons h'
   rw [hd, List.all_cons, List.getElem_range, a3r q k h] at hq
   have hw := oI rZ q h
   have hw1 : q[k].fName.size + q[k].fValue.fStr.size ≤ rZ q[k] := by unfold rZ jC; omega
   cases hn : aT q[k] k
   ·rw [hn] at hq
    have hf : okQ q = false := by unfold okQ; rw [hq]; simp
    have q0 := @h; have q1 := @hn; refine a2r (fF q[k] k (by omega) (by omega) (by omega)) ?_
    exact aA ⟨⟨_, rfl, by simp only [go_sem, hf]⟩, trivial⟩
   by_cases he : (k : Int) < (q.length : Int) - 1
   ·have he2 : ¬ q.length ≤ k + 1 := by omega
    by_cases hc : (refs q k : Int) = 1
    ·have hc2 : refs q k = 1 := by omega
     have q0 := @h; have q1 := @hn; have q2 := @he; have q3 := @hc; have q4 := @decide_true; have q5 := @decide_false; refine a3R (fF q[k] k (by omega) (by omega) (by omega)) (nA q k (by omega)) ?_
     refine bE (k + 1) ?_ ?_ ?_
     ·simp only [go_sem]; simp
     ·refine ⟨h, ?_⟩
      rw [hq, hn]; simp [hc2]
     ·omega
    ·have hc2 : ¬ refs q k = 1 := by omega
     have hf : okQ q = false := by unfold okQ; rw [hq, hn]; simp [hc2, he2]
     have q0 := @h; have q1 := @hn; have q2 := @he; have q3 := @hc; have q4 := @decide_true; have q5 := @decide_false; refine a3R (fF q[k] k (by omega) (by omega) (by omega)) (nA q k (by omega)) ?_
     exact aA ⟨⟨_, rfl, by simp only [go_sem, hf]⟩, trivial⟩
   ·have he2 : q.length ≤ k + 1 := by omega
    have q0 := @h; have q1 := @hn; have q2 := @he; have q3 := @decide_true; have q4 := @decide_false; refine a7C (fF q[k] k (by omega) (by omega) (by omega)) (nA q k (by omega)) ?_
    refine bE (k + 1) ?_ ?_ ?_
    ·simp only [go_sem]; simp
    ·refine ⟨h, ?_⟩
     rw [hq, hn]; simp [he2]
    ·omega
  ·simp only [decide_eq_false_iff_not] at h
   have e : k = q.length := by omega
   have hq' : (List.range q.length).all (yJ q) = true := by
    rw [hq, List.drop_of_length_le (by simp [e])]; rfl
   refine lS (aK q.length 1 9) ?_
   exact aA ⟨⟨_, rfl, by simp only [go_sem, okQ, hq', Bool.true_and]⟩, trivial⟩
theorem cZ (q : List TNode) (hl : eD q ≤ 4300000) : FnC Try.prog 32 [.o (.d (.sl (q.map bA)))] (ob (okQ q)) := by
 unfold eD at hl
 refine ent Try.func32 rfl Try.call32 rfl (fun C => ?_); simp only [go_sem, st0, Try.ntmps32]
 refine aF ?_
 refine eY (α := Nat) (fun k => [(3, oi k)]) (fun _ => []) (fun k => k ≤ q.length ∧ (List.range q.length).all (yJ q) = ((List.range q.length).drop k).all (yJ q)) (fun k => q.length - k) 0 (fun _ => ?_) ?_ ?_ (fun k hk => ?_)
 ·simp only [go_sem]
 ·simp only [go_sem]; simp
 ·simp
 ·obtain ⟨hk, hq⟩ := hk
  simp only [go_sem]
  refine aF ?_
  refine cnd rfl (fun h => ?_) (fun h => ?_)
  ·simp only [decide_eq_true_eq, Int.ofNat_lt] at h
   have h' : k < (List.range q.length).length := by simpa using h
   have hd := List.drop_eq_getElem_cons h'
   rw [hd, List.all_cons, List.getElem_range, a3r q k h] at hq
   have hw := oI rZ q h
   have hw1 : q[k].fName.size + q[k].fValue.fStr.size ≤ rZ q[k] := by unfold rZ jC; omega
   cases hn : aT q[k] k
   ·rw [hn] at hq
    have hf : okQ q = false := by unfold okQ; rw [hq]; simp
    have q0 := @h; have q1 := @hn; refine a2r (fG q[k] k (by omega) (by omega) (by omega)) ?_
    exact aA ⟨⟨_, rfl, by simp only [go_sem, hf]⟩, trivial⟩
   by_cases he : (k : Int) < (q.length : Int) - 1
   ·have he2 : ¬ q.length ≤ k + 1 := by omega
    by_cases hc : (refs q k : Int) = 1
    ·have hc2 : refs q k = 1 := by omega
     have q0 := @h; have q1 := @hn; have q2 := @he; have q3 := @hc; have q4 := @decide_true; have q5 := @decide_false; refine a3R (fG q[k] k (by omega) (by omega) (by omega)) (nC q k (by omega)) ?_
     refine bE (k + 1) ?_ ?_ ?_
     ·simp only [go_sem]; simp
     ·refine ⟨h, ?_⟩
      rw [hq, hn]; simp [hc2]
     ·omega
    ·have hc2 : ¬ refs q k = 1 := by omega
     have hf : okQ q = false := by unfold okQ; rw [hq, hn]; simp [hc2, he2]
     have q0 := @h; have q1 := @hn; have q2 := @he; have q3 := @hc; have q4 := @decide_true; have q5 := @decide_false; refine a3R (fG q[k] k (by omega) (by omega) (by omega)) (nC q k (by omega)) ?_
     exact aA ⟨⟨_, rfl, by simp only [go_sem, hf]⟩, trivial⟩
   ·have he2 : q.length ≤ k + 1 := by omega
    have q0 := @h; have q1 := @hn; have q2 := @he; have q3 := @decide_true; have q4 := @decide_false; refine a7C (fG q[k] k (by omega) (by omega) (by omega)) (nC q k (by omega)) ?_
    refine bE (k + 1) ?_ ?_ ?_
    ·simp only [go_sem]; simp
    ·refine ⟨h, ?_⟩
     rw [hq, hn]; simp [he2]
    ·omega
  ·simp only [decide_eq_false_iff_not] at h
   have e : k = q.length := by omega
   have hq' : (List.range q.length).all (yJ q) = true := by
    rw [hq, List.drop_of_length_le (by simp [e])]; rfl
   refine lS (lV q.length 1 9) ?_
   exact aA ⟨⟨_, rfl, by simp only [go_sem, okQ, hq', Bool.true_and]⟩, trivial⟩
def a5C {α : Type} (g : α → ByteArray) (l : List α) (k : Nat) : Bool := decide (k = 0) || (match l[k - 1]?, l[k]? with
 | some p, some x => fU (g p) (g x)
 | _, _ => true)
def b0q (l : List TFile) (k : Nat) : Bool := decide (k = 0) || (match l[k - 1]?, l[k]? with
 | some p, some x => !decide (x.fID ≤ p.fID)
 | _, _ => true)
def zL (s : ByteArray) : List TField → Int
 | [] => 0
 | f :: l => if f.fName = s then f.fKind else zL s l
def a4f (s : List TField) (k : Nat) : Bool := match s[k]? with
 | none => true
 | some f => bL f.fName 1 && (inB f.fKind 1 2 && a5C TField.fName s k)
def a1N (s : List TField) : Bool := (List.range s.length).all (a4f s) && decide ((s.length : Int) ≤ 5)
def a8b (s : List TField) (n : ByteArray) (v : TValue) : Bool := eO v && (!decide (v.fKind = 0) && decide (v.fKind = zL n s))
def a5D (s : List TField) (l : List TAttr) (k : Nat) : Bool := match l[k]? with
 | none => true
 | some a => a5C TAttr.fName l k && a8b s a.fName a.fValue
def a5E (s : List TField) (f : TFile) : Bool := (List.range f.fAttrs.length).all (a5D s f.fAttrs) && (inB f.fID 1 60 && (inB f.fOwner 0 2 && (inB f.fLink 0 60 && a1N s)))
def a5F (x : TStore) (k : Nat) : Bool := match x.fFiles[k]? with
 | none => true
 | some f => a5E x.fSchema f && (!decide (x.fNextID ≤ f.fID) && b0q x.fFiles k)
def a6M (x : TStore) : Bool := (List.range x.fFiles.length).all (a5F x) && (a1N x.fSchema && (decide ((x.fFiles.length : Int) ≤ 12) && inB x.fNextID 1 61))
def a6N (d : List TDir) (k : Nat) : Bool := match d[k]? with
 | none => true
 | some x => bL x.fName 6 && (a5C TDir.fName d k && okQ x.fQuery)
def b0r (d : List TDir) : Bool := (List.range d.length).all (a6N d) && decide ((d.length : Int) ≤ 5)
end Go.Proofs.Ytolgdibgnndoaaa
end
section
namespace Go.Proofs.Ytolgdibgnndoaaa
open Go Go.Sx Go.RowKit Go.Proofs
def mkF (s : TStore) (f : TFile) : TFile := { f with fID := s.fNextID }
def a6Z (s : TStore) (f : TFile) : Bool := a6M s && (decide (s.fFiles.length < 12) && a5E s.fSchema (mkF s f))
def b0O (s : TStore) (f : TFile) : TStore := if a6Z s f then ⟨s.fSchema, s.fFiles ++ [mkF s f], s.fNextID + 1⟩ else s
def b0P (s : TStore) (f : TFile) : Int := if a6Z s f then s.fNextID else 0
end Go.Proofs.Ytolgdibgnndoaaa
end
section
set_option maxRecDepth 100000
set_option maxHeartbeats 4000000
namespace Go.Proofs.Ytolgdibgnndoaaa
open Go Go.Sx Go.RowKit Go.Proofs
def b0y : List TField := [⟨⟨#[97]⟩, 1⟩, ⟨⟨#[98]⟩, 1⟩, ⟨⟨#[110]⟩, 2⟩, ⟨⟨#[116]⟩, 2⟩]
def pc (s : ByteArray) : Option TValue → List TAttr
 | none => []
 | some v => [⟨s, v⟩]
def pcs (a b n t : Option TValue) : List TAttr := pc ⟨#[97]⟩ a ++ (pc ⟨#[98]⟩ b ++ (pc ⟨#[110]⟩ n ++ pc ⟨#[116]⟩ t))
theorem a8H : fU ⟨#[97]⟩ ⟨#[98]⟩ = true := by decide +kernel
theorem a8I : fU ⟨#[97]⟩ ⟨#[110]⟩ = true := by decide +kernel
theorem a8J : fU ⟨#[97]⟩ ⟨#[116]⟩ = true := by decide +kernel
theorem a8K : fU ⟨#[98]⟩ ⟨#[110]⟩ = true := by decide +kernel
theorem a8L : fU ⟨#[98]⟩ ⟨#[116]⟩ = true := by decide +kernel
theorem a8M : fU ⟨#[110]⟩ ⟨#[116]⟩ = true := by decide +kernel
theorem a8N (x : Int) : kL ⟨#[97]⟩ ⟨1, x, ⟨#[]⟩⟩ (pcs none none none none) = pcs (some ⟨1, x, ⟨#[]⟩⟩) none none none := by
 simp [kL, fC, isName, bM, dS, dI, pcs, pc]
theorem a8O (x : Int) (a : Option TValue) : kL ⟨#[98]⟩ ⟨1, x, ⟨#[]⟩⟩ (pcs a none none none) = pcs a (some ⟨1, x, ⟨#[]⟩⟩) none none := by
 cases a <;> simp [kL, fC, isName, bM, dS, dI, pcs, pc, a8H]
theorem a8P (s : ByteArray) (a b : Option TValue) : kL ⟨#[110]⟩ ⟨2, 0, s⟩ (pcs a b none none) = pcs a b (some ⟨2, 0, s⟩) none := by
 cases a <;> cases b <;> simp [kL, fC, isName, bM, dS, dI, pcs, pc, a8I, a8K]
theorem a8Q (s : ByteArray) (a b n : Option TValue) : kL ⟨#[116]⟩ ⟨2, 0, s⟩ (pcs a b n none) = pcs a b n (some ⟨2, 0, s⟩) := by
 cases a <;> cases b <;> cases n <;> simp [kL, fC, isName, bM, dS, dI, pcs, pc, a8J, a8L, a8M]
def a2y (o : Option TValue) : Prop := ∀ v, o = some v → ∃ x, v = ⟨1, x, ⟨#[]⟩⟩ ∧ 0 ≤ x ∧ x ≤ 999
def words : List ByteArray := [⟨#[105, 110, 107]⟩, ⟨#[115, 101, 97]⟩, ⟨#[114, 101, 100]⟩, ⟨#[98, 108, 117, 101]⟩]
def a2z (o : Option TValue) : Prop := ∀ v, o = some v → ∃ s, v = ⟨2, 0, s⟩ ∧ s ∈ words
theorem vY : a2y none := fun v h => by cases h
theorem vZ : a2z none := fun v h => by cases h
theorem a1w {x : Int} (h : 0 ≤ x ∧ x ≤ 999) : a2y (some ⟨1, x, ⟨#[]⟩⟩) := fun v e => by cases e; exact ⟨x, rfl, h⟩
theorem a1x {s : ByteArray} (h : s ∈ words) : a2z (some ⟨2, 0, s⟩) := fun v e => by cases e; exact ⟨s, rfl, h⟩
structure fileD (id : Int) (f : TFile) : Prop where
 id : f.fID = id
 ow : 0 ≤ f.fOwner ∧ f.fOwner ≤ 2
 lk : 0 ≤ f.fLink ∧ f.fLink ≤ 60
 at_ : ∃ a b n t, f.fAttrs = pcs a b n t ∧ a2y a ∧ a2y b ∧ a2z n ∧ a2z t
theorem a6t {s : ByteArray} (h : s ∈ words) : eO ⟨2, 0, s⟩ = true ∧ s.size ≤ 4 ∧ s ≠ ⟨#[122, 122]⟩ := by
 have := (by decide +kernel : ∀ s ∈ words, eO ⟨2, 0, s⟩ = true ∧ s.size ≤ 4 ∧ s ≠ ⟨#[122, 122]⟩)
 exact this s h
theorem a3e {id : Int} {f : TFile} (h : fileD id f) : dM f ≤ 40 ∧ pJ f.fAttrs ∧ ∀ a ∈ f.fAttrs, a.fValue.fStr ≠ ⟨#[122, 122]⟩ := by
 obtain ⟨a, b, n, t, e, h1, h2, h3, h4⟩ := h.at_
 have key : ∀ (nm : ByteArray) (x : Option TValue), nm.size = 1 → (a2y x ∨ a2z x) → (pc nm x).length + dD fQ (pc nm x) ≤ 6 ∧ (∀ y ∈ pc nm x, a2B y ∧ y.fValue.fStr ≠ ⟨#[122, 122]⟩) := fun nm x hn hx => by
  cases x with
  | none => exact ⟨by simp [pc, dD], fun y hy => by simp [pc] at hy⟩
  | some v =>
   rcases hx with hx | hx
   ·obtain ⟨k, rfl, h1, h2⟩ := hx v rfl
    refine ⟨by simp [pc, dD, fQ, jC, hn]; decide, fun y hy => ?_⟩
    simp [pc] at hy
    subst hy
    exact ⟨⟨by simp only [hn]; omega, in1, by simp only [inR]; omega, Nat.zero_le _⟩, fun q => by have := congrArg ByteArray.size q; simp at this; exact absurd this (by decide)⟩
   ·obtain ⟨s, rfl, hs⟩ := hx v rfl
    obtain ⟨-, h2, h3⟩ := a6t hs
    refine ⟨by simp [pc, dD, fQ, jC, hn]; omega, fun y hy => ?_⟩
    simp [pc] at hy
    subst hy
    exact ⟨⟨by simp only [hn]; omega, in2, in0, by simp only; omega⟩, h3⟩
 have ka := key ⟨#[97]⟩ a rfl (.inl h1)
 have kb := key ⟨#[98]⟩ b rfl (.inl h2)
 have kn := key ⟨#[110]⟩ n rfl (.inr h3)
 have kt := key ⟨#[116]⟩ t rfl (.inr h4)
 have hw : ∀ (l m : List TAttr), dD fQ (l ++ m) = dD fQ l + dD fQ m := fun l m => by
  induction l with
  | nil => simp [dD]
  | cons x l ih => simp only [List.cons_append, dD, ih]; omega
 rw [e]
 refine ⟨?_, ⟨?_, fun y hy => ?_⟩, fun y hy => ?_⟩
 ·unfold dM bF
  rw [e]
  unfold pcs
  simp only [hw, List.length_append]
  omega
 ·unfold pcs
  simp only [List.length_append]
  omega
 ·unfold pcs at hy
  simp only [List.mem_append] at hy
  rcases hy with hy | hy | hy | hy
  ·exact (ka.2 y hy).1
  ·exact (kb.2 y hy).1
  ·exact (kn.2 y hy).1
  ·exact (kt.2 y hy).1
 ·unfold pcs at hy
  simp only [List.mem_append] at hy
  rcases hy with hy | hy | hy | hy
  ·exact (ka.2 y hy).2
  ·exact (kb.2 y hy).2
  ·exact (kn.2 y hy).2
  ·exact (kt.2 y hy).2
structure fileK (fid : Int) (k : Nat) (f : TFile) : Prop where
 id : f.fID = fid
 ow : 0 ≤ f.fOwner ∧ f.fOwner ≤ 2
 lk : 0 ≤ f.fLink ∧ f.fLink ≤ 60
 at_ : ∃ a b n t, f.fAttrs = pcs a b n t ∧ a2y a ∧ a2y b ∧ a2z n ∧ a2z t ∧ (k ≤ 0 → a = none) ∧ (k ≤ 1 → b = none) ∧ (k ≤ 2 → n = none) ∧ (k ≤ 3 → t = none)
theorem kT {fid : Int} {k : Nat} {f : TFile} (h : fileK fid k f) : f.fAttrs.length ≤ 4 := by
 obtain ⟨a, b, n, t, e, _⟩ := h.at_
 rw [e]
 cases a <;> cases b <;> cases n <;> cases t <;> simp [pcs, pc]
theorem rV {fid : Int} {k : Nat} {f : TFile} (h : fileK fid k f) : fileK fid (k + 1) f := by
 obtain ⟨a, b, n, t, e, h1, h2, h3, h4, h5, h6, h7, h8⟩ := h.at_
 exact ⟨h.id, h.ow, h.lk, a, b, n, t, e, h1, h2, h3, h4, fun q => h5 (by omega), fun q => h6 (by omega), fun q => h7 (by omega), fun q => h8 (by omega)⟩
theorem a6u {fid : Int} {f : TFile} (h : fileK fid 0 f) {x : Int} (hx : 0 ≤ x ∧ x ≤ 999) : fileK fid 1 (iT f ⟨#[97]⟩ ⟨1, x, ⟨#[]⟩⟩) := by
 obtain ⟨a, b, n, t, e, h1, h2, h3, h4, h5, h6, h7, h8⟩ := h.at_
 obtain rfl := h5 (by omega); obtain rfl := h6 (by omega); obtain rfl := h7 (by omega); obtain rfl := h8 (by omega)
 exact ⟨h.id, h.ow, h.lk, _, _, _, _, by simp only [iT, e]; exact a8N x, a1w hx, h2, h3, h4, fun q => by omega, fun _ => rfl, fun _ => rfl, fun _ => rfl⟩
theorem a6v {fid : Int} {f : TFile} (h : fileK fid 1 f) {x : Int} (hx : 0 ≤ x ∧ x ≤ 999) : fileK fid 2 (iT f ⟨#[98]⟩ ⟨1, x, ⟨#[]⟩⟩) := by
 obtain ⟨a, b, n, t, e, h1, h2, h3, h4, h5, h6, h7, h8⟩ := h.at_
 obtain rfl := h6 (by omega); obtain rfl := h7 (by omega); obtain rfl := h8 (by omega)
 exact ⟨h.id, h.ow, h.lk, _, _, _, _, by simp only [iT, e]; exact a8O x a, h1, a1w hx, h3, h4, fun q => by omega, fun q => by omega, fun _ => rfl, fun _ => rfl⟩
theorem a6w {fid : Int} {f : TFile} (h : fileK fid 2 f) {x : ByteArray} (hx : x ∈ words) : fileK fid 3 (iT f ⟨#[110]⟩ ⟨2, 0, x⟩) := by
 obtain ⟨a, b, n, t, e, h1, h2, h3, h4, h5, h6, h7, h8⟩ := h.at_
 obtain rfl := h7 (by omega); obtain rfl := h8 (by omega)
 exact ⟨h.id, h.ow, h.lk, _, _, _, _, by simp only [iT, e]; exact a8P x a b, h1, h2, a1x hx, h4, fun q => by omega, fun q => by omega, fun q => by omega, fun _ => rfl⟩
theorem a6x {fid : Int} {f : TFile} (h : fileK fid 3 f) {x : ByteArray} (hx : x ∈ words) : fileK fid 4 (iT f ⟨#[116]⟩ ⟨2, 0, x⟩) := by
 obtain ⟨a, b, n, t, e, h1, h2, h3, h4, h5, h6, h7, h8⟩ := h.at_
 obtain rfl := h8 (by omega)
 exact ⟨h.id, h.ow, h.lk, _, _, _, _, by simp only [iT, e]; exact a8Q x a b n, h1, h2, h3, a1x hx, fun q => by omega, fun q => by omega, fun q => by omega, fun q => by omega⟩
theorem a6y {fid : Int} {f : TFile} (h : fileK fid 4 f) : fileD fid f := by
 obtain ⟨a, b, n, t, e, h1, h2, h3, h4, _⟩ := h.at_
 exact ⟨h.id, h.ow, h.lk, a, b, n, t, e, h1, h2, h3, h4⟩
@[go_sem] def wd1 : List ByteArray := [⟨#[105, 110, 107]⟩, ⟨#[115, 101, 97]⟩]
@[go_sem] def wd2 : List ByteArray := [⟨#[114, 101, 100]⟩, ⟨#[98, 108, 117, 101]⟩]
theorem a8R : ∀ s ∈ wd1, s ∈ words := by
 intro s hs; simp [wd1] at hs; rcases hs with rfl | rfl <;> simp [words]
theorem a8S : ∀ s ∈ wd2, s ∈ words := by
 intro s hs; simp [wd2] at hs; rcases hs with rfl | rfl <;> simp [words]
theorem xC {l : List Int} (hl : gM l) (fid : Int) : Drw l 99 [oi fid] (fun f : TFile => fileD fid f) (fun f => pX f) := by
 intro i h hi hh; refine mW Try.func99 rfl Try.call99 rfl (fun C b => ?_); simp only [go_sem, Try.ntmps99]
 refine aF ?_
 first | (refine aY (aH hl 3 (by decide) (by decide) i h hi hh) ⟨rfl, rfl⟩ ?_ rfl ?_; (focus first | rfl | (simp only [go_sem]; done))) | (refine hZ (aH hl 3 (by decide) (by decide) i h hi hh) ⟨rfl, rfl⟩ ?_ rfl ?_; (focus first | rfl | (simp only [go_sem]; done)))
 clear hi hh; rintro ⟨ow, i, h⟩ ⟨how, hi, hh⟩; simp only at how hi hh; simp only [go_sem]
 refine aF ?_
 first | (refine aY (dV hl 2 (by decide) (by decide) i h hi hh) ⟨rfl, rfl⟩ ?_ rfl ?_; (focus first | rfl | (simp only [go_sem]; done))) | (refine hZ (dV hl 2 (by decide) (by decide) i h hi hh) ⟨rfl, rfl⟩ ?_ rfl ?_; (focus first | rfl | (simp only [go_sem]; done)))
 clear hi hh; rintro ⟨sh, i, h⟩ ⟨q0, hi, hh⟩; simp only at q0 hi hh; simp only [go_sem]
 refine aF ?_
 first | (refine aY (dV hl 2 (by decide) (by decide) i h hi hh) ⟨rfl, rfl⟩ ?_ rfl ?_; (focus first | rfl | (simp only [go_sem]; done))) | (refine hZ (dV hl 2 (by decide) (by decide) i h hi hh) ⟨rfl, rfl⟩ ?_ rfl ?_; (focus first | rfl | (simp only [go_sem]; done)))
 clear hi hh; rintro ⟨c1, i, h⟩ ⟨q1, hi, hh⟩; simp only at q1 hi hh; simp only [go_sem]
 repeat' (with_reducible first | refine nX ?_ | (refine mX ?_; try simp only [go_sem]) | refine kD ?_ | refine aO ?_ | fail)
 refine a2O 2 4 95 4 rfl rfl ?_
 simp only [go_sem]
 refine rW (α := TFile × Nat × Int) (fun _ => []) (fun x => [(0, .pin b 127 [.sl (l.map mV), iv x.2.1, iv x.2.2]), (2, .box 48 [.d (iv x.1.fID), .d (iv x.1.fOwner), .d (bv x.1.fShared), .d (iv x.1.fLink), .s 3]), (3, .row 95 4 (x.1.fAttrs.map aM) true)]) (fun x => fileK fid 0 x.1 ∧ (x.2.1 ≤ l.length ∧ inR .i64 x.2.2)) ?_ ?_
 ·cases c1
  ·refine aF ?_
   exact jM (⟨fid, ow, sh, 0, []⟩, i, h) ⟨⟨rfl, by simp only; omega, by simp, none, none, none, none, rfl, vY, vY, vZ, vZ, fun _ => rfl, fun _ => rfl, fun _ => rfl, fun _ => rfl⟩, ⟨hi, hh⟩⟩ (by simp only [go_sem]; simp) (by simp only [go_sem])
  ·refine aF ?_
   first | (refine aY (aH hl 7 (by decide) (by decide) i h hi hh) ⟨rfl, rfl⟩ ?_ rfl ?_; (focus first | rfl | (simp only [go_sem]; done))) | (refine hZ (aH hl 7 (by decide) (by decide) i h hi hh) ⟨rfl, rfl⟩ ?_ rfl ?_; (focus first | rfl | (simp only [go_sem]; done)))
   clear hi hh; rintro ⟨lk, i, h⟩ ⟨hlk, hi, hh⟩; simp only at hlk hi hh; simp only [go_sem]
   refine aF ?_
   exact jM (⟨fid, ow, sh, lk, []⟩, i, h) ⟨⟨rfl, by simp only; omega, by simp only; omega, none, none, none, none, rfl, vY, vY, vZ, vZ, fun _ => rfl, fun _ => rfl, fun _ => rfl, fun _ => rfl⟩, ⟨hi, hh⟩⟩ (by simp only [go_sem]; simp) (by simp only [go_sem])
 ·rintro ⟨f, i, h⟩ ⟨hf, hi, hh⟩
  simp only at hf hi hh
  simp only [go_sem]
  refine aF ?_
  first | (refine aY (dV hl 4 (by decide) (by decide) i h hi hh) ⟨rfl, rfl⟩ ?_ rfl ?_; (focus first | rfl | (simp only [go_sem]; done))) | (refine hZ (dV hl 4 (by decide) (by decide) i h hi hh) ⟨rfl, rfl⟩ ?_ rfl ?_; (focus first | rfl | (simp only [go_sem]; done)))
  clear hi hh; rintro ⟨c1, i, h⟩ ⟨q1, hi, hh⟩; simp only at q1 hi hh; simp only [go_sem]
  repeat' (with_reducible first | refine nX ?_ | (refine mX ?_; try simp only [go_sem]) | refine kD ?_ | refine aO ?_ | fail)
  refine rW (α := TFile × Nat × Int) (fun _ => []) (fun x => [(0, .pin b 127 [.sl (l.map mV), iv x.2.1, iv x.2.2]), (2, .box 48 [.d (iv x.1.fID), .d (iv x.1.fOwner), .d (bv x.1.fShared), .d (iv x.1.fLink), .s 3]), (3, .row 95 4 (x.1.fAttrs.map aM) true)]) (fun x => fileK fid 1 x.1 ∧ (x.2.1 ≤ l.length ∧ inR .i64 x.2.2)) ?_ ?_
  ·cases c1
   ·have hw := kT hf
    have hf0 : f.fAttrs.length ≤ 4200000 := by omega
    have qH := trivial; repeat' (with_reducible first | refine nY ?_ | (refine mX ?_; try simp only [go_sem]) | refine kD ?_ | (apply rF [2,3,4,5] [] [0,1] [0,1] ((.c 2 [] [0] (.c 3 [] [0] (.c 4 [] [] (.c 5 [] [] .n .n) .n) .n) .n)) (by simp only [go_sem]; rfl) (by simp only [go_sem]; rfl) (by simp only [go_sem]; rfl) (by decide +kernel); (focus simp only [go_sem]; done)) | exact bP | refine aU (uX ?_) ?_ | refine aV (aX ?_) ?_ | refine aW (aX ?_) ?_ | exact bU | exact oH | (refine uA ?_; simp only [go_sem]; (repeat' first | omega | refine And.intro ?_ ?_); done) | refine rD ?_ | refine aO ?_ | fail)
    first | (refine aY (aH hl 4 (by decide) (by decide) i h hi hh) ⟨rfl, rfl⟩ ?_ rfl ?_; (focus first | rfl | (simp only [go_sem]; done))) | (refine hZ (aH hl 4 (by decide) (by decide) i h hi hh) ⟨rfl, rfl⟩ ?_ rfl ?_; (focus first | rfl | (simp only [go_sem]; done)))
    clear hi hh; rintro ⟨x, i, h⟩ ⟨hx, hi, hh⟩; simp only at hx hi hh; simp only [go_sem]
    have qH := trivial; repeat' (with_reducible first | refine nY ?_ | (refine mX ?_; try simp only [go_sem]) | refine kD ?_ | exact bP | refine aU (uX ?_) ?_ | refine aV (aX ?_) ?_ | refine aW (aX ?_) ?_ | (refine uA ?_; simp only [go_sem]; (repeat' first | omega | refine And.intro ?_ ?_); done) | refine rD ?_ | refine cP (kE x) ?_ | refine hR (bI f ⟨#[97]⟩ ⟨1, x, ⟨#[]⟩⟩ hf0) ?_ | refine vR (bI f ⟨#[97]⟩ ⟨1, x, ⟨#[]⟩⟩ hf0) ?_ | refine vD (bI f ⟨#[97]⟩ ⟨1, x, ⟨#[]⟩⟩ hf0) ?_ | refine aO ?_ | fail)
    exact wB [(3, 4)] (iT f ⟨#[97]⟩ ⟨1, x, ⟨#[]⟩⟩, i, h) ⟨a6u hf (by omega), ⟨hi, hh⟩⟩ (by simp only [go_sem]; rfl) (by simp only [go_sem]; simp) (by simp only [go_sem])
   ·have hw := kT hf
    refine aF ?_
    exact jM (f, i, h) ⟨rV hf, ⟨hi, hh⟩⟩ (by simp only [go_sem]; simp) (by simp only [go_sem])
  ·rintro ⟨f, i, h⟩ ⟨hf, hi, hh⟩
   simp only at hf hi hh
   simp only [go_sem]
   refine aF ?_
   first | (refine aY (dV hl 2 (by decide) (by decide) i h hi hh) ⟨rfl, rfl⟩ ?_ rfl ?_; (focus first | rfl | (simp only [go_sem]; done))) | (refine hZ (dV hl 2 (by decide) (by decide) i h hi hh) ⟨rfl, rfl⟩ ?_ rfl ?_; (focus first | rfl | (simp only [go_sem]; done)))
   clear hi hh; rintro ⟨c1, i, h⟩ ⟨q1, hi, hh⟩; simp only at q1 hi hh; simp only [go_sem]
   repeat' (with_reducible first | refine nX ?_ | (refine mX ?_; try simp only [go_sem]) | refine kD ?_ | refine aO ?_ | fail)
   refine rW (α := TFile × Nat × Int) (fun _ => []) (fun x => [(0, .pin b 127 [.sl (l.map mV), iv x.2.1, iv x.2.2]), (2, .box 48 [.d (iv x.1.fID), .d (iv x.1.fOwner), .d (bv x.1.fShared), .d (iv x.1.fLink), .s 3]), (3, .row 95 4 (x.1.fAttrs.map aM) true)]) (fun x => fileK fid 2 x.1 ∧ (x.2.1 ≤ l.length ∧ inR .i64 x.2.2)) ?_ ?_
   ·cases c1
    ·have hw := kT hf
     refine aF ?_
     exact jM (f, i, h) ⟨rV hf, ⟨hi, hh⟩⟩ (by simp only [go_sem]; simp) (by simp only [go_sem])
    ·have hw := kT hf
     have hf0 : f.fAttrs.length ≤ 4200000 := by omega
     have qH := trivial; repeat' (with_reducible first | refine nY ?_ | (refine mX ?_; try simp only [go_sem]) | refine kD ?_ | (apply rF [2,3,4,5] [] [0,1] [0,1] ((.c 2 [] [0] (.c 3 [] [0] (.c 4 [] [] (.c 5 [] [] .n .n) .n) .n) .n)) (by simp only [go_sem]; rfl) (by simp only [go_sem]; rfl) (by simp only [go_sem]; rfl) (by decide +kernel); (focus simp only [go_sem]; done)) | exact bP | refine aU (uX ?_) ?_ | refine aV (aX ?_) ?_ | refine aW (aX ?_) ?_ | exact bU | exact oH | (refine uA ?_; simp only [go_sem]; (repeat' first | omega | refine And.intro ?_ ?_); done) | refine rD ?_ | refine aO ?_ | fail)
     first | (refine aY (aH hl 4 (by decide) (by decide) i h hi hh) ⟨rfl, rfl⟩ ?_ rfl ?_; (focus first | rfl | (simp only [go_sem]; done))) | (refine hZ (aH hl 4 (by decide) (by decide) i h hi hh) ⟨rfl, rfl⟩ ?_ rfl ?_; (focus first | rfl | (simp only [go_sem]; done)))
     clear hi hh; rintro ⟨x, i, h⟩ ⟨hx, hi, hh⟩; simp only at hx hi hh; simp only [go_sem]
     have qH := trivial; repeat' (with_reducible first | refine nY ?_ | (refine mX ?_; try simp only [go_sem]) | refine kD ?_ | exact bP | refine aU (uX ?_) ?_ | refine aV (aX ?_) ?_ | refine aW (aX ?_) ?_ | (refine uA ?_; simp only [go_sem]; (repeat' first | omega | refine And.intro ?_ ?_); done) | refine rD ?_ | refine cP (kE x) ?_ | refine hR (bI f ⟨#[98]⟩ ⟨1, x, ⟨#[]⟩⟩ hf0) ?_ | refine vR (bI f ⟨#[98]⟩ ⟨1, x, ⟨#[]⟩⟩ hf0) ?_ | refine vD (bI f ⟨#[98]⟩ ⟨1, x, ⟨#[]⟩⟩ hf0) ?_ | refine aO ?_ | fail)
     exact wB [(3, 4)] (iT f ⟨#[98]⟩ ⟨1, x, ⟨#[]⟩⟩, i, h) ⟨a6v hf (by omega), ⟨hi, hh⟩⟩ (by simp only [go_sem]; rfl) (by simp only [go_sem]; simp) (by simp only [go_sem])
   ·rintro ⟨f, i, h⟩ ⟨hf, hi, hh⟩
    simp only at hf hi hh
    simp only [go_sem]
    refine aF ?_
    first | (refine aY (dV hl 3 (by decide) (by decide) i h hi hh) ⟨rfl, rfl⟩ ?_ rfl ?_; (focus first | rfl | (simp only [go_sem]; done))) | (refine hZ (dV hl 3 (by decide) (by decide) i h hi hh) ⟨rfl, rfl⟩ ?_ rfl ?_; (focus first | rfl | (simp only [go_sem]; done)))
    clear hi hh; rintro ⟨c1, i, h⟩ ⟨q1, hi, hh⟩; simp only at q1 hi hh; simp only [go_sem]
    repeat' (with_reducible first | refine nX ?_ | (refine mX ?_; try simp only [go_sem]) | refine kD ?_ | refine aO ?_ | fail)
    refine rW (α := TFile × Nat × Int) (fun _ => []) (fun x => [(0, .pin b 127 [.sl (l.map mV), iv x.2.1, iv x.2.2]), (2, .box 48 [.d (iv x.1.fID), .d (iv x.1.fOwner), .d (bv x.1.fShared), .d (iv x.1.fLink), .s 3]), (3, .row 95 4 (x.1.fAttrs.map aM) true)]) (fun x => fileK fid 3 x.1 ∧ (x.2.1 ≤ l.length ∧ inR .i64 x.2.2)) ?_ ?_
    ·cases c1
     ·have hw := kT hf
      have hf0 : f.fAttrs.length ≤ 4200000 := by omega
      have qH := trivial; repeat' (with_reducible first | refine nY ?_ | (refine mX ?_; try simp only [go_sem]) | refine kD ?_ | (apply rF [2,3,4,5,6] [] [0,1] [0,1] ((.c 2 [] [0,1] (.c 3 [] [0] (.c 4 [] [0] (.c 5 [] [] (.c 6 [] [] .n .n) .n) .n) .n) .n)) (by simp only [go_sem]; rfl) (by simp only [go_sem]; rfl) (by simp only [go_sem]; rfl) (by decide +kernel); (focus simp only [go_sem]; done)) | exact bP | refine aU (uX ?_) ?_ | refine aV (aX ?_) ?_ | refine aW (aX ?_) ?_ | exact bU | exact oH | (refine uA ?_; simp only [go_sem]; (repeat' first | omega | refine And.intro ?_ ?_); done) | refine rD ?_ | refine aO ?_ | fail)
      first | (refine aY (cB hl wd1 (by decide) (by decide) i h hi hh) ⟨rfl, rfl⟩ ?_ rfl ?_; (focus first | rfl | (simp only [go_sem]; done))) | (refine hZ (cB hl wd1 (by decide) (by decide) i h hi hh) ⟨rfl, rfl⟩ ?_ rfl ?_; (focus first | rfl | (simp only [go_sem]; done)))
      clear hi hh; rintro ⟨x, i, h⟩ ⟨hx, hi, hh⟩; simp only at hx hi hh; simp only [go_sem]
      have qH := trivial; repeat' (with_reducible first | refine nY ?_ | (refine mX ?_; try simp only [go_sem]) | refine kD ?_ | exact bP | refine aU (uX ?_) ?_ | refine aV (aX ?_) ?_ | refine aW (aX ?_) ?_ | (refine uA ?_; simp only [go_sem]; (repeat' first | omega | refine And.intro ?_ ?_); done) | refine rD ?_ | refine cP (lT x) ?_ | refine hR (bI f ⟨#[110]⟩ ⟨2, 0, x⟩ hf0) ?_ | refine vR (bI f ⟨#[110]⟩ ⟨2, 0, x⟩ hf0) ?_ | refine vD (bI f ⟨#[110]⟩ ⟨2, 0, x⟩ hf0) ?_ | refine aO ?_ | fail)
      exact wB [(3, 5)] (iT f ⟨#[110]⟩ ⟨2, 0, x⟩, i, h) ⟨a6w hf (a8R x hx), ⟨hi, hh⟩⟩ (by simp only [go_sem]; rfl) (by simp only [go_sem]; simp) (by simp only [go_sem])
     ·have hw := kT hf
      refine aF ?_
      exact jM (f, i, h) ⟨rV hf, ⟨hi, hh⟩⟩ (by simp only [go_sem]; simp) (by simp only [go_sem])
    ·rintro ⟨f, i, h⟩ ⟨hf, hi, hh⟩
     simp only at hf hi hh
     simp only [go_sem]
     refine aF ?_
     first | (refine aY (dV hl 2 (by decide) (by decide) i h hi hh) ⟨rfl, rfl⟩ ?_ rfl ?_; (focus first | rfl | (simp only [go_sem]; done))) | (refine hZ (dV hl 2 (by decide) (by decide) i h hi hh) ⟨rfl, rfl⟩ ?_ rfl ?_; (focus first | rfl | (simp only [go_sem]; done)))
     clear hi hh; rintro ⟨c1, i, h⟩ ⟨q1, hi, hh⟩; simp only at q1 hi hh; simp only [go_sem]
     repeat' (with_reducible first | refine nX ?_ | (refine mX ?_; try simp only [go_sem]) | refine kD ?_ | refine aO ?_ | fail)
     refine rW (α := TFile × Nat × Int) (fun _ => []) (fun x => [(0, .pin b 127 [.sl (l.map mV), iv x.2.1, iv x.2.2]), (2, .box 48 [.d (iv x.1.fID), .d (iv x.1.fOwner), .d (bv x.1.fShared), .d (iv x.1.fLink), .s 3]), (3, .row 95 4 (x.1.fAttrs.map aM) true)]) (fun x => fileK fid 4 x.1 ∧ (x.2.1 ≤ l.length ∧ inR .i64 x.2.2)) ?_ ?_
     ·cases c1
      ·have hw := kT hf
       refine aF ?_
       exact jM (f, i, h) ⟨rV hf, ⟨hi, hh⟩⟩ (by simp only [go_sem]; simp) (by simp only [go_sem])
      ·have hw := kT hf
       have hf0 : f.fAttrs.length ≤ 4200000 := by omega
       have qH := trivial; repeat' (with_reducible first | refine nY ?_ | (refine mX ?_; try simp only [go_sem]) | refine kD ?_ | (apply rF [2,3,4,5,6] [] [0,1] [0,1] ((.c 2 [] [0,1] (.c 3 [] [0] (.c 4 [] [0] (.c 5 [] [] (.c 6 [] [] .n .n) .n) .n) .n) .n)) (by simp only [go_sem]; rfl) (by simp only [go_sem]; rfl) (by simp only [go_sem]; rfl) (by decide +kernel); (focus simp only [go_sem]; done)) | exact bP | refine aU (uX ?_) ?_ | refine aV (aX ?_) ?_ | refine aW (aX ?_) ?_ | exact bU | exact oH | (refine uA ?_; simp only [go_sem]; (repeat' first | omega | refine And.intro ?_ ?_); done) | refine rD ?_ | refine aO ?_ | fail)
       first | (refine aY (cB hl wd2 (by decide) (by decide) i h hi hh) ⟨rfl, rfl⟩ ?_ rfl ?_; (focus first | rfl | (simp only [go_sem]; done))) | (refine hZ (cB hl wd2 (by decide) (by decide) i h hi hh) ⟨rfl, rfl⟩ ?_ rfl ?_; (focus first | rfl | (simp only [go_sem]; done)))
       clear hi hh; rintro ⟨x, i, h⟩ ⟨hx, hi, hh⟩; simp only at hx hi hh; simp only [go_sem]
       have qH := trivial; repeat' (with_reducible first | refine nY ?_ | (refine mX ?_; try simp only [go_sem]) | refine kD ?_ | exact bP | refine aU (uX ?_) ?_ | refine aV (aX ?_) ?_ | refine aW (aX ?_) ?_ | (refine uA ?_; simp only [go_sem]; (repeat' first | omega | refine And.intro ?_ ?_); done) | refine rD ?_ | refine cP (lT x) ?_ | refine hR (bI f ⟨#[116]⟩ ⟨2, 0, x⟩ hf0) ?_ | refine vR (bI f ⟨#[116]⟩ ⟨2, 0, x⟩ hf0) ?_ | refine vD (bI f ⟨#[116]⟩ ⟨2, 0, x⟩ hf0) ?_ | refine aO ?_ | fail)
       exact wB [(3, 5)] (iT f ⟨#[116]⟩ ⟨2, 0, x⟩, i, h) ⟨a6x hf (a8S x hx), ⟨hi, hh⟩⟩ (by simp only [go_sem]; rfl) (by simp only [go_sem]; simp) (by simp only [go_sem])
     ·rintro ⟨f, i, h⟩ ⟨hf, hi, hh⟩
      simp only at hf hi hh
      simp only [go_sem]
      refine aF ?_
      exact aJ (f, i, h) ⟨⟨_, rfl, by simp only [go_sem]⟩, trivial⟩ ⟨a6y hf, ⟨hi, hh⟩⟩ (by simp only [go_sem])
@[go_sem] def vi5 : List Int := [-1, 0, 999, 1000, 9223372036854775807]
@[go_sem] def vs5 : List ByteArray := [⟨#[]⟩, ⟨#[65]⟩, ⟨#[97, 98, 99, 100, 101, 102, 103]⟩, ⟨#[97, 98, 99, 100, 101, 102]⟩, ⟨#[97, 32, 98]⟩]
theorem pG {l : List Int} (hl : gM l) : Drw l 102 [] (fun v : TValue => valD v) (fun v => iO v) := by
 intro i h hi hh; refine mW Try.func102 rfl Try.call102 rfl (fun C b => ?_); simp only [go_sem, Try.ntmps102]
 refine aF ?_
 first | (refine aY (uP hl i h hi hh) ⟨rfl, rfl⟩ ?_ rfl ?_; (focus first | rfl | (simp only [go_sem]; done))) | (refine hZ (uP hl i h hi hh) ⟨rfl, rfl⟩ ?_ rfl ?_; (focus first | rfl | (simp only [go_sem]; done)))
 clear hi hh; rintro ⟨v, i, h⟩ ⟨hv, hi, hh⟩; simp only at hv hi hh; simp only [go_sem]
 refine aF ?_
 first | (refine aY (aH hl 10 (by decide) (by decide) i h hi hh) ⟨rfl, rfl⟩ ?_ rfl ?_; (focus first | rfl | (simp only [go_sem]; done))) | (refine hZ (aH hl 10 (by decide) (by decide) i h hi hh) ⟨rfl, rfl⟩ ?_ rfl ?_; (focus first | rfl | (simp only [go_sem]; done)))
 clear hi hh; rintro ⟨k, i, h⟩ ⟨hk, hi, hh⟩; simp only at hk hi hh; simp only [go_sem]
 have h3 : k = 0 ∨ k = 1 ∨ k = 2 ∨ (¬ k = 0 ∧ ¬ k = 1 ∧ ¬ k = 2) := by omega
 rcases h3 with rfl | rfl | rfl | ⟨k0, k1, k2⟩
 ·refine aF ?_
  first | (refine aY (aH hl 5 (by decide) (by decide) i h hi hh) ⟨rfl, rfl⟩ ?_ rfl ?_; (focus first | rfl | (simp only [go_sem]; done))) | (refine hZ (aH hl 5 (by decide) (by decide) i h hi hh) ⟨rfl, rfl⟩ ?_ rfl ?_; (focus first | rfl | (simp only [go_sem]; done)))
  clear hi hh; rintro ⟨x, i, h⟩ ⟨hx, hi, hh⟩; simp only at hx hi hh; simp only [go_sem]
  refine aF ?_
  exact aJ (⟨x - 1, v.fInt, v.fStr⟩, i, h) ⟨⟨_, rfl, by simp only [go_sem]⟩, trivial⟩ ⟨(show valD ⟨x - 1, v.fInt, v.fStr⟩ from ⟨hv.w, by simp only [inR]; omega, hv.n⟩), ⟨hi, hh⟩⟩ (by simp only [go_sem])
 ·refine aF ?_
  first | (refine aY (eP hl vi5 (by decide) (by decide) i h hi hh) ⟨rfl, rfl⟩ ?_ rfl ?_; (focus first | rfl | (simp only [go_sem]; done))) | (refine hZ (eP hl vi5 (by decide) (by decide) i h hi hh) ⟨rfl, rfl⟩ ?_ rfl ?_; (focus first | rfl | (simp only [go_sem]; done)))
  clear hi hh; rintro ⟨x, i, h⟩ ⟨hx, hi, hh⟩; simp only at hx hi hh; simp only [go_sem]
  have hx2 := (by decide : ∀ n ∈ vi5, -1 ≤ n ∧ n ≤ 9223372036854775807) x hx
  refine aF ?_
  exact aJ (⟨v.fKind, x, v.fStr⟩, i, h) ⟨⟨_, rfl, by simp only [go_sem]⟩, trivial⟩ ⟨(show valD ⟨v.fKind, x, v.fStr⟩ from ⟨hv.w, hv.k, by simp only [inR]; omega⟩), ⟨hi, hh⟩⟩ (by simp only [go_sem])
 ·refine aF ?_
  first | (refine aY (cB hl vs5 (by decide) (by decide) i h hi hh) ⟨rfl, rfl⟩ ?_ rfl ?_; (focus first | rfl | (simp only [go_sem]; done))) | (refine hZ (cB hl vs5 (by decide) (by decide) i h hi hh) ⟨rfl, rfl⟩ ?_ rfl ?_; (focus first | rfl | (simp only [go_sem]; done)))
  clear hi hh; rintro ⟨x, i, h⟩ ⟨hx, hi, hh⟩; simp only at hx hi hh; simp only [go_sem]
  have hx2 := (by decide +kernel : ∀ n ∈ vs5, n.size ≤ 7) x hx
  refine aF ?_
  exact aJ (⟨v.fKind, v.fInt, x⟩, i, h) ⟨⟨_, rfl, by simp only [go_sem]⟩, trivial⟩ ⟨(show valD ⟨v.fKind, v.fInt, x⟩ from ⟨hx2, hv.k, hv.n⟩), ⟨hi, hh⟩⟩ (by simp only [go_sem])
 ·have q0 := @k0; have q1 := @k1; have q2 := @k2; have q3 := @decide_false; refine kW ?_
  exact aJ (v, i, h) ⟨⟨_, rfl, by simp only [go_sem]⟩, trivial⟩ ⟨hv, ⟨hi, hh⟩⟩ (by simp only [go_sem])
structure fileA (f : TFile) : Prop where
 w : dM f ≤ 80
 wf : a2C f
theorem a4T {id : Int} {f : TFile} (h : fileD id f) (hi : inR .i64 id) : fileA f := by
 obtain ⟨h1, h2, _⟩ := a3e h
 have h3 := h.ow
 have h4 := h.lk
 exact ⟨by omega, by rw [h.id]; exact hi, by simp only [inR]; omega, trivial, by simp only [inR]; omega, h2⟩
@[go_sem] def fi4 : List Int := [0, 60, 61, -1]
@[go_sem] def fo3 : List Int := [-1, 2, 3]
@[go_sem] def fl4 : List Int := [-1, 60, 61, 9223372036854775807]
theorem a7H {f : TFile} (h : pJ f.fAttrs) (hl : f.fAttrs.length ≤ 100) {s : ByteArray} {v : TValue} (hs : w1 s) (hv : valD v) : pJ (f.fAttrs ++ [⟨s, v⟩]) := by
 unfold w1 at hs
 have := hv.w
 refine ⟨by simp; omega, fun y hy => ?_⟩
 rcases List.mem_append.1 hy with hy | hy
 ·exact h.2 y hy
 ·simp only [List.mem_singleton] at hy
  subst hy
  exact ⟨by simp only; omega, hv.k, hv.n, by simp only; omega⟩
theorem a7I {f : TFile} {s : ByteArray} {v : TValue} (hs : w1 s) (hv : valD v) (hw : dM f ≤ 40) : dM { f with fAttrs := f.fAttrs ++ [⟨s, v⟩] } ≤ 80 := by
 unfold w1 at hs
 have := hv.w
 unfold dM bF at hw ⊢
 rw [sS]
 simp only [List.length_append, List.length_cons, List.length_nil, dD, fQ, jC]
 omega
theorem pI {l : List Int} (hl : gM l) : Drw l 59 [] (fun f : TFile => fileA f) (fun f => pX f) := by
 intro i h hi hh; refine mW Try.func59 rfl Try.call59 rfl (fun C b => ?_); simp only [go_sem, Try.ntmps59]
 refine aF ?_
 first | (refine aY (aH hl 7 (by decide) (by decide) i h hi hh) ⟨rfl, rfl⟩ ?_ rfl ?_; (focus first | rfl | (simp only [go_sem]; done))) | (refine hZ (aH hl 7 (by decide) (by decide) i h hi hh) ⟨rfl, rfl⟩ ?_ rfl ?_; (focus first | rfl | (simp only [go_sem]; done)))
 clear hi hh; rintro ⟨fid, i, h⟩ ⟨hfid, hi, hh⟩; simp only at hfid hi hh; simp only [go_sem]
 refine aF ?_
 first | (refine aY (xC hl ((1 : Int) + fid) i h hi hh) ⟨rfl, rfl⟩ ?_ rfl ?_; (focus first | rfl | (simp only [go_sem]; done))) | (refine hZ (xC hl ((1 : Int) + fid) i h hi hh) ⟨rfl, rfl⟩ ?_ rfl ?_; (focus first | rfl | (simp only [go_sem]; done)))
 clear hi hh; rintro ⟨f, i, h⟩ ⟨hf, hi, hh⟩; simp only at hf hi hh; simp only [go_sem]
 have hfA := a4T hf (by simp only [inR]; omega)
 obtain ⟨hw, hwf, _⟩ := a3e hf
 have hlen : f.fAttrs.length ≤ 40 := by unfold dM bF at hw; omega
 have how := hf.ow
 have hlk := hf.lk
 clear hf
 refine aF ?_
 first | (refine aY (aH hl 14 (by decide) (by decide) i h hi hh) ⟨rfl, rfl⟩ ?_ rfl ?_; (focus first | rfl | (simp only [go_sem]; done))) | (refine hZ (aH hl 14 (by decide) (by decide) i h hi hh) ⟨rfl, rfl⟩ ?_ rfl ?_; (focus first | rfl | (simp only [go_sem]; done)))
 clear hi hh; rintro ⟨k, i, h⟩ ⟨hk, hi, hh⟩; simp only at hk hi hh; simp only [go_sem]
 have h5 : k = 0 ∨ k = 1 ∨ k = 2 ∨ k = 3 ∨ k = 4 ∨ (¬ k = 0 ∧ ¬ k = 1 ∧ ¬ k = 2 ∧ ¬ k = 3 ∧ ¬ k = 4) := by omega
 have q1 := hfA.wf.1
 have q2 := hfA.wf.2.1
 have q4 := hfA.wf.2.2.2.1
 rcases h5 with rfl | rfl | rfl | rfl | rfl | ⟨k0, k1, k2, k3, k4⟩
 ·refine aF ?_
  first | (refine aY (eP hl fi4 (by decide) (by decide) i h hi hh) ⟨rfl, rfl⟩ ?_ rfl ?_; (focus first | rfl | (simp only [go_sem]; done))) | (refine hZ (eP hl fi4 (by decide) (by decide) i h hi hh) ⟨rfl, rfl⟩ ?_ rfl ?_; (focus first | rfl | (simp only [go_sem]; done)))
  clear hi hh; rintro ⟨x, i, h⟩ ⟨hx, hi, hh⟩; simp only at hx hi hh; simp only [go_sem]
  have hx2 := (by decide : ∀ n ∈ fi4, -1 ≤ n ∧ n ≤ 61) x hx
  refine aF ?_
  exact aJ (⟨x, f.fOwner, f.fShared, f.fLink, f.fAttrs⟩, i, h) ⟨⟨_, rfl, by simp only [go_sem]⟩, trivial⟩ ⟨(show fileA ⟨x, f.fOwner, f.fShared, f.fLink, f.fAttrs⟩ from ⟨hfA.w, by simp only [inR]; omega, q2, trivial, q4, hwf⟩), ⟨hi, hh⟩⟩ (by simp only [go_sem])
 ·refine aF ?_
  first | (refine aY (eP hl fo3 (by decide) (by decide) i h hi hh) ⟨rfl, rfl⟩ ?_ rfl ?_; (focus first | rfl | (simp only [go_sem]; done))) | (refine hZ (eP hl fo3 (by decide) (by decide) i h hi hh) ⟨rfl, rfl⟩ ?_ rfl ?_; (focus first | rfl | (simp only [go_sem]; done)))
  clear hi hh; rintro ⟨x, i, h⟩ ⟨hx, hi, hh⟩; simp only at hx hi hh; simp only [go_sem]
  have hx2 := (by decide : ∀ n ∈ fo3, -1 ≤ n ∧ n ≤ 3) x hx
  refine aF ?_
  exact aJ (⟨f.fID, x, f.fShared, f.fLink, f.fAttrs⟩, i, h) ⟨⟨_, rfl, by simp only [go_sem]⟩, trivial⟩ ⟨(show fileA ⟨f.fID, x, f.fShared, f.fLink, f.fAttrs⟩ from ⟨hfA.w, q1, by simp only [inR]; omega, trivial, q4, hwf⟩), ⟨hi, hh⟩⟩ (by simp only [go_sem])
 ·refine aF ?_
  first | (refine aY (eP hl fl4 (by decide) (by decide) i h hi hh) ⟨rfl, rfl⟩ ?_ rfl ?_; (focus first | rfl | (simp only [go_sem]; done))) | (refine hZ (eP hl fl4 (by decide) (by decide) i h hi hh) ⟨rfl, rfl⟩ ?_ rfl ?_; (focus first | rfl | (simp only [go_sem]; done)))
  clear hi hh; rintro ⟨x, i, h⟩ ⟨hx, hi, hh⟩; simp only at hx hi hh; simp only [go_sem]
  have hx2 := (by decide : ∀ n ∈ fl4, -1 ≤ n ∧ n ≤ 9223372036854775807) x hx
  refine aF ?_
  exact aJ (⟨f.fID, f.fOwner, f.fShared, x, f.fAttrs⟩, i, h) ⟨⟨_, rfl, by simp only [go_sem]⟩, trivial⟩ ⟨(show fileA ⟨f.fID, f.fOwner, f.fShared, x, f.fAttrs⟩ from ⟨hfA.w, q1, q2, trivial, by simp only [inR]; omega, hwf⟩), ⟨hi, hh⟩⟩ (by simp only [go_sem])
 ·have hl1 : f.fAttrs.length + 1 ≤ 140737488355328 := by omega
  have hl2 : (f.fAttrs.length + 1) * 48 ≤ 140737488355328 := by omega
  have qH := aI @hl1 @hl2; repeat' (with_reducible first | refine nY ?_ | (refine mX ?_; try simp only [go_sem, qH]) | refine kD ?_ | (apply rF [3,5,7,8,10] [] [0,1,2,4] [0,1,2,4] ((.c 3 [] [0,1,4] (.c 5 [6] [0,1,6] (.c 7 [] [0,1] (.c 8 [9] [9] (.c 10 [] [] .n .n) .n) .n) .n) .n)) (by simp only [go_sem]; rfl) (by simp only [go_sem]; rfl) (by simp only [go_sem]; rfl) (by decide +kernel); (focus simp only [go_sem]; done)) | exact bP | refine aU (uX ?_) ?_ | refine aV (aX ?_) ?_ | refine aW (aX ?_) ?_ | exact bU | exact oH | exact uB | refine rD ?_ | refine aO ?_ | fail)
  first | (refine aY (xD hl i h hi hh) ⟨rfl, rfl⟩ ?_ rfl ?_; (focus first | rfl | (simp only [go_sem]; done))) | (refine hZ (xD hl i h hi hh) ⟨rfl, rfl⟩ ?_ rfl ?_; (focus first | rfl | (simp only [go_sem]; done)))
  clear hi hh; rintro ⟨nm, i, h⟩ ⟨hnm, hi, hh⟩; simp only at hnm hi hh; simp only [go_sem]
  have qH := aI @hl1 @hl2; repeat' (with_reducible first | refine nY ?_ | (refine mX ?_; try simp only [go_sem, qH]) | refine kD ?_ | exact bP | refine aU (uX ?_) ?_ | refine aV (aX ?_) ?_ | refine aW (aX ?_) ?_ | exact uB | refine rD ?_ | refine aO ?_ | fail)
  first | (refine aY (pG hl i h hi hh) ⟨rfl, rfl⟩ ?_ rfl ?_; (focus first | rfl | (simp only [go_sem]; done))) | (refine hZ (pG hl i h hi hh) ⟨rfl, rfl⟩ ?_ rfl ?_; (focus first | rfl | (simp only [go_sem]; done)))
  clear hi hh; rintro ⟨v, i, h⟩ ⟨hv, hi, hh⟩; simp only at hv hi hh; simp only [go_sem]
  have qH := aI @hl1 @hl2; repeat' (with_reducible first | refine nY ?_ | (refine mX ?_; try simp only [go_sem, qH]) | refine kD ?_ | exact bP | refine aU (uX ?_) ?_ | refine aV (aX ?_) ?_ | refine aW (aX ?_) ?_ | exact uB | refine rD ?_ | refine aO ?_ | fail)
  exact aJ ({ f with fAttrs := f.fAttrs ++ [⟨nm, v⟩] }, i, h) ⟨⟨_, rfl, by simp only [go_sem, List.map_append]⟩, trivial⟩ ⟨⟨a7I hnm hv hw, q1, q2, trivial, q4, a7H hwf (by omega) hnm hv⟩, ⟨hi, hh⟩⟩ (by simp only [go_sem])
 ·have hc := bI f ⟨#[97]⟩ ⟨2, 0, ⟨#[114, 101, 100]⟩⟩ (by omega)
  have hws := a5p ⟨#[97]⟩ ⟨2, 0, ⟨#[114, 101, 100]⟩⟩ f.fAttrs
  have e8 : fQ ⟨⟨#[97]⟩, ⟨2, 0, ⟨#[114, 101, 100]⟩⟩⟩ = 4 := by decide +kernel
  have hwf2 : pJ (kL ⟨#[97]⟩ ⟨2, 0, ⟨#[114, 101, 100]⟩⟩ f.fAttrs) := by
   have hsl := a5q ⟨#[97]⟩ ⟨2, 0, ⟨#[114, 101, 100]⟩⟩ f.fAttrs
   refine ⟨by omega, fun y hy => ?_⟩
   unfold kL dI at hy
   rw [if_neg (by decide)] at hy
   have hdel : ∀ z ∈ fC ⟨#[97]⟩ f.fAttrs, a2B z := fun z hz => hwf.2 z ((List.mem_filter.1 hz).1)
   rcases List.mem_append.1 hy with hy | hy
   ·exact hdel y (List.mem_of_mem_take hy)
   ·rcases List.mem_cons.1 hy with rfl | hy
    ·exact ⟨by decide, in2, in0, by decide⟩
    ·exact hdel y (List.mem_of_mem_drop hy)
  have qH := trivial; repeat' (with_reducible first | refine nY ?_ | (refine mX ?_; try simp only [go_sem]) | refine kD ?_ | (apply rF [1,2,3] [] [0] [0] ((.c 1 [] [0] (.c 2 [] [] (.c 3 [] [] .n .n) .n) .n)) (by simp only [go_sem]; rfl) (by simp only [go_sem]; rfl) (by simp only [go_sem]; rfl) (by decide +kernel); (focus simp only [go_sem]; done)) | exact bP | refine aU (uX ?_) ?_ | refine aV (aX ?_) ?_ | refine aW (aX ?_) ?_ | exact bU | exact oH | (refine uA ?_; simp only [go_sem]; (repeat' first | omega | refine And.intro ?_ ?_); done) | refine rD ?_ | refine cP (lT ⟨#[114, 101, 100]⟩) ?_ | refine hR hc ?_ | refine vR hc ?_ | refine vD hc ?_ | refine aO ?_ | fail)
  exact aJ (iT f ⟨#[97]⟩ ⟨2, 0, ⟨#[114, 101, 100]⟩⟩, i, h) ⟨⟨_, rfl, by simp only [go_sem]⟩, trivial⟩ ⟨(show fileA (iT f ⟨#[97]⟩ ⟨2, 0, ⟨#[114, 101, 100]⟩⟩) from ⟨by have h40 : bF f.fAttrs ≤ 40 := hw; unfold dM iT; simp only; omega, q1, q2, trivial, q4, hwf2⟩), ⟨hi, hh⟩⟩ (by simp only [go_sem])
 ·have q0 := @k0; have q1 := @k1; have q2 := @k2; have q3 := @k3; have q4 := @k4; have q5 := @decide_false; refine a8D ?_
  exact aJ (f, i, h) ⟨⟨_, rfl, by simp only [go_sem]⟩, trivial⟩ ⟨hfA, ⟨hi, hh⟩⟩ (by simp only [go_sem])
structure idsD (k : Nat) (x : List Int) : Prop where
 up : x.Pairwise (· < ·)
 lo : ∀ y ∈ x, 1 ≤ y ∧ y < k
 len : x.length < k
theorem a3T {k : Nat} {x : List Int} (h : idsD k x) : idsD (k + 1) x := ⟨h.up, fun y hy => by have := h.lo y hy; omega, by have := h.len; omega⟩
theorem a4U {k : Nat} {x : List Int} (hk : 1 ≤ k) (h : idsD k x) : idsD (k + 1) (x ++ [(k : Int)]) := by
 refine ⟨?_, fun y hy => ?_, by have := h.len; simp; omega⟩
 ·rw [List.pairwise_append]
  refine ⟨h.up, List.pairwise_singleton _ _, fun y hy z hz => ?_⟩
  simp only [List.mem_singleton] at hz
  subst hz
  exact (h.lo y hy).2
 ·rcases List.mem_append.1 hy with hy | hy
  ·have := h.lo y hy; omega
  ·simp only [List.mem_singleton] at hy; omega
theorem gW {l : List Int} (hl : gM l) : Drw l 125 [] (fun x : List Int => idsD 8 x) (fun x => .o (.w 3 1 (x.map iN))) := by
 intro i h hi hh; refine mW Try.func125 rfl Try.call125 rfl (fun C b => ?_); simp only [go_sem, Try.ntmps125]
 refine aF ?_
 refine eY (α := Nat × List Int × Nat × Int) (fun x => [(3, .o (.s 1)), (4, oi x.1), (12, .o .u), (5, .o .u)]) (fun x => [(0, .pin b 127 [.sl (l.map mV), iv x.2.2.1, iv x.2.2.2]), (1, .row 3 1 (x.2.1.map iN) true)]) (fun x => (1 ≤ x.1 ∧ x.1 ≤ 8 ∧ idsD x.1 x.2.1) ∧ (x.2.2.1 ≤ l.length ∧ inR .i64 x.2.2.2)) (fun x => 8 - x.1) (1, [], i, h) (fun _ => ?_) ?_ ?_ (fun x hx => ?_)
 ·simp only [go_sem]
 ·simp only [go_sem]; simp
 ·exact ⟨⟨Nat.le_refl _, by simp only; omega, List.Pairwise.nil, fun y hy => by simp at hy, by simp⟩, hi, hh⟩
 ·obtain ⟨k, x, i, h⟩ := x
  obtain ⟨⟨k1, k8, hx⟩, hi, hh⟩ := hx
  simp only at k1 k8 hx hi hh
  have hlen := hx.len
  have hl1 : x.length + 1 ≤ 140737488355328 := by omega
  have hl2 : (x.length + 1) * 8 ≤ 140737488355328 := by omega
  simp only [go_sem]
  refine aF ?_
  refine cnd rfl (fun hlt => ?_) (fun hlt => ?_)
  ·simp only [decide_eq_true_eq] at hlt
   refine aF ?_
   first | (refine aY (dV hl 2 (by decide) (by decide) i h hi hh) ⟨rfl, rfl⟩ ?_ rfl ?_; (focus first | rfl | (simp only [go_sem]; done))) | (refine hZ (dV hl 2 (by decide) (by decide) i h hi hh) ⟨rfl, rfl⟩ ?_ rfl ?_; (focus first | rfl | (simp only [go_sem]; done)))
   clear hi hh; rintro ⟨c1, i, h⟩ ⟨q1, hi, hh⟩; simp only at q1 hi hh; simp only [go_sem]
   cases c1
   ·refine aF ?_
    refine bE (k + 1, x, i, h) ?_ ?_ ?_
    ·simp only [go_sem]; simp
    ·exact ⟨⟨by simp only; omega, by simp only; omega, a3T hx⟩, hi, hh⟩
    ·simp only; omega
   ·have q0 := @hl1; have q1 := @hl2; refine jH ?_
    refine bE (k + 1, x ++ [(k : Int)], i, h) ?_ ?_ ?_
    ·simp only [go_sem]; simp [iN]
    ·exact ⟨⟨by simp only; omega, by simp only; omega, a4U k1 hx⟩, hi, hh⟩
    ·simp only; omega
  ·simp only [decide_eq_false_iff_not] at hlt
   have e : k = 8 := by omega
   subst e
   refine aF ?_
   exact aJ (x, i, h) ⟨⟨_, rfl, by simp only [go_sem]⟩, trivial⟩ ⟨hx, ⟨hi, hh⟩⟩ (by simp only [go_sem])
end Go.Proofs.Ytolgdibgnndoaaa
end
