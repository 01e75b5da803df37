/- Joined texts. -/
import Derived.Test.YtakopfjdmmnjcaaGreatDoorZ11
import Derived.Test.YtakopfjdmmnjcaaGreatDoorZ05
set_option linter.all false
section
set_option maxRecDepth 100000
set_option maxHeartbeats 4000000
namespace Go.Proofs.YtakopfjdmmnjcaaGreatDoor
open Go Go.Sx Go.RowKit Go.Proofs
theorem iN (n : TNode) (i : Nat) (hi : i ≤ 4300000) (hs : n.fValue.fStr.size ≤ 4300000) (hn : n.fName.size ≤ 4300000) : FnC Tryz.prog 179 [b0k n, oi i] (ob (bR n i)) := by
 refine ent Tryz.func179 rfl Tryz.call179 rfl (fun C => ?_); simp only [go_sem, st0, Tryz.ntmps179]
 repeat' (with_reducible first | refine nX ?_ | (refine mX ?_; try simp only [go_sem]) | refine kD ?_ | refine aO ?_ | fail)
 refine reg ?_
 repeat' (with_reducible first | refine nX ?_ | (refine mX ?_; try simp only [go_sem]) | refine kD ?_ | refine aO ?_ | fail)
 refine b2Q [(5, ob (vB n i))] [] ?_ ?_
 ·cases hl : inB n.fLeft 0 ((i : Int) - 1) <;> by_cases hp : 0 < (i : Int)
  all_goals
   refine reg ?_
   have qH := aI @hl (aI @hp (aI @decide_true @decide_false)); repeat' (with_reducible first | refine nX ?_ | (refine mX ?_; try simp only [go_sem, qH]) | refine kD ?_ | refine cP (bO n.fLeft 0 ((i : Int) - 1)) ?_ | refine aO ?_ | fail)
   exact a7j (by simp only [go_sem, vB, hl, hp, decide_true, decide_false, Bool.and_true, Bool.and_false]; simp) (by simp only [go_sem])
 simp only [go_sem]
 repeat' (with_reducible first | refine nX ?_ | (refine mX ?_; try simp only [go_sem]) | refine kD ?_ | refine aO ?_ | fail)
 refine b2Q [(6, ob (vB n i && a3p n i))] [] ?_ ?_
 ·cases hl : vB n i <;> cases hq : a3p n i
  all_goals
   refine reg ?_
   have qH := aI @hl @hq; repeat' (with_reducible first | refine nX ?_ | (refine mX ?_; try simp only [go_sem, qH]) | refine kD ?_ | refine cP ((bO n.fRight 0 ((i : Int) - 1) : FnC Tryz.prog _ _ (ob (a3p n i)))) ?_ | refine aO ?_ | fail)
   exact a7j (by simp only [go_sem, hl, hq, Bool.and_true, Bool.and_false]; simp) (by simp only [go_sem])
 simp only [go_sem]
 by_cases h1 : n.fOp = 1
 ·have hr : bR n i = (decide (n.fLeft = 0) && (decide (n.fRight = 0) && (decide (n.fName = ⟨#[]⟩) && (decide (n.fValue.fKind = 0) && (decide (n.fValue.fInt = 0) && decide (n.fValue.fStr = ⟨#[]⟩)))))) := by simp [bR, h1, jC, mW, eV, Bool.and_assoc]
  have q0 := @h1; have q1 := @decide_true; have q2 := @decide_false; refine jJ ?_
  exact aA ⟨⟨_, rfl, by simp only [go_sem, hr, bT]⟩, trivial⟩
 by_cases h2 : n.fOp = 2
 ·have hr : bR n i = (bS n.fName 1 && (decide (n.fLeft = 0) && (decide (n.fRight = 0) && (decide (n.fValue.fKind = 0) && (decide (n.fValue.fInt = 0) && decide (n.fValue.fStr = ⟨#[]⟩)))))) := by simp [bR, h2, jC, mW, eV, Bool.and_assoc]
  have q0 := @h1; have q1 := @h2; have q2 := @decide_true; have q3 := @decide_false; refine a2X (aN n.fName hn) ?_
  cases ht : bS n.fName 1
  ·rw [ht] at hr
   simp only [go_sem, ht]
   have q0 := @h1; have q1 := @h2; have q2 := @decide_true; have q3 := @decide_false; have q4 := @ht; refine uY ?_
   exact aA ⟨⟨_, rfl, by simp only [go_sem, hr, bT]⟩, trivial⟩
  rw [ht] at hr
  simp only [go_sem, ht]
  have q0 := @h1; have q1 := @h2; have q2 := @decide_true; have q3 := @decide_false; have q4 := @ht; refine a2d (aN n.fName hn) ?_
  exact aA ⟨⟨_, rfl, by simp only [go_sem, hr, bT]⟩, trivial⟩
 by_cases h3 : n.fOp = 3
 ·have hr : bR n i = (bS n.fName 1 && (fB n.fValue && (!decide (n.fValue.fKind = 0) && (decide (n.fLeft = 0) && decide (n.fRight = 0))))) := by simp [bR, h3, jC]
  have q0 := @h1; have q1 := @h2; have q2 := @h3; have q3 := @decide_true; have q4 := @decide_false; refine b1x (aN n.fName hn) (aU n.fValue hs) ?_
  cases ht : bS n.fName 1
  ·rw [ht] at hr
   simp only [go_sem, ht]
   have q0 := @h1; have q1 := @h2; have q2 := @h3; have q3 := @decide_true; have q4 := @decide_false; have q5 := @ht; refine a7n ?_
   exact aA ⟨⟨_, rfl, by simp only [go_sem, hr, bT]⟩, trivial⟩
  rw [ht] at hr
  simp only [go_sem, ht]
  have q0 := @h1; have q1 := @h2; have q2 := @h3; have q3 := @decide_true; have q4 := @decide_false; have q5 := @ht; refine a3V (aN n.fName hn) (aU n.fValue hs) ?_
  cases hv : fB n.fValue
  ·rw [hv] at hr
   simp only [go_sem, hv]
   have q0 := @h1; have q1 := @h2; have q2 := @h3; have q3 := @decide_true; have q4 := @decide_false; have q5 := @ht; have q6 := @hv; refine a7o ?_
   exact aA ⟨⟨_, rfl, by simp only [go_sem, hr, bT]⟩, trivial⟩
  rw [hv] at hr
  simp only [go_sem, hv]
  have q0 := @h1; have q1 := @h2; have q2 := @h3; have q3 := @decide_true; have q4 := @decide_false; have q5 := @ht; have q6 := @hv; refine b6s (aN n.fName hn) (aU n.fValue hs) ?_
  by_cases hk : n.fValue.fKind = 0
  ·simp only [hk, decide_true] at hr
   simp only [go_sem, hk, decide_true]
   have q0 := @h1; have q1 := @h2; have q2 := @h3; have q3 := @decide_true; have q4 := @decide_false; have q5 := @ht; have q6 := @hv; have q7 := @hk; refine a0Q ?_
   exact aA ⟨⟨_, rfl, by simp only [go_sem, hr, bT]⟩, trivial⟩
  simp only [hk, decide_false] at hr
  simp only [go_sem, hk, decide_false]
  have q0 := @h1; have q1 := @h2; have q2 := @h3; have q3 := @decide_true; have q4 := @decide_false; have q5 := @ht; have q6 := @hv; have q7 := @hk; refine b2V (aN n.fName hn) (aU n.fValue hs) ?_
  by_cases hL : n.fLeft = 0
  rotate_left
  ·simp only [hL, decide_false] at hr
   simp only [go_sem, hL, decide_false]
   have q0 := @h1; have q1 := @h2; have q2 := @h3; have q3 := @decide_true; have q4 := @decide_false; have q5 := @ht; have q6 := @hv; have q7 := @hk; have q8 := @hL; refine a0R ?_
   exact aA ⟨⟨_, rfl, by simp only [go_sem, hr, bT]⟩, trivial⟩
  simp only [hL, decide_true] at hr
  simp only [go_sem, hL, decide_true]
  have q0 := @h1; have q1 := @h2; have q2 := @h3; have q3 := @decide_true; have q4 := @decide_false; have q5 := @ht; have q6 := @hv; have q7 := @hk; have q8 := @hL; refine a7p (aN n.fName hn) (aU n.fValue hs) ?_
  exact aA ⟨⟨_, rfl, by simp only [go_sem, hr, bT]⟩, trivial⟩
 by_cases h4 : n.fOp = 4
 ·have hr : bR n i = (bS n.fName 1 && (fB n.fValue && (decide (n.fValue.fKind = 1) && (decide (n.fLeft = 0) && decide (n.fRight = 0))))) := by simp [bR, h4, jC]
  have q0 := @h1; have q1 := @h2; have q2 := @h3; have q3 := @h4; have q4 := @decide_true; have q5 := @decide_false; refine a3V (aN n.fName hn) (aU n.fValue hs) ?_
  cases ht : bS n.fName 1
  ·rw [ht] at hr
   simp only [go_sem, ht]
   have q0 := @h1; have q1 := @h2; have q2 := @h3; have q3 := @h4; have q4 := @decide_true; have q5 := @decide_false; have q6 := @ht; refine a7o ?_
   exact aA ⟨⟨_, rfl, by simp only [go_sem, hr, bT]⟩, trivial⟩
  rw [ht] at hr
  simp only [go_sem, ht]
  have q0 := @h1; have q1 := @h2; have q2 := @h3; have q3 := @h4; have q4 := @decide_true; have q5 := @decide_false; have q6 := @ht; refine b6s (aN n.fName hn) (aU n.fValue hs) ?_
  cases hv : fB n.fValue
  ·rw [hv] at hr
   simp only [go_sem, hv]
   have q0 := @h1; have q1 := @h2; have q2 := @h3; have q3 := @h4; have q4 := @decide_true; have q5 := @decide_false; have q6 := @ht; have q7 := @hv; refine a0Q ?_
   exact aA ⟨⟨_, rfl, by simp only [go_sem, hr, bT]⟩, trivial⟩
  rw [hv] at hr
  simp only [go_sem, hv]
  have q0 := @h1; have q1 := @h2; have q2 := @h3; have q3 := @h4; have q4 := @decide_true; have q5 := @decide_false; have q6 := @ht; have q7 := @hv; refine b2V (aN n.fName hn) (aU n.fValue hs) ?_
  by_cases hk : n.fValue.fKind = 1
  rotate_left
  ·simp only [hk, decide_false] at hr
   simp only [go_sem, hk, decide_false]
   have q0 := @h1; have q1 := @h2; have q2 := @h3; have q3 := @h4; have q4 := @decide_true; have q5 := @decide_false; have q6 := @ht; have q7 := @hv; have q8 := @hk; refine a0R ?_
   exact aA ⟨⟨_, rfl, by simp only [go_sem, hr, bT]⟩, trivial⟩
  simp only [hk, decide_true] at hr
  simp only [go_sem, hk, decide_true]
  have q0 := @h1; have q1 := @h2; have q2 := @h3; have q3 := @h4; have q4 := @decide_true; have q5 := @decide_false; have q6 := @ht; have q7 := @hv; have q8 := @hk; refine a7p (aN n.fName hn) (aU n.fValue hs) ?_
  by_cases hL : n.fLeft = 0
  rotate_left
  ·simp only [hL, decide_false] at hr
   simp only [go_sem, hL, decide_false]
   have q0 := @h1; have q1 := @h2; have q2 := @h3; have q3 := @h4; have q4 := @decide_true; have q5 := @decide_false; have q6 := @ht; have q7 := @hv; have q8 := @hk; have q9 := @hL; refine rW ?_
   exact aA ⟨⟨_, rfl, by simp only [go_sem, hr, bT]⟩, trivial⟩
  simp only [hL, decide_true] at hr
  simp only [go_sem, hL, decide_true]
  have q0 := @h1; have q1 := @h2; have q2 := @h3; have q3 := @h4; have q4 := @decide_true; have q5 := @decide_false; have q6 := @ht; have q7 := @hv; have q8 := @hk; have q9 := @hL; refine a4G (aN n.fName hn) (aU n.fValue hs) ?_
  exact aA ⟨⟨_, rfl, by simp only [go_sem, hr, bT]⟩, trivial⟩
 by_cases h5 : n.fOp = 5
 ·have hr : bR n i = (vB n i && (decide (n.fRight = 0) && (decide (n.fName = ⟨#[]⟩) && (decide (n.fValue.fKind = 0) && (decide (n.fValue.fInt = 0) && decide (n.fValue.fStr = ⟨#[]⟩)))))) := by simp [bR, h5, mW, eV]
  have q0 := @h1; have q1 := @h2; have q2 := @h3; have q3 := @h4; have q4 := @h5; have q5 := @decide_true; have q6 := @decide_false; refine a7o ?_
  cases hk : vB n i
  ·rw [hk] at hr
   simp only [go_sem, hk]
   have q0 := @h1; have q1 := @h2; have q2 := @h3; have q3 := @h4; have q4 := @h5; have q5 := @decide_true; have q6 := @decide_false; have q7 := @hk; refine a0Q ?_
   exact aA ⟨⟨_, rfl, by simp only [go_sem, hr, bT]⟩, trivial⟩
  rw [hk] at hr
  simp only [go_sem, hk]
  have q0 := @h1; have q1 := @h2; have q2 := @h3; have q3 := @h4; have q4 := @h5; have q5 := @decide_true; have q6 := @decide_false; have q7 := @hk; refine a0Q ?_
  by_cases hR : n.fRight = 0
  rotate_left
  ·simp only [hR, decide_false] at hr
   simp only [go_sem, hR, decide_false]
   have q0 := @h1; have q1 := @h2; have q2 := @h3; have q3 := @h4; have q4 := @h5; have q5 := @decide_true; have q6 := @decide_false; have q7 := @hk; have q8 := @hR; refine a0R ?_
   exact aA ⟨⟨_, rfl, by simp only [go_sem, hr, bT]⟩, trivial⟩
  simp only [hR, decide_true] at hr
  simp only [go_sem, hR, decide_true]
  have q0 := @h1; have q1 := @h2; have q2 := @h3; have q3 := @h4; have q4 := @h5; have q5 := @decide_true; have q6 := @decide_false; have q7 := @hk; have q8 := @hR; refine a0R ?_
  by_cases hN : n.fName = ⟨#[]⟩
  rotate_left
  ·simp only [hN, decide_false] at hr
   simp only [go_sem, hN, decide_false]
   have q0 := @h1; have q1 := @h2; have q2 := @h3; have q3 := @h4; have q4 := @h5; have q5 := @decide_true; have q6 := @decide_false; have q7 := @hk; have q8 := @hR; have q9 := @hN; refine rW ?_
   exact aA ⟨⟨_, rfl, by simp only [go_sem, hr, bT]⟩, trivial⟩
  simp only [hN, decide_true] at hr
  simp only [go_sem, hN, decide_true]
  have q0 := @h1; have q1 := @h2; have q2 := @h3; have q3 := @h4; have q4 := @h5; have q5 := @decide_true; have q6 := @decide_false; have q7 := @hk; have q8 := @hR; have q9 := @hN; refine rW ?_
  exact aA ⟨⟨_, rfl, by simp only [go_sem, hr, bT]⟩, trivial⟩
 by_cases h6 : n.fOp = 6
 ·have hr : bR n i = ((vB n i && a3p n i) && (decide (n.fName = ⟨#[]⟩) && (decide (n.fValue.fKind = 0) && (decide (n.fValue.fInt = 0) && decide (n.fValue.fStr = ⟨#[]⟩))))) := by simp [bR, h6, mW, eV, Bool.and_assoc]
  have q0 := @h1; have q1 := @h2; have q2 := @h3; have q3 := @h4; have q4 := @h5; have q5 := @h6; have q6 := @decide_true; have q7 := @decide_false; refine a0Q ?_
  cases hk : (vB n i && a3p n i)
  ·rw [hk] at hr
   simp only [go_sem, hk]
   have q0 := @h1; have q1 := @h2; have q2 := @h3; have q3 := @h4; have q4 := @h5; have q5 := @h6; have q6 := @decide_true; have q7 := @decide_false; have q8 := @hk; refine a0R ?_
   exact aA ⟨⟨_, rfl, by simp only [go_sem, hr, bT]⟩, trivial⟩
  rw [hk] at hr
  simp only [go_sem, hk]
  have q0 := @h1; have q1 := @h2; have q2 := @h3; have q3 := @h4; have q4 := @h5; have q5 := @h6; have q6 := @decide_true; have q7 := @decide_false; have q8 := @hk; refine a0R ?_
  by_cases hN : n.fName = ⟨#[]⟩
  rotate_left
  ·simp only [hN, decide_false] at hr
   simp only [go_sem, hN, decide_false]
   have q0 := @h1; have q1 := @h2; have q2 := @h3; have q3 := @h4; have q4 := @h5; have q5 := @h6; have q6 := @decide_true; have q7 := @decide_false; have q8 := @hk; have q9 := @hN; refine rW ?_
   exact aA ⟨⟨_, rfl, by simp only [go_sem, hr, bT]⟩, trivial⟩
  simp only [hN, decide_true] at hr
  simp only [go_sem, hN, decide_true]
  have q0 := @h1; have q1 := @h2; have q2 := @h3; have q3 := @h4; have q4 := @h5; have q5 := @h6; have q6 := @decide_true; have q7 := @decide_false; have q8 := @hk; have q9 := @hN; refine rW ?_
  exact aA ⟨⟨_, rfl, by simp only [go_sem, hr, bT]⟩, trivial⟩
 by_cases h7 : n.fOp = 7
 ·have hr : bR n i = ((vB n i && a3p n i) && (decide (n.fName = ⟨#[]⟩) && (decide (n.fValue.fKind = 0) && (decide (n.fValue.fInt = 0) && decide (n.fValue.fStr = ⟨#[]⟩))))) := by simp [bR, h7, mW, eV, Bool.and_assoc]
  have q0 := @h1; have q1 := @h2; have q2 := @h3; have q3 := @h4; have q4 := @h5; have q5 := @h6; have q6 := @h7; have q7 := @decide_true; have q8 := @decide_false; refine a0R ?_
  cases hk : (vB n i && a3p n i)
  ·rw [hk] at hr
   simp only [go_sem, hk]
   have q0 := @h1; have q1 := @h2; have q2 := @h3; have q3 := @h4; have q4 := @h5; have q5 := @h6; have q6 := @h7; have q7 := @decide_true; have q8 := @decide_false; have q9 := @hk; refine rW ?_
   exact aA ⟨⟨_, rfl, by simp only [go_sem, hr, bT]⟩, trivial⟩
  rw [hk] at hr
  simp only [go_sem, hk]
  have q0 := @h1; have q1 := @h2; have q2 := @h3; have q3 := @h4; have q4 := @h5; have q5 := @h6; have q6 := @h7; have q7 := @decide_true; have q8 := @decide_false; have q9 := @hk; refine rW ?_
  by_cases hN : n.fName = ⟨#[]⟩
  rotate_left
  ·simp only [hN, decide_false] at hr
   simp only [go_sem, hN, decide_false]
   have qH := aI @h1 (aI @h2 (aI @h3 (aI @h4 (aI @h5 (aI @h6 (aI @h7 (aI @decide_true (aI @decide_false (aI @hk @hN))))))))); repeat' (with_reducible first | refine nY ?_ | (refine mX ?_; try simp only [go_sem, qH]) | refine kD ?_ | refine aO ?_ | fail)
   exact aA ⟨⟨_, rfl, by simp only [go_sem, hr, bT]⟩, trivial⟩
  simp only [hN, decide_true] at hr
  simp only [go_sem, hN, decide_true]
  have qH := aI @h1 (aI @h2 (aI @h3 (aI @h4 (aI @h5 (aI @h6 (aI @h7 (aI @decide_true (aI @decide_false (aI @hk @hN))))))))); repeat' (with_reducible first | refine nY ?_ | (refine mX ?_; try simp only [go_sem, qH]) | refine kD ?_ | refine aO ?_ | fail)
  exact aA ⟨⟨_, rfl, by simp only [go_sem, hr, bT]⟩, trivial⟩
 by_cases h8 : n.fOp = 8
 ·have hr : bR n i = (bS n.fName 6 && (decide (n.fLeft = 0) && (decide (n.fRight = 0) && (decide (n.fValue.fKind = 0) && (decide (n.fValue.fInt = 0) && decide (n.fValue.fStr = ⟨#[]⟩)))))) := by simp [bR, h8, jC, eV, Bool.and_assoc]
  have q0 := @h1; have q1 := @h2; have q2 := @h3; have q3 := @h4; have q4 := @h5; have q5 := @h6; have q6 := @h7; have q7 := @h8; have q8 := @decide_true; have q9 := @decide_false; refine b0j (bK n.fName hn) ?_
  cases ht : bS n.fName 6
  ·rw [ht] at hr
   simp only [go_sem, ht]
   have qH := aI @h1 (aI @h2 (aI @h3 (aI @h4 (aI @h5 (aI @h6 (aI @h7 (aI @h8 (aI @decide_true (aI @decide_false @ht))))))))); repeat' (with_reducible first | refine nY ?_ | (refine mX ?_; try simp only [go_sem, qH]) | refine kD ?_ | refine aO ?_ | fail)
   exact aA ⟨⟨_, rfl, by simp only [go_sem, hr, bT]⟩, trivial⟩
  rw [ht] at hr
  simp only [go_sem, ht]
  have qH := aI @h1 (aI @h2 (aI @h3 (aI @h4 (aI @h5 (aI @h6 (aI @h7 (aI @h8 (aI @decide_true (aI @decide_false @ht))))))))); repeat' (with_reducible first | refine nY ?_ | (refine mX ?_; try simp only [go_sem, qH]) | refine kD ?_ | refine cP (bK n.fName hn) ?_ | refine aO ?_ | fail)
  exact aA ⟨⟨_, rfl, by simp only [go_sem, hr, bT]⟩, trivial⟩
 by_cases h9 : n.fOp = 9
 ·have hr : bR n i = (bS n.fName 6 && (decide (n.fLeft = 0) && (decide (n.fRight = 0) && (decide (n.fValue.fKind = 0) && (decide (n.fValue.fInt = 0) && decide (n.fValue.fStr = ⟨#[]⟩)))))) := by simp [bR, h9, jC, eV, Bool.and_assoc]
  have qH := aI @h1 (aI @h2 (aI @h3 (aI @h4 (aI @h5 (aI @h6 (aI @h7 (aI @h8 (aI @h9 (aI @decide_true @decide_false))))))))); repeat' (with_reducible first | refine nY ?_ | (refine mX ?_; try simp only [go_sem, qH]) | refine kD ?_ | refine cP (bK n.fName hn) ?_ | refine aO ?_ | fail)
  cases ht : bS n.fName 6
  ·rw [ht] at hr
   simp only [go_sem, ht]
   have qH := aI @h1 (aI @h2 (aI @h3 (aI @h4 (aI @h5 (aI @h6 (aI @h7 (aI @h8 (aI @h9 (aI @decide_true (aI @decide_false @ht)))))))))); repeat' (with_reducible first | refine nY ?_ | (refine mX ?_; try simp only [go_sem, qH]) | refine kD ?_ | refine aO ?_ | fail)
   exact aA ⟨⟨_, rfl, by simp only [go_sem, hr, bT]⟩, trivial⟩
  rw [ht] at hr
  simp only [go_sem, ht]
  have qH := aI @h1 (aI @h2 (aI @h3 (aI @h4 (aI @h5 (aI @h6 (aI @h7 (aI @h8 (aI @h9 (aI @decide_true (aI @decide_false @ht)))))))))); repeat' (with_reducible first | refine nY ?_ | (refine mX ?_; try simp only [go_sem, qH]) | refine kD ?_ | refine cP (bK n.fName hn) ?_ | refine aO ?_ | fail)
  exact aA ⟨⟨_, rfl, by simp only [go_sem, hr, bT]⟩, trivial⟩
 have hr : bR n i = false := by simp [bR, h1, h2, h3, h4, h5, h6, h7, h8, h9]
 have qH := aI @h1 (aI @h2 (aI @h3 (aI @h4 (aI @h5 (aI @h6 (aI @h7 (aI @h8 (aI @h9 (aI @decide_true @decide_false))))))))); repeat' (with_reducible first | refine nY ?_ | (refine mX ?_; try simp only [go_sem, qH]) | refine kD ?_ | refine aO ?_ | fail)
 exact aA ⟨⟨_, rfl, by simp only [go_sem, hr]⟩, trivial⟩
theorem b0B (q : List TNode) (i : Nat) (h : i < q.length) : a3q q i = (bR q[i] i && (decide (q.length ≤ i + 1) || decide (refs q i = 1))) := by
 unfold a3q; rw [List.getElem?_eq_getElem h]
theorem cK (q : List TNode) (hl : eU q ≤ 4300000) : FnC Tryz.prog 156 [.o (.d (.sl (q.map bN)))] (ob (okQ q)) := by
 unfold eU at hl
 refine ent Tryz.func156 rfl Tryz.call156 rfl (fun C => ?_); simp only [go_sem, st0, Tryz.ntmps156]
 refine aD ?_
 refine aY (α := Nat) (fun k => [(7, oi k)]) (fun _ => []) (fun k => k ≤ q.length ∧ (List.range q.length).all (a3q q) = ((List.range q.length).drop k).all (a3q q)) (fun k => q.length - k) 0 (fun _ => ?_) ?_ ?_ (fun k hk => ?_)
 ·simp only [go_sem]
 ·simp only [go_sem]; simp
 ·simp
 ·obtain ⟨hk, hq⟩ := hk
  simp only [go_sem]
  refine aD ?_
  refine cnd rfl (fun h => ?_) (fun h => ?_)
  ·simp only [decide_eq_true_eq, Int.ofNat_lt] at h
   have h' : k < (List.range q.length).length := by simpa using h
   have hd := List.drop_eq_getElem_cons h'
   rw [hd, List.all_cons, List.getElem_range, b0B q k h] at hq
   have hw := dF zY q h
   have hw1 : q[k].fName.size + q[k].fValue.fStr.size ≤ zY q[k] := by unfold zY iL; omega
   cases hn : bR q[k] k
   ·rw [hn] at hq
    have hf : okQ q = false := by unfold okQ; rw [hq]; simp
    have q0 := @h; have q1 := @hn; refine a2W (iM q[k] k (by omega) (by omega) (by omega)) ?_
    exact aA ⟨⟨_, rfl, by simp only [go_sem, hf]⟩, trivial⟩
   by_cases he : (k : Int) < (q.length : Int) - 1
   ·have he2 : ¬ q.length ≤ k + 1 := by omega
    by_cases hc : (refs q k : Int) = 1
    ·have hc2 : refs q k = 1 := by omega
     have q0 := @h; have q1 := @hn; have q2 := @he; have q3 := @hc; have q4 := @decide_true; have q5 := @decide_false; refine a3V (iM q[k] k (by omega) (by omega) (by omega)) (uC q k (by omega)) ?_
     refine aF (k + 1) ?_ ?_ ?_
     ·simp only [go_sem]; simp
     ·refine ⟨h, ?_⟩
      rw [hq, hn]; simp [hc2]
     ·omega
    ·have hc2 : ¬ refs q k = 1 := by omega
     have hf : okQ q = false := by unfold okQ; rw [hq, hn]; simp [hc2, he2]
     have q0 := @h; have q1 := @hn; have q2 := @he; have q3 := @hc; have q4 := @decide_true; have q5 := @decide_false; refine a3V (iM q[k] k (by omega) (by omega) (by omega)) (uC q k (by omega)) ?_
     exact aA ⟨⟨_, rfl, by simp only [go_sem, hf]⟩, trivial⟩
   ·have he2 : q.length ≤ k + 1 := by omega
    have q0 := @h; have q1 := @hn; have q2 := @he; have q3 := @decide_true; have q4 := @decide_false; refine b1x (iM q[k] k (by omega) (by omega) (by omega)) (uC q k (by omega)) ?_
    refine aF (k + 1) ?_ ?_ ?_
    ·simp only [go_sem]; simp
    ·refine ⟨h, ?_⟩
     rw [hq, hn]; simp [he2]
    ·omega
  ·simp only [decide_eq_false_iff_not] at h
   have e : k = q.length := by omega
   have hq' : (List.range q.length).all (a3q q) = true := by
    rw [hq, List.drop_of_length_le (by simp [e])]; rfl
   refine iE (aP q.length 1 9) ?_
   exact aA ⟨⟨_, rfl, by simp only [go_sem, okQ, hq', Bool.true_and]⟩, trivial⟩
theorem dI (q : List TNode) (hl : eU q ≤ 4300000) : FnC Tryz.prog 160 [.o (.d (.sl (q.map bN)))] (ob (okQ q)) := by
 unfold eU at hl
 refine ent Tryz.func160 rfl Tryz.call160 rfl (fun C => ?_); simp only [go_sem, st0, Tryz.ntmps160]
 refine aD ?_
 refine aY (α := Nat) (fun k => [(3, oi k)]) (fun _ => []) (fun k => k ≤ q.length ∧ (List.range q.length).all (a3q q) = ((List.range q.length).drop k).all (a3q q)) (fun k => q.length - k) 0 (fun _ => ?_) ?_ ?_ (fun k hk => ?_)
 ·simp only [go_sem]
 ·simp only [go_sem]; simp
 ·simp
 ·obtain ⟨hk, hq⟩ := hk
  simp only [go_sem]
  refine aD ?_
  refine cnd rfl (fun h => ?_) (fun h => ?_)
  ·simp only [decide_eq_true_eq, Int.ofNat_lt] at h
   have h' : k < (List.range q.length).length := by simpa using h
   have hd := List.drop_eq_getElem_cons h'
   rw [hd, List.all_cons, List.getElem_range, b0B q k h] at hq
   have hw := dF zY q h
   have hw1 : q[k].fName.size + q[k].fValue.fStr.size ≤ zY q[k] := by unfold zY iL; omega
   cases hn : bR q[k] k
   ·rw [hn] at hq
    have hf : okQ q = false := by unfold okQ; rw [hq]; simp
    have q0 := @h; have q1 := @hn; refine a2W (iN q[k] k (by omega) (by omega) (by omega)) ?_
    exact aA ⟨⟨_, rfl, by simp only [go_sem, hf]⟩, trivial⟩
   by_cases he : (k : Int) < (q.length : Int) - 1
   ·have he2 : ¬ q.length ≤ k + 1 := by omega
    by_cases hc : (refs q k : Int) = 1
    ·have hc2 : refs q k = 1 := by omega
     have q0 := @h; have q1 := @hn; have q2 := @he; have q3 := @hc; have q4 := @decide_true; have q5 := @decide_false; refine a3V (iN q[k] k (by omega) (by omega) (by omega)) (uE q k (by omega)) ?_
     refine aF (k + 1) ?_ ?_ ?_
     ·simp only [go_sem]; simp
     ·refine ⟨h, ?_⟩
      rw [hq, hn]; simp [hc2]
     ·omega
    ·have hc2 : ¬ refs q k = 1 := by omega
     have hf : okQ q = false := by unfold okQ; rw [hq, hn]; simp [hc2, he2]
     have q0 := @h; have q1 := @hn; have q2 := @he; have q3 := @hc; have q4 := @decide_true; have q5 := @decide_false; refine a3V (iN q[k] k (by omega) (by omega) (by omega)) (uE q k (by omega)) ?_
     exact aA ⟨⟨_, rfl, by simp only [go_sem, hf]⟩, trivial⟩
   ·have he2 : q.length ≤ k + 1 := by omega
    have q0 := @h; have q1 := @hn; have q2 := @he; have q3 := @decide_true; have q4 := @decide_false; refine b1x (iN q[k] k (by omega) (by omega) (by omega)) (uE q k (by omega)) ?_
    refine aF (k + 1) ?_ ?_ ?_
    ·simp only [go_sem]; simp
    ·refine ⟨h, ?_⟩
     rw [hq, hn]; simp [he2]
    ·omega
  ·simp only [decide_eq_false_iff_not] at h
   have e : k = q.length := by omega
   have hq' : (List.range q.length).all (a3q q) = true := by
    rw [hq, List.drop_of_length_le (by simp [e])]; rfl
   refine iE (bO q.length 1 9) ?_
   exact aA ⟨⟨_, rfl, by simp only [go_sem, okQ, hq', Bool.true_and]⟩, trivial⟩
end Go.Proofs.YtakopfjdmmnjcaaGreatDoor
end
