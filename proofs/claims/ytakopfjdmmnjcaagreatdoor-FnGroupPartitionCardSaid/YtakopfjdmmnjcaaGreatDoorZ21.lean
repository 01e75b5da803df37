/- Joined texts. -/
import Derived.Test.YtakopfjdmmnjcaaGreatDoorZ11
import Derived.Test.YtakopfjdmmnjcaaGreatDoorZ20
import Derived.Test.YtakopfjdmmnjcaaGreatDoorZ09
import Derived.Test.YtakopfjdmmnjcaaGreatDoorZ14
import Derived.Test.YtakopfjdmmnjcaaGreatDoorZ18
import Derived.Test.YtakopfjdmmnjcaaGreatDoorZ19
import Derived.Test.YtakopfjdmmnjcaaGreatDoorZ15
import Derived.Test.YtakopfjdmmnjcaaGreatDoorZ07
set_option linter.all false
section
set_option maxRecDepth 100000
set_option maxHeartbeats 4000000
namespace Go.Proofs.YtakopfjdmmnjcaaGreatDoor
open Go Go.Sx Go.RowKit Go.Proofs
theorem uM (s : ByteArray) : ∀ l : List TResult, (bP s l).length ≤ bL l
 | [] => by simp [bP]
 | x :: l => by
  have := uM s l
  unfold bP
  simp only [bL, bG, List.length_cons] at this ⊢
  split
  ·unfold jY; omega
  ·omega
theorem lC (l : List TResult) (s : ByteArray) (hl : bL l ≤ 67108864) : FnC Tryz.prog 72 [.o (.d (.sl (l.map bD))), os s] (.o (.d (.sl ((bP s l).map eZ)))) := (xX l s hl).pu (by simp only [go_sem, and_self])
theorem lD (l : List TResult) (s : ByteArray) (hl : bL l ≤ 67108864) : FnC Tryz.prog 75 [.o (.d (.sl (l.map bD))), os s] (.o (.d (.sl ((bP s l).map eZ)))) := (a4h l s hl).pu (by simp only [go_sem, and_self])
def b3U (v : TValue) : Int := if v.fKind = 1 then v.fInt else 0
theorem wN (f : TFile) (s : ByteArray) (hf : bV f ≤ 4300000) : FnC Tryz.prog 177 [jQ f, os s] (.t [(false, [.d (iv (b3U (getAttr s f.fAttrs)))]), (false, [.d (bv (decide ((getAttr s f.fAttrs).fKind = 1)))])]) := by
 refine ent Tryz.func177 rfl Tryz.call177 rfl (fun C => ?_); simp only [go_sem, st0, Tryz.ntmps177]
 by_cases h : (getAttr s f.fAttrs).fKind = 1
 ·have q0 := @h; have q1 := @decide_true; have q2 := @decide_false; refine rV (jD f s hf) ?_
  exact aA ⟨⟨_, rfl, by simp only [go_sem, b3U, h, if_true, decide_true]⟩, by simp [cO]⟩
 ·have q0 := @h; have q1 := @decide_true; have q2 := @decide_false; refine rV (jD f s hf) ?_
  exact aA ⟨⟨_, rfl, by simp only [go_sem, b3U, h, if_false, decide_false]⟩, by simp [cO]⟩
theorem a6z (q : List TNode) (f : TFile) (r : List TResult) (hv : okQ q = true) (hf : bV f ≤ 4300000) (hr : bL r ≤ 67108864) : ∀ k i, i < k → k ≤ q.length → FnC Tryz.prog 159 [.o (.d (.sl (q.map bN))), oi (i : Nat), jQ f, .o (.d (.sl (r.map bD)))] (ob (mt q f r k i)) := by
 intro k
 induction k with
 | zero => intro i hi _; omega
 | succ k ih => ?_
 intro i hi hk
 have hlt : i < q.length := by omega
 have hn := List.getElem?_eq_getElem hlt
 have hok := yP hv hn
 have hop := rZ hok
 refine ent Tryz.func159 rfl Tryz.call159 rfl (fun C => ?_); simp only [go_sem, st0, Tryz.ntmps159]
 by_cases h2 : q[i].fOp = 2
 ·have hm : mt q f r (k + 1) i = !decide ((getAttr q[i].fName f.fAttrs).fKind = 0) := by simp [mt, hn, h2]
  have q0 := @hlt; have q1 := @h2; have q2 := @decide_true; refine rV (jD f q[i].fName hf) ?_
  exact aA ⟨⟨_, rfl, by simp only [go_sem, hm, decide_not]⟩, trivial⟩
 by_cases h3 : q[i].fOp = 3
 ·have hm : mt q f r (k + 1) i = xQ (getAttr q[i].fName f.fAttrs) q[i].fValue := by simp [mt, hn, h3]
  have q0 := @hlt; have q1 := @h2; have q2 := @h3; have q3 := @decide_true; have q4 := @decide_false; refine a2d (jD f q[i].fName hf) ?_
  exact aA ⟨⟨_, rfl, by simp only [go_sem, hm, xQ]⟩, trivial⟩
 by_cases h4 : q[i].fOp = 4
 ·have hm : mt q f r (k + 1) i = a3o (getAttr q[i].fName f.fAttrs) q[i].fValue.fInt := by simp [mt, hn, h4]
  by_cases hj : (getAttr q[i].fName f.fAttrs).fKind = 1
  ·repeat' (with_reducible first | refine nY ?_ | (refine mX ?_; try simp only [go_sem, hlt, h2, h3, h4, decide_true, decide_false, hj, b3U, if_true]) | refine kO ?_ (by decide) | refine regd (by kernel_rfl) ?_ | (refine cC (wN f q[i].fName hf) ?_ ?_; focus simp only [go_sem, and_self]; done) | (refine And.intro ?_ ?_; focus omega))
   exact aA ⟨⟨_, rfl, by simp only [go_sem, hm, a3o, hj, decide_true, Bool.true_and]⟩, trivial⟩
  ·repeat' (with_reducible first | refine nY ?_ | (refine mX ?_; try simp only [go_sem, hlt, h2, h3, h4, decide_true, decide_false, hj, b3U, if_false]) | refine kO ?_ (by decide) | refine regd (by kernel_rfl) ?_ | (refine cC (wN f q[i].fName hf) ?_ ?_; focus simp only [go_sem, and_self]; done) | (refine And.intro ?_ ?_; focus omega))
   exact aA ⟨⟨_, rfl, by simp only [go_sem, hm, a3o, hj, decide_false, Bool.false_and]⟩, trivial⟩
 by_cases h5 : q[i].fOp = 5
 ·obtain ⟨l, hl, hli⟩ := dU hok (.inl h5)
  have hm : mt q f r (k + 1) i = !mt q f r k l := by simp [mt, hn, h5, hl]
  have q0 := @hlt; have q1 := @h2; have q2 := @h3; have q3 := @h4; have q4 := @h5; have q5 := @decide_true; have q6 := @decide_false; have q7 := @hl; refine a2Z (ih l (by omega) (by omega)) ?_
  exact aA ⟨⟨_, rfl, by simp only [go_sem, hm]⟩, trivial⟩
 by_cases h6 : q[i].fOp = 6
 ·obtain ⟨l, hl, hli⟩ := dU hok (.inr (.inl h6))
  obtain ⟨m, hr2, hmi⟩ := fU hok (.inl h6)
  have hm : mt q f r (k + 1) i = (mt q f r k l && mt q f r k m) := by simp [mt, hn, h6, hl, hr2]
  cases hx : mt q f r k l
  all_goals
   have qH := aI @hlt (aI @h2 (aI @h3 (aI @h4 (aI @h5 (aI @h6 (aI @decide_true (aI @decide_false (aI @hl (aI @hr2 @hx))))))))); repeat' (with_reducible first | refine nY ?_ | (refine mX ?_; try simp only [go_sem, qH]) | refine kD ?_ | refine rD ?_ | refine cP (ih l (by omega) (by omega)) ?_ | refine cP (ih m (by omega) (by omega)) ?_ | refine aO ?_ | fail)
   exact aA ⟨⟨_, rfl, by simp only [go_sem, hm, hx, Bool.true_and, Bool.false_and]⟩, trivial⟩
 by_cases h7 : q[i].fOp = 7
 ·obtain ⟨l, hl, hli⟩ := dU hok (.inr (.inr h7))
  obtain ⟨m, hr2, hmi⟩ := fU hok (.inr h7)
  have hm : mt q f r (k + 1) i = (mt q f r k l || mt q f r k m) := by simp [mt, hn, h7, hl, hr2]
  cases hx : mt q f r k l
  all_goals
   have qH := aI @hlt (aI @h2 (aI @h3 (aI @h4 (aI @h5 (aI @h6 (aI @h7 (aI @decide_true (aI @decide_false (aI @hl (aI @hr2 @hx)))))))))); repeat' (with_reducible first | refine nY ?_ | (refine mX ?_; try simp only [go_sem, qH]) | refine kD ?_ | refine rD ?_ | refine cP (ih l (by omega) (by omega)) ?_ | refine cP (ih m (by omega) (by omega)) ?_ | refine aO ?_ | fail)
   exact aA ⟨⟨_, rfl, by simp only [go_sem, hm, hx, Bool.true_or, Bool.false_or]⟩, trivial⟩
 have hrl := uM q[i].fName r
 by_cases h8 : q[i].fOp = 8
 ·have hm : mt q f r (k + 1) i = hasI (bP q[i].fName r) f.fID := by simp [mt, hn, h8]
  have q0 := @hlt; have q1 := @h2; have q2 := @h3; have q3 := @h4; have q4 := @h5; have q5 := @h6; have q6 := @h7; have q7 := @h8; have q8 := @decide_true; have q9 := @decide_false; refine a4G (lC r q[i].fName hr) (kY (bP q[i].fName r) f.fID (by omega)) ?_
  exact aA ⟨⟨_, rfl, by simp only [go_sem, hm]⟩, trivial⟩
 by_cases h9 : q[i].fOp = 9
 ·have hm : mt q f r (k + 1) i = (!decide (f.fLink = 0) && hasI (bP q[i].fName r) f.fLink) := by simp [mt, hn, h9]
  by_cases hz : f.fLink = 0
  ·have qH := aI @hlt (aI @h2 (aI @h3 (aI @h4 (aI @h5 (aI @h6 (aI @h7 (aI @h8 (aI @h9 (aI @decide_true (aI @decide_false @hz)))))))))); repeat' (with_reducible first | refine nY ?_ | (refine mX ?_; try simp only [go_sem, qH]) | refine kD ?_ | refine rD ?_ | refine cP (lC r q[i].fName hr) ?_ | refine cP (kY (bP q[i].fName r) f.fLink (by omega)) ?_ | refine aO ?_ | fail)
   exact aA ⟨⟨_, rfl, by simp only [go_sem, hm, hz, decide_true, Bool.not_true, Bool.false_and]⟩, trivial⟩
  ·have qH := aI @hlt (aI @h2 (aI @h3 (aI @h4 (aI @h5 (aI @h6 (aI @h7 (aI @h8 (aI @h9 (aI @decide_true (aI @decide_false @hz)))))))))); repeat' (with_reducible first | refine nY ?_ | (refine mX ?_; try simp only [go_sem, qH]) | refine kD ?_ | refine rD ?_ | refine cP (lC r q[i].fName hr) ?_ | refine cP (kY (bP q[i].fName r) f.fLink (by omega)) ?_ | refine aO ?_ | fail)
   exact aA ⟨⟨_, rfl, by simp only [go_sem, hm, hz, decide_false, Bool.not_false, Bool.true_and]⟩, trivial⟩
 have h1 : q[i].fOp = 1 := by omega
 have hm : mt q f r (k + 1) i = true := by simp [mt, hn, h1]
 have qH := aI @hlt (aI @h1 (aI @h2 (aI @h3 (aI @h4 (aI @h5 (aI @h6 (aI @h7 (aI @h8 (aI @h9 (aI @decide_true @decide_false)))))))))); repeat' (with_reducible first | refine nY ?_ | (refine mX ?_; try simp only [go_sem, qH]) | refine kD ?_ | refine rD ?_ | refine aO ?_ | fail)
 exact aA ⟨⟨_, rfl, by simp only [go_sem, hm]⟩, trivial⟩
theorem a6A (q : List TNode) (f : TFile) (r : List TResult) (hv : okQ q = true) (hf : bV f ≤ 4300000) (hr : bL r ≤ 67108864) : ∀ k i, i < k → k ≤ q.length → FnC Tryz.prog 164 [.o (.d (.sl (q.map bN))), oi (i : Nat), jQ f, .o (.d (.sl (r.map bD)))] (ob (mt q f r k i)) := by
 intro k
 induction k with
 | zero => intro i hi _; omega
 | succ k ih => ?_
 intro i hi hk
 have hlt : i < q.length := by omega
 have hn := List.getElem?_eq_getElem hlt
 have hok := yP hv hn
 have hop := rZ hok
 refine ent Tryz.func164 rfl Tryz.call164 rfl (fun C => ?_); simp only [go_sem, st0, Tryz.ntmps164]
 by_cases h1 : q[i].fOp = 1
 ·have hm : mt q f r (k + 1) i = true := by simp [mt, hn, h1]
  have q0 := @hlt; have q1 := @h1; have q2 := @decide_true; refine rV (dC f q[i].fName hf) ?_
  exact aA ⟨⟨_, rfl, by simp only [go_sem, hm]⟩, trivial⟩
 by_cases h2 : q[i].fOp = 2
 ·have hm : mt q f r (k + 1) i = !decide ((getAttr q[i].fName f.fAttrs).fKind = 0) := by simp [mt, hn, h2]
  have q0 := @hlt; have q1 := @h1; have q2 := @h2; have q3 := @decide_true; have q4 := @decide_false; refine a2d (dC f q[i].fName hf) ?_
  exact aA ⟨⟨_, rfl, by simp only [go_sem, hm, decide_not]⟩, trivial⟩
 by_cases h3 : q[i].fOp = 3
 ·have hm : mt q f r (k + 1) i = xQ (getAttr q[i].fName f.fAttrs) q[i].fValue := by simp [mt, hn, h3]
  have q0 := @hlt; have q1 := @h1; have q2 := @h2; have q3 := @h3; have q4 := @decide_true; have q5 := @decide_false; refine zX (dC f q[i].fName hf) ?_
  exact aA ⟨⟨_, rfl, by simp only [go_sem, hm, xQ]⟩, trivial⟩
 by_cases h4 : q[i].fOp = 4
 ·have hm : mt q f r (k + 1) i = a3o (getAttr q[i].fName f.fAttrs) q[i].fValue.fInt := by simp [mt, hn, h4]
  by_cases hj : (getAttr q[i].fName f.fAttrs).fKind = 1
  ·have hj' : decide ((getAttr q[i].fName f.fAttrs).fKind = 1) = true := decide_eq_true hj
   have q0 := @hlt; have q1 := @h1; have q2 := @h2; have q3 := @h3; have q4 := @h4; have q5 := @decide_true; have q6 := @decide_false; have q7 := @hj'; refine a2Z (dC f q[i].fName hf) ?_
   exact aA ⟨⟨_, rfl, by simp only [go_sem, hm, a3o, hj, decide_true, Bool.true_and]⟩, trivial⟩
  ·have hj' : decide ((getAttr q[i].fName f.fAttrs).fKind = 1) = false := decide_eq_false hj
   have q0 := @hlt; have q1 := @h1; have q2 := @h2; have q3 := @h3; have q4 := @h4; have q5 := @decide_true; have q6 := @decide_false; have q7 := @hj'; refine a2Z (dC f q[i].fName hf) ?_
   exact aA ⟨⟨_, rfl, by simp only [go_sem, hm, a3o, hj, decide_false, Bool.false_and]⟩, trivial⟩
 by_cases h5 : q[i].fOp = 5
 ·obtain ⟨l, hl, hli⟩ := dU hok (.inl h5)
  have hm : mt q f r (k + 1) i = !mt q f r k l := by simp [mt, hn, h5, hl]
  have q0 := @hlt; have q1 := @h1; have q2 := @h2; have q3 := @h3; have q4 := @h4; have q5 := @h5; have q6 := @decide_true; have q7 := @decide_false; have q8 := @hl; refine a7p (dC f q[i].fName hf) (ih l (by omega) (by omega)) ?_
  exact aA ⟨⟨_, rfl, by simp only [go_sem, hm]⟩, trivial⟩
 by_cases h6 : q[i].fOp = 6
 ·obtain ⟨l, hl, hli⟩ := dU hok (.inr (.inl h6))
  obtain ⟨m, hr2, hmi⟩ := fU hok (.inl h6)
  have hm : mt q f r (k + 1) i = (mt q f r k l && mt q f r k m) := by simp [mt, hn, h6, hl, hr2]
  cases hx : mt q f r k l
  all_goals
   have qH := aI @hlt (aI @h1 (aI @h2 (aI @h3 (aI @h4 (aI @h5 (aI @h6 (aI @decide_true (aI @decide_false (aI @hl (aI @hr2 @hx)))))))))); repeat' (with_reducible first | refine nY ?_ | (refine mX ?_; try simp only [go_sem, qH]) | refine kD ?_ | refine rD ?_ | refine cP (dC f q[i].fName hf) ?_ | refine cP (ih l (by omega) (by omega)) ?_ | refine cP (ih m (by omega) (by omega)) ?_ | refine aO ?_ | fail)
   exact aA ⟨⟨_, rfl, by simp only [go_sem, hm, hx, Bool.true_and, Bool.false_and]⟩, trivial⟩
 by_cases h7 : q[i].fOp = 7
 ·obtain ⟨l, hl, hli⟩ := dU hok (.inr (.inr h7))
  obtain ⟨m, hr2, hmi⟩ := fU hok (.inr h7)
  have hm : mt q f r (k + 1) i = (mt q f r k l || mt q f r k m) := by simp [mt, hn, h7, hl, hr2]
  cases hx : mt q f r k l
  all_goals
   have qH := aI @hlt (aI @h1 (aI @h2 (aI @h3 (aI @h4 (aI @h5 (aI @h6 (aI @h7 (aI @decide_true (aI @decide_false (aI @hl (aI @hr2 @hx))))))))))); repeat' (with_reducible first | refine nY ?_ | (refine mX ?_; try simp only [go_sem, qH]) | refine kD ?_ | refine rD ?_ | refine cP (dC f q[i].fName hf) ?_ | refine cP (ih l (by omega) (by omega)) ?_ | refine cP (ih m (by omega) (by omega)) ?_ | refine aO ?_ | fail)
   exact aA ⟨⟨_, rfl, by simp only [go_sem, hm, hx, Bool.true_or, Bool.false_or]⟩, trivial⟩
 have hrl := uM q[i].fName r
 by_cases h8 : q[i].fOp = 8
 ·have hm : mt q f r (k + 1) i = hasI (bP q[i].fName r) f.fID := by simp [mt, hn, h8]
  have qH := aI @hlt (aI @h1 (aI @h2 (aI @h3 (aI @h4 (aI @h5 (aI @h6 (aI @h7 (aI @h8 (aI @decide_true @decide_false))))))))); repeat' (with_reducible first | refine nY ?_ | (refine mX ?_; try simp only [go_sem, qH]) | refine kD ?_ | refine rD ?_ | refine cP (dC f q[i].fName hf) ?_ | refine cP (lD r q[i].fName hr) ?_ | refine cP (kZ (bP q[i].fName r) f.fID (by omega)) ?_ | refine aO ?_ | fail)
  exact aA ⟨⟨_, rfl, by simp only [go_sem, hm]⟩, trivial⟩
 have h9 : q[i].fOp = 9 := by omega
 have hm : mt q f r (k + 1) i = (!decide (f.fLink = 0) && hasI (bP q[i].fName r) f.fLink) := by simp [mt, hn, h9]
 by_cases hz : f.fLink = 0
 ·have hz1 : decide (f.fLink = 0) = true := decide_eq_true hz
  have hz2 : decide (¬ f.fLink = 0) = false := decide_eq_false (fun h => h hz)
  have qH := aI @hlt (aI @h1 (aI @h2 (aI @h3 (aI @h4 (aI @h5 (aI @h6 (aI @h7 (aI @h8 (aI @decide_true (aI @decide_false (aI @hz1 @hz2))))))))))); repeat' (with_reducible first | refine nY ?_ | (refine mX ?_; try simp only [go_sem, qH]) | refine kD ?_ | refine rD ?_ | refine cP (dC f q[i].fName hf) ?_ | refine cP (lD r q[i].fName hr) ?_ | refine cP (kZ (bP q[i].fName r) f.fLink (by omega)) ?_ | refine aO ?_ | fail)
  exact aA ⟨⟨_, rfl, by simp only [go_sem, hm, hz, decide_true, Bool.not_true, Bool.false_and]⟩, trivial⟩
 ·have hz1 : decide (f.fLink = 0) = false := decide_eq_false hz
  have hz2 : decide (¬ f.fLink = 0) = true := decide_eq_true hz
  have qH := aI @hlt (aI @h1 (aI @h2 (aI @h3 (aI @h4 (aI @h5 (aI @h6 (aI @h7 (aI @h8 (aI @decide_true (aI @decide_false (aI @hz1 @hz2))))))))))); repeat' (with_reducible first | refine nY ?_ | (refine mX ?_; try simp only [go_sem, qH]) | refine kD ?_ | refine rD ?_ | refine cP (dC f q[i].fName hf) ?_ | refine cP (lD r q[i].fName hr) ?_ | refine cP (kZ (bP q[i].fName r) f.fLink (by omega)) ?_ | refine aO ?_ | fail)
  exact aA ⟨⟨_, rfl, by simp only [go_sem, hm, hz, decide_false, Bool.not_false, Bool.true_and]⟩, trivial⟩
end Go.Proofs.YtakopfjdmmnjcaaGreatDoor
end
section
set_option maxRecDepth 100000
set_option maxHeartbeats 4000000
namespace Go.Proofs.YtakopfjdmmnjcaaGreatDoor
theorem b3Y (q : List TNode) (x : Int) (i j : Nat) (hi : i < q.length) (hj : j < q.length) (hne : i ≠ j) : tZ q[i] x + tZ q[j] x ≤ refs q x := by
 induction q generalizing i j with
 | nil => simp at hi
 | cons n q ih =>
  have one : ∀ (q : List TNode) (m : Nat) (h : m < q.length), tZ q[m] x ≤ refs q x := by
   intro q
   induction q with
   | nil => intro m h; simp at h
   | cons n q ih =>
    intro m h
    cases m with
    | zero => simp only [List.getElem_cons_zero, refs]; omega
    | succ m => have := ih m (by simpa using h); simp only [List.getElem_cons_succ, refs]; omega
  cases i with
  | zero =>
   cases j with
   | zero => exact (hne rfl).elim
   | succ j => have := one q j (by simpa using hj); simp only [List.getElem_cons_zero, List.getElem_cons_succ, refs]; omega
  | succ i =>
   cases j with
   | zero => have := one q i (by simpa using hi); simp only [List.getElem_cons_zero, List.getElem_cons_succ, refs]; omega
   | succ j =>
    have := ih i j (by simpa using hi) (by simpa using hj) (by omega)
    simp only [List.getElem_cons_succ, refs]; omega
theorem b3Z {q : List TNode} (h : okQ q = true) (l : Nat) (hl : l + 1 < q.length) : refs q l = 1 := by
 unfold okQ at h
 simp only [Bool.and_eq_true, List.all_eq_true, List.mem_range] at h
 have := h.1 l (by omega)
 unfold a3q at this
 rw [List.getElem?_eq_getElem (by omega)] at this
 simp only [Bool.and_eq_true, Bool.or_eq_true, decide_eq_true_eq] at this
 rcases this.2 with h | h
 ·omega
 ·exact h
def nb (L : List Bool) (i : Nat) : Bool := L.getD i false
theorem yY (L : List Bool) (l : Nat) (v : Bool) (x : Nat) (h : l < L.length) : nb (L.set l v) x = if x = l then v else nb L x := by
 unfold nb
 simp only [List.getD_eq_getElem?_getD, List.getElem?_set]
 by_cases e : l = x
 ·subst e; simp [h]
 ·rw [if_neg e, if_neg (fun e' => e e'.symm)]
theorem a4i {q : List TNode} (hq : okQ q = true) {i : Nat} (hi : i < q.length) {L : List Bool} (hL : L.length = q.length) {x : Nat} (hx : tZ q[i] x = 0) : nb (jN q i L) x = nb L x := by
 have hok := yP hq (List.getElem?_eq_getElem hi)
 by_cases h5 : q[i].fOp = 5
 ·obtain ⟨l, hl, hli⟩ := dU hok (.inl h5)
  rw [a0v hi L h5 hl, yY _ _ _ _ (by omega)]
  split
  ·rename_i e; subst e; simp [tZ, two, h5, hl] at hx
  ·rfl
 by_cases h67 : q[i].fOp = 6 ∨ q[i].fOp = 7
 ·obtain ⟨l, hl, hli⟩ := dU hok (.inr h67)
  obtain ⟨m, hm, hmi⟩ := fU hok h67
  have ht : two q[i] = true := by unfold two; rcases h67 with h | h <;> simp [h]
  rw [xD hi L (by omega) h5 h67 hl hm, yY _ _ _ _ (by simp; omega), yY _ _ _ _ (by omega)]
  split
  ·rename_i e; subst e; simp [tZ, ht, hm] at hx
  ·split
   ·rename_i e; subst e; simp [tZ, ht, hl] at hx
   ·rfl
 ·rw [a1j hi L h5 h67]
def a6B (q : List TNode) (m : Nat) : List Bool := negJ q (q.length - m)
theorem a3P (q : List TNode) (m : Nat) : (a6B q m).length = q.length := a0u q _
theorem a5r (q : List TNode) (i : Nat) (h : i < q.length) : a6B q i = jN q i (a6B q (i + 1)) := a1i q i h
theorem b5A {q : List TNode} (hq : okQ q = true) {i : Nat} (hi : i < q.length) {x : Nat} (hx : i ≤ x) : tZ q[i] x = 0 := by
 have hok := yP hq (List.getElem?_eq_getElem hi)
 unfold tZ
 have a : (if (two q[i] || decide (q[i].fOp = 5)) && decide (q[i].fLeft = (x : Int)) then 1 else 0) = 0 := by
  split
  ·rename_i h
   simp only [Bool.and_eq_true, Bool.or_eq_true, decide_eq_true_eq] at h
   obtain ⟨l, hl, hli⟩ := dU hok (by unfold two at h; simp only [Bool.or_eq_true, decide_eq_true_eq] at h; omega)
   omega
  ·rfl
 have b : (if two q[i] && decide (q[i].fRight = (x : Int)) then 1 else 0) = 0 := by
  split
  ·rename_i h
   simp only [Bool.and_eq_true, decide_eq_true_eq] at h
   obtain ⟨l, hl, hli⟩ := fU hok (by unfold two at h; simp only [Bool.or_eq_true, decide_eq_true_eq] at h; omega)
   omega
  ·rfl
 omega
theorem a1p {q : List TNode} (hq : okQ q = true) {x : Nat} : ∀ (k m : Nat), m + k ≤ q.length → (∀ j, (hj : j < q.length) → m ≤ j → j < m + k → tZ q[j] x = 0) → nb (a6B q m) x = nb (a6B q (m + k)) x
 | 0, m, _, _ => rfl
 | k + 1, m, h, hr => by
  have hm : m < q.length := by omega
  rw [a5r q m hm, a4i hq hm (a3P q (m + 1)) (hr m hm (by omega) (by omega)), a1p hq k (m + 1) (by omega) (fun j hj h1 h2 => hr j hj (by omega) (by omega))]
  congr 2; omega
theorem b0X {q : List TNode} (hq : okQ q = true) (x : Nat) (hx : x < q.length) : nb (kX q) x = nb (a6B q (x + 1)) x := by
 have := a1p hq (x := x) (x + 1) 0 (by omega) (fun j hj _ h2 => b5A hq hj (by omega))
 simpa [a6B, kX] using this
theorem yZ {q : List TNode} (hq : okQ q = true) {i l : Nat} (hi : i < q.length) (hl : l < i) (hr : 1 ≤ tZ q[i] l) : nb (kX q) l = nb (jN q i (a6B q (i + 1))) l := by
 rw [b0X hq l (by omega), ← a5r q i hi]
 have h1 := b3Z hq l (by omega)
 have := a1p hq (x := l) (i - (l + 1)) (l + 1) (by omega) (fun j hj h1' h2 => by
  have := b3Y q l i j hi hj (by omega)
  omega)
 rw [this]
 congr 2; omega
theorem b4a {q : List TNode} (hq : okQ q = true) {i l : Nat} (hi : i < q.length) (h5 : q[i].fOp = 5) (hl : q[i].fLeft = (l : Int)) (hli : l < i) : nb (kX q) l = true := by
 rw [yZ hq hi hli (by simp [tZ, h5, hl]), a0v hi _ h5 hl, yY _ _ _ _ (by rw [a3P]; omega), if_pos rfl]
theorem b4b {q : List TNode} (hq : okQ q = true) {i l m : Nat} (hi : i < q.length) (h67 : q[i].fOp = 6 ∨ q[i].fOp = 7) (hl : q[i].fLeft = (l : Int)) (hm : q[i].fRight = (m : Int)) (hli : l < i) (hmi : m < i) : nb (kX q) l = nb (kX q) i ∧ nb (kX q) m = nb (kX q) i := by
 have ht : two q[i] = true := by unfold two; rcases h67 with h | h <;> simp [h]
 have h5 : ¬ q[i].fOp = 5 := by omega
 have hL := a3P q (i + 1)
 have e := b0X hq i hi
 have g : (a6B q (i + 1))[i]'(by omega) = nb (kX q) i := by
  rw [e]; simp [nb, List.getD_eq_getElem?_getD, hL, hi]
 rw [yZ hq hi hli (by simp [tZ, ht, hl]), yZ hq hi hmi (by simp [tZ, ht, hm]), xD hi _ (by omega) h5 h67 hl hm]
 rw [yY _ m _ l (by rw [List.length_set]; omega), yY _ l _ l (by omega), yY _ m _ m (by rw [List.length_set]; omega), g]
 simp
theorem b0Y {q : List TNode} (hq : okQ q = true) {f : TFile} {r r' : List TResult}
    (hP : ∀ i, (hi : i < q.length) → (q[i].fOp = 8 ∨ q[i].fOp = 9) → nb (kX q) i = false → ∀ x, hasI (bP q[i].fName r) x = true → hasI (bP q[i].fName r') x = true)
    (hN : ∀ i, (hi : i < q.length) → (q[i].fOp = 8 ∨ q[i].fOp = 9) → nb (kX q) i = true → ∀ x, hasI (bP q[i].fName r) x = hasI (bP q[i].fName r') x) :
    ∀ (k i : Nat), i < k → i < q.length → (nb (kX q) i = true → mt q f r k i = mt q f r' k i) ∧ (nb (kX q) i = false → mt q f r k i = true → mt q f r' k i = true)
 | 0, i, h, _ => by omega
 | k + 1, i, h, hi => by
  have hn := List.getElem?_eq_getElem hi
  have hok := yP hq hn
  have ih := b0Y hq (f := f) hP hN k
  by_cases h1 : q[i].fOp = 1
  ·simp [mt, hn, h1]
  by_cases h2 : q[i].fOp = 2
  ·simp [mt, hn, h2]
  by_cases h3 : q[i].fOp = 3
  ·simp [mt, hn, h3]
  by_cases h4 : q[i].fOp = 4
  ·simp [mt, hn, h4]
  by_cases h5 : q[i].fOp = 5
  ·obtain ⟨l, hl, hli⟩ := dU hok (.inl h5)
   have := (ih l (by omega) (by omega)).1 (b4a hq hi h5 hl hli)
   have e : mt q f r (k + 1) i = mt q f r' (k + 1) i := by simp [mt, hn, h5, hl, this]
   exact ⟨fun _ => e, fun _ h => by rw [← e]; exact h⟩
  by_cases h67 : q[i].fOp = 6 ∨ q[i].fOp = 7
  ·obtain ⟨l, hl, hli⟩ := dU hok (.inr h67)
   obtain ⟨m, hm, hmi⟩ := fU hok h67
   obtain ⟨n1, n2⟩ := b4b hq hi h67 hl hm hli hmi
   have a := ih l (by omega) (by omega)
   have b := ih m (by omega) (by omega)
   rw [n1] at a
   rw [n2] at b
   refine ⟨fun hx => ?_, fun hx hm2 => ?_⟩
   ·have a1 := a.1 hx
    have b1 := b.1 hx
    rcases h67 with h6 | h7
    ·simp [mt, hn, h6, hl, hm, a1, b1]
    ·simp [mt, hn, h7, hl, hm, a1, b1]
   ·have a1 := a.2 hx
    have b1 := b.2 hx
    rcases h67 with h6 | h7
    ·simp [mt, hn, h6, hl, hm] at hm2 ⊢
     exact ⟨a1 hm2.1, b1 hm2.2⟩
    ·simp [mt, hn, h7, hl, hm] at hm2 ⊢
     exact hm2.imp a1 b1
  have h6 : ¬ q[i].fOp = 6 := fun h => h67 (.inl h)
  have h7 : ¬ q[i].fOp = 7 := fun h => h67 (.inr h)
  have hop := rZ hok
  have h89 : q[i].fOp = 8 ∨ q[i].fOp = 9 := by omega
  refine ⟨fun hx => ?_, fun hx hm2 => ?_⟩
  ·have e := hN i hi h89 hx
   rcases h89 with h8 | h9
   ·simp [mt, hn, h8, e]
   ·simp [mt, hn, h9, e]
  ·have e := hP i hi h89 hx
   rcases h89 with h8 | h9
   ·simp [mt, hn, h8] at hm2 ⊢
    exact e _ hm2
   ·simp [mt, hn, h9] at hm2 ⊢
    exact ⟨hm2.1, e _ hm2.2⟩
def pr (q : List TNode) (R : List TResult) (f : TFile) : Bool := okQ q && mt q f R q.length (q.length - 1)
def gF (l : List TFile) : List Int := l.map TFile.fID
def lZ (fs : List TFile) (q : List TNode) (R : List TResult) : List Int := gF (fs.filter (pr q R))
theorem a3O (fs : List TFile) (q : List TNode) (R : List TResult) : (lZ fs q R).length ≤ fs.length := by
 unfold lZ gF; rw [List.length_map]; exact List.length_filter_le _ _
theorem a0C (nm : ByteArray) : ∀ (d : List TDir) (R : List TResult) (k : Nat), R.map TResult.fName = d.map TDir.fName → bP nm R = (if 0 ≤ idxP (fun x : TDir => decide (x.fName = nm)) d k then (R.getD (idxP (fun x : TDir => decide (x.fName = nm)) d k - k).toNat ⟨⟨#[]⟩, []⟩).fIDs else [])
 | [], [], k, _ => by simp [bP, idxP]
 | [], _ :: _, _, h => by simp at h
 | _ :: _, [], _, h => by simp at h
 | x :: d, y :: R, k, h => by
  simp only [List.map_cons, List.cons.injEq] at h
  have ih := a0C nm d R (k + 1) h.2
  by_cases hx : x.fName = nm
  ·simp [bP, idxP, h.1, hx]
  ·have e0 : idxP (fun x : TDir => decide (x.fName = nm)) (x :: d) k = idxP (fun x : TDir => decide (x.fName = nm)) d (k + 1) := by simp [idxP, hx]
   have e1 : bP nm (y :: R) = bP nm R := by simp [bP, h.1, hx]
   rw [e0, e1, ih]
   have hge : idxP (fun x : TDir => decide (x.fName = nm)) d (k + 1) < 0 ∨ ((k + 1 : Nat) : Int) ≤ idxP (fun x : TDir => decide (x.fName = nm)) d (k + 1) := by
    rcases idxP_fst (fun x : TDir => decide (x.fName = nm)) d (k + 1) with ⟨h, _, _⟩ | ⟨h, _⟩ <;> omega
   by_cases h0 : 0 ≤ idxP (fun x : TDir => decide (x.fName = nm)) d (k + 1)
   ·rw [if_pos h0, if_pos h0]
    have e : (idxP (fun x : TDir => decide (x.fName = nm)) d (k + 1) - (k : Int)).toNat = (idxP (fun x : TDir => decide (x.fName = nm)) d (k + 1) - ((k + 1 : Nat) : Int)).toNat + 1 := by omega
    rw [e, List.getD_cons_succ]
   ·rw [if_neg h0, if_neg h0]
def fA (R : List TResult) (p : Nat) : List Int := (R.getD p ⟨⟨#[]⟩, []⟩).fIDs
theorem resIDs_at {d : List TDir} {R : List TResult} (h : R.map TResult.fName = d.map TDir.fName) (nm : ByteArray) : (placeD d nm = -1 ∧ bP nm R = []) ∨ ∃ p : Nat, placeD d nm = (p : Int) ∧ p < d.length ∧ bP nm R = fA R p := by
 have := a0C nm d R 0 h
 rcases placeD_cases d nm with hp | ⟨p, hp, hl⟩
 ·left
  refine ⟨hp, ?_⟩
  unfold placeD at hp
  rw [this, hp]; simp
 ·right
  refine ⟨p, hp, hl, ?_⟩
  unfold placeD at hp
  rw [this, hp]
  rw [if_pos (by omega)]
  simp [fA]
theorem sN (R : List TResult) (i j : Nat) (x : TResult) (h : i < R.length) : fA (R.set i x) j = if j = i then x.fIDs else fA R j := by
 unfold fA
 simp only [List.getD_eq_getElem?_getD, List.getElem?_set]
 by_cases e : i = j
 ·subst e; simp [h]
 ·rw [if_neg e, if_neg (fun e' => e e'.symm)]
theorem a5q (R : List TResult) (i : Nat) (x : TResult) (d : List TDir) (h : R.map TResult.fName = d.map TDir.fName) (hi : i < d.length) (hx : x.fName = d[i].fName) : (R.set i x).map TResult.fName = d.map TDir.fName := by
 rw [List.map_set, h, hx]
 apply List.ext_getElem?
 intro j
 rw [List.getElem?_set]
 split
 ·rename_i e; subst e; simp [hi]
 ·rfl
theorem a8u {q : List TNode} {i : Nat} (hi : i < q.length) (h89 : q[i].fOp = 8 ∨ q[i].fOp = 9) (b : Bool) (hb : nb (kX q) i = b) : q[i].fName ∈ dH q b := by
 have hn : i < (kX q).length := by rw [a3G]; exact hi
 have hg : (kX q)[i] = b := by rw [← hb]; simp [nb, List.getD_eq_getElem?_getD, hn]
 have hd : iO q[i] = true := by unfold iO inB; rcases h89 with h | h <;> simp [h]
 unfold dH mQ
 refine List.mem_flatMap.2 ⟨i, List.mem_range.2 hi, ?_⟩
 unfold sel
 rw [List.getElem?_eq_getElem hi, List.getElem?_eq_getElem hn]
 simp [hd, hg]
theorem b0V (x : Int) (l : List TFile) : hasI (gF l) x = true ↔ ∃ f ∈ l, f.fID = x := by
 unfold hasI gF
 rw [List.any_eq_true]
 constructor
 ·rintro ⟨y, hy, h⟩
  obtain ⟨f, hf, rfl⟩ := List.mem_map.1 hy
  exact ⟨f, hf, of_decide_eq_true h⟩
 ·rintro ⟨f, hf, rfl⟩
  exact ⟨_, List.mem_map.2 ⟨f, hf, rfl⟩, by simp⟩
structure Ev (fs : List TFile) (d : List TDir) (L : List Nat) (ns : List ByteArray) (c : Nat) (k : Nat) (R : List TResult) : Prop where
 nm : R.map TResult.fName = d.map TDir.fName
 cur : ∀ i, (hi : i < d.length) → pV ns d[i].fName = true → lv L i = k → ∃ p : TFile → Bool, fA R i = gF (fs.filter p) ∧ ∀ f, p f = true → pr d[i].fQuery R f = true
 top : ∀ i, (hi : i < d.length) → pV ns d[i].fName = true → k < lv L i → fA R i = []
 bd : ∀ i, (fA R i).length ≤ c
 cap : fs.length ≤ c
theorem Ev.len {fs : List TFile} {d : List TDir} {L : List Nat} {ns : List ByteArray} {c k : Nat} {R : List TResult} (h : Ev fs d L ns c k R) : R.length = d.length := by
 have := congrArg List.length h.nm
 simpa using this
def xK (fs : List TFile) (d : List TDir) (i : Nat) (R : List TResult) (x : TDir) : List TResult := R.set i ⟨x.fName, lZ fs x.fQuery R⟩
theorem b0W {fs : List TFile} {d : List TDir} {L : List Nat} {ns : List ByteArray} {c k : Nat} {R : List TResult} (h : Ev fs d L ns c k R) (hv : ∀ i, (hi : i < d.length) → okQ d[i].fQuery = true) (hc : Clo d.length (EE d) L) {i j : Nat} (hi : i < d.length) (hin : pV ns d[i].fName = true) (hik : lv L i = k) (hj : j < d.length) (hjk : lv L j = k) (f : TFile) (hp : pr d[j].fQuery R f = true) : pr d[j].fQuery (xK fs d i R d[i]) f = true := by
 have hq := hv j hj
 have hlen := h.len
 have hl9 := mH hq
 have hnm2 := a5q R i ⟨d[i].fName, lZ fs d[i].fQuery R⟩ d h.nm hi rfl
 have grow : ∀ x, hasI (fA R i) x = true → hasI (lZ fs d[i].fQuery R) x = true := fun x hx => by
  obtain ⟨p, e, hpp⟩ := h.cur i hi hin hik
  rw [e, b0V] at hx
  obtain ⟨g, hg, rfl⟩ := hx
  rw [List.mem_filter] at hg
  unfold lZ
  rw [b0V]
  exact ⟨g, List.mem_filter.2 ⟨hg.1, hpp g hg.2⟩, rfl⟩
 unfold pr at hp ⊢
 rw [hq, Bool.true_and] at hp ⊢
 have key := b0Y hq (f := f) (r := R) (r' := xK fs d i R d[i]) (fun m hm h89 hb x hx => by
  have hmem := a8u hm h89 false hb
  rcases resIDs_at h.nm d[j].fQuery[m].fName with ⟨_, e⟩ | ⟨p, hp1, hp2, e⟩
  ·rw [e] at hx; simp [hasI] at hx
  ·rcases resIDs_at hnm2 d[j].fQuery[m].fName with ⟨e3, _⟩ | ⟨p', hp1', _, e'⟩
   ·omega
   ·have : p' = p := by omega
    subst this
    show hasI (bP _ (R.set i _)) x = true
    rw [e', sN R i p' _ (by omega)]
    rw [e] at hx
    split
    ·rename_i e4; subst e4; exact grow x hx
    ·exact hx) (fun m hm h89 hb x => by
  have hmem := a8u hm h89 true hb
  rcases resIDs_at h.nm d[j].fQuery[m].fName with ⟨e1, e⟩ | ⟨p, hp1, hp2, e⟩
  ·rcases resIDs_at hnm2 d[j].fQuery[m].fName with ⟨_, e'⟩ | ⟨p', hp1', _, _⟩
   ·show _ = hasI (bP _ (R.set i _)) x
    rw [e, e']
   ·omega
  ·rcases resIDs_at hnm2 d[j].fQuery[m].fName with ⟨e3, _⟩ | ⟨p', hp1', _, e'⟩
   ·omega
   ·have : p' = p := by omega
    subst this
    have hee := hc.le j p' 1 ((a1h d j p' 1).2 ⟨d[j], List.getElem?_eq_getElem hj, .inr ⟨rfl, _, hmem, hp1⟩⟩)
    have hne : p' ≠ i := fun e => by subst e; omega
    show _ = hasI (bP _ (R.set i _)) x
    rw [e, e', sN R i p' _ (by omega), if_neg hne]) d[j].fQuery.length (d[j].fQuery.length - 1) (by omega) (by omega)
 cases hb : nb (kX d[j].fQuery) (d[j].fQuery.length - 1) with
 | true => rw [← key.1 hb]; exact hp
 | false => exact key.2 hb hp
theorem Ev.step {fs : List TFile} {d : List TDir} {L : List Nat} {ns : List ByteArray} {c k : Nat} {R : List TResult} (h : Ev fs d L ns c k R) (hv : ∀ i, (hi : i < d.length) → okQ d[i].fQuery = true) (hc : Clo d.length (EE d) L) {i : Nat} (hi : i < d.length) (hin : pV ns d[i].fName = true) (hik : lv L i = k) : Ev fs d L ns c k (xK fs d i R d[i]) := by
 have hlen := h.len
 refine ⟨a5q R i _ d h.nm hi rfl, fun j hj hjn hjk => ?_, fun j hj hjn hjk => ?_, fun j => ?_, h.cap⟩
 ·unfold xK
  rw [sN R i j _ (by omega)]
  split
  ·rename_i e; subst e
   exact ⟨pr d[j].fQuery R, rfl, fun f hf => b0W h hv hc hi hin hik hj hjk f hf⟩
  ·obtain ⟨p, e, hp⟩ := h.cur j hj hjn hjk
   exact ⟨p, e, fun f hf => b0W h hv hc hi hin hik hj hjk f (hp f hf)⟩
 ·unfold xK
  rw [sN R i j _ (by omega), if_neg (fun e => by subst e; omega)]
  exact h.top j hj hjn hjk
 ·unfold xK
  rw [sN R i j _ (by omega)]
  split
  ·exact Nat.le_trans (a3O fs _ _) h.cap
  ·exact h.bd j
theorem filter_same {α : Type} (p q : α → Bool) (l : List α) (h : ∀ x ∈ l, p x = true → q x = true) : l.filter p = l.filter q ∨ (l.filter p).length < (l.filter q).length := by
 have le : ∀ l : List α, (∀ x ∈ l, p x = true → q x = true) → (l.filter p).length ≤ (l.filter q).length := by
  intro l
  induction l with
  | nil => intro _; simp
  | cons x l ih =>
   intro h
   have := ih fun y hy => h y (List.mem_cons_of_mem _ hy)
   simp only [List.filter_cons]
   cases hp : p x
   ·cases hq : q x <;> simp <;> omega
   ·rw [h x (by simp) hp]; simpa using this
 induction l with
 | nil => exact .inl rfl
 | cons x l ih =>
  have hl := fun y hy => h y (List.mem_cons_of_mem x hy)
  simp only [List.filter_cons]
  cases hp : p x
  ·cases hq : q x
   ·simpa using ih hl
   ·have := le l hl
    right; simp; omega
  ·rw [h x (by simp) hp]
   rcases ih hl with e | e
   ·left; simp [e]
   ·right; simpa using e
def jP : List TResult → Nat
 | [] => 0
 | x :: l => x.fIDs.length + jP l
theorem b3X (R : List TResult) (i : Nat) (x : TResult) (h : i < R.length) : jP (R.set i x) + (fA R i).length = jP R + x.fIDs.length := by
 induction R generalizing i with
 | nil => simp at h
 | cons y l ih =>
  cases i with
  | zero => simp [jP, fA]; omega
  | succ i =>
   have := ih i (by simpa using h)
   simp only [List.set_cons_succ, jP, fA, List.getD_cons_succ] at this ⊢
   omega
theorem b5z (R : List TResult) (c : Nat) (h : ∀ i, (fA R i).length ≤ c) : jP R ≤ R.length * c := by
 induction R with
 | nil => simp [jP]
 | cons x l ih =>
  have h0 := h 0
  have h1 := ih fun i => by simpa [fA] using h (i + 1)
  simp only [fA, List.getD_cons_zero] at h0
  simp only [jP, List.length_cons, Nat.succ_mul]
  omega
theorem Ev.grow {fs : List TFile} {d : List TDir} {L : List Nat} {ns : List ByteArray} {c k : Nat} {R : List TResult} (h : Ev fs d L ns c k R) {i : Nat} (hi : i < d.length) (hin : pV ns d[i].fName = true) (hik : lv L i = k) (hne : lZ fs d[i].fQuery R ≠ fA R i) : jP R < jP (xK fs d i R d[i]) := by
 obtain ⟨p, e, hp⟩ := h.cur i hi hin hik
 have hlen := h.len
 have hs := b3X R i ⟨d[i].fName, lZ fs d[i].fQuery R⟩ (by omega)
 rcases filter_same p (pr d[i].fQuery R) fs (fun f _ hf => hp f hf) with e2 | e2
 ·exact (hne (by rw [e]; unfold lZ; rw [e2])).elim
 ·have h1 : (fA R i).length < (lZ fs d[i].fQuery R).length := by
   rw [e]; unfold lZ gF; simpa using e2
  unfold xK
  simp only at hs
  omega
theorem Ev.tot {fs : List TFile} {d : List TDir} {L : List Nat} {ns : List ByteArray} {c k : Nat} {R : List TResult} (h : Ev fs d L ns c k R) : jP R ≤ d.length * c := by
 have := b5z R c h.bd
 rwa [h.len] at this
theorem Ev.next {fs : List TFile} {d : List TDir} {L : List Nat} {ns : List ByteArray} {c k : Nat} {R : List TResult} (h : Ev fs d L ns c k R) : Ev fs d L ns c (k + 1) R :=
 ⟨h.nm, fun i hi hn hk => ⟨fun _ => false, by rw [h.top i hi hn (by omega)]; simp [gF], fun f hf => by cases hf⟩, fun i hi hn hk => h.top i hi hn (by omega), h.bd, h.cap⟩
def passT (fs : List TFile) (d : List TDir) (L : List Nat) (ns : List ByteArray) (k : Nat) : Nat → List TResult → List TResult
 | 0, R => R
 | m + 1, R => match d[m]? with
  | none => passT fs d L ns k m R
  | some x => if lv L m = k ∧ pV ns x.fName = true then xK fs d m (passT fs d L ns k m R) x else passT fs d L ns k m R
def xY (fs : List TFile) (d : List TDir) (L : List Nat) (ns : List ByteArray) (k : Nat) : Nat → List TResult × Nat → List TResult × Nat
 | 0, x => x
 | F + 1, x => if jP x.1 < jP (passT fs d L ns k d.length x.1) then xY fs d L ns k F (passT fs d L ns k d.length x.1, x.2 + 1) else (passT fs d L ns k d.length x.1, x.2 + 1)
def iH (ns : List ByteArray) (r : List TResult) (d : List TDir) : List TResult := d.map fun x => ⟨x.fName, if pV ns x.fName then [] else bP x.fName r⟩
def allE (fs : List TFile) (d : List TDir) (L : List Nat) (ns : List ByteArray) (c : Nat) (r : List TResult) : Nat → List TResult × Nat
 | 0 => (iH ns r d, 0)
 | k + 1 => xY fs d L ns k (d.length * c + 1) (allE fs d L ns c r k)
theorem a1n {fs : List TFile} {d : List TDir} {L : List Nat} {ns : List ByteArray} {c k : Nat} {R : List TResult} (h : Ev fs d L ns c k R) {i : Nat} (hi : i < d.length) (he : lZ fs d[i].fQuery R = fA R i) : xK fs d i R d[i] = R := by
 have hlen := h.len
 have hnm : (R[i]'(by omega)).fName = d[i].fName := by
  have := congrArg (fun l : List ByteArray => l[i]?) h.nm
  simp only [List.getElem?_map] at this
  rw [List.getElem?_eq_getElem (by omega), List.getElem?_eq_getElem hi] at this
  simpa using this
 have hids : fA R i = (R[i]'(by omega)).fIDs := by
  have : i < R.length := by omega
  simp [fA, List.getD_eq_getElem?_getD, this]
 unfold xK
 rw [he, hids, ← hnm]
 exact List.set_getElem_self _
theorem uN (fs : List TFile) (d : List TDir) (L : List Nat) (ns : List ByteArray) (k m : Nat) (R : List TResult) (h : m < d.length) : passT fs d L ns k (m + 1) R = if lv L m = k ∧ pV ns d[m].fName = true then xK fs d m (passT fs d L ns k m R) d[m] else passT fs d L ns k m R := by
 rw [passT, List.getElem?_eq_getElem h]
theorem mR {fs : List TFile} {d : List TDir} {L : List Nat} {ns : List ByteArray} {c k : Nat} (hv : ∀ i, (hi : i < d.length) → okQ d[i].fQuery = true) (hc : Clo d.length (EE d) L) : ∀ (m : Nat) (R : List TResult), m ≤ d.length → Ev fs d L ns c k R → Ev fs d L ns c k (passT fs d L ns k m R)
 | 0, R, _, h => h
 | m + 1, R, hm, h => by
  have ih := mR hv hc m R (by omega) h
  rw [uN fs d L ns k m R (by omega)]
  split
  ·rename_i e; exact ih.step hv hc (by omega) e.2 e.1
  ·exact ih
theorem newR_cases {fs : List TFile} {d : List TDir} {L : List Nat} {ns : List ByteArray} {c k : Nat} {R : List TResult} (h : Ev fs d L ns c k R) {i : Nat} (hi : i < d.length) (hin : pV ns d[i].fName = true) (hik : lv L i = k) : xK fs d i R d[i] = R ∨ jP R < jP (xK fs d i R d[i]) := by
 by_cases he : lZ fs d[i].fQuery R = fA R i
 ·exact .inl (a1n h hi he)
 ·exact .inr (h.grow hi hin hik he)
theorem mU {fs : List TFile} {d : List TDir} {L : List Nat} {ns : List ByteArray} {c k : Nat} (hv : ∀ i, (hi : i < d.length) → okQ d[i].fQuery = true) (hc : Clo d.length (EE d) L) : ∀ (m : Nat) (R : List TResult), m ≤ d.length → Ev fs d L ns c k R → passT fs d L ns k m R = R ∨ jP R < jP (passT fs d L ns k m R)
 | 0, R, _, _ => .inl rfl
 | m + 1, R, hm, h => by
  have ih := mU hv hc m R (by omega) h
  have he := mR hv hc m R (by omega) h
  rw [uN fs d L ns k m R (by omega)]
  split
  ·rename_i e
   rcases newR_cases he (by omega) e.2 e.1 with e2 | g
   ·rw [e2]; exact ih
   ·rcases ih with e3 | g3
    ·rw [e3] at g ⊢; exact .inr g
    ·exact .inr (by omega)
  ·exact ih
theorem a1o (ns : List ByteArray) (r : List TResult) (d : List TDir) (i : Nat) (hi : i < d.length) : fA (iH ns r d) i = if pV ns d[i].fName then [] else bP d[i].fName r := by
 unfold fA iH
 simp only [List.getD_eq_getElem?_getD, List.getElem?_map, List.getElem?_eq_getElem hi]
 rfl
theorem b2i {fs : List TFile} (d : List TDir) (L : List Nat) (ns : List ByteArray) (r : List TResult) : Ev fs d L ns (fs.length + bL r) 0 (iH ns r d) := by
 refine ⟨by simp [iH], fun i hi hn _ => ⟨fun _ => false, by rw [a1o ns r d i hi, if_pos hn]; simp [gF], fun f hf => by cases hf⟩, fun i hi hn _ => by rw [a1o ns r d i hi, if_pos hn], fun i => ?_, by omega⟩
 by_cases hi : i < d.length
 ·rw [a1o ns r d i hi]
  split
  ·simp
  ·have := uM d[i].fName r; omega
 ·have e : fA (iH ns r d) i = [] := by
   unfold fA iH
   simp only [List.getD_eq_getElem?_getD, List.getElem?_map]
   rw [List.getElem?_eq_none (by omega)]; rfl
  rw [e]; simp
theorem a8t {fs : List TFile} {d : List TDir} {L : List Nat} {ns : List ByteArray} {c k : Nat} (hv : ∀ i, (hi : i < d.length) → okQ d[i].fQuery = true) (hc : Clo d.length (EE d) L) : ∀ (F : Nat) (x : List TResult × Nat), Ev fs d L ns c k x.1 → Ev fs d L ns c k (xY fs d L ns k F x).1
 | 0, x, h => h
 | F + 1, x, h => by
  have hp := mR hv hc d.length x.1 (Nat.le_refl _) h
  unfold xY
  split
  ·exact a8t hv hc F _ hp
  ·exact hp
theorem a0B {fs : List TFile} {d : List TDir} {L : List Nat} {ns : List ByteArray} {r : List TResult} (hv : ∀ i, (hi : i < d.length) → okQ d[i].fQuery = true) (hc : Clo d.length (EE d) L) : ∀ k, Ev fs d L ns (fs.length + bL r) k (allE fs d L ns (fs.length + bL r) r k).1
 | 0 => b2i d L ns r
 | k + 1 => (a8t hv hc _ _ (a0B hv hc k)).next
structure Round (fs : List TFile) (d : List TDir) (L : List Nat) (ns : List ByteArray) (c : Nat) (k : Nat) (T : List TResult × Nat) (x : List TResult × Nat × Bool) : Prop where
 ev : Ev fs d L ns c k x.1
 run : x.2.2 = true → ∃ F, d.length * c + 1 ≤ F + jP x.1 ∧ T = xY fs d L ns k F (x.1, x.2.1)
 fin : x.2.2 = false → T = (x.1, x.2.1)
theorem Round.start {fs : List TFile} {d : List TDir} {L : List Nat} {ns : List ByteArray} {c k : Nat} {R : List TResult} {n : Nat} (h : Ev fs d L ns c k R) : Round fs d L ns c k (xY fs d L ns k (d.length * c + 1) (R, n)) (R, n, true) :=
 ⟨h, fun _ => ⟨_, by omega, rfl⟩, fun h => by cases h⟩
theorem Round.pass {fs : List TFile} {d : List TDir} {L : List Nat} {ns : List ByteArray} {c k : Nat} (hv : ∀ i, (hi : i < d.length) → okQ d[i].fQuery = true) (hc : Clo d.length (EE d) L) {T : List TResult × Nat} {R : List TResult} {n : Nat} (h : Round fs d L ns c k T (R, n, true)) : Round fs d L ns c k T (passT fs d L ns k d.length R, n + 1, decide (jP R < jP (passT fs d L ns k d.length R))) := by
 have hp := mR hv hc d.length R (Nat.le_refl _) h.ev
 obtain ⟨F, hF, hT⟩ := h.run rfl
 have ht := h.ev.tot
 simp only at ht
 cases F with
 | zero => simp only at hF; omega
 | succ F =>
  unfold xY at hT
  simp only at hT hF
  refine ⟨hp, fun hx => ?_, fun hx => ?_⟩
  ·simp only [decide_eq_true_eq] at hx
   rw [if_pos hx] at hT
   exact ⟨F, by simp only; omega, hT⟩
  ·simp only [decide_eq_false_iff_not] at hx
   rw [if_neg hx] at hT
   exact hT
end Go.Proofs.YtakopfjdmmnjcaaGreatDoor
end
section
set_option maxRecDepth 100000
set_option maxHeartbeats 4000000
namespace Go.Proofs.YtakopfjdmmnjcaaGreatDoor
open Go Go.Sx Go.RowKit Go.Proofs
def wP : List Nat → Int → Int
 | [], m => m
 | x :: l, m => wP l (if (x : Int) > m then (x : Int) else m)
def a0y (L : List Nat) : Int := wP L (-1)
theorem a1m (L : List Nat) (k : Nat) (m : Int) (h : k < L.length) : wP (L.drop k) m = wP (L.drop (k + 1)) (if (L[k] : Int) > m then (L[k] : Int) else m) := by
 rw [List.drop_eq_getElem_cons h, wP]
theorem a1V (q : List TNode) (f : TFile) (R : List TResult) (hq : eU q ≤ 4300000) (hf : bV f ≤ 4300000) (hR : bL R ≤ 67108864) : FnC Tryz.prog 147 [.o (.d (.sl (q.map bN))), jQ f, .o (.d (.sl (R.map bD)))] (ob (pr q R f)) := by
 refine ent Tryz.func147 rfl Tryz.call147 rfl (fun C => ?_); simp only [go_sem, st0, Tryz.ntmps147]
 cases hv : okQ q
 ·have q0 := @hv; refine lF (cK q hq) ?_
  exact aA ⟨⟨_, rfl, by simp only [go_sem, pr, hv, Bool.false_and]⟩, trivial⟩
 ·have hl := mH hv
  have hx : (q.length : Int) - 1 = ((q.length - 1 : Nat) : Int) := by omega
  have q0 := @hv; have q1 := @hx; refine yM (cK q hq) (a6z q f R hv hf hR q.length (q.length - 1) (by omega) (by omega)) ?_
  exact aA ⟨⟨_, rfl, by simp only [go_sem, pr, hv, Bool.true_and]⟩, trivial⟩
theorem a1W (q : List TNode) (f : TFile) (R : List TResult) (hq : eU q ≤ 4300000) (hf : bV f ≤ 4300000) (hR : bL R ≤ 67108864) : FnC Tryz.prog 150 [.o (.d (.sl (q.map bN))), jQ f, .o (.d (.sl (R.map bD)))] (ob (pr q R f)) := by
 refine ent Tryz.func150 rfl Tryz.call150 rfl (fun C => ?_); simp only [go_sem, st0, Tryz.ntmps150]
 cases hv : okQ q
 ·have q0 := @hv; refine lF (dI q hq) ?_
  exact aA ⟨⟨_, rfl, by simp only [go_sem, pr, hv, Bool.false_and]⟩, trivial⟩
 ·have hl := mH hv
  have hx : (q.length : Int) - 1 = ((q.length - 1 : Nat) : Int) := by omega
  have q0 := @hv; have q1 := @hx; refine yM (dI q hq) (a6A q f R hv hf hR q.length (q.length - 1) (by omega) (by omega)) ?_
  exact aA ⟨⟨_, rfl, by simp only [go_sem, pr, hv, Bool.true_and]⟩, trivial⟩
theorem a0z (s : TStore) (q : List TNode) (R : List TResult) (hs : aW s ≤ 4300000) (hq : eU q ≤ 4300000) (hR : bL R ≤ 67108864) : FnC Tryz.prog 131 [bX s, .o (.d (.sl (q.map bN))), .o (.d (.sl (R.map bD)))] (.o (.w 3 1 ((lZ s.fFiles q R).map eZ))) := by
 unfold aW fT at hs
 refine ent Tryz.func131 rfl Tryz.call131 rfl (fun C => ?_); simp only [go_sem, st0, Tryz.ntmps131]
 refine aD ?_
 refine aY (α := Nat) (fun k => [(7, .o (.s 1)), (10, .o .u), (14, oi k)]) (fun k => [(1, .row 3 1 ((gF ((s.fFiles.take k).filter (pr q R))).map eZ) true)]) (fun k => k ≤ s.fFiles.length) (fun k => s.fFiles.length - k) 0 (fun _ => ?_) ?_ ?_ (fun k hk => ?_)
 ·simp only [go_sem]
 ·simp only [go_sem]; simp [gF]
 ·simp
 ·simp only [go_sem]
  refine aD ?_
  refine cnd rfl (fun h => ?_) (fun h => ?_)
  ·simp only [decide_eq_true_eq, Int.ofNat_lt] at h
   have hw := dF bV s.fFiles h
   have ht : s.fFiles.take (k + 1) = s.fFiles.take k ++ [s.fFiles[k]] := List.take_succ_eq_append_getElem h
   have hl : (gF ((s.fFiles.take k).filter (pr q R))).length ≤ k := by
    unfold gF; rw [List.length_map]
    exact Nat.le_trans (List.length_filter_le _ _) (by rw [List.length_take]; omega)
   have hl1 : (gF ((s.fFiles.take k).filter (pr q R))).length + 1 ≤ 140737488355328 := by omega
   have hl2 : ((gF ((s.fFiles.take k).filter (pr q R))).length + 1) * 8 ≤ 140737488355328 := by omega
   cases hm : pr q R s.fFiles[k]
   ·have hf : gF ((s.fFiles.take (k + 1)).filter (pr q R)) = gF ((s.fFiles.take k).filter (pr q R)) := by rw [ht, List.filter_append]; simp [hm]
    have q0 := @h; have q1 := @hm; refine a2W (a1V q s.fFiles[k] R hq (by omega) hR) ?_
    refine aF (k + 1) ?_ ?_ ?_
    ·simp only [go_sem, hf]; simp
    ·omega
    ·omega
   ·have hf : gF ((s.fFiles.take (k + 1)).filter (pr q R)) = gF ((s.fFiles.take k).filter (pr q R)) ++ [s.fFiles[k].fID] := by rw [ht, List.filter_append]; simp [hm, gF]
    have q0 := @h; have q1 := @hm; refine a2W (a1V q s.fFiles[k] R hq (by omega) hR) ?_
    refine aF (k + 1) ?_ ?_ ?_
    ·simp only [go_sem, hf, List.map_append]; simp
    ·omega
    ·omega
  ·simp only [decide_eq_false_iff_not] at h
   have e : k = s.fFiles.length := by omega
   subst e
   refine aD ?_
   exact aA ⟨⟨_, rfl, by simp only [go_sem, lZ, List.take_length]⟩, trivial⟩
theorem a0A (s : TStore) (q : List TNode) (R : List TResult) (hs : aW s ≤ 4300000) (hq : eU q ≤ 4300000) (hR : bL R ≤ 67108864) : FnC Tryz.prog 135 [bX s, .o (.d (.sl (q.map bN))), .o (.d (.sl (R.map bD)))] (.o (.w 3 1 ((lZ s.fFiles q R).map eZ))) := by
 unfold aW fT at hs
 refine ent Tryz.func135 rfl Tryz.call135 rfl (fun C => ?_); simp only [go_sem, st0, Tryz.ntmps135]
 refine aD ?_
 refine aY (α := Nat) (fun k => [(7, .o (.s 1)), (9, .o .u), (8, oi k)]) (fun k => [(1, .row 3 1 ((gF ((s.fFiles.take k).filter (pr q R))).map eZ) true)]) (fun k => k ≤ s.fFiles.length) (fun k => s.fFiles.length - k) 0 (fun _ => ?_) ?_ ?_ (fun k hk => ?_)
 ·simp only [go_sem]
 ·simp only [go_sem]; simp [gF]
 ·simp
 ·simp only [go_sem]
  refine aD ?_
  refine cnd rfl (fun h => ?_) (fun h => ?_)
  ·simp only [decide_eq_true_eq, Int.ofNat_lt] at h
   have hw := dF bV s.fFiles h
   have ht : s.fFiles.take (k + 1) = s.fFiles.take k ++ [s.fFiles[k]] := List.take_succ_eq_append_getElem h
   have hl : (gF ((s.fFiles.take k).filter (pr q R))).length ≤ k := by
    unfold gF; rw [List.length_map]
    exact Nat.le_trans (List.length_filter_le _ _) (by rw [List.length_take]; omega)
   have hl1 : (gF ((s.fFiles.take k).filter (pr q R))).length + 1 ≤ 140737488355328 := by omega
   have hl2 : ((gF ((s.fFiles.take k).filter (pr q R))).length + 1) * 8 ≤ 140737488355328 := by omega
   cases hm : pr q R s.fFiles[k]
   ·have hf : gF ((s.fFiles.take (k + 1)).filter (pr q R)) = gF ((s.fFiles.take k).filter (pr q R)) := by rw [ht, List.filter_append]; simp [hm]
    have q0 := @h; have q1 := @hm; refine a2W (a1W q s.fFiles[k] R hq (by omega) hR) ?_
    refine aF (k + 1) ?_ ?_ ?_
    ·simp only [go_sem, hf]; simp
    ·omega
    ·omega
   ·have hf : gF ((s.fFiles.take (k + 1)).filter (pr q R)) = gF ((s.fFiles.take k).filter (pr q R)) ++ [s.fFiles[k].fID] := by rw [ht, List.filter_append]; simp [hm, gF]
    have q0 := @h; have q1 := @hm; refine a2W (a1W q s.fFiles[k] R hq (by omega) hR) ?_
    refine aF (k + 1) ?_ ?_ ?_
    ·simp only [go_sem, hf, List.map_append]; simp
    ·omega
    ·omega
  ·simp only [decide_eq_false_iff_not] at h
   have e : k = s.fFiles.length := by omega
   subst e
   refine aD ?_
   exact aA ⟨⟨_, rfl, by simp only [go_sem, lZ, List.take_length]⟩, trivial⟩
theorem b3W (d : List TDir) (h : mP d = false) : resL d = [] := by
 unfold mP at h
 unfold resL
 split
 ·rename_i hv
  rw [if_pos hv] at h
  apply a6t
  intro hx
  obtain ⟨F, hF⟩ := hx
  rw [xE hF] at h; cases h
 ·rfl
theorem b5y (A : List Nat) (h : 0 < A.length) (hl : A.length ≤ 4300000) : FnC Tryz.prog 146 [.o (.d (.sl (A.map sM)))] (oi (a0y A)) := by
 have h1 : ¬ (A.length : Int) < 1 := by omega
 have hst : a0y A = wP (A.drop 1) (A[0] : Int) := by
  have := a1m A 0 (-1) h
  rw [List.drop_zero] at this
  unfold a0y
  rw [this, if_pos (by omega)]
 refine ent Tryz.func146 rfl Tryz.call146 rfl (fun C => ?_); simp only [go_sem, st0, Tryz.ntmps146]
 have q0 := @h; have q1 := @h1; have q2 := @decide_false; have q3 := @Int.toNat_zero; have q4 := @Int.le_refl; refine uY ?_
 refine aY (α := Nat × Int) (fun x => [(3, oi x.2), (4, oi x.1)]) (fun _ => []) (fun x => 1 ≤ x.1 ∧ x.1 ≤ A.length ∧ a0y A = wP (A.drop x.1) x.2) (fun x => A.length - x.1) (1, (A[0] : Int)) (fun _ => ?_) ?_ ?_ (fun x hx => ?_)
 ·simp only [go_sem]
 ·simp only [go_sem]; simp
 ·exact ⟨by simp, by simp only; omega, hst⟩
 ·obtain ⟨k, m⟩ := x
  obtain ⟨hk1, hk, hq⟩ := hx
  simp only at hk1 hk hq
  simp only [go_sem]
  refine aD ?_
  refine cnd rfl (fun h2 => ?_) (fun h2 => ?_)
  ·simp only [decide_eq_true_eq, Int.ofNat_lt] at h2
   rw [a1m A k m h2] at hq
   have q0 := @h2; refine fF ?_
   refine aF (k + 1, mxI m (A[k] : Int)) ?_ ?_ ?_
   ·simp only [go_sem]; simp
   ·exact ⟨by simp, by simp only; omega, hq⟩
   ·simp only; omega
  ·simp only [decide_eq_false_iff_not] at h2
   have e : k = A.length := by omega
   subst e
   rw [List.drop_length, wP] at hq
   refine aD ?_
   exact aA ⟨⟨_, rfl, by simp only [go_sem, hq]⟩, trivial⟩
theorem a9N (d : List TDir) (hd : gN d ≤ 4300000) (hl : (resL d).length ≤ 4300000) : FnC Tryz.prog 130 [.o (.d (.sl (d.map bY)))] (oi (a0y (resL d))) := by
 refine ent Tryz.func130 rfl Tryz.call130 rfl (fun C => ?_); simp only [go_sem, st0, Tryz.ntmps130]
 cases hb : mP d
 ·have e := b3W d hb
  have q0 := @hb; refine lF (iT d hd) ?_
  exact aA ⟨⟨_, rfl, by simp only [go_sem, e, a0y, wP]⟩, trivial⟩
 ·by_cases h0 : 0 < (resL d).length
  ·have hn : ¬ ((resL d).length : Int) = 0 := by omega
   have q0 := @hb; have q1 := @hn; have q2 := @decide_false; refine a5W (iT d hd) (b5y (resL d) h0 hl) ?_
   exact aA ⟨⟨_, rfl, by simp only [go_sem]⟩, trivial⟩
  ·have hn : ((resL d).length : Int) = 0 := by omega
   have e : resL d = [] := List.eq_nil_of_length_eq_zero (by omega)
   have q0 := @hb; have q1 := @hn; have q2 := @decide_true; refine rV (iT d hd) ?_
   exact aA ⟨⟨_, rfl, by simp only [go_sem, e, a0y, wP]⟩, trivial⟩
theorem a9O (d : List TDir) (hd : gN d ≤ 4300000) (hl : (resL d).length ≤ 4300000) : FnC Tryz.prog 134 [.o (.d (.sl (d.map bY)))] (oi (a0y (resL d))) := by
 refine ent Tryz.func134 rfl Tryz.call134 rfl (fun C => ?_); simp only [go_sem, st0, Tryz.ntmps134]
 refine iE (jX d hd) ?_
 generalize resL d = A at *
 refine aY (α := Nat × Int) (fun x => [(5, oi x.2), (6, oi x.1)]) (fun _ => []) (fun x => x.1 ≤ A.length ∧ a0y A = wP (A.drop x.1) x.2) (fun x => A.length - x.1) (0, -1) (fun _ => ?_) ?_ ?_ (fun x hx => ?_)
 ·simp only [go_sem]
 ·simp only [go_sem]; simp
 ·simp [a0y]
 ·obtain ⟨k, m⟩ := x
  obtain ⟨hk, hq⟩ := hx
  simp only at hk hq
  simp only [go_sem]
  refine aD ?_
  refine cnd rfl (fun h2 => ?_) (fun h2 => ?_)
  ·simp only [decide_eq_true_eq, Int.ofNat_lt] at h2
   rw [a1m A k m h2] at hq
   have q0 := @h2; refine fF ?_
   by_cases hc : m < (A[k] : Int)
   ·rw [if_pos hc] at hq
    refine cnd (b := decide (m < (A[k] : Int))) rfl (fun _ => ?_) (fun hx => ?_)
    ·have q0 := @h2; refine fF ?_
     refine aF (k + 1, (A[k] : Int)) ?_ ?_ ?_
     ·simp only [go_sem]; simp
     ·exact ⟨by simp only; omega, hq⟩
     ·simp only; omega
    ·simp [hc] at hx
   ·rw [if_neg hc] at hq
    refine cnd (b := decide (m < (A[k] : Int))) rfl (fun hx => ?_) (fun _ => ?_)
    ·simp [hc] at hx
    ·have q0 := @h2; refine fF ?_
     refine aF (k + 1, m) ?_ ?_ ?_
     ·simp only [go_sem]; simp
     ·exact ⟨by simp only; omega, hq⟩
     ·simp only; omega
  ·simp only [decide_eq_false_iff_not] at h2
   have e : k = A.length := by omega
   subst e
   rw [List.drop_length, wP] at hq
   refine aD ?_
   exact aA ⟨⟨_, rfl, by simp only [go_sem, hq]⟩, trivial⟩
end Go.Proofs.YtakopfjdmmnjcaaGreatDoor
end
section
set_option maxRecDepth 100000
namespace Go.Proofs.YtakopfjdmmnjcaaGreatDoor
open Go Go.Sx Go.RowKit Go.Proofs
def eqL {α : Type} (p : α → α → Bool) : List α → List α → Bool
 | [], [] => true
 | x :: xs, y :: ys => p x y && eqL p xs ys
 | _, _ => false
theorem a6C {α : Type} (p : α → α → Bool) : ∀ {a b : List α}, a.length ≠ b.length → eqL p a b = false
 | [], [], h => by simp at h
 | x :: xs, y :: ys, h => by
  have := a6C p (a := xs) (b := ys) (by simpa using h)
  simp [eqL, this]
 | [], _ :: _, _ => rfl
 | _ :: _, [], _ => rfl
@[go_sem] def jH (a b : Int) : Bool := decide (a = b)
@[go_sem] def b4c (a b : TField) : Bool := decide (a.fName = b.fName) && decide (a.fKind = b.fKind)
@[go_sem] def b5B (a b : TAttr) : Bool := decide (a.fName = b.fName) && (decide (a.fValue.fKind = b.fValue.fKind) && (decide (a.fValue.fInt = b.fValue.fInt) && decide (a.fValue.fStr = b.fValue.fStr)))
@[go_sem] def b5C (a b : TNode) : Bool := decide (a.fOp = b.fOp) && (decide (a.fLeft = b.fLeft) && (decide (a.fRight = b.fRight) && (decide (a.fName = b.fName) && (decide (a.fValue.fKind = b.fValue.fKind) && (decide (a.fValue.fInt = b.fValue.fInt) && decide (a.fValue.fStr = b.fValue.fStr))))))
def b5D (a b : TFile) : Bool := decide (a.fID = b.fID) && (decide (a.fOwner = b.fOwner) && ((a.fShared == b.fShared) && (decide (a.fLink = b.fLink) && eqL b5B a.fAttrs b.fAttrs)))
def b4d (a b : TDir) : Bool := decide (a.fName = b.fName) && eqL b5C a.fQuery b.fQuery
def a5s (a b : TResult) : Bool := decide (a.fName = b.fName) && eqL jH a.fIDs b.fIDs
def a8v (a b : TStore) : Bool := eqL b4c a.fSchema b.fSchema && (eqL b5D a.fFiles b.fFiles && decide (a.fNextID = b.fNextID))
def b5P (a b : TSnapshot) : Bool := a8v a.fStore b.fStore && eqL b4d a.fDirs b.fDirs
def b7i (a b : TCatalog) : Bool := a8v a.fStore b.fStore && (eqL b4d a.fDirs b.fDirs && eqL a5s a.fResults b.fResults)
theorem a1X (a b : List Int) (ha : a.length ≤ 4300000) : FnC Tryz.prog 136 [.o (.d (.sl (a.map eZ))), .o (.d (.sl (b.map eZ)))] (ob (eqL jH a b)) := by
 have hal : a.length ≤ 4300000 := by omega
 refine ent Tryz.func136 rfl Tryz.call136 rfl (fun C => ?_); simp only [go_sem, st0, Tryz.ntmps136]
 refine aD ?_
 refine cnd rfl (fun h0 => ?_) (fun h0 => ?_)
 ·have e : eqL jH a b = false := a6C _ (by simp only [Bool.not_eq_true', decide_eq_false_iff_not] at h0; omega)
  refine aD ?_
  exact aA ⟨⟨_, rfl, by simp only [go_sem, e]⟩, trivial⟩
 have h0 : a.length = b.length := by simpa [Int.ofNat_inj] using h0
 refine aD ?_
 refine aY (α := Nat) (fun k => [(5, oi k)]) (fun _ => []) (fun k => k ≤ a.length ∧ eqL jH a b = eqL jH (a.drop k) (b.drop k)) (fun k => a.length - k) 0 (fun _ => ?_) ?_ ?_ (fun k hk => ?_)
 ·simp only [go_sem]
 ·simp only [go_sem]; simp
 ·simp
 ·obtain ⟨hk, hq⟩ := hk
  simp only [go_sem]
  refine aD ?_
  refine cnd rfl (fun h => ?_) (fun h => ?_)
  ·simp only [decide_eq_true_eq, Int.ofNat_lt] at h
   have hb : k < b.length := by omega
   rw [List.drop_eq_getElem_cons h, List.drop_eq_getElem_cons hb, eqL] at hq
   have q0 := @h; have q1 := @hb; refine gG ?_
   refine cnd (b := !(jH a[k] b[k])) (by rfl) (fun h2 => ?_) (fun h2 => ?_)
   ·simp only [Bool.not_eq_true'] at h2
    rw [h2, Bool.false_and] at hq
    refine aD ?_
    exact aA ⟨⟨_, rfl, by simp only [go_sem, hq]⟩, trivial⟩
   ·simp only [Bool.not_eq_false'] at h2
    rw [h2, Bool.true_and] at hq
    refine aD ?_
    refine aF (k + 1) ?_ ?_ ?_
    ·simp only [go_sem]; simp
    ·exact ⟨h, hq⟩
    ·omega
  ·simp only [decide_eq_false_iff_not] at h
   have e : k = a.length := by omega
   subst e
   rw [List.drop_length, List.drop_of_length_le (by omega), eqL] at hq
   refine aD ?_
   exact aA ⟨⟨_, rfl, by simp only [go_sem, hq]⟩, trivial⟩
theorem xZ (a b : List Int) (ha : a.length ≤ 4300000) : FnC Tryz.prog 132 [.o (.d (.sl (a.map eZ))), .o (.d (.sl (b.map eZ)))] (ob (eqL jH a b)) := by
 have hal : a.length ≤ 4300000 := by omega
 refine ent Tryz.func132 rfl Tryz.call132 rfl (fun C => ?_); simp only [go_sem, st0, Tryz.ntmps132]
 refine aD ?_
 refine cnd rfl (fun h0 => ?_) (fun h0 => ?_)
 ·have e : eqL jH a b = false := a6C _ (by simp only [Bool.not_eq_true', decide_eq_false_iff_not] at h0; omega)
  refine aD ?_
  exact aA ⟨⟨_, rfl, by simp only [go_sem, e]⟩, trivial⟩
 have h0 : a.length = b.length := by simpa [Int.ofNat_inj] using h0
 refine aD ?_
 refine aY (α := Nat) (fun k => [(13, oi k)]) (fun _ => []) (fun k => k ≤ a.length ∧ eqL jH a b = eqL jH (a.drop k) (b.drop k)) (fun k => a.length - k) 0 (fun _ => ?_) ?_ ?_ (fun k hk => ?_)
 ·simp only [go_sem]
 ·simp only [go_sem]; simp
 ·simp
 ·obtain ⟨hk, hq⟩ := hk
  simp only [go_sem]
  refine aD ?_
  refine cnd rfl (fun h => ?_) (fun h => ?_)
  ·simp only [decide_eq_true_eq, Int.ofNat_lt] at h
   have hb : k < b.length := by omega
   rw [List.drop_eq_getElem_cons h, List.drop_eq_getElem_cons hb, eqL] at hq
   have q0 := @h; have q1 := @hb; refine gG ?_
   refine cnd (b := !(jH a[k] b[k])) (by rfl) (fun h2 => ?_) (fun h2 => ?_)
   ·simp only [Bool.not_eq_true'] at h2
    rw [h2, Bool.false_and] at hq
    refine aD ?_
    exact aA ⟨⟨_, rfl, by simp only [go_sem, hq]⟩, trivial⟩
   ·simp only [Bool.not_eq_false'] at h2
    rw [h2, Bool.true_and] at hq
    refine aD ?_
    refine aF (k + 1) ?_ ?_ ?_
    ·simp only [go_sem]; simp
    ·exact ⟨h, hq⟩
    ·omega
  ·simp only [decide_eq_false_iff_not] at h
   have e : k = a.length := by omega
   subst e
   rw [List.drop_length, List.drop_of_length_le (by omega), eqL] at hq
   refine aD ?_
   exact aA ⟨⟨_, rfl, by simp only [go_sem, hq]⟩, trivial⟩
end Go.Proofs.YtakopfjdmmnjcaaGreatDoor
end
