/- Joined texts. -/
import Derived.Test.YtolgdibgnndoaaaZ09
import Derived.Test.YtolgdibgnndoaaaZ12
import Derived.Test.YtolgdibgnndoaaaZ10
import Derived.Test.YtolgdibgnndoaaaZ07
import Derived.Test.YtolgdibgnndoaaaZ11
import Derived.Test.YtolgdibgnndoaaaZ06
import Derived.Ground.NamesProg
import Derived.Ground.Names2Prog
import Derived.Shelf.Sort.Plain
import Derived.Shelf.Slices.In.SortNone
import Derived.Shelf.Slices.CompactI
import Derived.Shelf.Slices.CompactS
import Derived.Test.YtolgdibgnndoaaaProg
import Derived.Shelf.SlGeneric
import Derived.Shelf.SlSortCmp.KitK
import Derived.Shelf.SlicesQ.IndexFunc
import Derived.Ground.SlsfProg
import Derived.Ground.SlgfProg
set_option linter.all false
section
set_option maxRecDepth 100000
set_option maxHeartbeats 4000000
namespace Go.Proofs.Ytolgdibgnndoaaa
open Go Go.Sx Go.RowKit Go.Proofs
theorem qP (s : ByteArray) : ∀ l : List TResult, (dN s l).length ≤ cK l
 | [] => by simp [dN]
 | x :: l => by
  have := qP s l
  unfold dN
  simp only [cK, dD, List.length_cons] at this ⊢
  split
  ·unfold iX; omega
  ·omega
theorem kI (l : List TResult) (s : ByteArray) (hl : cK l ≤ 67108864) : FnC Try.prog 131 [.o (.d (.sl (l.map bH))), os s] (.o (.d (.sl ((dN s l).map iN)))) := (yK l s hl).pu (by simp only [go_sem, and_self])
theorem kJ (l : List TResult) (s : ByteArray) (hl : cK l ≤ 67108864) : FnC Try.prog 110 [.o (.d (.sl (l.map bH))), os s] (.o (.d (.sl ((dN s l).map iN)))) := (yL l s hl).pu (by simp only [go_sem, and_self])
def a5I (v : TValue) : Int := if v.fKind = 1 then v.fInt else 0
theorem oQ (f : TFile) (s : ByteArray) (hf : dM f ≤ 4300000) : FnC Try.prog 129 [eH f, os s] (.t [(false, [.d (iv (a5I (bZ s f.fAttrs)))]), (false, [.d (bv (decide ((bZ s f.fAttrs).fKind = 1)))])]) := by
 refine ent Try.func129 rfl Try.call129 rfl (fun C => ?_); simp only [go_sem, st0, Try.ntmps129]
 by_cases h : (bZ s f.fAttrs).fKind = 1
 ·have q0 := @h; have q1 := @decide_true; have q2 := @decide_false; refine a3Q (iF f s hf) ?_
  exact aA ⟨⟨_, rfl, by simp only [go_sem, a5I, h, if_true, decide_true]⟩, by simp [nN]⟩
 ·have q0 := @h; have q1 := @decide_true; have q2 := @decide_false; refine a3Q (iF f s hf) ?_
  exact aA ⟨⟨_, rfl, by simp only [go_sem, a5I, h, if_false, decide_false]⟩, by simp [nN]⟩
theorem a0L (q : List TNode) (f : TFile) (r : List TResult) (hv : okQ q = true) (hf : dM f ≤ 4300000) (hr : cK r ≤ 67108864) : ∀ k i, i < k → k ≤ q.length → FnC Try.prog 93 [.o (.d (.sl (q.map bA))), oi (i : Nat), eH f, .o (.d (.sl (r.map bH)))] (ob (mt q f r k i)) := by
 intro k
 induction k with
 | zero => intro i hi _; omega
 | succ k ih => ?_
 intro i hi hk
 have hlt : i < q.length := by omega
 have hn := List.getElem?_eq_getElem hlt
 have hok := xO hv hn
 have hop := pK hok
 refine ent Try.func93 rfl Try.call93 rfl (fun C => ?_); simp only [go_sem, st0, Try.ntmps93]
 by_cases h2 : q[i].fOp = 2
 ·have hm : mt q f r (k + 1) i = !decide ((bZ q[i].fName f.fAttrs).fKind = 0) := by simp [mt, hn, h2]
  have q0 := @hlt; have q1 := @h2; have q2 := @decide_true; refine a3Q (iF f q[i].fName hf) ?_
  exact aA ⟨⟨_, rfl, by simp only [go_sem, hm, decide_not]⟩, trivial⟩
 by_cases h3 : q[i].fOp = 3
 ·have hm : mt q f r (k + 1) i = lX (bZ q[i].fName f.fAttrs) q[i].fValue := by simp [mt, hn, h3]
  have q0 := @hlt; have q1 := @h2; have q2 := @h3; have q3 := @decide_true; have q4 := @decide_false; refine a2s (iF f q[i].fName hf) ?_
  exact aA ⟨⟨_, rfl, by simp only [go_sem, hm, lX]⟩, trivial⟩
 by_cases h4 : q[i].fOp = 4
 ·have hm : mt q f r (k + 1) i = xM (bZ q[i].fName f.fAttrs) q[i].fValue.fInt := by simp [mt, hn, h4]
  by_cases hj : (bZ q[i].fName f.fAttrs).fKind = 1
  ·repeat' (with_reducible first | refine nY ?_ | (refine mX ?_; try simp only [go_sem, hlt, h2, h3, h4, decide_true, decide_false, hj, a5I, if_true]) | refine kO ?_ (by decide) | refine a7y (by kernel_rfl) ?_ | (refine cC (oQ f q[i].fName hf) ?_ ?_; focus simp only [go_sem, and_self]; done) | (refine And.intro ?_ ?_; focus omega))
   exact aA ⟨⟨_, rfl, by simp only [go_sem, hm, xM, hj, decide_true, Bool.true_and]⟩, trivial⟩
  ·repeat' (with_reducible first | refine nY ?_ | (refine mX ?_; try simp only [go_sem, hlt, h2, h3, h4, decide_true, decide_false, hj, a5I, if_false]) | refine kO ?_ (by decide) | refine a7y (by kernel_rfl) ?_ | (refine cC (oQ f q[i].fName hf) ?_ ?_; focus simp only [go_sem, and_self]; done) | (refine And.intro ?_ ?_; focus omega))
   exact aA ⟨⟨_, rfl, by simp only [go_sem, hm, xM, hj, decide_false, Bool.false_and]⟩, trivial⟩
 by_cases h5 : q[i].fOp = 5
 ·obtain ⟨l, hl, hli⟩ := dZ hok (.inl h5)
  have hm : mt q f r (k + 1) i = !mt q f r k l := by simp [mt, hn, h5, hl]
  have q0 := @hlt; have q1 := @h2; have q2 := @h3; have q3 := @h4; have q4 := @h5; have q5 := @decide_true; have q6 := @decide_false; have q7 := @hl; refine a2u (ih l (by omega) (by omega)) ?_
  exact aA ⟨⟨_, rfl, by simp only [go_sem, hm]⟩, trivial⟩
 by_cases h6 : q[i].fOp = 6
 ·obtain ⟨l, hl, hli⟩ := dZ hok (.inr (.inl h6))
  obtain ⟨m, hr2, hmi⟩ := gF hok (.inl h6)
  have hm : mt q f r (k + 1) i = (mt q f r k l && mt q f r k m) := by simp [mt, hn, h6, hl, hr2]
  cases hx : mt q f r k l
  all_goals
   have qH := aI @hlt (aI @h2 (aI @h3 (aI @h4 (aI @h5 (aI @h6 (aI @decide_true (aI @decide_false (aI @hl (aI @hr2 @hx))))))))); repeat' (with_reducible first | refine nY ?_ | (refine mX ?_; try simp only [go_sem, qH]) | refine kD ?_ | refine rD ?_ | refine cP (ih l (by omega) (by omega)) ?_ | refine cP (ih m (by omega) (by omega)) ?_ | refine aO ?_ | fail)
   exact aA ⟨⟨_, rfl, by simp only [go_sem, hm, hx, Bool.true_and, Bool.false_and]⟩, trivial⟩
 by_cases h7 : q[i].fOp = 7
 ·obtain ⟨l, hl, hli⟩ := dZ hok (.inr (.inr h7))
  obtain ⟨m, hr2, hmi⟩ := gF hok (.inr h7)
  have hm : mt q f r (k + 1) i = (mt q f r k l || mt q f r k m) := by simp [mt, hn, h7, hl, hr2]
  cases hx : mt q f r k l
  all_goals
   have qH := aI @hlt (aI @h2 (aI @h3 (aI @h4 (aI @h5 (aI @h6 (aI @h7 (aI @decide_true (aI @decide_false (aI @hl (aI @hr2 @hx)))))))))); repeat' (with_reducible first | refine nY ?_ | (refine mX ?_; try simp only [go_sem, qH]) | refine kD ?_ | refine rD ?_ | refine cP (ih l (by omega) (by omega)) ?_ | refine cP (ih m (by omega) (by omega)) ?_ | refine aO ?_ | fail)
   exact aA ⟨⟨_, rfl, by simp only [go_sem, hm, hx, Bool.true_or, Bool.false_or]⟩, trivial⟩
 have hrl := qP q[i].fName r
 by_cases h8 : q[i].fOp = 8
 ·have hm : mt q f r (k + 1) i = pU (dN q[i].fName r) f.fID := by simp [mt, hn, h8]
  have q0 := @hlt; have q1 := @h2; have q2 := @h3; have q3 := @h4; have q4 := @h5; have q5 := @h6; have q6 := @h7; have q7 := @h8; have q8 := @decide_true; have q9 := @decide_false; refine zF (kI r q[i].fName hr) (iG (dN q[i].fName r) f.fID (by omega)) ?_
  exact aA ⟨⟨_, rfl, by simp only [go_sem, hm]⟩, trivial⟩
 by_cases h9 : q[i].fOp = 9
 ·have hm : mt q f r (k + 1) i = (!decide (f.fLink = 0) && pU (dN q[i].fName r) f.fLink) := by simp [mt, hn, h9]
  by_cases hz : f.fLink = 0
  ·have qH := aI @hlt (aI @h2 (aI @h3 (aI @h4 (aI @h5 (aI @h6 (aI @h7 (aI @h8 (aI @h9 (aI @decide_true (aI @decide_false @hz)))))))))); repeat' (with_reducible first | refine nY ?_ | (refine mX ?_; try simp only [go_sem, qH]) | refine kD ?_ | refine rD ?_ | refine cP (kI r q[i].fName hr) ?_ | refine cP (iG (dN q[i].fName r) f.fLink (by omega)) ?_ | refine aO ?_ | fail)
   exact aA ⟨⟨_, rfl, by simp only [go_sem, hm, hz, decide_true, Bool.not_true, Bool.false_and]⟩, trivial⟩
  ·have qH := aI @hlt (aI @h2 (aI @h3 (aI @h4 (aI @h5 (aI @h6 (aI @h7 (aI @h8 (aI @h9 (aI @decide_true (aI @decide_false @hz)))))))))); repeat' (with_reducible first | refine nY ?_ | (refine mX ?_; try simp only [go_sem, qH]) | refine kD ?_ | refine rD ?_ | refine cP (kI r q[i].fName hr) ?_ | refine cP (iG (dN q[i].fName r) f.fLink (by omega)) ?_ | refine aO ?_ | fail)
   exact aA ⟨⟨_, rfl, by simp only [go_sem, hm, hz, decide_false, Bool.not_false, Bool.true_and]⟩, trivial⟩
 have h1 : q[i].fOp = 1 := by omega
 have hm : mt q f r (k + 1) i = true := by simp [mt, hn, h1]
 have qH := aI @hlt (aI @h1 (aI @h2 (aI @h3 (aI @h4 (aI @h5 (aI @h6 (aI @h7 (aI @h8 (aI @h9 (aI @decide_true @decide_false)))))))))); repeat' (with_reducible first | refine nY ?_ | (refine mX ?_; try simp only [go_sem, qH]) | refine kD ?_ | refine rD ?_ | refine aO ?_ | fail)
 exact aA ⟨⟨_, rfl, by simp only [go_sem, hm]⟩, trivial⟩
theorem tF (q : List TNode) (f : TFile) (r : List TResult) (hv : okQ q = true) (hf : dM f ≤ 4300000) (hr : cK r ≤ 67108864) : ∀ k i, i < k → k ≤ q.length → FnC Try.prog 70 [.o (.d (.sl (q.map bA))), oi (i : Nat), eH f, .o (.d (.sl (r.map bH)))] (ob (mt q f r k i)) := by
 intro k
 induction k with
 | zero => intro i hi _; omega
 | succ k ih => ?_
 intro i hi hk
 have hlt : i < q.length := by omega
 have hn := List.getElem?_eq_getElem hlt
 have hok := xO hv hn
 have hop := pK hok
 refine ent Try.func70 rfl Try.call70 rfl (fun C => ?_); simp only [go_sem, st0, Try.ntmps70]
 by_cases h1 : q[i].fOp = 1
 ·have hm : mt q f r (k + 1) i = true := by simp [mt, hn, h1]
  have q0 := @hlt; have q1 := @h1; have q2 := @decide_true; refine a3Q (bX f q[i].fName hf) ?_
  exact aA ⟨⟨_, rfl, by simp only [go_sem, hm]⟩, trivial⟩
 by_cases h2 : q[i].fOp = 2
 ·have hm : mt q f r (k + 1) i = !decide ((bZ q[i].fName f.fAttrs).fKind = 0) := by simp [mt, hn, h2]
  have q0 := @hlt; have q1 := @h1; have q2 := @h2; have q3 := @decide_true; have q4 := @decide_false; refine a2s (bX f q[i].fName hf) ?_
  exact aA ⟨⟨_, rfl, by simp only [go_sem, hm, decide_not]⟩, trivial⟩
 by_cases h3 : q[i].fOp = 3
 ·have hm : mt q f r (k + 1) i = lX (bZ q[i].fName f.fAttrs) q[i].fValue := by simp [mt, hn, h3]
  have q0 := @hlt; have q1 := @h1; have q2 := @h2; have q3 := @h3; have q4 := @decide_true; have q5 := @decide_false; refine a1n (bX f q[i].fName hf) ?_
  exact aA ⟨⟨_, rfl, by simp only [go_sem, hm, lX]⟩, trivial⟩
 by_cases h4 : q[i].fOp = 4
 ·have hm : mt q f r (k + 1) i = xM (bZ q[i].fName f.fAttrs) q[i].fValue.fInt := by simp [mt, hn, h4]
  by_cases hj : (bZ q[i].fName f.fAttrs).fKind = 1
  ·have hj' : decide ((bZ q[i].fName f.fAttrs).fKind = 1) = true := decide_eq_true hj
   have q0 := @hlt; have q1 := @h1; have q2 := @h2; have q3 := @h3; have q4 := @h4; have q5 := @decide_true; have q6 := @decide_false; have q7 := @hj'; refine a2u (bX f q[i].fName hf) ?_
   exact aA ⟨⟨_, rfl, by simp only [go_sem, hm, xM, hj, decide_true, Bool.true_and]⟩, trivial⟩
  ·have hj' : decide ((bZ q[i].fName f.fAttrs).fKind = 1) = false := decide_eq_false hj
   have q0 := @hlt; have q1 := @h1; have q2 := @h2; have q3 := @h3; have q4 := @h4; have q5 := @decide_true; have q6 := @decide_false; have q7 := @hj'; refine a2u (bX f q[i].fName hf) ?_
   exact aA ⟨⟨_, rfl, by simp only [go_sem, hm, xM, hj, decide_false, Bool.false_and]⟩, trivial⟩
 by_cases h5 : q[i].fOp = 5
 ·obtain ⟨l, hl, hli⟩ := dZ hok (.inl h5)
  have hm : mt q f r (k + 1) i = !mt q f r k l := by simp [mt, hn, h5, hl]
  have q0 := @hlt; have q1 := @h1; have q2 := @h2; have q3 := @h3; have q4 := @h4; have q5 := @h5; have q6 := @decide_true; have q7 := @decide_false; have q8 := @hl; refine a2w (bX f q[i].fName hf) (ih l (by omega) (by omega)) ?_
  exact aA ⟨⟨_, rfl, by simp only [go_sem, hm]⟩, trivial⟩
 by_cases h6 : q[i].fOp = 6
 ·obtain ⟨l, hl, hli⟩ := dZ hok (.inr (.inl h6))
  obtain ⟨m, hr2, hmi⟩ := gF hok (.inl h6)
  have hm : mt q f r (k + 1) i = (mt q f r k l && mt q f r k m) := by simp [mt, hn, h6, hl, hr2]
  cases hx : mt q f r k l
  all_goals
   have qH := aI @hlt (aI @h1 (aI @h2 (aI @h3 (aI @h4 (aI @h5 (aI @h6 (aI @decide_true (aI @decide_false (aI @hl (aI @hr2 @hx)))))))))); repeat' (with_reducible first | refine nY ?_ | (refine mX ?_; try simp only [go_sem, qH]) | refine kD ?_ | refine rD ?_ | refine cP (bX f q[i].fName hf) ?_ | refine cP (ih l (by omega) (by omega)) ?_ | refine cP (ih m (by omega) (by omega)) ?_ | refine aO ?_ | fail)
   exact aA ⟨⟨_, rfl, by simp only [go_sem, hm, hx, Bool.true_and, Bool.false_and]⟩, trivial⟩
 by_cases h7 : q[i].fOp = 7
 ·obtain ⟨l, hl, hli⟩ := dZ hok (.inr (.inr h7))
  obtain ⟨m, hr2, hmi⟩ := gF hok (.inr h7)
  have hm : mt q f r (k + 1) i = (mt q f r k l || mt q f r k m) := by simp [mt, hn, h7, hl, hr2]
  cases hx : mt q f r k l
  all_goals
   have qH := aI @hlt (aI @h1 (aI @h2 (aI @h3 (aI @h4 (aI @h5 (aI @h6 (aI @h7 (aI @decide_true (aI @decide_false (aI @hl (aI @hr2 @hx))))))))))); repeat' (with_reducible first | refine nY ?_ | (refine mX ?_; try simp only [go_sem, qH]) | refine kD ?_ | refine rD ?_ | refine cP (bX f q[i].fName hf) ?_ | refine cP (ih l (by omega) (by omega)) ?_ | refine cP (ih m (by omega) (by omega)) ?_ | refine aO ?_ | fail)
   exact aA ⟨⟨_, rfl, by simp only [go_sem, hm, hx, Bool.true_or, Bool.false_or]⟩, trivial⟩
 have hrl := qP q[i].fName r
 by_cases h8 : q[i].fOp = 8
 ·have hm : mt q f r (k + 1) i = pU (dN q[i].fName r) f.fID := by simp [mt, hn, h8]
  have qH := aI @hlt (aI @h1 (aI @h2 (aI @h3 (aI @h4 (aI @h5 (aI @h6 (aI @h7 (aI @h8 (aI @decide_true @decide_false))))))))); repeat' (with_reducible first | refine nY ?_ | (refine mX ?_; try simp only [go_sem, qH]) | refine kD ?_ | refine rD ?_ | refine cP (bX f q[i].fName hf) ?_ | refine cP (kJ r q[i].fName hr) ?_ | refine cP (iH (dN q[i].fName r) f.fID (by omega)) ?_ | refine aO ?_ | fail)
  exact aA ⟨⟨_, rfl, by simp only [go_sem, hm]⟩, trivial⟩
 have h9 : q[i].fOp = 9 := by omega
 have hm : mt q f r (k + 1) i = (!decide (f.fLink = 0) && pU (dN q[i].fName r) f.fLink) := by simp [mt, hn, h9]
 by_cases hz : f.fLink = 0
 ·have hz1 : decide (f.fLink = 0) = true := decide_eq_true hz
  have hz2 : decide (¬ f.fLink = 0) = false := decide_eq_false (fun h => h hz)
  have qH := aI @hlt (aI @h1 (aI @h2 (aI @h3 (aI @h4 (aI @h5 (aI @h6 (aI @h7 (aI @h8 (aI @decide_true (aI @decide_false (aI @hz1 @hz2))))))))))); repeat' (with_reducible first | refine nY ?_ | (refine mX ?_; try simp only [go_sem, qH]) | refine kD ?_ | refine rD ?_ | refine cP (bX f q[i].fName hf) ?_ | refine cP (kJ r q[i].fName hr) ?_ | refine cP (iH (dN q[i].fName r) f.fLink (by omega)) ?_ | refine aO ?_ | fail)
  exact aA ⟨⟨_, rfl, by simp only [go_sem, hm, hz, decide_true, Bool.not_true, Bool.false_and]⟩, trivial⟩
 ·have hz1 : decide (f.fLink = 0) = false := decide_eq_false hz
  have hz2 : decide (¬ f.fLink = 0) = true := decide_eq_true hz
  have qH := aI @hlt (aI @h1 (aI @h2 (aI @h3 (aI @h4 (aI @h5 (aI @h6 (aI @h7 (aI @h8 (aI @decide_true (aI @decide_false (aI @hz1 @hz2))))))))))); repeat' (with_reducible first | refine nY ?_ | (refine mX ?_; try simp only [go_sem, qH]) | refine kD ?_ | refine rD ?_ | refine cP (bX f q[i].fName hf) ?_ | refine cP (kJ r q[i].fName hr) ?_ | refine cP (iH (dN q[i].fName r) f.fLink (by omega)) ?_ | refine aO ?_ | fail)
  exact aA ⟨⟨_, rfl, by simp only [go_sem, hm, hz, decide_false, Bool.not_false, Bool.true_and]⟩, trivial⟩
def nM (a b : TEdit) : TEdit := if a.fOK then (if b.fOK then ⟨false, []⟩ else a) else (if b.fOK then b else ⟨false, []⟩)
def wt (q : List TNode) (f : TFile) (r : List TResult) : Nat → Nat → Bool → TEdit
 | 0, _, _ => ⟨false, []⟩
 | k + 1, i, b => match q[i]? with
  | none => ⟨false, []⟩
  | some n =>
   if mt q f r (k + 1) i = b then ⟨true, []⟩
   else if n.fOp = 3 then (if b then ⟨true, [⟨n.fName, n.fValue⟩]⟩ else ⟨false, []⟩)
   else if n.fOp = 2 then (if b then ⟨false, []⟩ else ⟨true, [⟨n.fName, ⟨0, 0, ⟨#[]⟩⟩⟩]⟩)
   else if n.fOp = 5 then wt q f r k n.fLeft.toNat (!b)
   else if n.fOp = 6 then (if b then dG (wt q f r k n.fLeft.toNat b) (wt q f r k n.fRight.toNat b) else nM (wt q f r k n.fLeft.toNat b) (wt q f r k n.fRight.toNat b))
   else if n.fOp = 7 then (if b then nM (wt q f r k n.fLeft.toNat b) (wt q f r k n.fRight.toNat b) else dG (wt q f r k n.fLeft.toNat b) (wt q f r k n.fRight.toNat b))
   else ⟨false, []⟩
theorem a5K (a b : TEdit) : fB (nM a b) ≤ fB a + fB b := by
 unfold nM
 have e0 : fB ⟨false, []⟩ = 0 := rfl
 split <;> split <;> omega
theorem a8e {q : List TNode} {f : TFile} {r : List TResult} (h : okQ q = true) : ∀ (k i : Nat) (b : Bool), fB (wt q f r k i b) ≤ 16 * 2 ^ k
 | 0, i, b => by simp [wt, fB, bF, dD]
 | k + 1, i, b => by
  have e0 : fB ⟨false, []⟩ = 0 := rfl
  have e1 : fB ⟨true, []⟩ = 0 := rfl
  have hp : 1 ≤ 2 ^ k := Nat.one_le_two_pow
  have hs : 2 ^ (k + 1) = 2 * 2 ^ k := by rw [Nat.pow_succ]; omega
  have ih := a8e (f := f) (r := r) h k
  rw [hs]
  unfold wt
  split
  ·omega
  rename_i n hn
  have hok := xO h hn
  split
  ·omega
  split
  ·rename_i h3
   have hw := a1J hok (.inr h3)
   have := hw.2 h3
   split
   ·simp [fB, bF, dD, fQ, jC]; omega
   ·omega
  split
  ·rename_i h2
   have hw := a1J hok (.inl h2)
   have e3 : (⟨#[]⟩ : ByteArray).size = 0 := rfl
   split
   ·omega
   ·simp [fB, bF, dD, fQ, jC]; omega
  split
  ·have := ih n.fLeft.toNat (!b); omega
  split
  ·have h1 := ih n.fLeft.toNat b
   have h2 := ih n.fRight.toNat b
   have h3 := a1M (wt q f r k n.fLeft.toNat b) (wt q f r k n.fRight.toNat b)
   have h4 := a5K (wt q f r k n.fLeft.toNat b) (wt q f r k n.fRight.toNat b)
   split <;> omega
  split
  ·have h1 := ih n.fLeft.toNat b
   have h2 := ih n.fRight.toNat b
   have h3 := a1M (wt q f r k n.fLeft.toNat b) (wt q f r k n.fRight.toNat b)
   have h4 := a5K (wt q f r k n.fLeft.toNat b) (wt q f r k n.fRight.toNat b)
   split <;> omega
  ·omega
theorem uI (e : TEdit) : e.fSet.length ≤ fB e := by unfold fB; exact (by unfold bF; omega)
theorem a0K {q : List TNode} {f : TFile} {r : List TResult} (h : okQ q = true) (k i : Nat) (b : Bool) (hk : k ≤ 9) : (wt q f r k i b).fSet.length ≤ 1048576 := by
 have h1 := uI (wt q f r k i b)
 have h2 := a8e (f := f) (r := r) h k i b
 have h3 : 2 ^ k ≤ 2 ^ 9 := Nat.pow_le_pow_right (by omega) hk
 have h4 : (2 : Nat) ^ 9 = 512 := rfl
 omega
theorem nD (a b : TEdit) : FnC Try.prog 103 [gN a, gN b] (gN (nM a b)) := by
 refine ent Try.func103 rfl Try.call103 rfl (fun C => ?_); simp only [go_sem, st0, Try.ntmps103]
 cases ha : a.fOK <;> cases hb : b.fOK
 all_goals
  have q0 := @Bool.true_beq; have q1 := @Bool.false_beq; have q2 := @ha; have q3 := @hb; refine kW ?_
  exact aA ⟨⟨_, rfl, by simp only [go_sem, nM, ha, hb, if_true, if_false]⟩, trivial⟩
theorem fK {f : Nat} {args : List SV} {e : TEdit} (h : FnC Try.prog f args (pY e)) (ha : args.map (dJ []) = args) (hf : args.all bV = true) : FnC Try.prog f args (gN e) := h.pure ha hf (by simp only [go_sem]) (by simp only [go_sem])
theorem uY (q : List TNode) (f : TFile) (r : List TResult) (hv : okQ q = true) (hf : dM f ≤ 1048576) (hr : cK r ≤ 1048576) : ∀ (k i : Nat) (b : Bool), i < k → k ≤ q.length → FnC Try.prog 61 [.o (.d (.sl (q.map bA))), oi (i : Nat), eH f, .o (.d (.sl (r.map bH))), ob b] (gN (wt q f r k i b)) := by
 intro k
 induction k with
 | zero => intro i b hi _; omega
 | succ k ih => ?_
 intro i b hi hk
 have hlt : i < q.length := by omega
 have hq9 := (jI hv).2
 have hn := List.getElem?_eq_getElem hlt
 have hok := xO hv hn
 have hop := pK hok
 have hM := tF q f r hv (by omega) (by omega) (k + 1) i hi hk
 by_cases hm : mt q f r (k + 1) i = b
 ·have e : wt q f r (k + 1) i b = ⟨true, []⟩ := by simp [wt, hn, hm]
  rw [e]
  refine fK ?_ (by simp only [go_sem]) (by simp only [go_sem])
  refine ent Try.func61 rfl Try.call61 rfl (fun C => ?_); simp only [go_sem, st0, Try.ntmps61]
  rw [hm] at hM
  cases b
  all_goals
   have q0 := @Bool.true_beq; have q1 := @Bool.false_beq; have q2 := @hlt; refine a3Q hM ?_
   exact aA ⟨⟨_, rfl, by simp only [go_sem]⟩, trivial⟩
 have hmb : mt q f r (k + 1) i = !b := by cases b <;> simp_all
 rw [hmb] at hM
 by_cases h5 : q[i].fOp = 5
 ·obtain ⟨l, hl, hli⟩ := dZ hok (.inl h5)
  have e : wt q f r (k + 1) i b = wt q f r k l (!b) := by simp [wt, hn, hm, h5, hl]
  rw [e]
  refine ent Try.func61 rfl Try.call61 rfl (fun C => ?_); simp only [go_sem, st0, Try.ntmps61]
  cases b
  ·simp only [Bool.not_true, Bool.not_false] at hM ⊢
   have q0 := @Bool.true_beq; have q1 := @Bool.false_beq; have q2 := @hlt; have q3 := @h5; have q4 := @decide_true; have q5 := @decide_false; have q6 := @hl; refine a6r hM (ih l true (by omega) (by omega)) ?_
   exact aA ⟨⟨_, rfl, by simp only [go_sem]⟩, trivial⟩
  ·simp only [Bool.not_true, Bool.not_false] at hM ⊢
   have q0 := @Bool.true_beq; have q1 := @Bool.false_beq; have q2 := @hlt; have q3 := @h5; have q4 := @decide_true; have q5 := @decide_false; have q6 := @hl; refine a6r hM (ih l false (by omega) (by omega)) ?_
   exact aA ⟨⟨_, rfl, by simp only [go_sem]⟩, trivial⟩
 by_cases h3 : q[i].fOp = 3
 ·cases b
  ·have e : wt q f r (k + 1) i false = ⟨false, []⟩ := by simp [wt, hn, hm, h3]
   rw [e]
   simp only [Bool.not_false] at hM
   refine ent Try.func61 rfl Try.call61 rfl (fun C => ?_); simp only [go_sem, st0, Try.ntmps61]
   have q0 := @Bool.true_beq; have q1 := @Bool.false_beq; have q2 := @hlt; have q3 := @h3; have q4 := @h5; have q5 := @decide_true; have q6 := @decide_false; refine a4S hM ?_
   exact aA ⟨⟨_, rfl, by simp only [go_sem]⟩, trivial⟩
  ·have e : wt q f r (k + 1) i true = ⟨true, [⟨q[i].fName, q[i].fValue⟩]⟩ := by simp [wt, hn, hm, h3]
   rw [e]
   refine fK ?_ (by simp only [go_sem]) (by simp only [go_sem])
   simp only [Bool.not_true] at hM
   refine ent Try.func61 rfl Try.call61 rfl (fun C => ?_); simp only [go_sem, st0, Try.ntmps61]
   have q0 := @Bool.true_beq; have q1 := @Bool.false_beq; have q2 := @hlt; have q3 := @h3; have q4 := @h5; have q5 := @decide_true; have q6 := @decide_false; refine a4S hM ?_
   exact aA ⟨⟨_, rfl, by simp only [go_sem]⟩, trivial⟩
 by_cases h2 : q[i].fOp = 2
 ·cases b
  ·have e : wt q f r (k + 1) i false = ⟨true, [⟨q[i].fName, ⟨0, 0, ⟨#[]⟩⟩⟩]⟩ := by simp [wt, hn, hm, h2]
   rw [e]
   refine fK ?_ (by simp only [go_sem]) (by simp only [go_sem])
   simp only [Bool.not_false] at hM
   refine ent Try.func61 rfl Try.call61 rfl (fun C => ?_); simp only [go_sem, st0, Try.ntmps61]
   have q0 := @Bool.true_beq; have q1 := @Bool.false_beq; have q2 := @hlt; have q3 := @h2; have q4 := @h3; have q5 := @h5; have q6 := @decide_true; have q7 := @decide_false; refine a2u hM ?_
   exact aA ⟨⟨_, rfl, by simp only [go_sem]⟩, trivial⟩
  ·have e : wt q f r (k + 1) i true = ⟨false, []⟩ := by simp [wt, hn, hm, h2]
   rw [e]
   simp only [Bool.not_true] at hM
   refine ent Try.func61 rfl Try.call61 rfl (fun C => ?_); simp only [go_sem, st0, Try.ntmps61]
   have q0 := @Bool.true_beq; have q1 := @Bool.false_beq; have q2 := @hlt; have q3 := @h2; have q4 := @h3; have q5 := @h5; have q6 := @decide_true; have q7 := @decide_false; refine a2u hM ?_
   exact aA ⟨⟨_, rfl, by simp only [go_sem]⟩, trivial⟩
 by_cases h67 : q[i].fOp = 6 ∨ q[i].fOp = 7
 ·obtain ⟨l, hl, hli⟩ := dZ hok (.inr h67)
  obtain ⟨m, hr2, hmi⟩ := gF hok h67
  have iL := ih l b (by omega) (by omega)
  have iR := ih m b (by omega) (by omega)
  have lL := a0K (f := f) (r := r) hv k l b (by omega)
  have lR := a0K (f := f) (r := r) hv k m b (by omega)
  by_cases h6 : q[i].fOp = 6
  ·have e : wt q f r (k + 1) i b = if b then dG (wt q f r k l b) (wt q f r k m b) else nM (wt q f r k l b) (wt q f r k m b) := by simp [wt, hn, hm, h6, hl, hr2]
   rw [e]
   generalize wt q f r k l b = A at *
   generalize wt q f r k m b = B at *
   cases b
   all_goals
    simp only [Bool.not_true, Bool.not_false, if_true, if_false, Bool.false_eq_true] at hM ⊢
    refine ent Try.func61 rfl Try.call61 rfl (fun C => ?_); simp only [go_sem, st0, Try.ntmps61]
    have qH := aI @Bool.true_beq (aI @Bool.false_beq (aI @hlt (aI @h2 (aI @h3 (aI @h5 (aI @h6 (aI @decide_true (aI @decide_false (aI @hl @hr2))))))))); repeat' (with_reducible first | refine nY ?_ | (refine mX ?_; try simp only [go_sem, qH]) | refine kD ?_ | refine rT [15] [] ?_ | refine dF (aX ?_) (uX ?_) | refine dX (aX ?_) ?_ | (refine uA ?_; simp only [go_sem, qH]; (repeat' first | omega | refine And.intro ?_ ?_ | refine cP hM ?_ | refine cP iL ?_ | refine cP iR ?_ | refine cP (gP A B lL lR) ?_ | refine cP (nD A B) ?_ | (refine mX ?_; simp only [go_sem, qH] <;> fail)); done) | refine rD ?_ | refine cP hM ?_ | refine cP iL ?_ | refine cP iR ?_ | refine cP (gP A B lL lR) ?_ | refine cP (nD A B) ?_ | refine aO ?_ | fail)
    exact aA ⟨⟨_, rfl, by simp only [go_sem]⟩, trivial⟩
  ·have h7 : q[i].fOp = 7 := by omega
   have e : wt q f r (k + 1) i b = if b then nM (wt q f r k l b) (wt q f r k m b) else dG (wt q f r k l b) (wt q f r k m b) := by simp [wt, hn, hm, h7, hl, hr2]
   rw [e]
   generalize wt q f r k l b = A at *
   generalize wt q f r k m b = B at *
   cases b
   all_goals
    simp only [Bool.not_true, Bool.not_false, if_true, if_false, Bool.false_eq_true] at hM ⊢
    refine ent Try.func61 rfl Try.call61 rfl (fun C => ?_); simp only [go_sem, st0, Try.ntmps61]
    have qH := aI @Bool.true_beq (aI @Bool.false_beq (aI @hlt (aI @h2 (aI @h3 (aI @h5 (aI @h6 (aI @h7 (aI @decide_true (aI @decide_false (aI @hl @hr2)))))))))); repeat' (with_reducible first | refine nY ?_ | (refine mX ?_; try simp only [go_sem, qH]) | refine kD ?_ | refine rT [15] [] ?_ | refine dF (aX ?_) (uX ?_) | refine dX (aX ?_) ?_ | (refine uA ?_; simp only [go_sem, qH]; (repeat' first | omega | refine And.intro ?_ ?_ | refine cP hM ?_ | refine cP iL ?_ | refine cP iR ?_ | refine cP (gP A B lL lR) ?_ | refine cP (nD A B) ?_ | (refine mX ?_; simp only [go_sem, qH] <;> fail)); done) | refine rD ?_ | refine cP hM ?_ | refine cP iL ?_ | refine cP iR ?_ | refine cP (gP A B lL lR) ?_ | refine cP (nD A B) ?_ | refine aO ?_ | fail)
    exact aA ⟨⟨_, rfl, by simp only [go_sem]⟩, trivial⟩
 have h6 : ¬ q[i].fOp = 6 := fun h => h67 (.inl h)
 have h7 : ¬ q[i].fOp = 7 := fun h => h67 (.inr h)
 have e : wt q f r (k + 1) i b = ⟨false, []⟩ := by simp [wt, hn, hm, h2, h3, h5, h6, h7]
 rw [e]
 refine ent Try.func61 rfl Try.call61 rfl (fun C => ?_); simp only [go_sem, st0, Try.ntmps61]
 cases b
 all_goals
  simp only [Bool.not_true, Bool.not_false] at hM
  have q0 := @Bool.true_beq; have q1 := @Bool.false_beq; have q2 := @hlt; have q3 := @h2; have q4 := @h3; have q5 := @h5; have q6 := @h6; have q7 := @h7; have q8 := @decide_false; refine a6s hM ?_
  exact aA ⟨⟨_, rfl, by simp only [go_sem]⟩, trivial⟩
theorem qB (q : List TNode) (f : TFile) (r : List TResult) (hv : okQ q = true) (hf : dM f ≤ 1048576) (hr : cK r ≤ 1048576) : ∀ (k i : Nat) (b : Bool), i < k → k ≤ q.length → FnC Try.prog 56 [.o (.d (.sl (q.map bA))), oi (i : Nat), eH f, .o (.d (.sl (r.map bH))), ob b] (pY (wt q f r k i b)) := by
 intro k
 induction k with
 | zero => intro i b hi _; omega
 | succ k ih => ?_
 intro i b hi hk
 have hlt : i < q.length := by omega
 have hq9 := (jI hv).2
 have hn := List.getElem?_eq_getElem hlt
 have hok := xO hv hn
 have hop := pK hok
 have hM := a0L q f r hv (by omega) (by omega) (k + 1) i hi hk
 by_cases hm : mt q f r (k + 1) i = b
 ·have e : wt q f r (k + 1) i b = ⟨true, []⟩ := by simp [wt, hn, hm]
  rw [e]
  refine ent Try.func56 rfl Try.call56 rfl (fun C => ?_); simp only [go_sem, st0, Try.ntmps56]
  rw [hm] at hM
  cases b
  all_goals
   have q0 := @Bool.true_beq; have q1 := @Bool.false_beq; have q2 := @hlt; refine a3Q hM ?_
   exact aA ⟨⟨_, rfl, by simp only [go_sem]⟩, trivial⟩
 have hmb : mt q f r (k + 1) i = !b := by cases b <;> simp_all
 rw [hmb] at hM
 by_cases h3 : q[i].fOp = 3
 ·cases b
  ·have e : wt q f r (k + 1) i false = ⟨false, []⟩ := by simp [wt, hn, hm, h3]
   rw [e]
   simp only [Bool.not_false] at hM
   refine ent Try.func56 rfl Try.call56 rfl (fun C => ?_); simp only [go_sem, st0, Try.ntmps56]
   have q0 := @Bool.true_beq; have q1 := @Bool.false_beq; have q2 := @hlt; have q3 := @h3; have q4 := @decide_true; have q5 := @decide_false; refine a1n hM ?_
   exact aA ⟨⟨_, rfl, by simp only [go_sem]⟩, trivial⟩
  ·have e : wt q f r (k + 1) i true = ⟨true, [⟨q[i].fName, q[i].fValue⟩]⟩ := by simp [wt, hn, hm, h3]
   rw [e]
   simp only [Bool.not_true] at hM
   refine ent Try.func56 rfl Try.call56 rfl (fun C => ?_); simp only [go_sem, st0, Try.ntmps56]
   have q0 := @Bool.true_beq; have q1 := @Bool.false_beq; have q2 := @hlt; have q3 := @h3; have q4 := @decide_true; have q5 := @decide_false; refine a1n hM ?_
   exact aA ⟨⟨_, rfl, by simp only [go_sem]⟩, trivial⟩
 by_cases h2 : q[i].fOp = 2
 ·cases b
  ·have e : wt q f r (k + 1) i false = ⟨true, [⟨q[i].fName, ⟨0, 0, ⟨#[]⟩⟩⟩]⟩ := by simp [wt, hn, hm, h2]
   rw [e]
   simp only [Bool.not_false] at hM
   refine ent Try.func56 rfl Try.call56 rfl (fun C => ?_); simp only [go_sem, st0, Try.ntmps56]
   have q0 := @Bool.true_beq; have q1 := @Bool.false_beq; have q2 := @hlt; have q3 := @h2; have q4 := @h3; have q5 := @decide_true; have q6 := @decide_false; refine a4S hM ?_
   exact aA ⟨⟨_, rfl, by simp only [go_sem]⟩, trivial⟩
  ·have e : wt q f r (k + 1) i true = ⟨false, []⟩ := by simp [wt, hn, hm, h2]
   rw [e]
   simp only [Bool.not_true] at hM
   refine ent Try.func56 rfl Try.call56 rfl (fun C => ?_); simp only [go_sem, st0, Try.ntmps56]
   have q0 := @Bool.true_beq; have q1 := @Bool.false_beq; have q2 := @hlt; have q3 := @h2; have q4 := @h3; have q5 := @decide_true; have q6 := @decide_false; refine a4S hM ?_
   exact aA ⟨⟨_, rfl, by simp only [go_sem]⟩, trivial⟩
 by_cases h5 : q[i].fOp = 5
 ·obtain ⟨l, hl, hli⟩ := dZ hok (.inl h5)
  have e : wt q f r (k + 1) i b = wt q f r k l (!b) := by simp [wt, hn, hm, h5, hl]
  rw [e]
  refine ent Try.func56 rfl Try.call56 rfl (fun C => ?_); simp only [go_sem, st0, Try.ntmps56]
  cases b
  ·simp only [Bool.not_true, Bool.not_false] at hM ⊢
   have q0 := @Bool.true_beq; have q1 := @Bool.false_beq; have q2 := @hlt; have q3 := @h2; have q4 := @h3; have q5 := @h5; have q6 := @decide_true; have q7 := @decide_false; have q8 := @hl; refine a2w hM (ih l true (by omega) (by omega)) ?_
   exact aA ⟨⟨_, rfl, by simp only [go_sem]⟩, trivial⟩
  ·simp only [Bool.not_true, Bool.not_false] at hM ⊢
   have q0 := @Bool.true_beq; have q1 := @Bool.false_beq; have q2 := @hlt; have q3 := @h2; have q4 := @h3; have q5 := @h5; have q6 := @decide_true; have q7 := @decide_false; have q8 := @hl; refine a2w hM (ih l false (by omega) (by omega)) ?_
   exact aA ⟨⟨_, rfl, by simp only [go_sem]⟩, trivial⟩
 by_cases h67 : q[i].fOp = 6 ∨ q[i].fOp = 7
 ·obtain ⟨l, hl, hli⟩ := dZ hok (.inr h67)
  obtain ⟨m, hr2, hmi⟩ := gF hok h67
  have iL := ih l b (by omega) (by omega)
  have iR := ih m b (by omega) (by omega)
  have lL := a0K (f := f) (r := r) hv k l b (by omega)
  have lR := a0K (f := f) (r := r) hv k m b (by omega)
  by_cases h6 : q[i].fOp = 6
  ·have e : wt q f r (k + 1) i b = if b then dG (wt q f r k l b) (wt q f r k m b) else nM (wt q f r k l b) (wt q f r k m b) := by simp [wt, hn, hm, h6, hl, hr2]
   rw [e]
   generalize wt q f r k l b = A at *
   generalize wt q f r k m b = B at *
   have pL := fK iL (by simp only [go_sem]) (by simp only [go_sem])
   have pR := fK iR (by simp only [go_sem]) (by simp only [go_sem])
   cases b
   ·simp only [Bool.not_false, if_false, Bool.false_eq_true] at hM ⊢
    cases ha : A.fOK <;> cases hb : B.fOK
    ·refine ent Try.func56 rfl Try.call56 rfl (fun C => ?_); simp only [go_sem, st0, Try.ntmps56]
     have qH := aI @Bool.true_beq (aI @Bool.false_beq (aI @hlt (aI @h2 (aI @h3 (aI @h5 (aI @h6 (aI @decide_true (aI @decide_false (aI @hl (aI @hr2 (aI @ha @hb))))))))))); repeat' (with_reducible first | refine nY ?_ | (refine mX ?_; try simp only [go_sem, qH]) | refine kD ?_ | (apply rE [14,15,16,17] [] [0,1,2,3,4,5,6,7,8,9,10,11,12,13] [0,1,2,3,4,5,6,7,8,9,10,11,12,13] ((.c 14 [] [0,1,2,3,4,5,6,7,8,9,10,11,12,13] (.c 15 [] [0,1,2,3,4,5,6,7,8,9,10,11,12,13] (.c 16 [] [] (.c 17 [] [] .n .n) .n) .n) (.c 15 [] [0,1,2,3,4,5,6,7,8,9,10,11,12,13] (.c 14 [] [0,1,2,3,4,5,6,7,8,9,10,11,12,13] (.c 16 [] [] (.c 17 [] [] .n .n) .n) .n) .n))) (by simp only [go_sem]; rfl) (by simp only [go_sem]; rfl) (by simp only [go_sem]; rfl) (by decide +kernel); (focus simp only [go_sem]; done)) | exact bP | refine aU (uX ?_) ?_ | refine aV (aX ?_) ?_ | refine aW (aX ?_) ?_ | exact bU | (refine bQ [(3, 4)] (by simp only [go_sem]; rfl) ?_; exact rfl) | exact oH | (refine uA ?_; simp only [go_sem, qH]; (repeat' first | omega | refine And.intro ?_ ?_ | refine cP hM ?_ | refine cP pL ?_ | refine cP pR ?_ | (refine mX ?_; simp only [go_sem, qH] <;> fail)); done) | refine rD ?_ | refine cP hM ?_ | refine cP pL ?_ | refine cP pR ?_ | refine aO ?_ | fail)
     exact aA ⟨⟨_, rfl, by simp only [go_sem, nM, ha, hb, if_true, if_false, Bool.false_eq_true]⟩, trivial⟩
    ·refine ent Try.func56 rfl Try.call56 rfl (fun C => ?_); simp only [go_sem, st0, Try.ntmps56]
     have qH := aI @Bool.true_beq (aI @Bool.false_beq (aI @hlt (aI @h2 (aI @h3 (aI @h5 (aI @h6 (aI @decide_true (aI @decide_false (aI @hl (aI @hr2 (aI @ha @hb))))))))))); repeat' (with_reducible first | refine nY ?_ | (refine mX ?_; try simp only [go_sem, qH]) | refine kD ?_ | (apply rE [13,14,15,16,17] [] [0,1,2,3,4,5,6,7,8,9,10,11,12] [0,1,2,3,4,5,6,7,8,9,10,11,12] ((.c 13 [] [] (.c 14 [] [] (.c 15 [] [] (.c 16 [] [] (.c 17 [] [] .n .n) .n) .n) (.c 15 [] [] (.c 14 [] [] (.c 16 [] [] (.c 17 [] [] .n .n) .n) .n) .n)) (.c 14 [] [0,1,2,3,4,5,6,7,8,9,10,11,12] (.c 13 [] [] (.c 15 [] [] (.c 16 [] [] (.c 17 [] [] .n .n) .n) .n) (.c 15 [] [0,1,2,3,4,5,6,7,8,9,10,11,12] (.c 13 [] [] (.c 16 [] [] (.c 17 [] [] .n .n) .n) .n) .n)) (.c 15 [] [0,1,2,3,4,5,6,7,8,9,10,11,12] (.c 13 [] [] (.c 14 [] [] (.c 16 [] [] (.c 17 [] [] .n .n) .n) .n) (.c 14 [] [0,1,2,3,4,5,6,7,8,9,10,11,12] (.c 13 [] [] (.c 16 [] [] (.c 17 [] [] .n .n) .n) .n) .n)) .n)))) (by simp only [go_sem]; rfl) (by simp only [go_sem]; rfl) (by simp only [go_sem]; rfl) (by decide +kernel); (focus simp only [go_sem]; done)) | exact bP | refine aU (uX ?_) ?_ | refine aV (aX ?_) ?_ | refine aW (aX ?_) ?_ | exact bU | (refine bQ [(4, 5)] (by simp only [go_sem]; rfl) ?_; exact rfl) | (refine bQ [(3, 4)] (by simp only [go_sem]; rfl) ?_; exact rfl) | (refine bQ [(3, 5), (4, 5)] (by simp only [go_sem]; rfl) ?_; exact rfl) | (refine bQ [(3, 4), (4, 5)] (by simp only [go_sem]; rfl) ?_; exact rfl) | (refine bQ [(3, 5)] (by simp only [go_sem]; rfl) ?_; exact rfl) | exact oH | (refine uA ?_; simp only [go_sem, qH]; (repeat' first | omega | refine And.intro ?_ ?_ | refine cP hM ?_ | refine cP pL ?_ | refine cP iR ?_ | (refine mX ?_; simp only [go_sem, qH] <;> fail)); done) | refine rD ?_ | refine cP hM ?_ | refine cP pL ?_ | refine cP iR ?_ | refine aO ?_ | fail)
     exact aA ⟨⟨_, rfl, by simp only [go_sem, nM, ha, hb, if_true, if_false, Bool.false_eq_true]⟩, trivial⟩
    ·refine ent Try.func56 rfl Try.call56 rfl (fun C => ?_); simp only [go_sem, st0, Try.ntmps56]
     have qH := aI @Bool.true_beq (aI @Bool.false_beq (aI @hlt (aI @h2 (aI @h3 (aI @h5 (aI @h6 (aI @decide_true (aI @decide_false (aI @hl (aI @hr2 (aI @ha @hb))))))))))); repeat' (with_reducible first | refine nY ?_ | (refine mX ?_; try simp only [go_sem, qH]) | refine kD ?_ | (apply rE [6,14,15,16,17] [] [0,1,2,3,4,5,7,8,9,10,11,12] [0,1,2,3,4,5,7,8,9,10,11,12] ((.c 6 [13] [7,8,9,10,11,12,13] (.c 14 [] [7,8,9,10,11,12,13] (.c 15 [] [7,8,9,10,11,12,13] (.c 16 [] [] (.c 17 [] [] .n .n) .n) .n) (.c 15 [] [7,8,9,10,11,12,13] (.c 14 [] [7,8,9,10,11,12,13] (.c 16 [] [] (.c 17 [] [] .n .n) .n) .n) .n)) (.c 14 [] [0,1,2,3,4,5,7,8,9,10,11,12] (.c 6 [13] [7,8,9,10,11,12,13] (.c 15 [] [7,8,9,10,11,12,13] (.c 16 [] [] (.c 17 [] [] .n .n) .n) .n) (.c 15 [] [0,1,2,3,4,5,7,8,9,10,11,12] (.c 6 [13] [7,8,9,10,11,12,13] (.c 16 [] [] (.c 17 [] [] .n .n) .n) .n) .n)) (.c 15 [] [0,1,2,3,4,5,7,8,9,10,11,12] (.c 6 [13] [7,8,9,10,11,12,13] (.c 14 [] [7,8,9,10,11,12,13] (.c 16 [] [] (.c 17 [] [] .n .n) .n) .n) (.c 14 [] [0,1,2,3,4,5,7,8,9,10,11,12] (.c 6 [13] [7,8,9,10,11,12,13] (.c 16 [] [] (.c 17 [] [] .n .n) .n) .n) .n)) .n)))) (by simp only [go_sem]; rfl) (by simp only [go_sem]; rfl) (by simp only [go_sem]; rfl) (by decide +kernel); (focus simp only [go_sem]; done)) | exact bP | refine aU (uX ?_) ?_ | refine aV (aX ?_) ?_ | refine aW (aX ?_) ?_ | exact bU | (refine bQ [(4, 5)] (by simp only [go_sem]; rfl) ?_; exact rfl) | (refine bQ [(3, 4)] (by simp only [go_sem]; rfl) ?_; exact rfl) | (refine bQ [(3, 5), (4, 5)] (by simp only [go_sem]; rfl) ?_; exact rfl) | (refine bQ [(3, 4), (4, 5)] (by simp only [go_sem]; rfl) ?_; exact rfl) | (refine bQ [(3, 5)] (by simp only [go_sem]; rfl) ?_; exact rfl) | exact oH | (refine uA ?_; simp only [go_sem, qH]; (repeat' first | omega | refine And.intro ?_ ?_ | refine cP hM ?_ | refine cP iL ?_ | refine cP pR ?_ | (refine mX ?_; simp only [go_sem, qH] <;> fail)); done) | refine rD ?_ | refine cP hM ?_ | refine cP iL ?_ | refine cP pR ?_ | refine aO ?_ | fail)
     exact aA ⟨⟨_, rfl, by simp only [go_sem, nM, ha, hb, if_true, if_false, Bool.false_eq_true]⟩, trivial⟩
    ·refine ent Try.func56 rfl Try.call56 rfl (fun C => ?_); simp only [go_sem, st0, Try.ntmps56]
     have qH := aI @Bool.true_beq (aI @Bool.false_beq (aI @hlt (aI @h2 (aI @h3 (aI @h5 (aI @h6 (aI @decide_true (aI @decide_false (aI @hl (aI @hr2 (aI @ha @hb))))))))))); repeat' (with_reducible first | refine nY ?_ | (refine mX ?_; try simp only [go_sem, qH]) | refine kD ?_ | (apply rE [14,15,16,17] [] [0,1,2,3,4,5,6,7,8,9,10,11,12,13] [0,1,2,3,4,5,6,7,8,9,10,11,12,13] ((.c 14 [] [0,1,2,3,4,5,6,7,8,9,10,11,12,13] (.c 15 [] [0,1,2,3,4,5,6,7,8,9,10,11,12,13] (.c 16 [] [] (.c 17 [] [] .n .n) .n) .n) (.c 15 [] [0,1,2,3,4,5,6,7,8,9,10,11,12,13] (.c 14 [] [0,1,2,3,4,5,6,7,8,9,10,11,12,13] (.c 16 [] [] (.c 17 [] [] .n .n) .n) .n) .n))) (by simp only [go_sem]; rfl) (by simp only [go_sem]; rfl) (by simp only [go_sem]; rfl) (by decide +kernel); (focus simp only [go_sem]; done)) | exact bP | refine aU (uX ?_) ?_ | refine aV (aX ?_) ?_ | refine aW (aX ?_) ?_ | exact bU | (refine bQ [(3, 4)] (by simp only [go_sem]; rfl) ?_; exact rfl) | exact oH | (refine uA ?_; simp only [go_sem, qH]; (repeat' first | omega | refine And.intro ?_ ?_ | refine cP hM ?_ | refine cP pL ?_ | refine cP pR ?_ | (refine mX ?_; simp only [go_sem, qH] <;> fail)); done) | refine rD ?_ | refine cP hM ?_ | refine cP pL ?_ | refine cP pR ?_ | refine aO ?_ | fail)
     exact aA ⟨⟨_, rfl, by simp only [go_sem, nM, ha, hb, if_true, if_false, Bool.false_eq_true]⟩, trivial⟩
   ·simp only [Bool.not_true, if_true] at hM ⊢
    refine ent Try.func56 rfl Try.call56 rfl (fun C => ?_); simp only [go_sem, st0, Try.ntmps56]
    have qH := aI @Bool.true_beq (aI @Bool.false_beq (aI @hlt (aI @h2 (aI @h3 (aI @h5 (aI @h6 (aI @decide_true (aI @decide_false (aI @hl @hr2))))))))); repeat' (with_reducible first | refine nY ?_ | (refine mX ?_; try simp only [go_sem, qH]) | refine kD ?_ | (apply rE [14,15,16,17] [] [0,1,2,3,4,5,6,7,8,9,10,11,12,13] [0,1,2,3,4,5,6,7,8,9,10,11,12,13] ((.c 14 [] [0,1,2,3,4,5,6,7,8,9,10,11,12,13] (.c 15 [] [0,1,2,3,4,5,6,7,8,9,10,11,12,13] (.c 16 [] [] (.c 17 [] [] .n .n) .n) .n) (.c 15 [] [0,1,2,3,4,5,6,7,8,9,10,11,12,13] (.c 14 [] [0,1,2,3,4,5,6,7,8,9,10,11,12,13] (.c 16 [] [] (.c 17 [] [] .n .n) .n) .n) .n))) (by simp only [go_sem]; rfl) (by simp only [go_sem]; rfl) (by simp only [go_sem]; rfl) (by decide +kernel); (focus simp only [go_sem]; done)) | exact bP | refine aU (uX ?_) ?_ | refine aV (aX ?_) ?_ | refine aW (aX ?_) ?_ | exact bU | (refine bQ [(3, 4)] (by simp only [go_sem]; rfl) ?_; exact rfl) | exact oH | (refine uA ?_; simp only [go_sem, qH]; (repeat' first | omega | refine And.intro ?_ ?_ | refine cP hM ?_ | refine cP pL ?_ | refine cP pR ?_ | refine cP (iE A B lL lR) ?_ | (refine mX ?_; simp only [go_sem, qH] <;> fail)); done) | refine rD ?_ | refine cP hM ?_ | refine cP pL ?_ | refine cP pR ?_ | refine cP (iE A B lL lR) ?_ | refine aO ?_ | fail)
    exact aA ⟨⟨_, rfl, by simp only [go_sem]⟩, trivial⟩
  ·have h7 : q[i].fOp = 7 := by omega
   have e : wt q f r (k + 1) i b = if b then nM (wt q f r k l b) (wt q f r k m b) else dG (wt q f r k l b) (wt q f r k m b) := by simp [wt, hn, hm, h7, hl, hr2]
   rw [e]
   generalize wt q f r k l b = A at *
   generalize wt q f r k m b = B at *
   have pL := fK iL (by simp only [go_sem]) (by simp only [go_sem])
   have pR := fK iR (by simp only [go_sem]) (by simp only [go_sem])
   cases b
   ·simp only [Bool.not_false, if_false, Bool.false_eq_true] at hM ⊢
    refine ent Try.func56 rfl Try.call56 rfl (fun C => ?_); simp only [go_sem, st0, Try.ntmps56]
    have qH := aI @Bool.true_beq (aI @Bool.false_beq (aI @hlt (aI @h2 (aI @h3 (aI @h5 (aI @h6 (aI @h7 (aI @decide_true (aI @decide_false (aI @hl @hr2)))))))))); repeat' (with_reducible first | refine nY ?_ | (refine mX ?_; try simp only [go_sem, qH]) | refine kD ?_ | (apply rE [14,15,16,17] [] [0,1,2,3,4,5,6,7,8,9,10,11,12,13] [0,1,2,3,4,5,6,7,8,9,10,11,12,13] ((.c 14 [] [0,1,2,3,4,5,6,7,8,9,10,11,12,13] (.c 15 [] [0,1,2,3,4,5,6,7,8,9,10,11,12,13] (.c 16 [] [] (.c 17 [] [] .n .n) .n) .n) (.c 15 [] [0,1,2,3,4,5,6,7,8,9,10,11,12,13] (.c 14 [] [0,1,2,3,4,5,6,7,8,9,10,11,12,13] (.c 16 [] [] (.c 17 [] [] .n .n) .n) .n) .n))) (by simp only [go_sem]; rfl) (by simp only [go_sem]; rfl) (by simp only [go_sem]; rfl) (by decide +kernel); (focus simp only [go_sem]; done)) | exact bP | refine aU (uX ?_) ?_ | refine aV (aX ?_) ?_ | refine aW (aX ?_) ?_ | exact bU | (refine bQ [(3, 4)] (by simp only [go_sem]; rfl) ?_; exact rfl) | exact oH | (refine uA ?_; simp only [go_sem, qH]; (repeat' first | omega | refine And.intro ?_ ?_ | refine cP hM ?_ | refine cP pL ?_ | refine cP pR ?_ | refine cP (iE A B lL lR) ?_ | (refine mX ?_; simp only [go_sem, qH] <;> fail)); done) | refine rD ?_ | refine cP hM ?_ | refine cP pL ?_ | refine cP pR ?_ | refine cP (iE A B lL lR) ?_ | refine aO ?_ | fail)
    exact aA ⟨⟨_, rfl, by simp only [go_sem]⟩, trivial⟩
   ·simp only [Bool.not_true, if_true] at hM ⊢
    cases ha : A.fOK <;> cases hb : B.fOK
    ·refine ent Try.func56 rfl Try.call56 rfl (fun C => ?_); simp only [go_sem, st0, Try.ntmps56]
     have qH := aI @Bool.true_beq (aI @Bool.false_beq (aI @hlt (aI @h2 (aI @h3 (aI @h5 (aI @h6 (aI @h7 (aI @decide_true (aI @decide_false (aI @hl (aI @hr2 (aI @ha @hb)))))))))))); repeat' (with_reducible first | refine nY ?_ | (refine mX ?_; try simp only [go_sem, qH]) | refine kD ?_ | (apply rE [14,15,16,17] [] [0,1,2,3,4,5,6,7,8,9,10,11,12,13] [0,1,2,3,4,5,6,7,8,9,10,11,12,13] ((.c 14 [] [0,1,2,3,4,5,6,7,8,9,10,11,12,13] (.c 15 [] [0,1,2,3,4,5,6,7,8,9,10,11,12,13] (.c 16 [] [] (.c 17 [] [] .n .n) .n) .n) (.c 15 [] [0,1,2,3,4,5,6,7,8,9,10,11,12,13] (.c 14 [] [0,1,2,3,4,5,6,7,8,9,10,11,12,13] (.c 16 [] [] (.c 17 [] [] .n .n) .n) .n) .n))) (by simp only [go_sem]; rfl) (by simp only [go_sem]; rfl) (by simp only [go_sem]; rfl) (by decide +kernel); (focus simp only [go_sem]; done)) | exact bP | refine aU (uX ?_) ?_ | refine aV (aX ?_) ?_ | refine aW (aX ?_) ?_ | exact bU | (refine bQ [(3, 4)] (by simp only [go_sem]; rfl) ?_; exact rfl) | exact oH | (refine uA ?_; simp only [go_sem, qH]; (repeat' first | omega | refine And.intro ?_ ?_ | refine cP hM ?_ | refine cP pL ?_ | refine cP pR ?_ | (refine mX ?_; simp only [go_sem, qH] <;> fail)); done) | refine rD ?_ | refine cP hM ?_ | refine cP pL ?_ | refine cP pR ?_ | refine aO ?_ | fail)
     exact aA ⟨⟨_, rfl, by simp only [go_sem, nM, ha, hb, if_true, if_false, Bool.false_eq_true]⟩, trivial⟩
    ·refine ent Try.func56 rfl Try.call56 rfl (fun C => ?_); simp only [go_sem, st0, Try.ntmps56]
     have qH := aI @Bool.true_beq (aI @Bool.false_beq (aI @hlt (aI @h2 (aI @h3 (aI @h5 (aI @h6 (aI @h7 (aI @decide_true (aI @decide_false (aI @hl (aI @hr2 (aI @ha @hb)))))))))))); repeat' (with_reducible first | refine nY ?_ | (refine mX ?_; try simp only [go_sem, qH]) | refine kD ?_ | (apply rE [13,14,15,16,17] [] [0,1,2,3,4,5,6,7,8,9,10,11,12] [0,1,2,3,4,5,6,7,8,9,10,11,12] ((.c 13 [] [] (.c 14 [] [] (.c 15 [] [] (.c 16 [] [] (.c 17 [] [] .n .n) .n) .n) (.c 15 [] [] (.c 14 [] [] (.c 16 [] [] (.c 17 [] [] .n .n) .n) .n) .n)) (.c 14 [] [0,1,2,3,4,5,6,7,8,9,10,11,12] (.c 13 [] [] (.c 15 [] [] (.c 16 [] [] (.c 17 [] [] .n .n) .n) .n) (.c 15 [] [0,1,2,3,4,5,6,7,8,9,10,11,12] (.c 13 [] [] (.c 16 [] [] (.c 17 [] [] .n .n) .n) .n) .n)) (.c 15 [] [0,1,2,3,4,5,6,7,8,9,10,11,12] (.c 13 [] [] (.c 14 [] [] (.c 16 [] [] (.c 17 [] [] .n .n) .n) .n) (.c 14 [] [0,1,2,3,4,5,6,7,8,9,10,11,12] (.c 13 [] [] (.c 16 [] [] (.c 17 [] [] .n .n) .n) .n) .n)) .n)))) (by simp only [go_sem]; rfl) (by simp only [go_sem]; rfl) (by simp only [go_sem]; rfl) (by decide +kernel); (focus simp only [go_sem]; done)) | exact bP | refine aU (uX ?_) ?_ | refine aV (aX ?_) ?_ | refine aW (aX ?_) ?_ | exact bU | (refine bQ [(4, 5)] (by simp only [go_sem]; rfl) ?_; exact rfl) | (refine bQ [(3, 4)] (by simp only [go_sem]; rfl) ?_; exact rfl) | (refine bQ [(3, 5), (4, 5)] (by simp only [go_sem]; rfl) ?_; exact rfl) | (refine bQ [(3, 4), (4, 5)] (by simp only [go_sem]; rfl) ?_; exact rfl) | (refine bQ [(3, 5)] (by simp only [go_sem]; rfl) ?_; exact rfl) | exact oH | (refine uA ?_; simp only [go_sem, qH]; (repeat' first | omega | refine And.intro ?_ ?_ | refine cP hM ?_ | refine cP pL ?_ | refine cP iR ?_ | (refine mX ?_; simp only [go_sem, qH] <;> fail)); done) | refine rD ?_ | refine cP hM ?_ | refine cP pL ?_ | refine cP iR ?_ | refine aO ?_ | fail)
     exact aA ⟨⟨_, rfl, by simp only [go_sem, nM, ha, hb, if_true, if_false, Bool.false_eq_true]⟩, trivial⟩
    ·refine ent Try.func56 rfl Try.call56 rfl (fun C => ?_); simp only [go_sem, st0, Try.ntmps56]
     have qH := aI @Bool.true_beq (aI @Bool.false_beq (aI @hlt (aI @h2 (aI @h3 (aI @h5 (aI @h6 (aI @h7 (aI @decide_true (aI @decide_false (aI @hl (aI @hr2 (aI @ha @hb)))))))))))); repeat' (with_reducible first | refine nY ?_ | (refine mX ?_; try simp only [go_sem, qH]) | refine kD ?_ | (apply rE [6,14,15,16,17] [] [0,1,2,3,4,5,7,8,9,10,11,12] [0,1,2,3,4,5,7,8,9,10,11,12] ((.c 6 [13] [7,8,9,10,11,12,13] (.c 14 [] [7,8,9,10,11,12,13] (.c 15 [] [7,8,9,10,11,12,13] (.c 16 [] [] (.c 17 [] [] .n .n) .n) .n) (.c 15 [] [7,8,9,10,11,12,13] (.c 14 [] [7,8,9,10,11,12,13] (.c 16 [] [] (.c 17 [] [] .n .n) .n) .n) .n)) (.c 14 [] [0,1,2,3,4,5,7,8,9,10,11,12] (.c 6 [13] [7,8,9,10,11,12,13] (.c 15 [] [7,8,9,10,11,12,13] (.c 16 [] [] (.c 17 [] [] .n .n) .n) .n) (.c 15 [] [0,1,2,3,4,5,7,8,9,10,11,12] (.c 6 [13] [7,8,9,10,11,12,13] (.c 16 [] [] (.c 17 [] [] .n .n) .n) .n) .n)) (.c 15 [] [0,1,2,3,4,5,7,8,9,10,11,12] (.c 6 [13] [7,8,9,10,11,12,13] (.c 14 [] [7,8,9,10,11,12,13] (.c 16 [] [] (.c 17 [] [] .n .n) .n) .n) (.c 14 [] [0,1,2,3,4,5,7,8,9,10,11,12] (.c 6 [13] [7,8,9,10,11,12,13] (.c 16 [] [] (.c 17 [] [] .n .n) .n) .n) .n)) .n)))) (by simp only [go_sem]; rfl) (by simp only [go_sem]; rfl) (by simp only [go_sem]; rfl) (by decide +kernel); (focus simp only [go_sem]; done)) | exact bP | refine aU (uX ?_) ?_ | refine aV (aX ?_) ?_ | refine aW (aX ?_) ?_ | exact bU | (refine bQ [(4, 5)] (by simp only [go_sem]; rfl) ?_; exact rfl) | (refine bQ [(3, 4)] (by simp only [go_sem]; rfl) ?_; exact rfl) | (refine bQ [(3, 5), (4, 5)] (by simp only [go_sem]; rfl) ?_; exact rfl) | (refine bQ [(3, 4), (4, 5)] (by simp only [go_sem]; rfl) ?_; exact rfl) | (refine bQ [(3, 5)] (by simp only [go_sem]; rfl) ?_; exact rfl) | exact oH | (refine uA ?_; simp only [go_sem, qH]; (repeat' first | omega | refine And.intro ?_ ?_ | refine cP hM ?_ | refine cP iL ?_ | refine cP pR ?_ | (refine mX ?_; simp only [go_sem, qH] <;> fail)); done) | refine rD ?_ | refine cP hM ?_ | refine cP iL ?_ | refine cP pR ?_ | refine aO ?_ | fail)
     exact aA ⟨⟨_, rfl, by simp only [go_sem, nM, ha, hb, if_true, if_false, Bool.false_eq_true]⟩, trivial⟩
    ·refine ent Try.func56 rfl Try.call56 rfl (fun C => ?_); simp only [go_sem, st0, Try.ntmps56]
     have qH := aI @Bool.true_beq (aI @Bool.false_beq (aI @hlt (aI @h2 (aI @h3 (aI @h5 (aI @h6 (aI @h7 (aI @decide_true (aI @decide_false (aI @hl (aI @hr2 (aI @ha @hb)))))))))))); repeat' (with_reducible first | refine nY ?_ | (refine mX ?_; try simp only [go_sem, qH]) | refine kD ?_ | (apply rE [14,15,16,17] [] [0,1,2,3,4,5,6,7,8,9,10,11,12,13] [0,1,2,3,4,5,6,7,8,9,10,11,12,13] ((.c 14 [] [0,1,2,3,4,5,6,7,8,9,10,11,12,13] (.c 15 [] [0,1,2,3,4,5,6,7,8,9,10,11,12,13] (.c 16 [] [] (.c 17 [] [] .n .n) .n) .n) (.c 15 [] [0,1,2,3,4,5,6,7,8,9,10,11,12,13] (.c 14 [] [0,1,2,3,4,5,6,7,8,9,10,11,12,13] (.c 16 [] [] (.c 17 [] [] .n .n) .n) .n) .n))) (by simp only [go_sem]; rfl) (by simp only [go_sem]; rfl) (by simp only [go_sem]; rfl) (by decide +kernel); (focus simp only [go_sem]; done)) | exact bP | refine aU (uX ?_) ?_ | refine aV (aX ?_) ?_ | refine aW (aX ?_) ?_ | exact bU | (refine bQ [(3, 4)] (by simp only [go_sem]; rfl) ?_; exact rfl) | exact oH | (refine uA ?_; simp only [go_sem, qH]; (repeat' first | omega | refine And.intro ?_ ?_ | refine cP hM ?_ | refine cP pL ?_ | refine cP pR ?_ | (refine mX ?_; simp only [go_sem, qH] <;> fail)); done) | refine rD ?_ | refine cP hM ?_ | refine cP pL ?_ | refine cP pR ?_ | refine aO ?_ | fail)
     exact aA ⟨⟨_, rfl, by simp only [go_sem, nM, ha, hb, if_true, if_false, Bool.false_eq_true]⟩, trivial⟩
 have h6 : ¬ q[i].fOp = 6 := fun h => h67 (.inl h)
 have h7 : ¬ q[i].fOp = 7 := fun h => h67 (.inr h)
 have e : wt q f r (k + 1) i b = ⟨false, []⟩ := by simp [wt, hn, hm, h2, h3, h5, h6, h7]
 rw [e]
 refine ent Try.func56 rfl Try.call56 rfl (fun C => ?_); simp only [go_sem, st0, Try.ntmps56]
 cases b
 all_goals
  simp only [Bool.not_true, Bool.not_false] at hM
  have q0 := @Bool.true_beq; have q1 := @Bool.false_beq; have q2 := @hlt; have q3 := @h2; have q4 := @h3; have q5 := @h5; have q6 := @h6; have q7 := @h7; have q8 := @decide_false; refine a6s hM ?_
  exact aA ⟨⟨_, rfl, by simp only [go_sem]⟩, trivial⟩
def dR (q : List TNode) (f : TFile) (r : List TResult) (b : Bool) : TEdit := if okQ q then wt q f r q.length (q.length - 1) b else ⟨false, []⟩
theorem a3t (q : List TNode) (f : TFile) (r : List TResult) (b : Bool) : fB (dR q f r b) ≤ 8192 := by
 unfold dR
 split
 ·rename_i h
  have h2 := a8e (f := f) (r := r) h q.length (q.length - 1) b
  have h3 : 2 ^ q.length ≤ 2 ^ 9 := Nat.pow_le_pow_right (by omega) (jI h).2
  have h4 : (2 : Nat) ^ 9 = 512 := rfl
  omega
 ·have e0 : fB ⟨false, []⟩ = 0 := rfl
  omega
theorem xX (q : List TNode) (f : TFile) (r : List TResult) (hq : eD q ≤ 1048576) (hf : dM f ≤ 1048576) (hr : cK r ≤ 1048576) : FnC Try.prog 19 [.o (.d (.sl (q.map bA))), eH f, .o (.d (.sl (r.map bH)))] (pY (dR q f r true)) := by
 have hq1 : q.length ≤ eD q := by unfold eD; omega
 refine ent Try.func19 rfl Try.call19 rfl (fun C => ?_); simp only [go_sem, st0, Try.ntmps19]
 cases hv : okQ q
 ·have q0 := @hv; refine yF (eU q (by omega)) ?_
  exact aA ⟨⟨_, rfl, by simp only [go_sem, dR, hv, if_false, Bool.false_eq_true]⟩, trivial⟩
 ·have hl := jI hv
  have hx : (q.length : Int) - 1 = ((q.length - 1 : Nat) : Int) := by omega
  have q0 := @hv; have q1 := @hx; refine a4Q (eU q (by omega)) (qB q f r hv hf hr q.length (q.length - 1) true (by omega) (by omega)) ?_
  exact aA ⟨⟨_, rfl, by simp only [go_sem, dR, hv, if_true]⟩, trivial⟩
theorem xY (q : List TNode) (f : TFile) (r : List TResult) (hq : eD q ≤ 1048576) (hf : dM f ≤ 1048576) (hr : cK r ≤ 1048576) : FnC Try.prog 24 [.o (.d (.sl (q.map bA))), eH f, .o (.d (.sl (r.map bH)))] (gN (dR q f r true)) := by
 have hq1 : q.length ≤ eD q := by unfold eD; omega
 refine ent Try.func24 rfl Try.call24 rfl (fun C => ?_); simp only [go_sem, st0, Try.ntmps24]
 cases hv : okQ q
 ·have q0 := @hv; refine yF (cZ q (by omega)) ?_
  exact aA ⟨⟨_, rfl, by simp only [go_sem, dR, hv, if_false, Bool.false_eq_true]⟩, trivial⟩
 ·have hl := jI hv
  have hx : (q.length : Int) - 1 = ((q.length - 1 : Nat) : Int) := by omega
  have q0 := @hv; have q1 := @hx; refine a4Q (cZ q (by omega)) (uY q f r hv hf hr q.length (q.length - 1) true (by omega) (by omega)) ?_
  exact aA ⟨⟨_, rfl, by simp only [go_sem, dR, hv, if_true]⟩, trivial⟩
theorem vO (q : List TNode) (f : TFile) (r : List TResult) (hq : eD q ≤ 1048576) (hf : dM f ≤ 1048576) (hr : cK r ≤ 1048576) : FnC Try.prog 19 [.o (.d (.sl (q.map bA))), eH f, .o (.d (.sl (r.map bH)))] (gN (dR q f r true)) := fK (xX q f r hq hf hr) (by simp only [go_sem]) (by simp only [go_sem])
theorem uG (q : List TNode) (f : TFile) (r : List TResult) (hq : eD q ≤ 1048576) (hf : dM f ≤ 1048576) (hr : cK r ≤ 1048576) : FnC Try.prog 20 [.o (.d (.sl (q.map bA))), eH f, .o (.d (.sl (r.map bH)))] (pY (dR q f r false)) := by
 have hq1 : q.length ≤ eD q := by unfold eD; omega
 refine ent Try.func20 rfl Try.call20 rfl (fun C => ?_); simp only [go_sem, st0, Try.ntmps20]
 cases hv : okQ q
 ·have q0 := @hv; refine yF (eU q (by omega)) ?_
  exact aA ⟨⟨_, rfl, by simp only [go_sem, dR, hv, if_false, Bool.false_eq_true]⟩, trivial⟩
 ·have hl := jI hv
  have hx : (q.length : Int) - 1 = ((q.length - 1 : Nat) : Int) := by omega
  have q0 := @hv; have q1 := @hx; refine a4Q (eU q (by omega)) (qB q f r hv hf hr q.length (q.length - 1) false (by omega) (by omega)) ?_
  exact aA ⟨⟨_, rfl, by simp only [go_sem, dR, hv, if_true]⟩, trivial⟩
theorem uH (q : List TNode) (f : TFile) (r : List TResult) (hq : eD q ≤ 1048576) (hf : dM f ≤ 1048576) (hr : cK r ≤ 1048576) : FnC Try.prog 25 [.o (.d (.sl (q.map bA))), eH f, .o (.d (.sl (r.map bH)))] (gN (dR q f r false)) := by
 have hq1 : q.length ≤ eD q := by unfold eD; omega
 refine ent Try.func25 rfl Try.call25 rfl (fun C => ?_); simp only [go_sem, st0, Try.ntmps25]
 cases hv : okQ q
 ·have q0 := @hv; refine yF (cZ q (by omega)) ?_
  exact aA ⟨⟨_, rfl, by simp only [go_sem, dR, hv, if_false, Bool.false_eq_true]⟩, trivial⟩
 ·have hl := jI hv
  have hx : (q.length : Int) - 1 = ((q.length - 1 : Nat) : Int) := by omega
  have q0 := @hv; have q1 := @hx; refine a4Q (cZ q (by omega)) (uY q f r hv hf hr q.length (q.length - 1) false (by omega) (by omega)) ?_
  exact aA ⟨⟨_, rfl, by simp only [go_sem, dR, hv, if_true]⟩, trivial⟩
theorem tC (q : List TNode) (f : TFile) (r : List TResult) (hq : eD q ≤ 1048576) (hf : dM f ≤ 1048576) (hr : cK r ≤ 1048576) : FnC Try.prog 20 [.o (.d (.sl (q.map bA))), eH f, .o (.d (.sl (r.map bH)))] (gN (dR q f r false)) := fK (uG q f r hq hf hr) (by simp only [go_sem]) (by simp only [go_sem])
theorem a8d (l : List Int) (hl : l.length ≤ 9223372036854775807) : FnC Try.prog 17 [.o (.d (.sl (l.map mV)))] (ob (decide ((1048576 : Int) < (l.length : Int)))) := by
 refine ent Try.func17 rfl Try.call17 rfl (fun C => ?_); simp only [go_sem, st0, Try.ntmps17]
 refine aF ?_
 exact aA ⟨⟨_, rfl, by simp only [go_sem]⟩, trivial⟩
theorem a3s (n : Int) : FnC Try.prog 95 [oi n] (iO ⟨1, n, ⟨#[]⟩⟩) := by
 refine ent Try.func95 rfl Try.call95 rfl (fun C => ?_); simp only [go_sem, st0, Try.ntmps95]
 refine aF ?_
 exact aA ⟨⟨_, rfl, by simp only [go_sem]⟩, trivial⟩
theorem a6P (s : ByteArray) : FnC Try.prog 97 [os s] (iO ⟨2, 0, s⟩) := by
 refine ent Try.func97 rfl Try.call97 rfl (fun C => ?_); simp only [go_sem, st0, Try.ntmps97]
 refine aF ?_
 exact aA ⟨⟨_, rfl, by simp only [go_sem]⟩, trivial⟩
def amQ (x y : Int) : List TNode := [⟨3, 0, 0, ⟨#[97]⟩, ⟨1, x, ⟨#[]⟩⟩⟩, ⟨3, 0, 0, ⟨#[98]⟩, ⟨1, y, ⟨#[]⟩⟩⟩, ⟨7, 0, 1, ⟨#[]⟩, ⟨0, 0, ⟨#[]⟩⟩⟩]
def amL (x : Int) : List TNode := [⟨4, 0, 0, ⟨#[97]⟩, ⟨1, x, ⟨#[]⟩⟩⟩]
def amF : TFile := ⟨1, 0, false, 0, []⟩
theorem wD (l : List Int) (hl : l.length ≤ 1048576) (hw : ∀ i ∈ l, inR .u8 i) (i : Nat) (h : Int) (hi : i ≤ l.length) (hh : inR .i64 h) (n : Int) (hn : 1 ≤ n) (hn2 : n ≤ 1000000000) : FnB Try.prog 94 127 (oG l i h) [oi n] (fun x : Bool × Nat × Int => x.2.1 ≤ l.length ∧ inR .i64 x.2.2) (fun x => ob x.1) (fun x => oG l x.2.1 x.2.2) := by
 refine mW Try.func94 rfl Try.call94 rfl (fun C b => ?_); simp only [go_sem, Try.ntmps94]
 refine aF ?_
 refine gX (kF l hl hw i h hi hh n hn hn2) ⟨rfl, rfl⟩ rfl rfl ?_
 rintro ⟨x, i1, h1⟩ ⟨⟨b1, b2⟩, b3, b4⟩
 simp only at b1 b2 b3 b4
 simp only [go_sem]
 refine aF ?_
 exact aJ (decide (x = 0), i1, h1) ⟨⟨_, rfl, by simp only [go_sem]⟩, trivial⟩ ⟨b3, b4⟩ (by simp only [go_sem])
theorem a6O (l : List Int) (hl : l.length ≤ 1048576) (hw : ∀ i ∈ l, inR .u8 i) (i : Nat) (h : Int) (hi : i ≤ l.length) (hh : inR .i64 h) (s : List ByteArray) (h1 : 1 ≤ s.length) (h2 : s.length ≤ 1000) : FnB Try.prog 98 127 (oG l i h) [.o (.d (.sl (s.map a5b)))] (fun x : ByteArray × Nat × Int => x.1 ∈ s ∧ (x.2.1 ≤ l.length ∧ inR .i64 x.2.2)) (fun x => os x.1) (fun x => oG l x.2.1 x.2.2) := by
 refine mW Try.func98 rfl Try.call98 rfl (fun C b => ?_); simp only [go_sem, Try.ntmps98]
 have q0 := @a8C; refine gU ?_
 refine gX (kF l hl hw i h hi hh (s.length : Int) (by omega) (by omega)) ⟨rfl, rfl⟩ rfl rfl ?_
 rintro ⟨x, i1, h1'⟩ ⟨⟨b1, b2⟩, b3, b4⟩
 simp only at b1 b2 b3 b4
 obtain ⟨k, rfl⟩ : ∃ k : Nat, x = k := ⟨x.toNat, by omega⟩
 have hk : k < s.length := by omega
 simp only [go_sem]
 have q0 := @hk; refine gU ?_
 exact aJ (s[k], i1, h1') ⟨⟨_, rfl, by simp only [go_sem]⟩, trivial⟩ ⟨List.getElem_mem hk, b3, b4⟩ (by simp only [go_sem])
def nm4 : List ByteArray := [⟨#[97]⟩, ⟨#[98]⟩, ⟨#[110]⟩, ⟨#[116]⟩]
def smV (s : List TAttr) : Prop := ∀ a ∈ s, a.fValue.fStr.size ≤ 7
theorem wE {s : List TAttr} {x : TAttr} (h : smV s) (hx : x.fValue.fStr.size ≤ 7) : smV (s ++ [x]) := fun a ha => by
 rcases List.mem_append.1 ha with ha | ha
 ·exact h a ha
 ·simp only [List.mem_singleton] at ha; subst ha; exact hx
def oP (e : TEdit) : Prop := (e.fSet.map TAttr.fName).Sublist nm4 ∧ (e.fOK = false → e.fSet = []) ∧ smV e.fSet
theorem sZ {s : List TAttr} {i : Nat} {x : TAttr} (h : (s.map TAttr.fName).Sublist (nm4.take i)) (hx : nm4[i]? = some x.fName) : ((s ++ [x]).map TAttr.fName).Sublist (nm4.take (i + 1)) := by
 rw [List.take_succ, hx, List.map_append]
 exact h.append (List.Sublist.refl _)
theorem a5H {s : List TAttr} {i : Nat} (h : (s.map TAttr.fName).Sublist (nm4.take i)) : (s.map TAttr.fName).Sublist (nm4.take (i + 1)) := by
 rw [List.take_succ]
 exact h.trans (List.sublist_append_left _ _)
theorem xW (l : List Int) (hl : l.length ≤ 1048576) (hw : ∀ i ∈ l, inR .u8 i) (i : Nat) (h : Int) (hi : i ≤ l.length) (hh : inR .i64 h) : FnB Try.prog 58 127 (oG l i h) [] (fun x : TEdit × Nat × Int => oP x.1 ∧ (x.2.1 ≤ l.length ∧ inR .i64 x.2.2)) (fun x => pY x.1) (fun x => oG l x.2.1 x.2.2) := by
 refine mW Try.func58 rfl Try.call58 rfl (fun C b => ?_); simp only [go_sem, Try.ntmps58]
 refine aF ?_
 refine gX (wD l hl hw i h hi hh 6 (by omega) (by omega)) ⟨rfl, rfl⟩ rfl rfl ?_
 rintro ⟨ok, i1, h1⟩ ⟨b3, b4⟩
 simp only at b3 b4
 simp only [go_sem]
 refine aF ?_
 refine a2O 2 1 95 4 rfl rfl ?_
 simp only [go_sem]
 refine eY (α := Nat × Nat × Int × List TAttr) (fun x => [(5, oi x.1)]) (fun x => [(0, .pin b 127 [.sl (l.map mV), iv x.2.1, iv x.2.2.1]), (2, .box 53 [.d (bv !ok), .s 4]), (3, .row 9 1 (nm4.map a5b) true), (4, .row 95 4 (x.2.2.2.map aM) true)]) (fun x => (x.1 ≤ 4 ∧ (x.2.1 ≤ l.length ∧ inR .i64 x.2.2.1)) ∧ ((x.2.2.2.map TAttr.fName).Sublist (nm4.take x.1) ∧ (ok = true → x.2.2.2 = []) ∧ smV x.2.2.2)) (fun x => 4 - x.1) (0, i1, h1, []) (fun _ => ?_) ?_ ?_ (fun x hx => ?_)
 ·simp only [go_sem]
 ·simp only [go_sem]; simp [nm4, a5b]
 ·exact ⟨⟨Nat.zero_le _, b3, b4⟩, List.Sublist.refl _, fun _ => rfl, fun a ha => by simp at ha⟩
 ·obtain ⟨k, ci, ch, s⟩ := x
  obtain ⟨⟨r1, r2, r3⟩, r4, r5, r6⟩ := hx
  simp only at r1 r2 r3 r4 r5 r6
  have hsub : (s.map TAttr.fName).Sublist nm4 := r4.trans (List.take_sublist _ _)
  have hs : s.length ≤ 4 := by have := hsub.length_le; simpa [nm4] using this
  have hl1 : s.length + 1 ≤ 140737488355328 := by omega
  have hl2 : (s.length + 1) * 48 ≤ 140737488355328 := by omega
  simp only [go_sem]
  by_cases g : (k : Int) < 4
  ·have g' : ((k : Int) < 4) = True := by simp [g]
   cases ok
   case true =>
    have q0 := @g'; have q1 := @decide_true; have q2 := @Bool.not_true; refine pO ?_
    exact aJ (⟨!true, s⟩, ci, ch) ⟨⟨_, rfl, by simp only [go_sem]; try simp⟩, trivial⟩ ⟨⟨hsub, fun _ => r5 rfl, r6⟩, r2, r3⟩ (by simp only [go_sem])
   have hk : k < nm4.length := by simp [nm4]; omega
   have hx : nm4[k]? = some nm4[k] := List.getElem?_eq_getElem hk
   have q0 := @g'; have q1 := @decide_true; have q2 := @Bool.not_false; refine pO ?_
   refine gX (wD l hl hw ci ch r2 r3 3 (by omega) (by omega)) ⟨rfl, rfl⟩ rfl rfl ?_
   rintro ⟨x1, i2, h2⟩ ⟨c3, c4⟩
   simp only at c3 c4
   cases x1
   ·simp only [go_sem]
    refine aF ?_
    refine bE (k + 1, i2, h2, s) ?_ ?_ ?_
    ·simp only [go_sem]; simp
    ·exact ⟨⟨by simp only; omega, c3, c4⟩, a5H r4, (fun h => by cases h), r6⟩
    ·simp only; omega
   simp only [go_sem]
   refine aF ?_
   refine gX (kF l hl hw i2 h2 c3 c4 2 (by omega) (by omega)) ⟨rfl, rfl⟩ rfl rfl ?_
   rintro ⟨v, i3, h3⟩ ⟨_, d3, d4⟩
   simp only at d3 d4
   simp only [go_sem]
   by_cases g1 : (1 : Int) < (k : Int)
   ·have g1' : ((1 : Int) < (k : Int)) = True := by simp [g1]
    have q0 := @g1'; have q1 := @decide_true; refine a2r (a3s v) ?_
    refine a6U [6] ?_
    simp only [go_sem]
    refine gX (a6O l hl hw i3 h3 d3 d4 [⟨#[114, 101, 100]⟩, ⟨#[105, 110, 107]⟩] (by decide) (by decide)) ⟨rfl, rfl⟩ (by simp only [go_sem]) rfl ?_
    rintro ⟨sx, i4, h4⟩ ⟨hsx0, e3, e4⟩
    simp only at e3 e4 hsx0
    have hsx : sx.size ≤ 7 := by simp only [List.mem_cons, List.not_mem_nil, or_false] at hsx0; rcases hsx0 with rfl | rfl <;> decide
    simp only [go_sem]
    refine lS (a6P sx) ?_
    have he := And.intro e3 e4
    refine gX (wD l hl hw i4 h4 he.1 he.2 4 (by omega) (by omega)) ⟨rfl, rfl⟩ rfl rfl ?_
    rintro ⟨x2, i5, h5⟩ ⟨f3, f4⟩
    simp only at f3 f4
    cases x2
    ·simp only [go_sem]
     have qH := aI @hk (aI @hl1 @hl2); repeat' (with_reducible first | refine nY ?_ | (refine mX ?_; try simp only [go_sem, qH]) | refine kD ?_ | (apply rE [8,9,11] [] [0,1,2,3,4,5,6,7] [0,1,2,3,4,5,6,7] ((.c 8 [] [0,1] (.c 9 [10] [10] (.c 11 [] [] .n .n) .n) .n)) (by simp only [go_sem]; rfl) (by simp only [go_sem]; rfl) (by simp only [go_sem]; rfl) (by decide +kernel); (focus simp only [go_sem]; done)) | exact bP | refine aU (uX ?_) ?_ | refine aV (aX ?_) ?_ | refine aW (aX ?_) ?_ | exact bU | exact oH | exact uB | refine rD ?_ | refine aO ?_ | fail)
     refine bE (k + 1, i5, h5, s ++ [⟨nm4[k], ⟨2, 0, sx⟩⟩]) ?_ ?_ ?_
     ·simp only [go_sem, List.map_append]; simp [aM]
     ·exact ⟨⟨by simp only; omega, f3, f4⟩, sZ r4 hx, (fun h => by cases h), wE r6 (by first | exact hsx | exact Nat.zero_le _)⟩
     ·simp only; omega
    ·simp only [go_sem]
     have qH := aI @hk (aI @hl1 @hl2); repeat' (with_reducible first | refine nY ?_ | (refine mX ?_; try simp only [go_sem, qH]) | refine kD ?_ | (apply rE [8,9,11] [] [0,1,2,3,4,5,6,7] [0,1,2,3,4,5,6,7] ((.c 8 [] [0,1] (.c 9 [10] [10] (.c 11 [] [] .n .n) .n) .n)) (by simp only [go_sem]; rfl) (by simp only [go_sem]; rfl) (by simp only [go_sem]; rfl) (by decide +kernel); (focus simp only [go_sem]; done)) | exact bP | refine aU (uX ?_) ?_ | refine aV (aX ?_) ?_ | refine aW (aX ?_) ?_ | exact bU | exact oH | exact uB | refine rD ?_ | refine aO ?_ | fail)
     refine bE (k + 1, i5, h5, s ++ [⟨nm4[k], ⟨0, 0, ⟨#[]⟩⟩⟩]) ?_ ?_ ?_
     ·simp only [go_sem, List.map_append]; simp [aM]
     ·exact ⟨⟨by simp only; omega, f3, f4⟩, sZ r4 hx, (fun h => by cases h), wE r6 (by first | exact hsx | exact Nat.zero_le _)⟩
     ·simp only; omega
   ·have g1' : ((1 : Int) < (k : Int)) = False := by simp [g1]
    have q0 := @g1'; have q1 := @decide_false; refine a2r (a3s v) ?_
    have he := And.intro d3 d4
    refine gX (wD l hl hw i3 h3 he.1 he.2 4 (by omega) (by omega)) ⟨rfl, rfl⟩ rfl rfl ?_
    rintro ⟨x2, i5, h5⟩ ⟨f3, f4⟩
    simp only at f3 f4
    cases x2
    ·simp only [go_sem]
     have qH := aI @hk (aI @hl1 @hl2); repeat' (with_reducible first | refine nY ?_ | (refine mX ?_; try simp only [go_sem, qH]) | refine kD ?_ | (apply rE [8,9,11] [] [0,1,2,3,4,5,6,7] [0,1,2,3,4,5,6,7] ((.c 8 [] [0,1] (.c 9 [10] [10] (.c 11 [] [] .n .n) .n) .n)) (by simp only [go_sem]; rfl) (by simp only [go_sem]; rfl) (by simp only [go_sem]; rfl) (by decide +kernel); (focus simp only [go_sem]; done)) | exact bP | refine aU (uX ?_) ?_ | refine aV (aX ?_) ?_ | refine aW (aX ?_) ?_ | exact bU | exact oH | exact uB | refine rD ?_ | refine aO ?_ | fail)
     refine bE (k + 1, i5, h5, s ++ [⟨nm4[k], ⟨1, v, ⟨#[]⟩⟩⟩]) ?_ ?_ ?_
     ·simp only [go_sem, List.map_append]; simp [aM]
     ·exact ⟨⟨by simp only; omega, f3, f4⟩, sZ r4 hx, (fun h => by cases h), wE r6 (by first | exact hsx | exact Nat.zero_le _)⟩
     ·simp only; omega
    ·simp only [go_sem]
     have qH := aI @hk (aI @hl1 @hl2); repeat' (with_reducible first | refine nY ?_ | (refine mX ?_; try simp only [go_sem, qH]) | refine kD ?_ | (apply rE [8,9,11] [] [0,1,2,3,4,5,6,7] [0,1,2,3,4,5,6,7] ((.c 8 [] [0,1] (.c 9 [10] [10] (.c 11 [] [] .n .n) .n) .n)) (by simp only [go_sem]; rfl) (by simp only [go_sem]; rfl) (by simp only [go_sem]; rfl) (by decide +kernel); (focus simp only [go_sem]; done)) | exact bP | refine aU (uX ?_) ?_ | refine aV (aX ?_) ?_ | refine aW (aX ?_) ?_ | exact bU | exact oH | exact uB | refine rD ?_ | refine aO ?_ | fail)
     refine bE (k + 1, i5, h5, s ++ [⟨nm4[k], ⟨0, 0, ⟨#[]⟩⟩⟩]) ?_ ?_ ?_
     ·simp only [go_sem, List.map_append]; simp [aM]
     ·exact ⟨⟨by simp only; omega, f3, f4⟩, sZ r4 hx, (fun h => by cases h), wE r6 (by first | exact hsx | exact Nat.zero_le _)⟩
     ·simp only; omega
  ·have g' : ((k : Int) < 4) = False := by simp [g]
   have q0 := @g'; have q1 := @decide_false; refine jH ?_
   exact aJ (⟨!ok, s⟩, ci, ch) ⟨⟨_, rfl, by simp only [go_sem]; try simp⟩, trivial⟩ ⟨⟨hsub, fun h => r5 (by simpa using h), r6⟩, r2, r3⟩ (by simp only [go_sem])
theorem a0J (l : List Int) (hl : l.length ≤ 1048576) (hw : ∀ i ∈ l, inR .u8 i) : FnX Try.prog 21 [.o (.d (.sl (l.map mV)))] (fun p : TEdit × TEdit => oP p.1 ∧ oP p.2) (fun p => .t [(true, (pY p.1).cells), (true, (pY p.2).cells)]) := by
 refine a6z Try.func21 rfl Try.call21 rfl (fun C => ?_); simp only [go_sem, st0, Try.ntmps21]
 refine aF ?_
 refine a4Y (tQ l hl hw) rfl rfl ?_
 intro h0 q0
 simp only [go_sem]
 refine aF ?_
 refine gX (xW l hl hw 0 h0 (Nat.zero_le _) q0) ⟨rfl, rfl⟩ rfl rfl ?_
 rintro ⟨e1, i1, h1⟩ ⟨a1, a2, a3⟩
 simp only at a1 a2 a3
 simp only [go_sem]
 refine aF ?_
 refine gX (xW l hl hw i1 h1 a2 a3) ⟨rfl, rfl⟩ rfl rfl ?_
 rintro ⟨e2, i2, h2⟩ ⟨b1, b2, b3⟩
 simp only at b1 b2 b3
 simp only [go_sem]
 refine aF ?_
 exact rY (e1, e2) ⟨⟨_, rfl, by simp only [go_sem]; try simp⟩, by simp [nN]⟩ ⟨a1, b1⟩
end Go.Proofs.Ytolgdibgnndoaaa
end
section
namespace Go.Proofs
open Go.Shelf
def Try.laysInsG_ren : Go.Shelf.Ren := ⟨fun | 20 => 118 | n => n, fun | 24 => 74 | 22 => 28 | 3 => 3 | 25 => 80 | 4 => 4 | 0 => 0 | n => n, fun | n => n⟩
def Try.laysIdxG_ren : Go.Shelf.Ren := ⟨fun | 6 => 42 | n => n, fun | 22 => 28 | 23 => 74 | 25 => 78 | 3 => 3 | 0 => 0 | 4 => 4 | n => n, fun | n => n⟩
end Go.Proofs
end
