/- Joined texts. -/
import Derived.Test.YteaaopodnbjpoaaGreatZ12
import Derived.Test.YteaaopodnbjpoaaGreatZ11
import Derived.Test.YteaaopodnbjpoaaGreatZ10
import Derived.Ground.NamesProg
import Derived.Ground.Names2Prog
import Derived.Shelf.Sort.Plain
import Derived.Shelf.Slices.In.SortNone
import Derived.Shelf.Slices.CompactI
import Derived.Shelf.Slices.CompactS
import Derived.Test.YteaaopodnbjpoaaGreatProg
set_option linter.all false
section
set_option maxRecDepth 100000
set_option maxHeartbeats 4000000
namespace Go.Proofs.YteaaopodnbjpoaaGreat
open Go Go.Sx Go.RowKit Go.Proofs
theorem wI (s : ByteArray) : ∀ l : List TResult, (aR s l).length ≤ aG l
 | [] => by simp [aR]
 | x :: l => by
  have := wI s l
  unfold aR
  simp only [aG, wsum, List.length_cons] at this ⊢
  split
  ·unfold wResult; omega
  ·omega
theorem mU (l : List TResult) (s : ByteArray) (hl : aG l ≤ 67108864) : FnC Tryz.prog 115 [.o (.d (.sl (l.map aH))), os s] (.o (.d (.sl ((aR s l).map eQ)))) := (oC l s hl).pu (by simp only [go_sem, and_self])
theorem iY (l : List TResult) (s : ByteArray) (hl : aG l ≤ 67108864) : FnC Tryz.prog 93 [.o (.d (.sl (l.map aH))), os s] (.o (.d (.sl ((aR s l).map eQ)))) := (oD l s hl).pu (by simp only [go_sem, and_self])
def b5H (v : TValue) : Int := if v.fKind = 1 then v.fInt else 0
theorem yI (f : TFile) (s : ByteArray) (hf : wFile f ≤ 4300000) : FnC Tryz.prog 296 [bC f, os s] (.t [(false, [.d (iv (b5H (dS s f.fAttrs)))]), (false, [.d (bv (decide ((dS s f.fAttrs).fKind = 1)))])]) := by
 refine ent Tryz.func296 rfl Tryz.call296 rfl (fun C => ?_); simp only [go_sem, st0, Tryz.ntmps296]
 by_cases h : (dS s f.fAttrs).fKind = 1
 ·have q0 := @h; have q1 := @decide_true; have q2 := @decide_false; refine jP (iX f s hf) ?_
  exact aA ⟨⟨_, rfl, by simp only [go_sem, b5H, h, if_true, decide_true]⟩, by simp [aU]⟩
 ·have q0 := @h; have q1 := @decide_true; have q2 := @decide_false; refine jP (iX f s hf) ?_
  exact aA ⟨⟨_, rfl, by simp only [go_sem, b5H, h, if_false, decide_false]⟩, by simp [aU]⟩
theorem a1C (q : List TNode) (f : TFile) (r : List TResult) (hv : okQ q = true) (hf : wFile f ≤ 4300000) (hr : aG r ≤ 67108864) : ∀ k i, i < k → k ≤ q.length → FnC Tryz.prog 257 [.o (.d (.sl (q.map aT))), oi (i : Nat), bC f, .o (.d (.sl (r.map aH)))] (ob (mt q f r k i)) := by
 intro k
 induction k with
 | zero => intro i hi _; omega
 | succ k ih => ?_
 intro i hi hk
 have hlt : i < q.length := by omega
 have hn := List.getElem?_eq_getElem hlt
 have hok := sJ hv hn
 have hop := nJ hok
 refine ent Tryz.func257 rfl Tryz.call257 rfl (fun C => ?_); simp only [go_sem, st0, Tryz.ntmps257]
 by_cases h2 : q[i].fOp = 2
 ·have hm : mt q f r (k + 1) i = !decide ((dS q[i].fName f.fAttrs).fKind = 0) := by simp [mt, hn, h2]
  have q0 := @hlt; have q1 := @h2; have q2 := @decide_true; refine jP (iX f q[i].fName hf) ?_
  exact aA ⟨⟨_, rfl, by simp only [go_sem, hm, decide_not]⟩, trivial⟩
 by_cases h3 : q[i].fOp = 3
 ·have hm : mt q f r (k + 1) i = a1B (dS q[i].fName f.fAttrs) q[i].fValue := by simp [mt, hn, h3]
  have q0 := @hlt; have q1 := @h2; have q2 := @h3; have q3 := @decide_true; have q4 := @decide_false; refine a3r (iX f q[i].fName hf) ?_
  exact aA ⟨⟨_, rfl, by simp only [go_sem, hm, a1B]⟩, trivial⟩
 by_cases h4 : q[i].fOp = 4
 ·have hm : mt q f r (k + 1) i = a5c (dS q[i].fName f.fAttrs) q[i].fValue.fInt := by simp [mt, hn, h4]
  by_cases hj : (dS q[i].fName f.fAttrs).fKind = 1
  ·repeat' (with_reducible first | refine nY ?_ | (refine mX ?_; try simp only [go_sem, hlt, h2, h3, h4, decide_true, decide_false, hj, b5H, if_true]) | refine kO ?_ (by decide) | refine a5W (by kernel_rfl) ?_ | (refine cC (yI f q[i].fName hf) ?_ ?_; focus simp only [go_sem, and_self]; done) | (refine And.intro ?_ ?_; focus omega))
   exact aA ⟨⟨_, rfl, by simp only [go_sem, hm, a5c, hj, decide_true, Bool.true_and]⟩, trivial⟩
  ·repeat' (with_reducible first | refine nY ?_ | (refine mX ?_; try simp only [go_sem, hlt, h2, h3, h4, decide_true, decide_false, hj, b5H, if_false]) | refine kO ?_ (by decide) | refine a5W (by kernel_rfl) ?_ | (refine cC (yI f q[i].fName hf) ?_ ?_; focus simp only [go_sem, and_self]; done) | (refine And.intro ?_ ?_; focus omega))
   exact aA ⟨⟨_, rfl, by simp only [go_sem, hm, a5c, hj, decide_false, Bool.false_and]⟩, trivial⟩
 by_cases h5 : q[i].fOp = 5
 ·obtain ⟨l, hl, hli⟩ := dG hok (.inl h5)
  have hm : mt q f r (k + 1) i = !mt q f r k l := by simp [mt, hn, h5, hl]
  have q0 := @hlt; have q1 := @h2; have q2 := @h3; have q3 := @h4; have q4 := @h5; have q5 := @decide_true; have q6 := @decide_false; have q7 := @hl; refine a1d (ih l (by omega) (by omega)) ?_
  exact aA ⟨⟨_, rfl, by simp only [go_sem, hm]⟩, trivial⟩
 by_cases h6 : q[i].fOp = 6
 ·obtain ⟨l, hl, hli⟩ := dG hok (.inr (.inl h6))
  obtain ⟨m, hr2, hmi⟩ := fE hok (.inl h6)
  have hm : mt q f r (k + 1) i = (mt q f r k l && mt q f r k m) := by simp [mt, hn, h6, hl, hr2]
  cases hx : mt q f r k l
  all_goals
   have qH := aI @hlt (aI @h2 (aI @h3 (aI @h4 (aI @h5 (aI @h6 (aI @decide_true (aI @decide_false (aI @hl (aI @hr2 @hx))))))))); repeat' (with_reducible first | refine nY ?_ | (refine mX ?_; try simp only [go_sem, qH]) | refine kD ?_ | refine rD ?_ | refine cP (ih l (by omega) (by omega)) ?_ | refine cP (ih m (by omega) (by omega)) ?_ | refine aO ?_ | fail)
   exact aA ⟨⟨_, rfl, by simp only [go_sem, hm, hx, Bool.true_and, Bool.false_and]⟩, trivial⟩
 by_cases h7 : q[i].fOp = 7
 ·obtain ⟨l, hl, hli⟩ := dG hok (.inr (.inr h7))
  obtain ⟨m, hr2, hmi⟩ := fE hok (.inr h7)
  have hm : mt q f r (k + 1) i = (mt q f r k l || mt q f r k m) := by simp [mt, hn, h7, hl, hr2]
  cases hx : mt q f r k l
  all_goals
   have qH := aI @hlt (aI @h2 (aI @h3 (aI @h4 (aI @h5 (aI @h6 (aI @h7 (aI @decide_true (aI @decide_false (aI @hl (aI @hr2 @hx)))))))))); repeat' (with_reducible first | refine nY ?_ | (refine mX ?_; try simp only [go_sem, qH]) | refine kD ?_ | refine rD ?_ | refine cP (ih l (by omega) (by omega)) ?_ | refine cP (ih m (by omega) (by omega)) ?_ | refine aO ?_ | fail)
   exact aA ⟨⟨_, rfl, by simp only [go_sem, hm, hx, Bool.true_or, Bool.false_or]⟩, trivial⟩
 have hrl := wI q[i].fName r
 by_cases h8 : q[i].fOp = 8
 ·have hm : mt q f r (k + 1) i = hasI (aR q[i].fName r) f.fID := by simp [mt, hn, h8]
  have q0 := @hlt; have q1 := @h2; have q2 := @h3; have q3 := @h4; have q4 := @h5; have q5 := @h6; have q6 := @h7; have q7 := @h8; have q8 := @decide_true; have q9 := @decide_false; refine a6G (mU r q[i].fName hr) (jX (aR q[i].fName r) f.fID (by omega)) ?_
  exact aA ⟨⟨_, rfl, by simp only [go_sem, hm]⟩, trivial⟩
 by_cases h9 : q[i].fOp = 9
 ·have hm : mt q f r (k + 1) i = (!decide (f.fLink = 0) && hasI (aR q[i].fName r) f.fLink) := by simp [mt, hn, h9]
  by_cases hz : f.fLink = 0
  ·have qH := aI @hlt (aI @h2 (aI @h3 (aI @h4 (aI @h5 (aI @h6 (aI @h7 (aI @h8 (aI @h9 (aI @decide_true (aI @decide_false @hz)))))))))); repeat' (with_reducible first | refine nY ?_ | (refine mX ?_; try simp only [go_sem, qH]) | refine kD ?_ | refine rD ?_ | refine cP (mU r q[i].fName hr) ?_ | refine cP (jX (aR q[i].fName r) f.fLink (by omega)) ?_ | refine aO ?_ | fail)
   exact aA ⟨⟨_, rfl, by simp only [go_sem, hm, hz, decide_true, Bool.not_true, Bool.false_and]⟩, trivial⟩
  ·have qH := aI @hlt (aI @h2 (aI @h3 (aI @h4 (aI @h5 (aI @h6 (aI @h7 (aI @h8 (aI @h9 (aI @decide_true (aI @decide_false @hz)))))))))); repeat' (with_reducible first | refine nY ?_ | (refine mX ?_; try simp only [go_sem, qH]) | refine kD ?_ | refine rD ?_ | refine cP (mU r q[i].fName hr) ?_ | refine cP (jX (aR q[i].fName r) f.fLink (by omega)) ?_ | refine aO ?_ | fail)
   exact aA ⟨⟨_, rfl, by simp only [go_sem, hm, hz, decide_false, Bool.not_false, Bool.true_and]⟩, trivial⟩
 have h1 : q[i].fOp = 1 := by omega
 have hm : mt q f r (k + 1) i = true := by simp [mt, hn, h1]
 have qH := aI @hlt (aI @h1 (aI @h2 (aI @h3 (aI @h4 (aI @h5 (aI @h6 (aI @h7 (aI @h8 (aI @h9 (aI @decide_true @decide_false)))))))))); repeat' (with_reducible first | refine nY ?_ | (refine mX ?_; try simp only [go_sem, qH]) | refine kD ?_ | refine rD ?_ | refine aO ?_ | fail)
 exact aA ⟨⟨_, rfl, by simp only [go_sem, hm]⟩, trivial⟩
theorem a1D (q : List TNode) (f : TFile) (r : List TResult) (hv : okQ q = true) (hf : wFile f ≤ 4300000) (hr : aG r ≤ 67108864) : ∀ k i, i < k → k ≤ q.length → FnC Tryz.prog 250 [.o (.d (.sl (q.map aT))), oi (i : Nat), bC f, .o (.d (.sl (r.map aH)))] (ob (mt q f r k i)) := by
 intro k
 induction k with
 | zero => intro i hi _; omega
 | succ k ih => ?_
 intro i hi hk
 have hlt : i < q.length := by omega
 have hn := List.getElem?_eq_getElem hlt
 have hok := sJ hv hn
 have hop := nJ hok
 refine ent Tryz.func250 rfl Tryz.call250 rfl (fun C => ?_); simp only [go_sem, st0, Tryz.ntmps250]
 by_cases h1 : q[i].fOp = 1
 ·have hm : mt q f r (k + 1) i = true := by simp [mt, hn, h1]
  have q0 := @hlt; have q1 := @h1; have q2 := @decide_true; refine jP (dL f q[i].fName hf) ?_
  exact aA ⟨⟨_, rfl, by simp only [go_sem, hm]⟩, trivial⟩
 by_cases h2 : q[i].fOp = 2
 ·have hm : mt q f r (k + 1) i = !decide ((dS q[i].fName f.fAttrs).fKind = 0) := by simp [mt, hn, h2]
  have q0 := @hlt; have q1 := @h1; have q2 := @h2; have q3 := @decide_true; have q4 := @decide_false; refine a3r (dL f q[i].fName hf) ?_
  exact aA ⟨⟨_, rfl, by simp only [go_sem, hm, decide_not]⟩, trivial⟩
 by_cases h3 : q[i].fOp = 3
 ·have hm : mt q f r (k + 1) i = a1B (dS q[i].fName f.fAttrs) q[i].fValue := by simp [mt, hn, h3]
  have q0 := @hlt; have q1 := @h1; have q2 := @h2; have q3 := @h3; have q4 := @decide_true; have q5 := @decide_false; refine a1c (dL f q[i].fName hf) ?_
  exact aA ⟨⟨_, rfl, by simp only [go_sem, hm, a1B]⟩, trivial⟩
 by_cases h4 : q[i].fOp = 4
 ·have hm : mt q f r (k + 1) i = a5c (dS q[i].fName f.fAttrs) q[i].fValue.fInt := by simp [mt, hn, h4]
  by_cases hj : (dS q[i].fName f.fAttrs).fKind = 1
  ·have hj' : decide ((dS q[i].fName f.fAttrs).fKind = 1) = true := decide_eq_true hj
   have q0 := @hlt; have q1 := @h1; have q2 := @h2; have q3 := @h3; have q4 := @h4; have q5 := @decide_true; have q6 := @decide_false; have q7 := @hj'; refine a1d (dL f q[i].fName hf) ?_
   exact aA ⟨⟨_, rfl, by simp only [go_sem, hm, a5c, hj, decide_true, Bool.true_and]⟩, trivial⟩
  ·have hj' : decide ((dS q[i].fName f.fAttrs).fKind = 1) = false := decide_eq_false hj
   have q0 := @hlt; have q1 := @h1; have q2 := @h2; have q3 := @h3; have q4 := @h4; have q5 := @decide_true; have q6 := @decide_false; have q7 := @hj'; refine a1d (dL f q[i].fName hf) ?_
   exact aA ⟨⟨_, rfl, by simp only [go_sem, hm, a5c, hj, decide_false, Bool.false_and]⟩, trivial⟩
 by_cases h5 : q[i].fOp = 5
 ·obtain ⟨l, hl, hli⟩ := dG hok (.inl h5)
  have hm : mt q f r (k + 1) i = !mt q f r k l := by simp [mt, hn, h5, hl]
  have q0 := @hlt; have q1 := @h1; have q2 := @h2; have q3 := @h3; have q4 := @h4; have q5 := @h5; have q6 := @decide_true; have q7 := @decide_false; have q8 := @hl; refine a5Z (dL f q[i].fName hf) (ih l (by omega) (by omega)) ?_
  exact aA ⟨⟨_, rfl, by simp only [go_sem, hm]⟩, trivial⟩
 by_cases h6 : q[i].fOp = 6
 ·obtain ⟨l, hl, hli⟩ := dG hok (.inr (.inl h6))
  obtain ⟨m, hr2, hmi⟩ := fE hok (.inl h6)
  have hm : mt q f r (k + 1) i = (mt q f r k l && mt q f r k m) := by simp [mt, hn, h6, hl, hr2]
  cases hx : mt q f r k l
  all_goals
   have qH := aI @hlt (aI @h1 (aI @h2 (aI @h3 (aI @h4 (aI @h5 (aI @h6 (aI @decide_true (aI @decide_false (aI @hl (aI @hr2 @hx)))))))))); repeat' (with_reducible first | refine nY ?_ | (refine mX ?_; try simp only [go_sem, qH]) | refine kD ?_ | refine rD ?_ | refine cP (dL f q[i].fName hf) ?_ | refine cP (ih l (by omega) (by omega)) ?_ | refine cP (ih m (by omega) (by omega)) ?_ | refine aO ?_ | fail)
   exact aA ⟨⟨_, rfl, by simp only [go_sem, hm, hx, Bool.true_and, Bool.false_and]⟩, trivial⟩
 by_cases h7 : q[i].fOp = 7
 ·obtain ⟨l, hl, hli⟩ := dG hok (.inr (.inr h7))
  obtain ⟨m, hr2, hmi⟩ := fE hok (.inr h7)
  have hm : mt q f r (k + 1) i = (mt q f r k l || mt q f r k m) := by simp [mt, hn, h7, hl, hr2]
  cases hx : mt q f r k l
  all_goals
   have qH := aI @hlt (aI @h1 (aI @h2 (aI @h3 (aI @h4 (aI @h5 (aI @h6 (aI @h7 (aI @decide_true (aI @decide_false (aI @hl (aI @hr2 @hx))))))))))); repeat' (with_reducible first | refine nY ?_ | (refine mX ?_; try simp only [go_sem, qH]) | refine kD ?_ | refine rD ?_ | refine cP (dL f q[i].fName hf) ?_ | refine cP (ih l (by omega) (by omega)) ?_ | refine cP (ih m (by omega) (by omega)) ?_ | refine aO ?_ | fail)
   exact aA ⟨⟨_, rfl, by simp only [go_sem, hm, hx, Bool.true_or, Bool.false_or]⟩, trivial⟩
 have hrl := wI q[i].fName r
 by_cases h8 : q[i].fOp = 8
 ·have hm : mt q f r (k + 1) i = hasI (aR q[i].fName r) f.fID := by simp [mt, hn, h8]
  have qH := aI @hlt (aI @h1 (aI @h2 (aI @h3 (aI @h4 (aI @h5 (aI @h6 (aI @h7 (aI @h8 (aI @decide_true @decide_false))))))))); repeat' (with_reducible first | refine nY ?_ | (refine mX ?_; try simp only [go_sem, qH]) | refine kD ?_ | refine rD ?_ | refine cP (dL f q[i].fName hf) ?_ | refine cP (iY r q[i].fName hr) ?_ | refine cP (fO (aR q[i].fName r) f.fID (by omega)) ?_ | refine aO ?_ | fail)
  exact aA ⟨⟨_, rfl, by simp only [go_sem, hm]⟩, trivial⟩
 have h9 : q[i].fOp = 9 := by omega
 have hm : mt q f r (k + 1) i = (!decide (f.fLink = 0) && hasI (aR q[i].fName r) f.fLink) := by simp [mt, hn, h9]
 by_cases hz : f.fLink = 0
 ·have hz1 : decide (f.fLink = 0) = true := decide_eq_true hz
  have hz2 : decide (¬ f.fLink = 0) = false := decide_eq_false (fun h => h hz)
  have qH := aI @hlt (aI @h1 (aI @h2 (aI @h3 (aI @h4 (aI @h5 (aI @h6 (aI @h7 (aI @h8 (aI @decide_true (aI @decide_false (aI @hz1 @hz2))))))))))); repeat' (with_reducible first | refine nY ?_ | (refine mX ?_; try simp only [go_sem, qH]) | refine kD ?_ | refine rD ?_ | refine cP (dL f q[i].fName hf) ?_ | refine cP (iY r q[i].fName hr) ?_ | refine cP (fO (aR q[i].fName r) f.fLink (by omega)) ?_ | refine aO ?_ | fail)
  exact aA ⟨⟨_, rfl, by simp only [go_sem, hm, hz, decide_true, Bool.not_true, Bool.false_and]⟩, trivial⟩
 ·have hz1 : decide (f.fLink = 0) = false := decide_eq_false hz
  have hz2 : decide (¬ f.fLink = 0) = true := decide_eq_true hz
  have qH := aI @hlt (aI @h1 (aI @h2 (aI @h3 (aI @h4 (aI @h5 (aI @h6 (aI @h7 (aI @h8 (aI @decide_true (aI @decide_false (aI @hz1 @hz2))))))))))); repeat' (with_reducible first | refine nY ?_ | (refine mX ?_; try simp only [go_sem, qH]) | refine kD ?_ | refine rD ?_ | refine cP (dL f q[i].fName hf) ?_ | refine cP (iY r q[i].fName hr) ?_ | refine cP (fO (aR q[i].fName r) f.fLink (by omega)) ?_ | refine aO ?_ | fail)
  exact aA ⟨⟨_, rfl, by simp only [go_sem, hm, hz, decide_false, Bool.not_false, Bool.true_and]⟩, trivial⟩
theorem b5D (b : List Int) (x : Int) (hb : b.length ≤ 67108864) : FnC Tryz.prog 243 [oi x, .o (.q [.sl (b.map eQ)])] (ob (hasI b x)) := by
 refine ent Tryz.func243 rfl Tryz.call243 rfl (fun C => ?_); simp only [go_sem, st0, Tryz.ntmps243]
 refine fK (a1x b x hb) ?_
 exact aA ⟨⟨_, rfl, by simp only [go_sem]⟩, trivial⟩
theorem a4T (a b : List Int) (ha : a.length ≤ 67108864) (hb : b.length ≤ 67108864) : FnC Tryz.prog 193 [.o (.d (.sl (a.map eQ))), .o (.d (.sl (b.map eQ)))] (.o (.w 3 1 ((gH a b).map eQ))) := by
 refine ent Tryz.func193 rfl Tryz.call193 rfl (fun C => ?_); simp only [go_sem, st0, Tryz.ntmps193]
 have qH := trivial; repeat' (with_reducible first | refine nY ?_ | (refine mX ?_; try simp only [go_sem]) | refine kD ?_ | refine rD ?_ | refine cP (yB a ha) ?_ | refine vI (yE _ [.sl (b.map eQ)] (hasI b) a (fun s _ => b5D b s hb) ha) ?_ | refine vJ (yE _ [.sl (b.map eQ)] (hasI b) a (fun s _ => b5D b s hb) ha) ?_ | refine aO ?_ | fail)
 exact aA ⟨⟨_, rfl, by simp only [go_sem, gH]⟩, trivial⟩
theorem yD (a b : List Int) (ha : a.length ≤ 67108864) (hb : b.length ≤ 67108864) : FnC Tryz.prog 114 [.o (.d (.sl (a.map eQ))), .o (.d (.sl (b.map eQ)))] (.t [(false, [.w 3 1 ((gH b a).map eQ)]), (false, [.w 3 1 ((gH a b).map eQ)])]) := by
 refine ent Tryz.func114 rfl Tryz.call114 rfl (fun C => ?_); simp only [go_sem, st0, Tryz.ntmps114]
 refine a7J (a4T b a hb ha) (a4T a b ha hb) ?_
 exact aA ⟨⟨_, rfl, by simp only [go_sem]⟩, by simp [aU]⟩
theorem a6R (a b : List Int) (k : Nat) (h : k < a.length) : gH (a.take (k + 1)) b = gH (a.take k) b ++ (if hasI b a[k] then [] else [a[k]]) := by
 unfold gH
 rw [List.take_succ_eq_append_getElem h, List.filter_append]
 cases hc : hasI b a[k]
 ·simp [hc]
 ·simp [hc]
theorem qR (a b : List Int) (ha : a.length ≤ 67108864) (hb : b.length ≤ 67108864) : FnC Tryz.prog 92 [.o (.d (.sl (a.map eQ))), .o (.d (.sl (b.map eQ)))] (.t [(false, [.w 3 1 ((gH b a).map eQ)]), (false, [.w 3 1 ((gH a b).map eQ)])]) := by
 refine ent Tryz.func92 rfl Tryz.call92 rfl (fun C => ?_); simp only [go_sem, st0, Tryz.ntmps92]
 refine aD ?_
 refine aM (α := Nat) (fun k => [(6, .o (.s 0)), (10, .o .u), (8, oi k)]) (fun k => [(0, .row 3 1 ((gH (b.take k) a).map eQ) true)]) (fun k => k ≤ b.length) (fun k => b.length - k) 0 (fun _ => ?_) ?_ ?_ (fun k hk => ?_)
 ·simp only [go_sem]
 ·simp only [go_sem]; simp [gH]
 ·simp
 ·simp only [go_sem]
  refine aD ?_
  refine cnd rfl (fun h1 => ?_) (fun h1 => ?_)
  ·simp only [decide_eq_true_eq, Int.ofNat_lt] at h1
   have ht := a6R b a k h1
   have hl := oN (b.take k) a
   rw [List.length_take] at hl
   have hl1 : (gH (b.take k) a).length + 1 ≤ 140737488355328 := by omega
   have hl2 : ((gH (b.take k) a).length + 1) * 8 ≤ 140737488355328 := by omega
   cases hv : hasI a b[k]
   all_goals
    rw [hv] at ht
    have q0 := @h1; have q1 := @hv; have q2 := @hl1; have q3 := @hl2; refine a2e (fO a b[k] ha) ?_
    refine aC (k + 1) ?_ ?_ ?_
    ·simp only [go_sem, ht, List.map_append]; simp
    ·omega
    ·omega
  ·simp only [decide_eq_false_iff_not] at h1
   have e : k = b.length := by omega
   subst e
   rw [List.take_length]
   refine aD ?_
   refine aM (α := Nat) (fun k => [(7, .o (.s 1)), (11, .o .u), (9, oi k)]) (fun k => [(1, .row 3 1 ((gH (a.take k) b).map eQ) true)]) (fun k => k ≤ a.length) (fun k => a.length - k) 0 (fun _ => ?_) ?_ ?_ (fun k hk => ?_)
   ·simp only [go_sem]
   ·simp only [go_sem]; simp [gH]
   ·simp
   ·simp only [go_sem]
    refine aD ?_
    refine cnd rfl (fun h1 => ?_) (fun h1 => ?_)
    ·simp only [decide_eq_true_eq, Int.ofNat_lt] at h1
     have ht := a6R a b k h1
     have hl := oN (a.take k) b
     rw [List.length_take] at hl
     have hl1 : (gH (a.take k) b).length + 1 ≤ 140737488355328 := by omega
     have hl2 : ((gH (a.take k) b).length + 1) * 8 ≤ 140737488355328 := by omega
     cases hv : hasI b a[k]
     all_goals
      rw [hv] at ht
      have q0 := @h1; have q1 := @hv; have q2 := @hl1; have q3 := @hl2; refine a2e (fO b a[k] hb) ?_
      refine aC (k + 1) ?_ ?_ ?_
      ·simp only [go_sem, ht, List.map_append]; simp
      ·omega
      ·omega
    ·simp only [decide_eq_false_iff_not] at h1
     have e : k = a.length := by omega
     subst e
     rw [List.take_length]
     refine aD ?_
     exact aA ⟨⟨_, rfl, by simp only [go_sem]⟩, by simp [aU]⟩
theorem a1w (a b : List TResult) (ha : aG a ≤ 4300000) (hb : aG b ≤ 67108864) : FnC Tryz.prog 51 [.o (.d (.sl (a.map aH))), .o (.d (.sl (b.map aH)))] (.o (.w 100 3 ((iH a b).map jW))) := by
 have hb0 : b.length + wsum wResult b ≤ 67108864 := hb
 refine ent Tryz.func51 rfl Tryz.call51 rfl (fun C => ?_); simp only [go_sem, st0, Tryz.ntmps51]
 refine aD ?_
 refine aM (α := Nat) (fun k => [(5, .o (.s 0)), (10, .o .u), (13, oi k)]) (fun k => [(0, .row 100 3 ((iH a (b.take k)).map jW) true)]) (fun k => k ≤ b.length) (fun k => b.length - k) 0 (fun _ => ?_) ?_ ?_ (fun k hk => ?_)
 ·simp only [go_sem]
 ·simp only [go_sem]; simp [iH]
 ·simp
 ·simp only [go_sem]
  refine aD ?_
  refine cnd rfl (fun h1 => ?_) (fun h1 => ?_)
  ·simp only [decide_eq_true_eq, Int.ofNat_lt] at h1
   have ht := a4U a b k h1
   have hw := bB wResult b h1
   have ex : wResult b[k] = b[k].fName.size + b[k].fIDs.length := rfl
   have hr := a4V b[k].fName a
   have hl := a6S a b k
   have hl1 : (iH a (b.take k)).length + 1 ≤ 140737488355328 := by omega
   have hl2 : ((iH a (b.take k)).length + 1) * 64 ≤ 140737488355328 := by omega
   have hs1 := oN b[k].fIDs (aR b[k].fName a)
   have hs2 := oN (aR b[k].fName a) b[k].fIDs
   have hI : ((gH b[k].fIDs (aR b[k].fName a)).length : Int) + ((gH (aR b[k].fName a) b[k].fIDs).length : Int) = (((gH b[k].fIDs (aR b[k].fName a)).length + (gH (aR b[k].fName a) b[k].fIDs).length : Nat) : Int) := by omega
   by_cases hv : 0 < (gH b[k].fIDs (aR b[k].fName a)).length + (gH (aR b[k].fName a) b[k].fIDs).length
   ·have hz : (0 : Int) < (((gH b[k].fIDs (aR b[k].fName a)).length + (gH (aR b[k].fName a) b[k].fIDs).length : Nat) : Int) := by omega
    have hd : qU a b[k] = [⟨b[k].fName, gH b[k].fIDs (aR b[k].fName a), gH (aR b[k].fName a) b[k].fIDs⟩] := by unfold qU; rw [if_pos hv]
    rw [hd] at ht
    have qH := aI @h1 (aI @hl1 (aI @hl2 (aI @hI (aI @hz @decide_true)))); repeat' (with_reducible first | refine nY ?_ | (refine mX ?_; try simp only [go_sem, qH]) | refine kD ?_ | (apply rE [3,6] [] [0,1,2,4,5] [0,1,2,4,5] ((.c 3 [] [4,5] (.c 6 [7,8,9,10,11] [7,8,9,10,11] .n .n) .n)) (by simp only [go_sem]; rfl) (by simp only [go_sem]; rfl) (by simp only [go_sem]; rfl) (by decide +kernel); (focus simp only [go_sem]; done)) | exact bU | refine bF (uX ?_) ?_ | refine bG (aX ?_) ?_ | refine bH (aX ?_) ?_ | exact bE | exact oH | exact uB | refine rD ?_ | refine cP (oC a b[k].fName (by omega)) ?_ | refine cP (yD (aR b[k].fName a) b[k].fIDs (by omega) (by omega)) ?_ | refine aO ?_ | fail)
    refine aC (k + 1) ?_ ?_ ?_
    ·simp only [go_sem, ht, List.map_append]; simp [jW]
    ·omega
    ·omega
   ·have hz : ¬ (0 : Int) < (((gH b[k].fIDs (aR b[k].fName a)).length + (gH (aR b[k].fName a) b[k].fIDs).length : Nat) : Int) := by omega
    have hd : qU a b[k] = [] := by unfold qU; rw [if_neg hv]
    rw [hd, List.append_nil] at ht
    have qH := aI @h1 (aI @hI (aI @hz @decide_false)); repeat' (with_reducible first | refine nY ?_ | (refine mX ?_; try simp only [go_sem, qH]) | refine kD ?_ | (apply rE [3,6] [] [0,1,2,4,5] [0,1,2,4,5] ((.c 3 [] [4,5] (.c 6 [7,8,9,10,11] [7,8,9,10,11] .n .n) .n)) (by simp only [go_sem]; rfl) (by simp only [go_sem]; rfl) (by simp only [go_sem]; rfl) (by decide +kernel); (focus simp only [go_sem]; done)) | exact bU | refine bF (uX ?_) ?_ | refine bG (aX ?_) ?_ | refine bH (aX ?_) ?_ | exact bE | exact oH | exact uB | refine rD ?_ | refine cP (oC a b[k].fName (by omega)) ?_ | refine cP (yD (aR b[k].fName a) b[k].fIDs (by omega) (by omega)) ?_ | refine aO ?_ | fail)
    refine aC (k + 1) ?_ ?_ ?_
    ·simp only [go_sem, ht]; simp
    ·omega
    ·omega
  ·simp only [decide_eq_false_iff_not] at h1
   have e : k = b.length := by omega
   subst e
   refine aD ?_
   exact aA ⟨⟨_, rfl, by simp only [go_sem, List.take_length]⟩, trivial⟩
theorem a7U (a b : List TResult) (ha : aG a ≤ 4300000) (hb : aG b ≤ 67108864) : FnC Tryz.prog 43 [.o (.d (.sl (a.map aH))), .o (.d (.sl (b.map aH)))] (.o (.w 100 3 ((iH a b).map jW))) := by
 have hb0 : b.length + wsum wResult b ≤ 67108864 := hb
 refine ent Tryz.func43 rfl Tryz.call43 rfl (fun C => ?_); simp only [go_sem, st0, Tryz.ntmps43]
 refine aD ?_
 refine aM (α := Nat) (fun k => [(5, .o (.s 0)), (9, .o .u), (6, oi k)]) (fun k => [(0, .row 100 3 ((iH a (b.take k)).map jW) true)]) (fun k => k ≤ b.length) (fun k => b.length - k) 0 (fun _ => ?_) ?_ ?_ (fun k hk => ?_)
 ·simp only [go_sem]
 ·simp only [go_sem]; simp [iH]
 ·simp
 ·simp only [go_sem]
  refine aD ?_
  refine cnd rfl (fun h1 => ?_) (fun h1 => ?_)
  ·simp only [decide_eq_true_eq, Int.ofNat_lt] at h1
   have ht := a4U a b k h1
   have hw := bB wResult b h1
   have ex : wResult b[k] = b[k].fName.size + b[k].fIDs.length := rfl
   have hr := a4V b[k].fName a
   have hl := a6S a b k
   have hl1 : (iH a (b.take k)).length + 1 ≤ 140737488355328 := by omega
   have hl2 : ((iH a (b.take k)).length + 1) * 64 ≤ 140737488355328 := by omega
   have hs1 := oN b[k].fIDs (aR b[k].fName a)
   have hs2 := oN (aR b[k].fName a) b[k].fIDs
   have hI : ((gH b[k].fIDs (aR b[k].fName a)).length : Int) + ((gH (aR b[k].fName a) b[k].fIDs).length : Int) = (((gH b[k].fIDs (aR b[k].fName a)).length + (gH (aR b[k].fName a) b[k].fIDs).length : Nat) : Int) := by omega
   by_cases hv : 0 < (gH b[k].fIDs (aR b[k].fName a)).length + (gH (aR b[k].fName a) b[k].fIDs).length
   ·have hd : qU a b[k] = [⟨b[k].fName, gH b[k].fIDs (aR b[k].fName a), gH (aR b[k].fName a) b[k].fIDs⟩] := by unfold qU; rw [if_pos hv]
    rw [hd] at ht
    by_cases hz1 : 0 < (gH b[k].fIDs (aR b[k].fName a)).length
    ·have hz : (0 : Int) < ((gH b[k].fIDs (aR b[k].fName a)).length : Int) := by omega
     have qH := aI @h1 (aI @hl1 (aI @hl2 (aI @hz @decide_true))); repeat' (with_reducible first | refine nY ?_ | (refine mX ?_; try simp only [go_sem, qH]) | refine kD ?_ | (apply rE [6,12] [] [0,1,2,3,4,5,7,8,9,10,11] [0,1,2,3,4,5,7,8,9,10,11] ((.c 6 [] [7,8,9,10,11] (.c 12 [13,14,15,16,17] [13,14,15,16,17] .n .n) .n)) (by simp only [go_sem]; rfl) (by simp only [go_sem]; rfl) (by simp only [go_sem]; rfl) (by decide +kernel); (focus simp only [go_sem]; done)) | exact bU | refine bF (uX ?_) ?_ | refine bG (aX ?_) ?_ | refine bH (aX ?_) ?_ | exact bE | exact oH | exact uB | refine rD ?_ | refine cP (oD a b[k].fName (by omega)) ?_ | refine cP (qR (aR b[k].fName a) b[k].fIDs (by omega) (by omega)) ?_ | refine aO ?_ | fail)
     refine aC (k + 1) ?_ ?_ ?_
     ·simp only [go_sem, ht, List.map_append]; simp [jW]
     ·omega
     ·omega
    ·have hz : ¬ (0 : Int) < ((gH b[k].fIDs (aR b[k].fName a)).length : Int) := by omega
     have hy : (0 : Int) < ((gH (aR b[k].fName a) b[k].fIDs).length : Int) := by omega
     have qH := aI @h1 (aI @hl1 (aI @hl2 (aI @hz (aI @hy (aI @decide_true @decide_false))))); repeat' (with_reducible first | refine nY ?_ | (refine mX ?_; try simp only [go_sem, qH]) | refine kD ?_ | (apply rE [6,12] [] [0,1,2,3,4,5,7,8,9,10,11] [0,1,2,3,4,5,7,8,9,10,11] ((.c 6 [] [7,8,9,10,11] (.c 12 [13,14,15,16,17] [13,14,15,16,17] .n .n) .n)) (by simp only [go_sem]; rfl) (by simp only [go_sem]; rfl) (by simp only [go_sem]; rfl) (by decide +kernel); (focus simp only [go_sem]; done)) | exact bU | refine bF (uX ?_) ?_ | refine bG (aX ?_) ?_ | refine bH (aX ?_) ?_ | exact bE | exact oH | exact uB | refine rD ?_ | refine cP (oD a b[k].fName (by omega)) ?_ | refine cP (qR (aR b[k].fName a) b[k].fIDs (by omega) (by omega)) ?_ | refine aO ?_ | fail)
     refine aC (k + 1) ?_ ?_ ?_
     ·simp only [go_sem, ht, List.map_append]; simp [jW]
     ·omega
     ·omega
   ·have hz : ¬ (0 : Int) < ((gH b[k].fIDs (aR b[k].fName a)).length : Int) := by omega
    have hy : ¬ (0 : Int) < ((gH (aR b[k].fName a) b[k].fIDs).length : Int) := by omega
    have hd : qU a b[k] = [] := by unfold qU; rw [if_neg hv]
    rw [hd, List.append_nil] at ht
    have qH := aI @h1 (aI @hz (aI @hy @decide_false)); repeat' (with_reducible first | refine nY ?_ | (refine mX ?_; try simp only [go_sem, qH]) | refine kD ?_ | (apply rE [6,12] [] [0,1,2,3,4,5,7,8,9,10,11] [0,1,2,3,4,5,7,8,9,10,11] ((.c 6 [] [7,8,9,10,11] (.c 12 [13,14,15,16,17] [13,14,15,16,17] .n .n) .n)) (by simp only [go_sem]; rfl) (by simp only [go_sem]; rfl) (by simp only [go_sem]; rfl) (by decide +kernel); (focus simp only [go_sem]; done)) | exact bU | refine bF (uX ?_) ?_ | refine bG (aX ?_) ?_ | refine bH (aX ?_) ?_ | exact bE | exact oH | exact uB | refine rD ?_ | refine cP (oD a b[k].fName (by omega)) ?_ | refine cP (qR (aR b[k].fName a) b[k].fIDs (by omega) (by omega)) ?_ | refine aO ?_ | fail)
    refine aC (k + 1) ?_ ?_ ?_
    ·simp only [go_sem, ht]; simp
    ·omega
    ·omega
  ·simp only [decide_eq_false_iff_not] at h1
   have e : k = b.length := by omega
   subst e
   refine aD ?_
   exact aA ⟨⟨_, rfl, by simp only [go_sem, List.take_length]⟩, trivial⟩
end Go.Proofs.YteaaopodnbjpoaaGreat
end
section
namespace Go.Proofs
open Go.Shelf
def Tryz.laysSortStr_ren : Go.Shelf.Ren := ⟨fun | 190 => 240 | 125 => 286 | 258 => 285 | 128 => 319 | 129 => 320 | 302 => 310 | 303 => 311 | 304 => 312 | 305 => 313 | 306 => 314 | 307 => 315 | 308 => 316 | 309 => 317 | 310 => 318 | 333 => 325 | 329 => 326 | 330 => 327 | 334 => 328 | 335 => 329 | 336 => 330 | 344 => 333 | n => n, fun | 31 => 149 | 9 => 9 | 3 => 3 | 46 => 266 | 0 => 0 | 51 => 288 | 53 => 290 | 4 => 4 | 183 => 281 | 182 => 280 | 131 => 271 | 5 => 5 | 218 => 294 | 222 => 298 | 228 => 301 | 229 => 302 | n => n, fun | n => n⟩
theorem Tryz.laysSortStr : Go.Proofs.Lays.n190 Tryz.prog Tryz.laysSortStr_ren := {
 mixed := by kernel_rfl
 f125 := Tryz.func286.trans (congrArg some (by kernel_rfl))
 f128 := Tryz.func319.trans (congrArg some (by kernel_rfl))
 f129 := Tryz.func320.trans (congrArg some (by kernel_rfl))
 f190 := Tryz.func240.trans (congrArg some (by kernel_rfl))
 f258 := Tryz.func285.trans (congrArg some (by kernel_rfl))
 f302 := Tryz.func310.trans (congrArg some (by kernel_rfl))
 f303 := Tryz.func311.trans (congrArg some (by kernel_rfl))
 f304 := Tryz.func312.trans (congrArg some (by kernel_rfl))
 f305 := Tryz.func313.trans (congrArg some (by kernel_rfl))
 f306 := Tryz.func314.trans (congrArg some (by kernel_rfl))
 f307 := Tryz.func315.trans (congrArg some (by kernel_rfl))
 f308 := Tryz.func316.trans (congrArg some (by kernel_rfl))
 f309 := Tryz.func317.trans (congrArg some (by kernel_rfl))
 f310 := Tryz.func318.trans (congrArg some (by kernel_rfl))
 f329 := Tryz.func326.trans (congrArg some (by kernel_rfl))
 f330 := Tryz.func327.trans (congrArg some (by kernel_rfl))
 f333 := Tryz.func325.trans (congrArg some (by kernel_rfl))
 f334 := Tryz.func328.trans (congrArg some (by kernel_rfl))
 f335 := Tryz.func329.trans (congrArg some (by kernel_rfl))
 f336 := Tryz.func330.trans (congrArg some (by kernel_rfl))
 f344 := Tryz.func333.trans (congrArg some (by kernel_rfl))
 t0 := Tryz.underlying0
 a0 := Tryz.isAgg0
 z0 := Tryz.sizeOf0
 v0 := Tryz.zeroValue0
 t3 := Tryz.underlying3
 a3 := Tryz.isAgg3
 z3 := Tryz.sizeOf3
 v3 := Tryz.zeroValue3
 t4 := Tryz.underlying4
 a4 := Tryz.isAgg4
 z4 := Tryz.sizeOf4
 v4 := Tryz.zeroValue4
 t5 := Tryz.underlying5
 a5 := Tryz.isAgg5
 z5 := Tryz.sizeOf5
 v5 := Tryz.zeroValue5
 t9 := Tryz.underlying9
 a9 := Tryz.isAgg9
 z9 := Tryz.sizeOf9
 v9 := Tryz.zeroValue9
 t31 := Tryz.underlying149
 a31 := Tryz.isAgg149
 z31 := Tryz.sizeOf149
 v31 := Tryz.zeroValue149
 t46 := Tryz.underlying266
 a46 := Tryz.isAgg266
 z46 := Tryz.sizeOf266
 v46 := Tryz.zeroValue266
 t51 := Tryz.underlying288
 a51 := Tryz.isAgg288
 z51 := Tryz.sizeOf288
 v51 := Tryz.zeroValue288
 t53 := Tryz.underlying290
 a53 := Tryz.isAgg290
 z53 := Tryz.sizeOf290
 v53 := Tryz.zeroValue290
 t131 := Tryz.underlying271
 a131 := Tryz.isAgg271
 z131 := Tryz.sizeOf271
 v131 := Tryz.zeroValue271
 t182 := Tryz.underlying280
 a182 := Tryz.isAgg280
 z182 := Tryz.sizeOf280
 v182 := Tryz.zeroValue280
 t183 := Tryz.underlying281
 a183 := Tryz.isAgg281
 z183 := Tryz.sizeOf281
 v183 := Tryz.zeroValue281
 t218 := Tryz.underlying294
 a218 := Tryz.isAgg294
 z218 := Tryz.sizeOf294
 v218 := Tryz.zeroValue294
 t222 := Tryz.underlying298
 a222 := Tryz.isAgg298
 z222 := Tryz.sizeOf298
 v222 := Tryz.zeroValue298
 t228 := Tryz.underlying301
 a228 := Tryz.isAgg301
 z228 := Tryz.sizeOf301
 v228 := Tryz.zeroValue301
 t229 := Tryz.underlying302
 a229 := Tryz.isAgg302
 z229 := Tryz.sizeOf302
 v229 := Tryz.zeroValue302 }
def Tryz.laysCompactStr_ren : Go.Shelf.Ren := ⟨fun | 194 => 241 | n => n, fun | 31 => 149 | 9 => 9 | 3 => 3 | 4 => 4 | 0 => 0 | n => n, fun | n => n⟩
theorem Tryz.laysCompactStr : Go.Proofs.Lays.n194 Tryz.prog Tryz.laysCompactStr_ren := {
 mixed := by kernel_rfl
 f194 := Tryz.func241.trans (congrArg some (by kernel_rfl))
 t0 := Tryz.underlying0
 a0 := Tryz.isAgg0
 z0 := Tryz.sizeOf0
 v0 := Tryz.zeroValue0
 t3 := Tryz.underlying3
 a3 := Tryz.isAgg3
 z3 := Tryz.sizeOf3
 v3 := Tryz.zeroValue3
 t4 := Tryz.underlying4
 a4 := Tryz.isAgg4
 z4 := Tryz.sizeOf4
 v4 := Tryz.zeroValue4
 t9 := Tryz.underlying9
 a9 := Tryz.isAgg9
 z9 := Tryz.sizeOf9
 v9 := Tryz.zeroValue9
 t31 := Tryz.underlying149
 a31 := Tryz.isAgg149
 z31 := Tryz.sizeOf149
 v31 := Tryz.zeroValue149 }
end Go.Proofs
end
section
namespace Go.Proofs.YteaaopodnbjpoaaGreat
open Go Go.Sx Go.RowKit Go.Proofs
def c0F (l : List Int) : List Int := l.mergeSort fun x y => decide (x ≤ y)
theorem pE {α : Type} [Inhabited α] [DecidableEq α] (d : Array α) : ∀ m, (Lib.compactUpTo d m).length ≤ m
 | 0 => by simp [Lib.compactUpTo]
 | m + 1 => by
  have := pE d m
  rw [Lib.compactUpTo_succ, List.length_append]
  split <;> simp <;> omega
def c0G (l : List Int) : List Int := Lib.compact l
def bl (s : ByteArray) : List UInt8 := s.data.toList
def lb (l : List UInt8) : ByteArray := ⟨l.toArray⟩
theorem b5P (l : List UInt8) : bl (lb l) = l := rfl
theorem b0b (s : ByteArray) : lb (bl s) = s := by cases s; simp [lb, bl]
def pF (l : List (List UInt8)) : List (List UInt8) := l.mergeSort fun x y => decide (x ≤ y)
def uL (l : List ByteArray) : List ByteArray := (pF (l.map bl)).map lb
def a7a (l : List ByteArray) : List ByteArray := (Lib.compact (l.map bl)).map lb
theorem a2s (l : List ByteArray) : (uL l).length = l.length := by simp [uL, pF, List.length_mergeSort]
theorem a8d (l : List ByteArray) : l.map dD = sK Go.Proofs.encStr (l.map bl) := by
 simp only [sK, List.map_map]
 refine List.map_congr_left fun s _ => ?_
 have h := b0b s
 simp only [lb] at h
 simp only [Function.comp, dD, Go.Proofs.encStr, h]
theorem b2L (l : List (List UInt8)) : (l.map lb).map dD = sK Go.Proofs.encStr l := by
 rw [a8d, List.map_map]
 congr 1
 simp [Function.comp_def, b5P]
theorem a0d (x : List UInt8) : scalar (Go.Proofs.encStr x) = true := rfl
theorem a5n (l : List ByteArray) (hl : l.length ≤ 4611686018427387903) : FnI Tryz.prog 240 9 1 (l.map dD) [] true ((uL l).map dD) := by
 refine ⟨Tryz.call240, fun V w y S vs hm hrow hnd hlt hargs => ?_⟩
 have hvs : vs = [] := by have := hargs.1; simpa using this
 subst hvs
 rw [uL, b2L]
 rw [a8d] at hrow
 rcases scal_down (e := Go.Proofs.encStr) hrow with ⟨⟨ao, rfl⟩, hn, rfl⟩ | ⟨b, cap, c, rfl, h1, h2, h3, h4, h5, h6, rfl⟩
 ·refine (Any.slices_Sort_string_none Tryz.laysSortStr ao 0 w).mono ?_
  rintro e w' ⟨rfl, rfl⟩
  exact ⟨_, rfl, fun _ => rfl, ⟨⟨rfl, rfl, rfl, Nat.le_refl _, fun _ _ _ => rfl⟩, [], (by rw [hn] at hrow ⊢; simpa [pF] using hrow), hnd, fun b hb => .inl hb, fun _ => rfl⟩⟩
 ·have hb : b < w.heap.size := (Array.getElem?_eq_some_iff.1 h3).1
  refine (Any.slices_Sort_string Tryz.laysSortStr b 0 cap (l.map bl) w h5 hb (by simp; omega)).mono ?_
  rintro e w' ⟨rfl, n, os, rfl⟩
  have hsl : (pF (l.map bl)).length = (l.map bl).length := by simp [pF, List.length_mergeSort]
  have hup := b2w (e := Go.Proofs.encStr) (l := pF (l.map bl)) (d := (pF (l.map bl)).toArray) a0d h3 h4 h2 (by simp only [List.size_toArray, hsl]; exact h1) rfl (List.prefix_refl _) h6 (n := n) (os := os)
  rw [hsl] at hup
  exact ⟨_, rfl, fun _ => rfl, ⟨hup.2, [b], hup.1, hnd, fun b hb => .inl hb, fun _ => rfl⟩⟩
theorem a0e (l : List ByteArray) (hl : l.length ≤ 4611686018427387903) : FnI Tryz.prog 241 9 1 (l.map dD) [] false ((a7a l).map dD) := by
 refine ⟨Tryz.call241, fun V w y S vs hm hrow hnd hlt hargs => ?_⟩
 have hvs : vs = [] := by have := hargs.1; simpa using this
 subst hvs
 rw [a7a, b2L]
 rw [a8d] at hrow
 rcases scal_down (e := Go.Proofs.encStr) hrow with ⟨⟨ao, rfl⟩, hn, rfl⟩ | ⟨b, cap, c, rfl, h1, h2, h3, h4, h5, h6, rfl⟩
 ·refine (Any.slices_Compact_string_empty Tryz.laysCompactStr ao 0 w).mono ?_
  rintro e w' ⟨rfl, rfl⟩
  exact ⟨_, rfl, fun h => (by cases h), ⟨⟨rfl, rfl, rfl, Nat.le_refl _, fun _ _ _ => rfl⟩, [], (by rw [hn] at hrow ⊢; exact hrow), hnd, fun b hb => .inl hb, fun _ => rfl⟩⟩
 ·have hb : b < w.heap.size := (Array.getElem?_eq_some_iff.1 h3).1
  refine (Any.slices_Compact_string Tryz.laysCompactStr b 0 cap (l.map bl) w h5 (by simp; omega) h1).mono ?_
  rintro e w' ⟨rfl, n, rfl⟩
  have hle : (Lib.compact (l.map bl)).length ≤ (l.map bl).length := pE _ _
  have hup := b2w (e := Go.Proofs.encStr) (l := Lib.compact (l.map bl)) (d := (Lib.compact (l.map bl) ++ List.replicate ((l.map bl).length - (Lib.compact (l.map bl)).length) []).toArray) (w' := Sort.putRow Go.Proofs.encStr (Sort.ahead w n) b 0 (Lib.compact (l.map bl) ++ List.replicate ((l.map bl).length - (Lib.compact (l.map bl)).length) []).toArray) a0d h3 h4 h2 (by simp only [List.size_toArray, List.length_append, List.length_replicate]; omega) (by rw [Sort.grow_empty]) (by simp) h6 (n := n) (os := #[])
  exact ⟨_, rfl, fun h => (by cases h), ⟨hup.2, [b], hup.1, hnd, fun b hb => .inl hb, fun _ => rfl⟩⟩
end Go.Proofs.YteaaopodnbjpoaaGreat
end
section
set_option maxRecDepth 100000
set_option maxHeartbeats 4000000
namespace Go.Sx
theorem wL {P : Program} {C : Ctx} {F : Ex → St → Prop} {st : St} {code : Code} (i id : Nat) {ty sz : Nat} {rows : List (List D)} {lin : Bool} (hi : nth st.t i = .o (.s id)) (hb : fP st.h id = .row ty sz rows lin) (h : WP P C code F ⟨a8W st.t i (.o (.d (.sl rows))), jY st.h id (.frz rows lin)⟩) : WP P C code F st := by
 intro g V a w hr
 obtain ⟨g', V', h1, h2, h3, h4, h5⟩ := hr.hp.frz hr.mod hr.fr.size (aW hb (by simp))
 have hr1 : Rel C g' V' ⟨st.t, jY st.h id (.frz rows lin)⟩ a w := ⟨hr.sl.mono h1 h2, by rw [dQ]; exact h4, h3, hr.fr, hr.vw.grow h2 h5⟩
 refine h g' V' a w ⟨⟨by rw [nU]; simpa using hr1.sl.size, fun n s y e1 e2 => ?_, hr1.sl.defers⟩, hr1.hp, hr1.mod, hr1.fr, hr1.vw⟩
 rw [nU, List.getElem?_set] at e1
 by_cases e : i = n
 ·subst e
  rw [if_pos rfl] at e1
  split at e1
  ·rename_i hlt
   cases e1
   have hs : st.t[i]? = some (.o (.s id)) := by
    rw [sF, List.getD_eq_getElem?_getD, List.getElem?_eq_getElem hlt] at hi
    rw [List.getElem?_eq_getElem hlt]
    exact congrArg some hi
   obtain ⟨gh, hgh, hy, _⟩ := hr1.sl.slot i _ y hs e2
   have hf : (jY st.h id (.frz rows lin))[id]? = some (.frz rows lin) := by
    have := aW hb (by simp)
    rw [dQ, List.getElem?_set]; simp [(List.getElem?_eq_some_iff.1 this).1]
   obtain ⟨_, S, q1, _⟩ := hr1.hp.hb id _ gh hf hgh
   exact ⟨S, by rw [hy]; exact q1⟩
  ·cases e1
 ·rw [if_neg e] at e1
  exact hr1.sl.slot n s y e1 e2
end Go.Sx
namespace Go.Proofs.YteaaopodnbjpoaaGreat
open Go Go.Sx Go.RowKit Go.Proofs
theorem a0A {α : Type} [Inhabited α] [DecidableEq α] (d : Array α) : ∀ (m i : Nat), i < m → d[i]! ∈ Lib.compactUpTo d m
 | 0, i, h => by omega
 | m + 1, i, h => by
  rw [Lib.compactUpTo_succ]
  by_cases hi : i < m
  ·exact List.mem_append_left _ (a0A d m i hi)
  ·have e : i = m := by omega
   subst e
   cases hk : Lib.keeps d i with
   | true => exact List.mem_append_right _ (by simp)
   | false =>
    have h0 : 0 < i := by
     rcases Nat.eq_zero_or_pos i with h | h
     ·subst h; rw [Lib.keeps_lt_one d 0 (by omega)] at hk; cases hk
     ·exact h
    have he : d[i]! = d[i - 1]! := Classical.byContradiction fun hn => by rw [Lib.keeps_pos hn] at hk; cases hk
    rw [he]
    exact List.mem_append_left _ (a0A d i (i - 1) (by omega))
theorem b0a {α : Type} [Inhabited α] [DecidableEq α] (zs : List α) (x : α) : x ∈ Lib.compact zs ↔ x ∈ zs := by
 refine ⟨fun h => ?_, fun h => ?_⟩
 ·unfold Lib.compact Lib.compactUpTo at h
  obtain ⟨i, hi, rfl⟩ := List.mem_map.1 h
  have hi' : i < zs.length := List.mem_range.1 (List.mem_filter.1 hi).1
  simp [getElem!_pos, hi']
 ·obtain ⟨i, hi, rfl⟩ := List.mem_iff_getElem.1 h
  have := a0A zs.toArray zs.length i hi
  have e : zs.toArray[i]! = zs[i] := by simp [getElem!_pos, hi]
  rw [e] at this
  exact this
def eH (l : List ByteArray) : List ByteArray := a7a (uL l)
theorem uJ (l : List ByteArray) : (eH l).length ≤ l.length := by
 have := pE ((uL l).map bl).toArray ((uL l).map bl).length
 simp only [eH, a7a, Lib.compact, List.length_map, a2s] at this ⊢
 exact this
theorem kK (l : List ByteArray) (s : ByteArray) : hasS l s = true ↔ s ∈ l := by
 unfold hasS
 rw [List.any_eq_true]
 constructor
 ·rintro ⟨x, h1, h2⟩; rw [of_decide_eq_true h2] at h1; exact h1
 ·intro h; exact ⟨s, h, by simp⟩
theorem nP (l : List ByteArray) (s : ByteArray) : s ∈ eH l ↔ s ∈ l := by
 have e : (uL l).map bl = pF (l.map bl) := by
  unfold uL
  rw [List.map_map]
  have : (bl ∘ lb) = id := by funext x; exact b5P x
  rw [this, List.map_id]
 unfold eH a7a
 rw [e]
 constructor
 ·intro h
  obtain ⟨y, hy, rfl⟩ := List.mem_map.1 h
  rw [b0a, pF, List.mem_mergeSort] at hy
  obtain ⟨z, hz, rfl⟩ := List.mem_map.1 hy
  rw [b0b]; exact hz
 ·intro h
  refine List.mem_map.2 ⟨bl s, ?_, b0b s⟩
  rw [b0a, pF, List.mem_mergeSort]
  exact List.mem_map.2 ⟨s, h, rfl⟩
theorem lI (l : List ByteArray) (hl : l.length ≤ 4300000) : FnC Tryz.prog 191 [.o (.d (.sl (l.map dD)))] (.o (.w 9 1 ((eH l).map dD))) := by
 refine ent Tryz.func191 rfl Tryz.call191 rfl (fun C => ?_); simp only [go_sem, st0, Tryz.ntmps191]
 have qH := trivial; repeat' (with_reducible first | refine nY ?_ | (refine mX ?_; try simp only [go_sem]) | refine kD ?_ | refine rD ?_ | refine cP (a2N l hl) ?_ | refine vI (a5n l (by omega)) ?_ | refine vJ (a5n l (by omega)) ?_ | refine vI (a0e (uL l) (by rw [a2s]; omega)) ?_ | refine vJ (a0e (uL l) (by rw [a2s]; omega)) ?_ | refine aO ?_ | fail)
 exact aA ⟨⟨_, rfl, by simp only [go_sem, eH]⟩, trivial⟩
def geS (s : ByteArray) (y : ByteArray) : Bool := !gQ y s
def putS (l : List ByteArray) (s : ByteArray) : List ByteArray := if (l.drop (bW (geS s) l)).head? = some s then l else eU (bW (geS s) l) s l
def putL (l : List ByteArray) : List ByteArray := l.foldl putS []
theorem uK (l : List ByteArray) (s x : ByteArray) : x ∈ putS l s ↔ x = s ∨ x ∈ l := by
 unfold putS
 split
 ·rename_i h
  have : s ∈ l.drop (bW (geS s) l) := by
   cases hd : l.drop (bW (geS s) l) with
   | nil => rw [hd] at h; cases h
   | cons y r => rw [hd] at h; simp at h; simp [h]
  have hs := List.mem_of_mem_drop this
  constructor
  ·exact .inr
  ·rintro (rfl | h) <;> first | exact hs | exact h
 ·unfold eU
  conv => rhs; rw [← List.take_append_drop (bW (geS s) l) l]
  simp only [List.mem_append, List.mem_cons]
  constructor
  ·rintro (h | h | h) <;> first | exact .inr (.inl h) | exact .inl h | exact .inr (.inr h)
  ·rintro (h | h | h) <;> first | exact .inr (.inl h) | exact .inl h | exact .inr (.inr h)
theorem b5O (l : List ByteArray) (s : ByteArray) : (putS l s).length ≤ l.length + 1 := by
 unfold putS
 split
 ·omega
 ·rw [tY _ _ _ (tX _ l)]; omega
theorem yN (l : List ByteArray) (s : ByteArray) : putL (l ++ [s]) = putS (putL l) s := by simp [putL]
theorem b3V (l : List ByteArray) : ∀ (a : List ByteArray) (x : ByteArray), x ∈ l.foldl putS a ↔ x ∈ a ∨ x ∈ l := by
 induction l with
 | nil => simp
 | cons y l ih =>
  intro a x
  rw [List.foldl_cons, ih, uK]
  simp only [List.mem_cons]
  constructor
  ·rintro ((h | h) | h) <;> first | exact .inr (.inl h) | exact .inl h | exact .inr (.inr h)
  ·rintro (h | h | h) <;> first | exact .inl (.inr h) | exact .inl (.inl h) | exact .inr h
theorem oQ (l : List ByteArray) (x : ByteArray) : x ∈ putL l ↔ x ∈ l := by rw [putL, b3V]; simp
theorem b3W (l : List ByteArray) : ∀ a : List ByteArray, (l.foldl putS a).length ≤ a.length + l.length := by
 induction l with
 | nil => simp
 | cons y l ih =>
  intro a
  have h1 := ih (putS a y)
  have h2 := b5O a y
  simp only [List.foldl_cons, List.length_cons]; omega
theorem iZ (l : List ByteArray) : (putL l).length ≤ l.length := by have := b3W l []; simpa [putL] using this
theorem b3Y {α : Type} (p : α → Bool) (l : List α) (k : Nat) (h : k < l.length) (hk : bW p l = k + bW p (l.drop k)) : bW p l = if p l[k] then k else k + 1 + bW p (l.drop (k + 1)) := by
 rw [hk, a4L p l k h]
 split <;> omega
theorem pQ {α β : Type} (f : α → β) (l : List α) (n : Nat) : (l.map f).take n = (l.take n).map f := List.map_take.symm
theorem pU {α β : Type} (f : α → β) (l : List α) (n : Nat) : (l.map f).drop n = (l.drop n).map f := List.map_drop.symm
end Go.Proofs.YteaaopodnbjpoaaGreat
end
section
set_option maxRecDepth 100000
set_option maxHeartbeats 4000000
namespace Go.Proofs.YteaaopodnbjpoaaGreat
open Go Go.Sx Go.RowKit Go.Proofs
theorem b7p (l : List ByteArray) : ∀ r ∈ l.map dD, r.length = 1 := by intro r hr; obtain ⟨x, _, rfl⟩ := List.mem_map.1 hr; rfl
theorem pO (l : List ByteArray) (s : ByteArray) (hl : l.length ≤ 4300000) : FnC Tryz.prog 221 [.o (.d (.sl (l.map dD))), os s] (.o (.d (.sl ((putS l s).map dD)))) := by
 have hle := tX (geS s) l
 refine ent Tryz.func221 rfl Tryz.call221 rfl (fun C => ?_); simp only [go_sem, st0, Tryz.ntmps221]
 refine aD ?_
 refine aM (α := Nat) (fun k => [(5, oi k)]) (fun _ => []) (fun k => k ≤ l.length ∧ bW (geS s) l = k + bW (geS s) (l.drop k)) (fun k => l.length - k) 0 (fun _ => ?_) ?_ ?_ (fun k hk => ?_)
 ·simp only [go_sem]
 ·simp only [go_sem]; simp
 ·simp
 ·obtain ⟨hk, hf⟩ := hk
  simp only [go_sem]
  by_cases h1 : k < l.length
  ·have hfx := b3Y (geS s) l k h1 hf
   have h1' : ((k : Int) < (l.length : Int)) = True := by simp [h1]
   have q0 := @h1; have q1 := @h1'; have q2 := @decide_true; refine lT ?_
   refine cnd (b := gQ l[k] s) rfl (fun h2 => ?_) (fun h2 => ?_)
   ·rw [if_neg (by simp [geS, h2])] at hfx
    refine aD ?_
    refine aC (k + 1) ?_ ?_ ?_
    ·simp only [go_sem]; simp
    ·exact ⟨by omega, hfx⟩
    ·omega
   ·rw [if_pos (by simp [geS, h2])] at hfx
    have hd := List.drop_eq_getElem_cons h1
    by_cases h3 : l[k] = s
    ·have hput : putS l s = l := by unfold putS; rw [hfx, hd]; simp [h3]
     have q0 := @h1; have q1 := @h1'; have q2 := @h3; have q3 := @decide_true; refine kC ?_
     exact aA ⟨⟨_, rfl, by simp only [go_sem, hput]⟩, trivial⟩
    ·have hput : putS l s = eU k s l := by unfold putS; rw [hfx, hd]; exact if_neg (fun h => h3 (Option.some.inj h))
     have hn1 : ((0 : Int) ≤ (k : Int)) := by omega
     have qH := aI @h1 (aI @h1' (aI @h3 (aI @hn1 (aI @decide_true (aI @decide_false (aI @pQ (aI @pU (aI @wV (aI @wW @a0Z))))))))); repeat' (with_reducible first | refine nY ?_ | (refine mX ?_; try simp only [go_sem, qH]) | refine kD ?_ | refine rD ?_ | refine aO ?_ | fail)
     refine ⟨b7p l, by omega, by omega, by omega, ?_⟩
     have q0 := @pQ; have q1 := @pU; have q2 := @wV; have q3 := @wW; have q4 := @a0Z; refine a1b ?_
     refine ⟨b7p l, by omega, by omega, by omega, ?_⟩
     have q0 := @pQ; have q1 := @pU; have q2 := @wV; have q3 := @wW; have q4 := @a0Z; refine a1b ?_
     refine aK (Sees.frz 0 rfl) ?_
     simp only [go_sem]
     exact aA ⟨⟨_, rfl, by simp only [go_sem, hput, eU, List.take_length, List.map_append, List.map_cons, List.append_assoc, List.cons_append, List.nil_append]⟩, trivial⟩
  ·have e : k = l.length := by omega
   have hfx : bW (geS s) l = k := by rw [hf, e, List.drop_length]; rfl
   have hput : putS l s = eU k s l := by unfold putS; rw [hfx, e, List.drop_length]; simp
   have h1' : ((k : Int) < (l.length : Int)) = False := by simp [h1]
   have q0 := @h1; have q1 := @h1'; have q2 := @decide_false; have q3 := @pQ; have q4 := @pU; have q5 := @wV; have q6 := @wW; have q7 := @a0Z; refine a4o ?_
   refine ⟨b7p l, by omega, by omega, by omega, ?_⟩
   have q0 := @pQ; have q1 := @pU; have q2 := @wV; have q3 := @wW; have q4 := @a0Z; refine a1b ?_
   refine ⟨b7p l, by omega, by omega, by omega, ?_⟩
   have q0 := @pQ; have q1 := @pU; have q2 := @wV; have q3 := @wW; have q4 := @a0Z; refine a1b ?_
   refine aK (Sees.frz 0 rfl) ?_
   simp only [go_sem]
   exact aA ⟨⟨_, rfl, by simp only [go_sem, hput, eU, List.take_length, List.map_append, List.map_cons, List.append_assoc, List.cons_append, List.nil_append]⟩, trivial⟩
def attrNs (l : List TAttr) : List ByteArray := l.map TAttr.fName
theorem iN (l : List TAttr) : (attrNs l).length = l.length := by simp [attrNs]
theorem uH (x : TFile) (hl : x.fAttrs.length ≤ 4300000) : FnC Tryz.prog 306 [bC x] (.o (.w 9 1 ((attrNs x.fAttrs).map dD))) := by
 refine ent Tryz.func306 rfl Tryz.call306 rfl (fun C => ?_); simp only [go_sem, st0, Tryz.ntmps306]
 refine aD ?_
 generalize x.fAttrs = l at *
 refine aM (α := Nat) (fun k => [(3, .o (.s 1)), (6, .o .u), (10, oi k)]) (fun k => [(1, .row 9 1 ((attrNs (l.take k)).map dD) true)]) (fun k => k ≤ l.length) (fun k => l.length - k) 0 (fun _ => ?_) ?_ ?_ (fun k hk => ?_)
 ·simp only [go_sem]
 ·simp only [go_sem]; simp [attrNs]
 ·simp
 ·simp only [go_sem]
  refine aD ?_
  refine cnd rfl (fun h1 => ?_) (fun h1 => ?_)
  ·simp only [decide_eq_true_eq, Int.ofNat_lt] at h1
   have ht : attrNs (l.take (k + 1)) = attrNs (l.take k) ++ [l[k].fName] := by simp only [attrNs, List.take_succ_eq_append_getElem h1, List.map_append, List.map_cons, List.map_nil]
   have hlen : (attrNs (l.take k)).length = k := by rw [iN]; simp; omega
   have q0 := @h1; have q1 := @hlen; refine fI ?_
   refine aC (k + 1) ?_ ?_ ?_
   ·simp only [go_sem, ht, List.map_append]; simp
   ·omega
   ·omega
  ·simp only [decide_eq_false_iff_not] at h1
   have e : k = l.length := by omega
   subst e
   refine aD ?_
   exact aA ⟨⟨_, rfl, by simp only [go_sem, List.take_length]⟩, trivial⟩
theorem uI (x : TFile) (hl : x.fAttrs.length ≤ 4300000) : FnC Tryz.prog 302 [bC x] (.o (.w 9 1 ((attrNs x.fAttrs).map dD))) := by
 refine ent Tryz.func302 rfl Tryz.call302 rfl (fun C => ?_); simp only [go_sem, st0, Tryz.ntmps302]
 refine aD ?_
 generalize x.fAttrs = l at *
 refine aM (α := Nat) (fun k => [(3, .o (.s 1)), (4, oi k), (5, .o .u)]) (fun k => [(1, .row 9 1 ((attrNs (l.take k)).map dD) true)]) (fun k => k ≤ l.length) (fun k => l.length - k) 0 (fun _ => ?_) ?_ ?_ (fun k hk => ?_)
 ·simp only [go_sem]
 ·simp only [go_sem]; simp [attrNs]
 ·simp
 ·simp only [go_sem]
  refine aD ?_
  refine cnd rfl (fun h1 => ?_) (fun h1 => ?_)
  ·simp only [decide_eq_true_eq, Int.ofNat_lt] at h1
   have ht : attrNs (l.take (k + 1)) = attrNs (l.take k) ++ [l[k].fName] := by simp only [attrNs, List.take_succ_eq_append_getElem h1, List.map_append, List.map_cons, List.map_nil]
   have hlen : (attrNs (l.take k)).length = k := by rw [iN]; simp; omega
   have q0 := @h1; have q1 := @hlen; refine fI ?_
   refine aC (k + 1) ?_ ?_ ?_
   ·simp only [go_sem, ht, List.map_append]; simp
   ·omega
   ·omega
  ·simp only [decide_eq_false_iff_not] at h1
   have e : k = l.length := by omega
   subst e
   refine aD ?_
   exact aA ⟨⟨_, rfl, by simp only [go_sem, List.take_length]⟩, trivial⟩
theorem a3w (l : List TDir) (hl : l.length ≤ 4300000) : FnC Tryz.prog 155 [.o (.d (.sl (l.map aS)))] (.o (.w 9 1 ((dirNs l).map dD))) := by
 refine ent Tryz.func155 rfl Tryz.call155 rfl (fun C => ?_); simp only [go_sem, st0, Tryz.ntmps155]
 refine aD ?_
 refine aM (α := Nat) (fun k => [(3, .o (.s 0)), (4, oi k), (5, .o .u)]) (fun k => [(0, .row 9 1 ((dirNs (l.take k)).map dD) true)]) (fun k => k ≤ l.length) (fun k => l.length - k) 0 (fun _ => ?_) ?_ ?_ (fun k hk => ?_)
 ·simp only [go_sem]
 ·simp only [go_sem]; simp [dirNs]
 ·simp
 ·simp only [go_sem]
  refine aD ?_
  refine cnd rfl (fun h1 => ?_) (fun h1 => ?_)
  ·simp only [decide_eq_true_eq, Int.ofNat_lt] at h1
   have ht : dirNs (l.take (k + 1)) = dirNs (l.take k) ++ [l[k].fName] := by simp only [dirNs, List.take_succ_eq_append_getElem h1, List.map_append, List.map_cons, List.map_nil]
   have hlen : (dirNs (l.take k)).length = k := by rw [zM]; simp; omega
   have q0 := @h1; have q1 := @hlen; refine fI ?_
   refine aC (k + 1) ?_ ?_ ?_
   ·simp only [go_sem, ht, List.map_append]; simp
   ·omega
   ·omega
  ·simp only [decide_eq_false_iff_not] at h1
   have e : k = l.length := by omega
   subst e
   refine aD ?_
   exact aA ⟨⟨_, rfl, by simp only [go_sem, List.take_length]⟩, trivial⟩
def eqV (x v : TValue) : Bool := decide (x.fKind = v.fKind) && (decide (x.fInt = v.fInt) && decide (x.fStr = v.fStr))
def a1J (a b : TFile) (n : ByteArray) : Bool := !(eqV (dS n a.fAttrs) (dS n b.fAttrs))
def chL (a b : TFile) (l : List ByteArray) : List ByteArray := l.filter (a1J a b)
theorem a8c (a b : TFile) (l : List ByteArray) : (chL a b l).length ≤ l.length := List.length_filter_le _ _
def chg (a b : TFile) : List ByteArray := chL a b (attrNs a.fAttrs ++ attrNs b.fAttrs)
theorem a9Z (a b : TFile) (l : List ByteArray) (k : Nat) (h : k < l.length) : chL a b (l.take (k + 1)) = chL a b (l.take k) ++ (if a1J a b l[k] then [l[k]] else []) := by
 simp only [chL, List.take_succ_eq_append_getElem h, List.filter_append, List.filter_cons, List.filter_nil]
theorem a5l (a b : TFile) (h : wFile a + wFile b ≤ 4300000) : FnC Tryz.prog 276 [bC a, bC b] (.o (.w 9 1 ((eH (chg a b)).map dD))) := by
 have ha : a.fAttrs.length + b.fAttrs.length ≤ 4300000 := by unfold wFile aV at h; omega
 refine ent Tryz.func276 rfl Tryz.call276 rfl (fun C => ?_); simp only [go_sem, st0, Tryz.ntmps276]
 have qH := aI @a0Z (aI @b3w @iN); repeat' (with_reducible first | refine nY ?_ | (refine mX ?_; try simp only [go_sem, qH]) | refine kD ?_ | (apply rE [1,3,4] [] [0,2,6] [0,2,6] ((.c 1 [] [2,6] (.c 3 [] [6] (.c 4 [5] [5,6] .n .n) .n) .n)) (by simp only [go_sem]; rfl) (by simp only [go_sem]; rfl) (by simp only [go_sem]; rfl) (by decide +kernel); (focus simp only [go_sem]; done)) | exact bU | refine bF (uX ?_) ?_ | refine bG (aX ?_) ?_ | refine bH (aX ?_) ?_ | exact bE | exact oH | exact uB | refine rD ?_ | refine cP (uH a (by omega)) ?_ | refine cP (uH b (by omega)) ?_ | refine aO ?_ | fail)
 have hlenN : (attrNs a.fAttrs ++ attrNs b.fAttrs).length = a.fAttrs.length + b.fAttrs.length := by rw [List.length_append, iN, iN]
 rw [← hlenN]
 simp only [← List.map_append]
 unfold chg
 have hN : (attrNs a.fAttrs ++ attrNs b.fAttrs).length ≤ 4300000 := by omega
 generalize attrNs a.fAttrs ++ attrNs b.fAttrs = N at *
 refine wL 13 3 rfl rfl ?_
 simp only [go_sem]
 refine aM (α := Nat) (fun k => [(5, .o (.s 2)), (8, .o .u), (15, oi k)]) (fun k => [(2, .row 9 1 ((chL a b (N.take k)).map dD) true)]) (fun k => k ≤ N.length) (fun k => N.length - k) 0 (fun _ => ?_) ?_ ?_ (fun k hk => ?_)
 ·simp only [go_sem]
 ·simp only [go_sem]; simp [chL]
 ·simp
 ·simp only [go_sem]
  refine aD ?_
  have hlen : (chL a b (N.take k)).length ≤ 4300000 := by have h2 := a8c a b (N.take k); simp at h2; omega
  refine cnd rfl (fun h1 => ?_) (fun h1 => ?_)
  ·simp only [decide_eq_true_eq, Int.ofNat_lt] at h1
   have ht := a9Z a b N k h1
   have hl1 : (chL a b (N.take k)).length + 1 ≤ 140737488355328 := by omega
   have hl2 : ((chL a b (N.take k)).length + 1) * 16 ≤ 140737488355328 := by omega
   have q0 := @h1; refine a4n (iX a N[k] (by omega)) (iX b N[k] (by omega)) ?_
   refine cnd (b := a1J a b N[k]) rfl (fun hv => ?_) (fun hv => ?_)
   ·rw [if_pos hv] at ht
    have q0 := @h1; refine fD ?_
    refine aC (k + 1) ?_ ?_ ?_
    ·simp only [go_sem, ht, List.map_append]; simp
    ·omega
    ·omega
   ·rw [if_neg (by simp [hv]), List.append_nil] at ht
    have q0 := @h1; refine fD ?_
    refine aC (k + 1) ?_ ?_ ?_
    ·simp only [go_sem, ht]; simp
    ·omega
    ·omega
  ·simp only [decide_eq_false_iff_not] at h1
   have e : k = N.length := by omega
   subst e
   rw [List.take_length] at *
   refine fK (lI (chL a b N) hlen) ?_
   exact aA ⟨⟨_, rfl, by simp only [go_sem, List.take_length]⟩, trivial⟩
theorem a5m (a b : TFile) (h : wFile a + wFile b ≤ 4300000) : FnC Tryz.prog 266 [bC a, bC b] (.o (.w 9 1 ((putL (chg a b)).map dD))) := by
 have ha : a.fAttrs.length + b.fAttrs.length ≤ 4300000 := by unfold wFile aV at h; omega
 refine ent Tryz.func266 rfl Tryz.call266 rfl (fun C => ?_); simp only [go_sem, st0, Tryz.ntmps266]
 have qH := aI @a0Z (aI @b3w @iN); repeat' (with_reducible first | refine nY ?_ | (refine mX ?_; try simp only [go_sem, qH]) | refine kD ?_ | (apply rE [1,3,4] [] [0,2] [0,2] ((.c 1 [] [2] (.c 3 [] [] (.c 4 [5] [5] .n .n) .n) .n)) (by simp only [go_sem]; rfl) (by simp only [go_sem]; rfl) (by simp only [go_sem]; rfl) (by decide +kernel); (focus simp only [go_sem]; done)) | exact bU | refine bF (uX ?_) ?_ | refine bG (aX ?_) ?_ | refine bH (aX ?_) ?_ | exact bE | exact oH | exact uB | refine rD ?_ | refine cP (uI a (by omega)) ?_ | refine cP (uI b (by omega)) ?_ | refine aO ?_ | fail)
 simp only [← List.map_append]
 unfold chg
 have hN : (attrNs a.fAttrs ++ attrNs b.fAttrs).length ≤ 4300000 := by rw [List.length_append, iN, iN]; omega
 generalize attrNs a.fAttrs ++ attrNs b.fAttrs = N at *
 refine wL 6 3 rfl rfl ?_
 simp only [go_sem]
 refine wL 5 2 rfl rfl ?_
 simp only [go_sem]
 refine aM (α := Nat) (fun k => [(5, .o (.d (.sl ((putL (chL a b (N.take k))).map dD)))), (7, oi k)]) (fun k => []) (fun k => k ≤ N.length) (fun k => N.length - k) 0 (fun _ => ?_) ?_ ?_ (fun k hk => ?_)
 ·simp only [go_sem]
 ·simp only [go_sem]; simp [chL, putL]
 ·simp
 ·simp only [go_sem]
  refine aD ?_
  have hlen : (putL (chL a b (N.take k))).length ≤ 4300000 := by have h1 := iZ (chL a b (N.take k)); have h2 := a8c a b (N.take k); simp at h2; omega
  refine cnd rfl (fun h1 => ?_) (fun h1 => ?_)
  ·simp only [decide_eq_true_eq, Int.ofNat_lt] at h1
   have ht := a9Z a b N k h1
   have q0 := @h1; refine a4n (dL a N[k] (by omega)) (dL b N[k] (by omega)) ?_
   refine cnd (b := a1J a b N[k]) rfl (fun hv => ?_) (fun hv => ?_)
   ·rw [if_pos hv] at ht
    have q0 := @h1; refine eZ (pO (putL (chL a b (N.take k))) N[k] hlen) ?_
    refine aC (k + 1) ?_ ?_ ?_
    ·simp only [go_sem, ht, yN]; simp
    ·omega
    ·omega
   ·rw [if_neg (by simp [hv]), List.append_nil] at ht
    have q0 := @h1; refine fD ?_
    refine aC (k + 1) ?_ ?_ ?_
    ·simp only [go_sem, ht]; simp
    ·omega
    ·omega
  ·simp only [decide_eq_false_iff_not] at h1
   have e : k = N.length := by omega
   subst e
   rw [List.take_length] at *
   refine aD ?_
   exact aA ⟨⟨_, rfl, by simp only [go_sem, List.take_length]⟩, trivial⟩
end Go.Proofs.YteaaopodnbjpoaaGreat
end
