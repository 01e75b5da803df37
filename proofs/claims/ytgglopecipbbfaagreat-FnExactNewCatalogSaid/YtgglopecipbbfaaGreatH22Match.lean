/-
  matchesAt and l14Node: both compute mt.
-/
import Derived.Test.YtgglopecipbbfaaGreatK7Match
import Derived.Test.YtgglopecipbbfaaGreatK8Int
set_option linter.all false
set_option maxRecDepth 100000
set_option maxHeartbeats 4000000
namespace Go.Proofs.YtgglopecipbbfaaGreat
open Go Go.Sx Go.RowKit Go.Proofs

theorem resIDs_len (s : ByteArray) : ∀ l : List TResult, (resIDs s l).length ≤ wResultS l
  | [] => by simp [resIDs]
  | x :: l => by
    have := resIDs_len s l
    unfold resIDs
    simp only [wResultS, wsum, List.length_cons] at this ⊢
    split
    · unfold wResult; omega
    · omega
theorem implResIDsd_ok (l : List TResult) (s : ByteArray) (hl : wResultS l ≤ 67108864) : FnC Tryz.prog 165 [.o (.d (.sl (l.map encResult))), os s] (.o (.d (.sl ((resIDs s l).map encI)))) := (implResIDs_ok l s hl).pu (by simp only [go_sem, and_self])
theorem specResIDsd_ok (l : List TResult) (s : ByteArray) (hl : wResultS l ≤ 67108864) : FnC Tryz.prog 81 [.o (.d (.sl (l.map encResult))), os s] (.o (.d (.sl ((resIDs s l).map encI)))) := (specResIDs_ok l s hl).pu (by simp only [go_sem, and_self])
def intA (v : TValue) : Int := if v.fKind = 1 then v.fInt else 0
theorem implIntAttr_ok (f : TFile) (s : ByteArray) (hf : wFile f ≤ 4300000) : FnC Tryz.prog 314 [gFile f, os s] (.t [(false, [.d (iv (intA (getAttr s f.fAttrs)))]), (false, [.d (bv (decide ((getAttr s f.fAttrs).fKind = 1)))])]) := by
  refine ent Tryz.func314 rfl Tryz.call314 rfl (fun C => ?_); simp only [go_sem, st0, Tryz.ntmps314]
  by_cases h : (getAttr s f.fAttrs).fKind = 1
  · repeat' (with_reducible first | refine nY ?_ | (refine mX ?_; try simp only [go_sem, h, decide_true, decide_false]) | refine kO ?_ (by decide) | (refine regx (by simp only [bodyX, isStX, Bool.false_eq_true, if_false, if_true]; rfl) (by kernel_rfl) (by kernel_rfl) (by decide) ?_ ?_ ?_; (focus simp only [go_sem]; done); (focus simp only [go_sem]; done)) | refine xE ?_ (by simp only [tailX, isStX, Bool.false_eq_true, if_false, if_true]; rfl) (by simp only [go_sem]; rfl) | refine regd (by kernel_rfl) ?_ | (refine cC (implGetAttr_ok f s hf) ?_ ?_; focus simp only [go_sem, and_self]; done) | (refine And.intro ?_ ?_; focus omega))
    exact retK_ret ⟨⟨_, rfl, by simp only [go_sem, intA, h, if_true, decide_true]⟩, by simp [notOne]⟩
  · repeat' (with_reducible first | refine nY ?_ | (refine mX ?_; try simp only [go_sem, h, decide_true, decide_false]) | refine kO ?_ (by decide) | (refine regx (by simp only [bodyX, isStX, Bool.false_eq_true, if_false, if_true]; rfl) (by kernel_rfl) (by kernel_rfl) (by decide) ?_ ?_ ?_; (focus simp only [go_sem]; done); (focus simp only [go_sem]; done)) | refine xE ?_ (by simp only [tailX, isStX, Bool.false_eq_true, if_false, if_true]; rfl) (by simp only [go_sem]; rfl) | refine regd (by kernel_rfl) ?_ | (refine cC (implGetAttr_ok f s hf) ?_ ?_; focus simp only [go_sem, and_self]; done) | (refine And.intro ?_ ?_; focus omega))
    exact retK_ret ⟨⟨_, rfl, by simp only [go_sem, intA, h, if_false, decide_false]⟩, by simp [notOne]⟩
theorem implMatch_ok (q : List TNode) (f : TFile) (r : List TResult) (hv : okQ q = true) (hf : wFile f ≤ 4300000) (hr : wResultS r ≤ 67108864) : ∀ k i, i < k → k ≤ q.length → FnC Tryz.prog 292 [.o (.d (.sl (q.map encNode))), oi (i : Nat), gFile f, .o (.d (.sl (r.map encResult)))] (ob (mt q f r k i)) := by
  intro k
  induction k with
  | zero => intro i hi _; omega
  | succ k ih => ?_
  intro i hi hk
  have hlt : i < q.length := by omega
  have hn := List.getElem?_eq_getElem hlt
  have hok := okQ_at hv hn
  have hop := okNode_op hok
  refine ent Tryz.func292 rfl Tryz.call292 rfl (fun C => ?_); simp only [go_sem, st0, Tryz.ntmps292]
  by_cases h2 : q[i].fOp = 2
  · have hm : mt q f r (k + 1) i = !decide ((getAttr q[i].fName f.fAttrs).fKind = 0) := by simp [mt, hn, h2]
    repeat' (with_reducible first | refine nY ?_ | (refine mX ?_; try simp only [go_sem, hlt, h2, decide_true]) | refine kO ?_ (by decide) | (refine regx (by simp only [bodyX, isStX, Bool.false_eq_true, if_false, if_true]; rfl) (by kernel_rfl) (by kernel_rfl) (by decide) ?_ ?_ ?_; (focus simp only [go_sem]; done); (focus simp only [go_sem]; done)) | refine xE ?_ (by simp only [tailX, isStX, Bool.false_eq_true, if_false, if_true]; rfl) (by simp only [go_sem]; rfl) | refine regd (by kernel_rfl) ?_ | (refine cC (implGetAttr_ok f q[i].fName hf) ?_ ?_; focus simp only [go_sem, and_self]; done) | (refine And.intro ?_ ?_; focus omega))
    exact retK_ret ⟨⟨_, rfl, by simp only [go_sem, hm, decide_not]⟩, trivial⟩
  by_cases h3 : q[i].fOp = 3
  · have hm : mt q f r (k + 1) i = eqVal (getAttr q[i].fName f.fAttrs) q[i].fValue := by simp [mt, hn, h3]
    repeat' (with_reducible first | refine nY ?_ | (refine mX ?_; try simp only [go_sem, hlt, h2, h3, decide_true, decide_false]) | refine kO ?_ (by decide) | (refine regx (by simp only [bodyX, isStX, Bool.false_eq_true, if_false, if_true]; rfl) (by kernel_rfl) (by kernel_rfl) (by decide) ?_ ?_ ?_; (focus simp only [go_sem]; done); (focus simp only [go_sem]; done)) | refine xE ?_ (by simp only [tailX, isStX, Bool.false_eq_true, if_false, if_true]; rfl) (by simp only [go_sem]; rfl) | refine regd (by kernel_rfl) ?_ | (refine cC (implGetAttr_ok f q[i].fName hf) ?_ ?_; focus simp only [go_sem, and_self]; done) | (refine And.intro ?_ ?_; focus omega))
    exact retK_ret ⟨⟨_, rfl, by simp only [go_sem, hm, eqVal]⟩, trivial⟩
  by_cases h4 : q[i].fOp = 4
  · have hm : mt q f r (k + 1) i = lessV (getAttr q[i].fName f.fAttrs) q[i].fValue.fInt := by simp [mt, hn, h4]
    by_cases hj : (getAttr q[i].fName f.fAttrs).fKind = 1
    · repeat' (with_reducible first | refine nY ?_ | (refine mX ?_; try simp only [go_sem, hlt, h2, h3, h4, decide_true, decide_false, hj, intA, if_true]) | refine kO ?_ (by decide) | (refine regx (by simp only [bodyX, isStX, Bool.false_eq_true, if_false, if_true]; rfl) (by kernel_rfl) (by kernel_rfl) (by decide) ?_ ?_ ?_; (focus simp only [go_sem]; done); (focus simp only [go_sem]; done)) | refine xE ?_ (by simp only [tailX, isStX, Bool.false_eq_true, if_false, if_true]; rfl) (by simp only [go_sem]; rfl) | refine regd (by kernel_rfl) ?_ | (refine cC (implIntAttr_ok f q[i].fName hf) ?_ ?_; focus simp only [go_sem, and_self]; done) | (refine And.intro ?_ ?_; focus omega))
      exact retK_ret ⟨⟨_, rfl, by simp only [go_sem, hm, lessV, hj, decide_true, Bool.true_and]⟩, trivial⟩
    · repeat' (with_reducible first | refine nY ?_ | (refine mX ?_; try simp only [go_sem, hlt, h2, h3, h4, decide_true, decide_false, hj, intA, if_false]) | refine kO ?_ (by decide) | (refine regx (by simp only [bodyX, isStX, Bool.false_eq_true, if_false, if_true]; rfl) (by kernel_rfl) (by kernel_rfl) (by decide) ?_ ?_ ?_; (focus simp only [go_sem]; done); (focus simp only [go_sem]; done)) | refine xE ?_ (by simp only [tailX, isStX, Bool.false_eq_true, if_false, if_true]; rfl) (by simp only [go_sem]; rfl) | refine regd (by kernel_rfl) ?_ | (refine cC (implIntAttr_ok f q[i].fName hf) ?_ ?_; focus simp only [go_sem, and_self]; done) | (refine And.intro ?_ ?_; focus omega))
      exact retK_ret ⟨⟨_, rfl, by simp only [go_sem, hm, lessV, hj, decide_false, Bool.false_and]⟩, trivial⟩
  by_cases h5 : q[i].fOp = 5
  · obtain ⟨l, hl, hli⟩ := okNode_left hok (.inl h5)
    have hm : mt q f r (k + 1) i = !mt q f r k l := by simp [mt, hn, h5, hl]
    repeat' (with_reducible first | refine nY ?_ | (refine mX ?_; try simp only [go_sem, hlt, h2, h3, h4, h5, decide_true, decide_false, hl]) | refine kO ?_ (by decide) | (refine regx (by simp only [bodyX, isStX, Bool.false_eq_true, if_false, if_true]; rfl) (by kernel_rfl) (by kernel_rfl) (by decide) ?_ ?_ ?_; (focus simp only [go_sem]; done); (focus simp only [go_sem]; done)) | refine xE ?_ (by simp only [tailX, isStX, Bool.false_eq_true, if_false, if_true]; rfl) (by simp only [go_sem]; rfl) | refine regd (by kernel_rfl) ?_ | (refine cC (ih l (by omega) (by omega)) ?_ ?_; focus simp only [go_sem, and_self]; done) | (refine And.intro ?_ ?_; focus omega))
    exact retK_ret ⟨⟨_, rfl, by simp only [go_sem, hm]⟩, trivial⟩
  by_cases h6 : q[i].fOp = 6
  · obtain ⟨l, hl, hli⟩ := okNode_left hok (.inr (.inl h6))
    obtain ⟨m, hr2, hmi⟩ := okNode_right hok (.inl h6)
    have hm : mt q f r (k + 1) i = (mt q f r k l && mt q f r k m) := by simp [mt, hn, h6, hl, hr2]
    cases hx : mt q f r k l
    all_goals
      repeat' (with_reducible first | refine nY ?_ | (refine mX ?_; try simp only [go_sem, hlt, h2, h3, h4, h5, h6, decide_true, decide_false, hl, hr2, hx]) | refine kO ?_ (by decide) | (refine regx (by simp only [bodyX, isStX, Bool.false_eq_true, if_false, if_true]; rfl) (by kernel_rfl) (by kernel_rfl) (by decide) ?_ ?_ ?_; (focus simp only [go_sem]; done); (focus simp only [go_sem]; done)) | refine xE ?_ (by simp only [tailX, isStX, Bool.false_eq_true, if_false, if_true]; rfl) (by simp only [go_sem]; rfl) | refine regd (by kernel_rfl) ?_ | (refine cC (ih l (by omega) (by omega)) ?_ ?_; focus simp only [go_sem, and_self]; done) | (refine cC (ih m (by omega) (by omega)) ?_ ?_; focus simp only [go_sem, and_self]; done) | (refine And.intro ?_ ?_; focus omega))
      exact retK_ret ⟨⟨_, rfl, by simp only [go_sem, hm, hx, Bool.true_and, Bool.false_and]⟩, trivial⟩
  by_cases h7 : q[i].fOp = 7
  · obtain ⟨l, hl, hli⟩ := okNode_left hok (.inr (.inr h7))
    obtain ⟨m, hr2, hmi⟩ := okNode_right hok (.inr h7)
    have hm : mt q f r (k + 1) i = (mt q f r k l || mt q f r k m) := by simp [mt, hn, h7, hl, hr2]
    cases hx : mt q f r k l
    all_goals
      repeat' (with_reducible first | refine nY ?_ | (refine mX ?_; try simp only [go_sem, hlt, h2, h3, h4, h5, h6, h7, decide_true, decide_false, hl, hr2, hx]) | refine kO ?_ (by decide) | (refine regx (by simp only [bodyX, isStX, Bool.false_eq_true, if_false, if_true]; rfl) (by kernel_rfl) (by kernel_rfl) (by decide) ?_ ?_ ?_; (focus simp only [go_sem]; done); (focus simp only [go_sem]; done)) | refine xE ?_ (by simp only [tailX, isStX, Bool.false_eq_true, if_false, if_true]; rfl) (by simp only [go_sem]; rfl) | refine regd (by kernel_rfl) ?_ | (refine cC (ih l (by omega) (by omega)) ?_ ?_; focus simp only [go_sem, and_self]; done) | (refine cC (ih m (by omega) (by omega)) ?_ ?_; focus simp only [go_sem, and_self]; done) | (refine And.intro ?_ ?_; focus omega))
      exact retK_ret ⟨⟨_, rfl, by simp only [go_sem, hm, hx, Bool.true_or, Bool.false_or]⟩, trivial⟩
  have hrl := resIDs_len q[i].fName r
  by_cases h8 : q[i].fOp = 8
  · have hm : mt q f r (k + 1) i = hasI (resIDs q[i].fName r) f.fID := by simp [mt, hn, h8]
    repeat' (with_reducible first | refine nY ?_ | (refine mX ?_; try simp only [go_sem, hlt, h2, h3, h4, h5, h6, h7, h8, decide_true, decide_false]) | refine kO ?_ (by decide) | (refine regx (by simp only [bodyX, isStX, Bool.false_eq_true, if_false, if_true]; rfl) (by kernel_rfl) (by kernel_rfl) (by decide) ?_ ?_ ?_; (focus simp only [go_sem]; done); (focus simp only [go_sem]; done)) | refine xE ?_ (by simp only [tailX, isStX, Bool.false_eq_true, if_false, if_true]; rfl) (by simp only [go_sem]; rfl) | refine regd (by kernel_rfl) ?_ | (refine cC (implResIDsd_ok r q[i].fName hr) ?_ ?_; focus simp only [go_sem, and_self]; done) | (refine cC (implContainsID_ok (resIDs q[i].fName r) f.fID (by omega)) ?_ ?_; focus simp only [go_sem, and_self]; done) | (refine And.intro ?_ ?_; focus omega))
    exact retK_ret ⟨⟨_, rfl, by simp only [go_sem, hm]⟩, trivial⟩
  by_cases h9 : q[i].fOp = 9
  · have hm : mt q f r (k + 1) i = (!decide (f.fLink = 0) && hasI (resIDs q[i].fName r) f.fLink) := by simp [mt, hn, h9]
    by_cases hz : f.fLink = 0
    · repeat' (with_reducible first | refine nY ?_ | (refine mX ?_; try simp only [go_sem, hlt, h2, h3, h4, h5, h6, h7, h8, h9, decide_true, decide_false, hz]) | refine kO ?_ (by decide) | (refine regx (by simp only [bodyX, isStX, Bool.false_eq_true, if_false, if_true]; rfl) (by kernel_rfl) (by kernel_rfl) (by decide) ?_ ?_ ?_; (focus simp only [go_sem]; done); (focus simp only [go_sem]; done)) | refine xE ?_ (by simp only [tailX, isStX, Bool.false_eq_true, if_false, if_true]; rfl) (by simp only [go_sem]; rfl) | refine regd (by kernel_rfl) ?_ | (refine cC (implResIDsd_ok r q[i].fName hr) ?_ ?_; focus simp only [go_sem, and_self]; done) | (refine cC (implContainsID_ok (resIDs q[i].fName r) f.fLink (by omega)) ?_ ?_; focus simp only [go_sem, and_self]; done) | (refine And.intro ?_ ?_; focus omega))
      exact retK_ret ⟨⟨_, rfl, by simp only [go_sem, hm, hz, decide_true, Bool.not_true, Bool.false_and]⟩, trivial⟩
    · repeat' (with_reducible first | refine nY ?_ | (refine mX ?_; try simp only [go_sem, hlt, h2, h3, h4, h5, h6, h7, h8, h9, decide_true, decide_false, hz]) | refine kO ?_ (by decide) | (refine regx (by simp only [bodyX, isStX, Bool.false_eq_true, if_false, if_true]; rfl) (by kernel_rfl) (by kernel_rfl) (by decide) ?_ ?_ ?_; (focus simp only [go_sem]; done); (focus simp only [go_sem]; done)) | refine xE ?_ (by simp only [tailX, isStX, Bool.false_eq_true, if_false, if_true]; rfl) (by simp only [go_sem]; rfl) | refine regd (by kernel_rfl) ?_ | (refine cC (implResIDsd_ok r q[i].fName hr) ?_ ?_; focus simp only [go_sem, and_self]; done) | (refine cC (implContainsID_ok (resIDs q[i].fName r) f.fLink (by omega)) ?_ ?_; focus simp only [go_sem, and_self]; done) | (refine And.intro ?_ ?_; focus omega))
      exact retK_ret ⟨⟨_, rfl, by simp only [go_sem, hm, hz, decide_false, Bool.not_false, Bool.true_and]⟩, trivial⟩
  have h1 : q[i].fOp = 1 := by omega
  have hm : mt q f r (k + 1) i = true := by simp [mt, hn, h1]
  repeat' (with_reducible first | refine nY ?_ | (refine mX ?_; try simp only [go_sem, hlt, h1, h2, h3, h4, h5, h6, h7, h8, h9, decide_true, decide_false]) | refine kO ?_ (by decide) | (refine regx (by simp only [bodyX, isStX, Bool.false_eq_true, if_false, if_true]; rfl) (by kernel_rfl) (by kernel_rfl) (by decide) ?_ ?_ ?_; (focus simp only [go_sem]; done); (focus simp only [go_sem]; done)) | refine xE ?_ (by simp only [tailX, isStX, Bool.false_eq_true, if_false, if_true]; rfl) (by simp only [go_sem]; rfl) | refine regd (by kernel_rfl) ?_ | (refine And.intro ?_ ?_; focus omega))
  exact retK_ret ⟨⟨_, rfl, by simp only [go_sem, hm]⟩, trivial⟩
theorem specMatch_ok (q : List TNode) (f : TFile) (r : List TResult) (hv : okQ q = true) (hf : wFile f ≤ 4300000) (hr : wResultS r ≤ 67108864) : ∀ k i, i < k → k ≤ q.length → FnC Tryz.prog 239 [.o (.d (.sl (q.map encNode))), oi (i : Nat), gFile f, .o (.d (.sl (r.map encResult)))] (ob (mt q f r k i)) := by
  intro k
  induction k with
  | zero => intro i hi _; omega
  | succ k ih => ?_
  intro i hi hk
  have hlt : i < q.length := by omega
  have hn := List.getElem?_eq_getElem hlt
  have hok := okQ_at hv hn
  have hop := okNode_op hok
  refine ent Tryz.func239 rfl Tryz.call239 rfl (fun C => ?_); simp only [go_sem, st0, Tryz.ntmps239]
  by_cases h1 : q[i].fOp = 1
  · have hm : mt q f r (k + 1) i = true := by simp [mt, hn, h1]
    repeat' (with_reducible first | refine nY ?_ | (refine mX ?_; try simp only [go_sem, hlt, h1, decide_true]) | refine kO ?_ (by decide) | (refine regx (by simp only [bodyX, isStX, Bool.false_eq_true, if_false, if_true]; rfl) (by kernel_rfl) (by kernel_rfl) (by decide) ?_ ?_ ?_; (focus simp only [go_sem]; done); (focus simp only [go_sem]; done)) | refine xE ?_ (by simp only [tailX, isStX, Bool.false_eq_true, if_false, if_true]; rfl) (by simp only [go_sem]; rfl) | refine regd (by kernel_rfl) ?_ | (refine cC (specGetAttr_ok f q[i].fName hf) ?_ ?_; focus simp only [go_sem, and_self]; done) | (refine And.intro ?_ ?_; focus omega))
    exact retK_ret ⟨⟨_, rfl, by simp only [go_sem, hm]⟩, trivial⟩
  by_cases h2 : q[i].fOp = 2
  · have hm : mt q f r (k + 1) i = !decide ((getAttr q[i].fName f.fAttrs).fKind = 0) := by simp [mt, hn, h2]
    repeat' (with_reducible first | refine nY ?_ | (refine mX ?_; try simp only [go_sem, hlt, h1, h2, decide_true, decide_false]) | refine kO ?_ (by decide) | (refine regx (by simp only [bodyX, isStX, Bool.false_eq_true, if_false, if_true]; rfl) (by kernel_rfl) (by kernel_rfl) (by decide) ?_ ?_ ?_; (focus simp only [go_sem]; done); (focus simp only [go_sem]; done)) | refine xE ?_ (by simp only [tailX, isStX, Bool.false_eq_true, if_false, if_true]; rfl) (by simp only [go_sem]; rfl) | refine regd (by kernel_rfl) ?_ | (refine cC (specGetAttr_ok f q[i].fName hf) ?_ ?_; focus simp only [go_sem, and_self]; done) | (refine And.intro ?_ ?_; focus omega))
    exact retK_ret ⟨⟨_, rfl, by simp only [go_sem, hm, decide_not]⟩, trivial⟩
  by_cases h3 : q[i].fOp = 3
  · have hm : mt q f r (k + 1) i = eqVal (getAttr q[i].fName f.fAttrs) q[i].fValue := by simp [mt, hn, h3]
    repeat' (with_reducible first | refine nY ?_ | (refine mX ?_; try simp only [go_sem, hlt, h1, h2, h3, decide_true, decide_false]) | refine kO ?_ (by decide) | (refine regx (by simp only [bodyX, isStX, Bool.false_eq_true, if_false, if_true]; rfl) (by kernel_rfl) (by kernel_rfl) (by decide) ?_ ?_ ?_; (focus simp only [go_sem]; done); (focus simp only [go_sem]; done)) | refine xE ?_ (by simp only [tailX, isStX, Bool.false_eq_true, if_false, if_true]; rfl) (by simp only [go_sem]; rfl) | refine regd (by kernel_rfl) ?_ | (refine cC (specGetAttr_ok f q[i].fName hf) ?_ ?_; focus simp only [go_sem, and_self]; done) | (refine And.intro ?_ ?_; focus omega))
    exact retK_ret ⟨⟨_, rfl, by simp only [go_sem, hm, eqVal]⟩, trivial⟩
  by_cases h4 : q[i].fOp = 4
  · have hm : mt q f r (k + 1) i = lessV (getAttr q[i].fName f.fAttrs) q[i].fValue.fInt := by simp [mt, hn, h4]
    by_cases hj : (getAttr q[i].fName f.fAttrs).fKind = 1
    · have hj' : decide ((getAttr q[i].fName f.fAttrs).fKind = 1) = true := decide_eq_true hj
      repeat' (with_reducible first | refine nY ?_ | (refine mX ?_; try simp only [go_sem, hlt, h1, h2, h3, h4, decide_true, decide_false, hj']) | refine kO ?_ (by decide) | (refine regx (by simp only [bodyX, isStX, Bool.false_eq_true, if_false, if_true]; rfl) (by kernel_rfl) (by kernel_rfl) (by decide) ?_ ?_ ?_; (focus simp only [go_sem]; done); (focus simp only [go_sem]; done)) | refine xE ?_ (by simp only [tailX, isStX, Bool.false_eq_true, if_false, if_true]; rfl) (by simp only [go_sem]; rfl) | refine regd (by kernel_rfl) ?_ | (refine cC (specGetAttr_ok f q[i].fName hf) ?_ ?_; focus simp only [go_sem, and_self]; done) | (refine And.intro ?_ ?_; focus omega))
      exact retK_ret ⟨⟨_, rfl, by simp only [go_sem, hm, lessV, hj, decide_true, Bool.true_and]⟩, trivial⟩
    · have hj' : decide ((getAttr q[i].fName f.fAttrs).fKind = 1) = false := decide_eq_false hj
      repeat' (with_reducible first | refine nY ?_ | (refine mX ?_; try simp only [go_sem, hlt, h1, h2, h3, h4, decide_true, decide_false, hj']) | refine kO ?_ (by decide) | (refine regx (by simp only [bodyX, isStX, Bool.false_eq_true, if_false, if_true]; rfl) (by kernel_rfl) (by kernel_rfl) (by decide) ?_ ?_ ?_; (focus simp only [go_sem]; done); (focus simp only [go_sem]; done)) | refine xE ?_ (by simp only [tailX, isStX, Bool.false_eq_true, if_false, if_true]; rfl) (by simp only [go_sem]; rfl) | refine regd (by kernel_rfl) ?_ | (refine cC (specGetAttr_ok f q[i].fName hf) ?_ ?_; focus simp only [go_sem, and_self]; done) | (refine And.intro ?_ ?_; focus omega))
      exact retK_ret ⟨⟨_, rfl, by simp only [go_sem, hm, lessV, hj, decide_false, Bool.false_and]⟩, trivial⟩
  by_cases h5 : q[i].fOp = 5
  · obtain ⟨l, hl, hli⟩ := okNode_left hok (.inl h5)
    have hm : mt q f r (k + 1) i = !mt q f r k l := by simp [mt, hn, h5, hl]
    repeat' (with_reducible first | refine nY ?_ | (refine mX ?_; try simp only [go_sem, hlt, h1, h2, h3, h4, h5, decide_true, decide_false, hl]) | refine kO ?_ (by decide) | (refine regx (by simp only [bodyX, isStX, Bool.false_eq_true, if_false, if_true]; rfl) (by kernel_rfl) (by kernel_rfl) (by decide) ?_ ?_ ?_; (focus simp only [go_sem]; done); (focus simp only [go_sem]; done)) | refine xE ?_ (by simp only [tailX, isStX, Bool.false_eq_true, if_false, if_true]; rfl) (by simp only [go_sem]; rfl) | refine regd (by kernel_rfl) ?_ | (refine cC (specGetAttr_ok f q[i].fName hf) ?_ ?_; focus simp only [go_sem, and_self]; done) | (refine cC (ih l (by omega) (by omega)) ?_ ?_; focus simp only [go_sem, and_self]; done) | (refine And.intro ?_ ?_; focus omega))
    exact retK_ret ⟨⟨_, rfl, by simp only [go_sem, hm]⟩, trivial⟩
  by_cases h6 : q[i].fOp = 6
  · obtain ⟨l, hl, hli⟩ := okNode_left hok (.inr (.inl h6))
    obtain ⟨m, hr2, hmi⟩ := okNode_right hok (.inl h6)
    have hm : mt q f r (k + 1) i = (mt q f r k l && mt q f r k m) := by simp [mt, hn, h6, hl, hr2]
    cases hx : mt q f r k l
    all_goals
      repeat' (with_reducible first | refine nY ?_ | (refine mX ?_; try simp only [go_sem, hlt, h1, h2, h3, h4, h5, h6, decide_true, decide_false, hl, hr2, hx]) | refine kO ?_ (by decide) | (refine regx (by simp only [bodyX, isStX, Bool.false_eq_true, if_false, if_true]; rfl) (by kernel_rfl) (by kernel_rfl) (by decide) ?_ ?_ ?_; (focus simp only [go_sem]; done); (focus simp only [go_sem]; done)) | refine xE ?_ (by simp only [tailX, isStX, Bool.false_eq_true, if_false, if_true]; rfl) (by simp only [go_sem]; rfl) | refine regd (by kernel_rfl) ?_ | (refine cC (specGetAttr_ok f q[i].fName hf) ?_ ?_; focus simp only [go_sem, and_self]; done) | (refine cC (ih l (by omega) (by omega)) ?_ ?_; focus simp only [go_sem, and_self]; done) | (refine cC (ih m (by omega) (by omega)) ?_ ?_; focus simp only [go_sem, and_self]; done) | (refine And.intro ?_ ?_; focus omega))
      exact retK_ret ⟨⟨_, rfl, by simp only [go_sem, hm, hx, Bool.true_and, Bool.false_and]⟩, trivial⟩
  by_cases h7 : q[i].fOp = 7
  · obtain ⟨l, hl, hli⟩ := okNode_left hok (.inr (.inr h7))
    obtain ⟨m, hr2, hmi⟩ := okNode_right hok (.inr h7)
    have hm : mt q f r (k + 1) i = (mt q f r k l || mt q f r k m) := by simp [mt, hn, h7, hl, hr2]
    cases hx : mt q f r k l
    all_goals
      repeat' (with_reducible first | refine nY ?_ | (refine mX ?_; try simp only [go_sem, hlt, h1, h2, h3, h4, h5, h6, h7, decide_true, decide_false, hl, hr2, hx]) | refine kO ?_ (by decide) | (refine regx (by simp only [bodyX, isStX, Bool.false_eq_true, if_false, if_true]; rfl) (by kernel_rfl) (by kernel_rfl) (by decide) ?_ ?_ ?_; (focus simp only [go_sem]; done); (focus simp only [go_sem]; done)) | refine xE ?_ (by simp only [tailX, isStX, Bool.false_eq_true, if_false, if_true]; rfl) (by simp only [go_sem]; rfl) | refine regd (by kernel_rfl) ?_ | (refine cC (specGetAttr_ok f q[i].fName hf) ?_ ?_; focus simp only [go_sem, and_self]; done) | (refine cC (ih l (by omega) (by omega)) ?_ ?_; focus simp only [go_sem, and_self]; done) | (refine cC (ih m (by omega) (by omega)) ?_ ?_; focus simp only [go_sem, and_self]; done) | (refine And.intro ?_ ?_; focus omega))
      exact retK_ret ⟨⟨_, rfl, by simp only [go_sem, hm, hx, Bool.true_or, Bool.false_or]⟩, trivial⟩
  have hrl := resIDs_len q[i].fName r
  by_cases h8 : q[i].fOp = 8
  · have hm : mt q f r (k + 1) i = hasI (resIDs q[i].fName r) f.fID := by simp [mt, hn, h8]
    repeat' (with_reducible first | refine nY ?_ | (refine mX ?_; try simp only [go_sem, hlt, h1, h2, h3, h4, h5, h6, h7, h8, decide_true, decide_false]) | refine kO ?_ (by decide) | (refine regx (by simp only [bodyX, isStX, Bool.false_eq_true, if_false, if_true]; rfl) (by kernel_rfl) (by kernel_rfl) (by decide) ?_ ?_ ?_; (focus simp only [go_sem]; done); (focus simp only [go_sem]; done)) | refine xE ?_ (by simp only [tailX, isStX, Bool.false_eq_true, if_false, if_true]; rfl) (by simp only [go_sem]; rfl) | refine regd (by kernel_rfl) ?_ | (refine cC (specGetAttr_ok f q[i].fName hf) ?_ ?_; focus simp only [go_sem, and_self]; done) | (refine cC (specResIDsd_ok r q[i].fName hr) ?_ ?_; focus simp only [go_sem, and_self]; done) | (refine cC (specContainsID_ok (resIDs q[i].fName r) f.fID (by omega)) ?_ ?_; focus simp only [go_sem, and_self]; done) | (refine And.intro ?_ ?_; focus omega))
    exact retK_ret ⟨⟨_, rfl, by simp only [go_sem, hm]⟩, trivial⟩
  have h9 : q[i].fOp = 9 := by omega
  have hm : mt q f r (k + 1) i = (!decide (f.fLink = 0) && hasI (resIDs q[i].fName r) f.fLink) := by simp [mt, hn, h9]
  by_cases hz : f.fLink = 0
  · have hz1 : decide (f.fLink = 0) = true := decide_eq_true hz
    have hz2 : decide (¬ f.fLink = 0) = false := decide_eq_false (fun h => h hz)
    repeat' (with_reducible first | refine nY ?_ | (refine mX ?_; try simp only [go_sem, hlt, h1, h2, h3, h4, h5, h6, h7, h8, decide_true, decide_false, hz1, hz2]) | refine kO ?_ (by decide) | (refine regx (by simp only [bodyX, isStX, Bool.false_eq_true, if_false, if_true]; rfl) (by kernel_rfl) (by kernel_rfl) (by decide) ?_ ?_ ?_; (focus simp only [go_sem]; done); (focus simp only [go_sem]; done)) | refine xE ?_ (by simp only [tailX, isStX, Bool.false_eq_true, if_false, if_true]; rfl) (by simp only [go_sem]; rfl) | refine regd (by kernel_rfl) ?_ | (refine cC (specGetAttr_ok f q[i].fName hf) ?_ ?_; focus simp only [go_sem, and_self]; done) | (refine cC (specResIDsd_ok r q[i].fName hr) ?_ ?_; focus simp only [go_sem, and_self]; done) | (refine cC (specContainsID_ok (resIDs q[i].fName r) f.fLink (by omega)) ?_ ?_; focus simp only [go_sem, and_self]; done) | (refine And.intro ?_ ?_; focus omega))
    exact retK_ret ⟨⟨_, rfl, by simp only [go_sem, hm, hz, decide_true, Bool.not_true, Bool.false_and]⟩, trivial⟩
  · have hz1 : decide (f.fLink = 0) = false := decide_eq_false hz
    have hz2 : decide (¬ f.fLink = 0) = true := decide_eq_true hz
    repeat' (with_reducible first | refine nY ?_ | (refine mX ?_; try simp only [go_sem, hlt, h1, h2, h3, h4, h5, h6, h7, h8, decide_true, decide_false, hz1, hz2]) | refine kO ?_ (by decide) | (refine regx (by simp only [bodyX, isStX, Bool.false_eq_true, if_false, if_true]; rfl) (by kernel_rfl) (by kernel_rfl) (by decide) ?_ ?_ ?_; (focus simp only [go_sem]; done); (focus simp only [go_sem]; done)) | refine xE ?_ (by simp only [tailX, isStX, Bool.false_eq_true, if_false, if_true]; rfl) (by simp only [go_sem]; rfl) | refine regd (by kernel_rfl) ?_ | (refine cC (specGetAttr_ok f q[i].fName hf) ?_ ?_; focus simp only [go_sem, and_self]; done) | (refine cC (specResIDsd_ok r q[i].fName hr) ?_ ?_; focus simp only [go_sem, and_self]; done) | (refine cC (specContainsID_ok (resIDs q[i].fName r) f.fLink (by omega)) ?_ ?_; focus simp only [go_sem, and_self]; done) | (refine And.intro ?_ ?_; focus omega))
    exact retK_ret ⟨⟨_, rfl, by simp only [go_sem, hm, hz, decide_false, Bool.not_false, Bool.true_and]⟩, trivial⟩
end Go.Proofs.YtgglopecipbbfaaGreat
