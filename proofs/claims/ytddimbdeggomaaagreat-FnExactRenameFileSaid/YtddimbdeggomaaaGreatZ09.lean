/- Joined texts. -/
import Derived.Test.YtddimbdeggomaaaGreatZ08
import Derived.Test.YtddimbdeggomaaaGreatZ06
import Derived.Test.YtddimbdeggomaaaGreatZ07
set_option linter.all false
section
set_option maxRecDepth 100000
set_option maxHeartbeats 4000000
namespace Go.Proofs.YtddimbdeggomaaaGreat
open Go Go.Sx Go.RowKit Go.Proofs
def eV (v : TValue) : Bool := decide (v.fKind = 0) && (decide (v.fInt = 0) && decide (v.fStr = ⟨#[]⟩))
def jx (n : TNode) (i : Nat) : Bool := inB n.fLeft 0 ((i : Int) - 1) && decide (0 < (i : Int))
def qe (n : TNode) (i : Nat) : Bool := inB n.fRight 0 ((i : Int) - 1)
def dY (n : TNode) : Bool := decide (n.fLeft = 0) && decide (n.fRight = 0)
def gi (n : TNode) : Bool := decide (n.fName = ⟨#[]⟩) && eV n.fValue
def aQ (n : TNode) (i : Nat) : Bool :=
 if n.fOp = 1 then dY n && gi n
 else if n.fOp = 2 then aV n.fName 1 && (dY n && eV n.fValue)
 else if n.fOp = 3 then aV n.fName 1 && (cW n.fValue && (!decide (n.fValue.fKind = 0) && dY n))
 else if n.fOp = 4 then aV n.fName 1 && (cW n.fValue && (decide (n.fValue.fKind = 1) && dY n))
 else if n.fOp = 5 then jx n i && (decide (n.fRight = 0) && gi n)
 else if n.fOp = 6 ∨ n.fOp = 7 then jx n i && (qe n i && gi n)
 else if n.fOp = 8 ∨ n.fOp = 9 then aV n.fName 6 && (dY n && eV n.fValue)
 else false
def qf (q : List TNode) (i : Nat) : Bool := match q[i]? with
 | none => true
 | some n => aQ n i && (decide (q.length ≤ i + 1) || decide (refs q i = 1))
def okQ (q : List TNode) : Bool := (List.range q.length).all (qf q) && inB (q.length : Int) 1 9
theorem lp {q : List TNode} (h : okQ q = true) {i : Nat} {n : TNode} (hi : q[i]? = some n) : aQ n i = true := by
 unfold okQ at h
 simp only [Bool.and_eq_true, List.all_eq_true, List.mem_range] at h
 have hl : i < q.length := by
  rcases Nat.lt_or_ge i q.length with hl | hl
  ·exact hl
  ·rw [List.getElem?_eq_none hl] at hi; cases hi
 have := h.1 i hl
 unfold qf at this
 rw [hi] at this
 simp only [Bool.and_eq_true] at this
 exact this.1
theorem fS {q : List TNode} (h : okQ q = true) : 1 ≤ q.length ∧ q.length ≤ 9 := by
 unfold okQ inB at h
 simp only [Bool.and_eq_true, decide_eq_true_eq] at h
 omega
theorem zS {s : ByteArray} {n : Int} (h : aV s n = true) : (s.size : Int) ≤ n := by
 unfold aV inB at h
 simp only [Bool.and_eq_true, decide_eq_true_eq] at h
 omega
theorem bC {n : TNode} {i : Nat} (h : aQ n i = true) (ho : n.fOp = 5 ∨ n.fOp = 6 ∨ n.fOp = 7) : ∃ l : Nat, n.fLeft = (l : Int) ∧ l < i := by
 have hk : jx n i = true := by
  unfold aQ at h
  rcases ho with ho | ho | ho <;> simp [ho] at h <;> exact h.1
 unfold jx inB at hk
 simp only [Bool.and_eq_true, decide_eq_true_eq] at hk
 exact ⟨n.fLeft.toNat, by omega, by omega⟩
theorem cx {n : TNode} {i : Nat} (h : aQ n i = true) (ho : n.fOp = 6 ∨ n.fOp = 7) : ∃ l : Nat, n.fRight = (l : Int) ∧ l < i := by
 have hk : qe n i = true ∧ jx n i = true := by
  unfold aQ at h
  rcases ho with ho | ho <;> simp [ho] at h <;> exact ⟨h.2.1, h.1⟩
 unfold jx qe inB at hk
 simp only [Bool.and_eq_true, decide_eq_true_eq] at hk
 exact ⟨n.fRight.toNat, by omega, by omega⟩
theorem iy {n : TNode} {i : Nat} (h : aQ n i = true) : n.fOp = 1 ∨ n.fOp = 2 ∨ n.fOp = 3 ∨ n.fOp = 4 ∨ n.fOp = 5 ∨ n.fOp = 6 ∨ n.fOp = 7 ∨ n.fOp = 8 ∨ n.fOp = 9 := by
 unfold aQ at h
 repeat' split at h
 all_goals first | omega | cases h
theorem dG (n : TNode) (i : Nat) (hi : i ≤ 4300000) (hs : n.fValue.fStr.size ≤ 4300000) (hn : n.fName.size ≤ 4300000) : FnC Tryz.prog 302 [jt n, oi i] (ob (aQ n i)) := by
 refine ent Tryz.func302 rfl Tryz.call302 rfl (fun C => ?_); simp only [go_sem, st0, Tryz.ntmps302]
 by_cases h1 : n.fOp = 1
 ·cases hz : (decide (n.fLeft = 0) && (decide (n.fRight = 0) && (decide (n.fName = ⟨#[]⟩) && (decide (n.fValue.fKind = 0) && (decide (n.fValue.fInt = 0) && decide (n.fValue.fStr = ⟨#[]⟩))))))
  all_goals
   have hr : aQ n i = (decide (n.fLeft = 0) && (decide (n.fRight = 0) && (decide (n.fName = ⟨#[]⟩) && (decide (n.fValue.fKind = 0) && (decide (n.fValue.fInt = 0) && decide (n.fValue.fStr = ⟨#[]⟩)))))) := by simp [aQ, h1, dY, gi, eV, Bool.and_assoc]
   rw [hz] at hr
   have q0 := @h1; have q1 := @decide_true; have q2 := @hz; refine fF ?_
   exact aa ⟨⟨_, rfl, by simp only [go_sem, hr]⟩, trivial⟩
 by_cases h2 : n.fOp = 2
 ·cases hz : (decide (n.fLeft = 0) && (decide (n.fRight = 0) && (decide (n.fValue.fKind = 0) && (decide (n.fValue.fInt = 0) && decide (n.fValue.fStr = ⟨#[]⟩))))) <;> cases ht : aV n.fName 1
  all_goals
   have hr : aQ n i = (aV n.fName 1 && (decide (n.fLeft = 0) && (decide (n.fRight = 0) && (decide (n.fValue.fKind = 0) && (decide (n.fValue.fInt = 0) && decide (n.fValue.fStr = ⟨#[]⟩)))))) := by simp [aQ, h2, dY, gi, eV, Bool.and_assoc]
   rw [hz, ht] at hr
   have q0 := @h1; have q1 := @h2; have q2 := @decide_true; have q3 := @decide_false; have q4 := @hz; have q5 := @ht; refine ot (ac n.fName) ?_
   exact aa ⟨⟨_, rfl, by simp only [go_sem, hr, Bool.and_true, Bool.and_false]⟩, trivial⟩
 by_cases h3 : n.fOp = 3
 ·have hr : aQ n i = (aV n.fName 1 && (cW n.fValue && (!decide (n.fValue.fKind = 0) && (decide (n.fLeft = 0) && decide (n.fRight = 0))))) := by simp [aQ, h3, dY]
  have qH := aI @h1 (aI @h2 (aI @h3 (aI @decide_true @decide_false))); repeat' (with_reducible first | refine nY ?_ | (refine mX ?_; try simp only [go_sem, qH]) | refine kD ?_ | refine rT [5, 7] [] ?_ | refine bi (aX ?_) (uX ?_) | refine bI (aX ?_) ?_ | (refine uA ?_; simp only [go_sem, qH]; (repeat' first | omega | refine And.intro ?_ ?_ | refine cP (ac n.fName) ?_ | refine cP (ag n.fValue hs) ?_ | (refine mX ?_; simp only [go_sem, qH] <;> fail)); done) | refine cP (ac n.fName) ?_ | refine cP (ag n.fValue hs) ?_ | refine aO ?_ | fail)
  cases hz : (decide (n.fLeft = 0) && decide (n.fRight = 0))
  ·rw [hz] at hr
   simp only [go_sem, hz]
   have qH := aI @h1 (aI @h2 (aI @h3 (aI @decide_true (aI @decide_false @hz)))); repeat' (with_reducible first | refine nY ?_ | (refine mX ?_; try simp only [go_sem, qH]) | refine kD ?_ | refine rT [5, 7] [] ?_ | refine bi (aX ?_) (uX ?_) | refine bI (aX ?_) ?_ | (refine uA ?_; simp only [go_sem, qH]; (repeat' first | omega | refine And.intro ?_ ?_ | refine cP (ac n.fName) ?_ | refine cP (ag n.fValue hs) ?_ | (refine mX ?_; simp only [go_sem, qH] <;> fail)); done) | refine cP (ac n.fName) ?_ | refine cP (ag n.fValue hs) ?_ | refine aO ?_ | fail)
   exact aa ⟨⟨_, rfl, by simp only [go_sem, hr, Bool.and_true, Bool.and_false, Bool.true_and, Bool.false_and, Bool.not_true, Bool.not_false]⟩, trivial⟩
  rw [hz] at hr
  simp only [go_sem, hz]
  have qH := aI @h1 (aI @h2 (aI @h3 (aI @decide_true (aI @decide_false @hz)))); repeat' (with_reducible first | refine nY ?_ | (refine mX ?_; try simp only [go_sem, qH]) | refine kD ?_ | refine rT [5, 7] [] ?_ | refine bi (aX ?_) (uX ?_) | refine bI (aX ?_) ?_ | (refine uA ?_; simp only [go_sem, qH]; (repeat' first | omega | refine And.intro ?_ ?_ | refine cP (ac n.fName) ?_ | refine cP (ag n.fValue hs) ?_ | (refine mX ?_; simp only [go_sem, qH] <;> fail)); done) | refine cP (ac n.fName) ?_ | refine cP (ag n.fValue hs) ?_ | refine aO ?_ | fail)
  cases ht : aV n.fName 1
  ·rw [ht] at hr
   simp only [go_sem, ht]
   have qH := aI @h1 (aI @h2 (aI @h3 (aI @decide_true (aI @decide_false (aI @hz @ht))))); repeat' (with_reducible first | refine nY ?_ | (refine mX ?_; try simp only [go_sem, qH]) | refine kD ?_ | refine rT [5, 7] [] ?_ | refine bi (aX ?_) (uX ?_) | refine bI (aX ?_) ?_ | (refine uA ?_; simp only [go_sem, qH]; (repeat' first | omega | refine And.intro ?_ ?_ | refine cP (ac n.fName) ?_ | refine cP (ag n.fValue hs) ?_ | (refine mX ?_; simp only [go_sem, qH] <;> fail)); done) | refine cP (ac n.fName) ?_ | refine cP (ag n.fValue hs) ?_ | refine aO ?_ | fail)
   exact aa ⟨⟨_, rfl, by simp only [go_sem, hr, Bool.and_true, Bool.and_false, Bool.true_and, Bool.false_and, Bool.not_true, Bool.not_false]⟩, trivial⟩
  rw [ht] at hr
  simp only [go_sem, ht]
  have qH := aI @h1 (aI @h2 (aI @h3 (aI @decide_true (aI @decide_false (aI @hz @ht))))); repeat' (with_reducible first | refine nY ?_ | (refine mX ?_; try simp only [go_sem, qH]) | refine kD ?_ | refine rT [5, 7] [] ?_ | refine bi (aX ?_) (uX ?_) | refine bI (aX ?_) ?_ | (refine uA ?_; simp only [go_sem, qH]; (repeat' first | omega | refine And.intro ?_ ?_ | refine cP (ac n.fName) ?_ | refine cP (ag n.fValue hs) ?_ | (refine mX ?_; simp only [go_sem, qH] <;> fail)); done) | refine cP (ac n.fName) ?_ | refine cP (ag n.fValue hs) ?_ | refine aO ?_ | fail)
  cases hv : cW n.fValue
  ·rw [hv] at hr
   simp only [go_sem, hv]
   have qH := aI @h1 (aI @h2 (aI @h3 (aI @decide_true (aI @decide_false (aI @hz (aI @ht @hv)))))); repeat' (with_reducible first | refine nY ?_ | (refine mX ?_; try simp only [go_sem, qH]) | refine kD ?_ | refine rT [5, 7] [] ?_ | refine bi (aX ?_) (uX ?_) | refine bI (aX ?_) ?_ | (refine uA ?_; simp only [go_sem, qH]; (repeat' first | omega | refine And.intro ?_ ?_ | refine cP (ac n.fName) ?_ | refine cP (ag n.fValue hs) ?_ | (refine mX ?_; simp only [go_sem, qH] <;> fail)); done) | refine cP (ac n.fName) ?_ | refine cP (ag n.fValue hs) ?_ | refine aO ?_ | fail)
   exact aa ⟨⟨_, rfl, by simp only [go_sem, hr, Bool.and_true, Bool.and_false, Bool.true_and, Bool.false_and, Bool.not_true, Bool.not_false]⟩, trivial⟩
  rw [hv] at hr
  simp only [go_sem, hv]
  have qH := aI @h1 (aI @h2 (aI @h3 (aI @decide_true (aI @decide_false (aI @hz (aI @ht @hv)))))); repeat' (with_reducible first | refine nY ?_ | (refine mX ?_; try simp only [go_sem, qH]) | refine kD ?_ | refine rT [5, 7] [] ?_ | refine bi (aX ?_) (uX ?_) | refine bI (aX ?_) ?_ | (refine uA ?_; simp only [go_sem, qH]; (repeat' first | omega | refine And.intro ?_ ?_ | refine cP (ac n.fName) ?_ | refine cP (ag n.fValue hs) ?_ | (refine mX ?_; simp only [go_sem, qH] <;> fail)); done) | refine cP (ac n.fName) ?_ | refine cP (ag n.fValue hs) ?_ | refine aO ?_ | fail)
  by_cases hk : n.fValue.fKind = 0
  ·simp only [hk, decide_true] at hr
   simp only [go_sem, hk, decide_true]
   have qH := aI @h1 (aI @h2 (aI @h3 (aI @decide_true (aI @decide_false (aI @hz (aI @ht (aI @hv @hk))))))); repeat' (with_reducible first | refine nY ?_ | (refine mX ?_; try simp only [go_sem, qH]) | refine kD ?_ | refine rT [5, 7] [] ?_ | refine bi (aX ?_) (uX ?_) | refine bI (aX ?_) ?_ | (refine uA ?_; simp only [go_sem, qH]; (repeat' first | omega | refine And.intro ?_ ?_ | refine cP (ac n.fName) ?_ | refine cP (ag n.fValue hs) ?_ | (refine mX ?_; simp only [go_sem, qH] <;> fail)); done) | refine cP (ac n.fName) ?_ | refine cP (ag n.fValue hs) ?_ | refine aO ?_ | fail)
   exact aa ⟨⟨_, rfl, by simp only [go_sem, hr, Bool.and_true, Bool.and_false, Bool.true_and, Bool.false_and, Bool.not_true, Bool.not_false]⟩, trivial⟩
  simp only [hk, decide_false] at hr
  simp only [go_sem, hk, decide_false]
  have qH := aI @h1 (aI @h2 (aI @h3 (aI @decide_true (aI @decide_false (aI @hz (aI @ht (aI @hv @hk))))))); repeat' (with_reducible first | refine nY ?_ | (refine mX ?_; try simp only [go_sem, qH]) | refine kD ?_ | refine rT [5, 7] [] ?_ | refine bi (aX ?_) (uX ?_) | refine bI (aX ?_) ?_ | (refine uA ?_; simp only [go_sem, qH]; (repeat' first | omega | refine And.intro ?_ ?_ | refine cP (ac n.fName) ?_ | refine cP (ag n.fValue hs) ?_ | (refine mX ?_; simp only [go_sem, qH] <;> fail)); done) | refine cP (ac n.fName) ?_ | refine cP (ag n.fValue hs) ?_ | refine aO ?_ | fail)
  exact aa ⟨⟨_, rfl, by simp only [go_sem, hr, Bool.and_true, Bool.and_false, Bool.true_and, Bool.false_and, Bool.not_true, Bool.not_false]⟩, trivial⟩
 by_cases h4 : n.fOp = 4
 ·have hr : aQ n i = (aV n.fName 1 && (cW n.fValue && (!decide (n.fValue.fKind = 0) && (decide (n.fValue.fKind = 1) && (decide (n.fLeft = 0) && decide (n.fRight = 0)))))) := by
   simp only [aQ, h4, dY]
   by_cases hk : n.fValue.fKind = 1 <;> simp [hk]
  have qH := aI @h1 (aI @h2 (aI @h3 (aI @h4 (aI @decide_true @decide_false)))); repeat' (with_reducible first | refine nY ?_ | (refine mX ?_; try simp only [go_sem, qH]) | refine kD ?_ | refine rT [5, 7] [] ?_ | refine bi (aX ?_) (uX ?_) | refine bI (aX ?_) ?_ | (refine uA ?_; simp only [go_sem, qH]; (repeat' first | omega | refine And.intro ?_ ?_ | refine cP (ac n.fName) ?_ | refine cP (ag n.fValue hs) ?_ | (refine mX ?_; simp only [go_sem, qH] <;> fail)); done) | refine cP (ac n.fName) ?_ | refine cP (ag n.fValue hs) ?_ | refine aO ?_ | fail)
  cases hz : (decide (n.fLeft = 0) && decide (n.fRight = 0))
  ·rw [hz] at hr
   simp only [go_sem, hz]
   have qH := aI @h1 (aI @h2 (aI @h3 (aI @h4 (aI @decide_true (aI @decide_false @hz))))); repeat' (with_reducible first | refine nY ?_ | (refine mX ?_; try simp only [go_sem, qH]) | refine kD ?_ | refine rT [5, 7] [] ?_ | refine bi (aX ?_) (uX ?_) | refine bI (aX ?_) ?_ | (refine uA ?_; simp only [go_sem, qH]; (repeat' first | omega | refine And.intro ?_ ?_ | refine cP (ac n.fName) ?_ | refine cP (ag n.fValue hs) ?_ | (refine mX ?_; simp only [go_sem, qH] <;> fail)); done) | refine cP (ac n.fName) ?_ | refine cP (ag n.fValue hs) ?_ | refine aO ?_ | fail)
   exact aa ⟨⟨_, rfl, by simp only [go_sem, hr, Bool.and_true, Bool.and_false, Bool.true_and, Bool.false_and, Bool.not_true, Bool.not_false]⟩, trivial⟩
  rw [hz] at hr
  simp only [go_sem, hz]
  have qH := aI @h1 (aI @h2 (aI @h3 (aI @h4 (aI @decide_true (aI @decide_false @hz))))); repeat' (with_reducible first | refine nY ?_ | (refine mX ?_; try simp only [go_sem, qH]) | refine kD ?_ | refine rT [5, 7] [] ?_ | refine bi (aX ?_) (uX ?_) | refine bI (aX ?_) ?_ | (refine uA ?_; simp only [go_sem, qH]; (repeat' first | omega | refine And.intro ?_ ?_ | refine cP (ac n.fName) ?_ | refine cP (ag n.fValue hs) ?_ | (refine mX ?_; simp only [go_sem, qH] <;> fail)); done) | refine cP (ac n.fName) ?_ | refine cP (ag n.fValue hs) ?_ | refine aO ?_ | fail)
  cases ht : aV n.fName 1
  ·rw [ht] at hr
   simp only [go_sem, ht]
   have qH := aI @h1 (aI @h2 (aI @h3 (aI @h4 (aI @decide_true (aI @decide_false (aI @hz @ht)))))); repeat' (with_reducible first | refine nY ?_ | (refine mX ?_; try simp only [go_sem, qH]) | refine kD ?_ | refine rT [5, 7] [] ?_ | refine bi (aX ?_) (uX ?_) | refine bI (aX ?_) ?_ | (refine uA ?_; simp only [go_sem, qH]; (repeat' first | omega | refine And.intro ?_ ?_ | refine cP (ac n.fName) ?_ | refine cP (ag n.fValue hs) ?_ | (refine mX ?_; simp only [go_sem, qH] <;> fail)); done) | refine cP (ac n.fName) ?_ | refine cP (ag n.fValue hs) ?_ | refine aO ?_ | fail)
   exact aa ⟨⟨_, rfl, by simp only [go_sem, hr, Bool.and_true, Bool.and_false, Bool.true_and, Bool.false_and, Bool.not_true, Bool.not_false]⟩, trivial⟩
  rw [ht] at hr
  simp only [go_sem, ht]
  have qH := aI @h1 (aI @h2 (aI @h3 (aI @h4 (aI @decide_true (aI @decide_false (aI @hz @ht)))))); repeat' (with_reducible first | refine nY ?_ | (refine mX ?_; try simp only [go_sem, qH]) | refine kD ?_ | refine rT [5, 7] [] ?_ | refine bi (aX ?_) (uX ?_) | refine bI (aX ?_) ?_ | (refine uA ?_; simp only [go_sem, qH]; (repeat' first | omega | refine And.intro ?_ ?_ | refine cP (ac n.fName) ?_ | refine cP (ag n.fValue hs) ?_ | (refine mX ?_; simp only [go_sem, qH] <;> fail)); done) | refine cP (ac n.fName) ?_ | refine cP (ag n.fValue hs) ?_ | refine aO ?_ | fail)
  cases hv : cW n.fValue
  ·rw [hv] at hr
   simp only [go_sem, hv]
   have qH := aI @h1 (aI @h2 (aI @h3 (aI @h4 (aI @decide_true (aI @decide_false (aI @hz (aI @ht @hv))))))); repeat' (with_reducible first | refine nY ?_ | (refine mX ?_; try simp only [go_sem, qH]) | refine kD ?_ | refine rT [5, 7] [] ?_ | refine bi (aX ?_) (uX ?_) | refine bI (aX ?_) ?_ | (refine uA ?_; simp only [go_sem, qH]; (repeat' first | omega | refine And.intro ?_ ?_ | refine cP (ac n.fName) ?_ | refine cP (ag n.fValue hs) ?_ | (refine mX ?_; simp only [go_sem, qH] <;> fail)); done) | refine cP (ac n.fName) ?_ | refine cP (ag n.fValue hs) ?_ | refine aO ?_ | fail)
   exact aa ⟨⟨_, rfl, by simp only [go_sem, hr, Bool.and_true, Bool.and_false, Bool.true_and, Bool.false_and, Bool.not_true, Bool.not_false]⟩, trivial⟩
  rw [hv] at hr
  simp only [go_sem, hv]
  have qH := aI @h1 (aI @h2 (aI @h3 (aI @h4 (aI @decide_true (aI @decide_false (aI @hz (aI @ht @hv))))))); repeat' (with_reducible first | refine nY ?_ | (refine mX ?_; try simp only [go_sem, qH]) | refine kD ?_ | refine rT [5, 7] [] ?_ | refine bi (aX ?_) (uX ?_) | refine bI (aX ?_) ?_ | (refine uA ?_; simp only [go_sem, qH]; (repeat' first | omega | refine And.intro ?_ ?_ | refine cP (ac n.fName) ?_ | refine cP (ag n.fValue hs) ?_ | (refine mX ?_; simp only [go_sem, qH] <;> fail)); done) | refine cP (ac n.fName) ?_ | refine cP (ag n.fValue hs) ?_ | refine aO ?_ | fail)
  by_cases hk : n.fValue.fKind = 0
  ·simp only [hk, decide_true] at hr
   simp only [go_sem, hk, decide_true]
   have qH := aI @h1 (aI @h2 (aI @h3 (aI @h4 (aI @decide_true (aI @decide_false (aI @hz (aI @ht (aI @hv @hk)))))))); repeat' (with_reducible first | refine nY ?_ | (refine mX ?_; try simp only [go_sem, qH]) | refine kD ?_ | refine rT [5, 7] [] ?_ | refine bi (aX ?_) (uX ?_) | refine bI (aX ?_) ?_ | (refine uA ?_; simp only [go_sem, qH]; (repeat' first | omega | refine And.intro ?_ ?_ | refine cP (ac n.fName) ?_ | refine cP (ag n.fValue hs) ?_ | (refine mX ?_; simp only [go_sem, qH] <;> fail)); done) | refine cP (ac n.fName) ?_ | refine cP (ag n.fValue hs) ?_ | refine aO ?_ | fail)
   exact aa ⟨⟨_, rfl, by simp only [go_sem, hr, Bool.and_true, Bool.and_false, Bool.true_and, Bool.false_and, Bool.not_true, Bool.not_false]⟩, trivial⟩
  simp only [hk, decide_false] at hr
  simp only [go_sem, hk, decide_false]
  have qH := aI @h1 (aI @h2 (aI @h3 (aI @h4 (aI @decide_true (aI @decide_false (aI @hz (aI @ht (aI @hv @hk)))))))); repeat' (with_reducible first | refine nY ?_ | (refine mX ?_; try simp only [go_sem, qH]) | refine kD ?_ | refine rT [5, 7] [] ?_ | refine bi (aX ?_) (uX ?_) | refine bI (aX ?_) ?_ | (refine uA ?_; simp only [go_sem, qH]; (repeat' first | omega | refine And.intro ?_ ?_ | refine cP (ac n.fName) ?_ | refine cP (ag n.fValue hs) ?_ | (refine mX ?_; simp only [go_sem, qH] <;> fail)); done) | refine cP (ac n.fName) ?_ | refine cP (ag n.fValue hs) ?_ | refine aO ?_ | fail)
  by_cases hj : n.fValue.fKind = 1
  rotate_left
  ·simp only [hj, decide_false] at hr
   simp only [go_sem, hj, decide_false]
   have qH := aI @h1 (aI @h2 (aI @h3 (aI @h4 (aI @decide_true (aI @decide_false (aI @hz (aI @ht (aI @hv (aI @hk @hj))))))))); repeat' (with_reducible first | refine nY ?_ | (refine mX ?_; try simp only [go_sem, qH]) | refine kD ?_ | refine rT [5, 7] [] ?_ | refine bi (aX ?_) (uX ?_) | refine bI (aX ?_) ?_ | (refine uA ?_; simp only [go_sem, qH]; (repeat' first | omega | refine And.intro ?_ ?_ | refine cP (ac n.fName) ?_ | refine cP (ag n.fValue hs) ?_ | (refine mX ?_; simp only [go_sem, qH] <;> fail)); done) | refine cP (ac n.fName) ?_ | refine cP (ag n.fValue hs) ?_ | refine aO ?_ | fail)
   exact aa ⟨⟨_, rfl, by simp only [go_sem, hr, Bool.and_true, Bool.and_false, Bool.true_and, Bool.false_and, Bool.not_true, Bool.not_false]⟩, trivial⟩
  simp only [hj, decide_true] at hr
  simp only [go_sem, hj, decide_true]
  have qH := aI @h1 (aI @h2 (aI @h3 (aI @h4 (aI @decide_true (aI @decide_false (aI @hz (aI @ht (aI @hv (aI @hk @hj))))))))); repeat' (with_reducible first | refine nY ?_ | (refine mX ?_; try simp only [go_sem, qH]) | refine kD ?_ | refine rT [5, 7] [] ?_ | refine bi (aX ?_) (uX ?_) | refine bI (aX ?_) ?_ | (refine uA ?_; simp only [go_sem, qH]; (repeat' first | omega | refine And.intro ?_ ?_ | refine cP (ac n.fName) ?_ | refine cP (ag n.fValue hs) ?_ | (refine mX ?_; simp only [go_sem, qH] <;> fail)); done) | refine cP (ac n.fName) ?_ | refine cP (ag n.fValue hs) ?_ | refine aO ?_ | fail)
  exact aa ⟨⟨_, rfl, by simp only [go_sem, hr, Bool.and_true, Bool.and_false, Bool.true_and, Bool.false_and, Bool.not_true, Bool.not_false]⟩, trivial⟩
 by_cases h5 : n.fOp = 5
 ·have hr : aQ n i = ((decide (n.fRight = 0) && (decide (n.fName = ⟨#[]⟩) && (decide (n.fValue.fKind = 0) && (decide (n.fValue.fInt = 0) && decide (n.fValue.fStr = ⟨#[]⟩))))) && (decide (0 < (i : Int)) && inB n.fLeft 0 ((i : Int) - 1))) := by simp [aQ, h5, jx, gi, eV, Bool.and_assoc, Bool.and_comm, Bool.and_left_comm]
  have q0 := @h1; have q1 := @h2; have q2 := @h3; have q3 := @h4; have q4 := @h5; have q5 := @decide_true; have q6 := @decide_false; refine CR (ap n.fLeft 0 ((i : Int) - 1)) ?_
  cases hz : (decide (n.fRight = 0) && (decide (n.fName = ⟨#[]⟩) && (decide (n.fValue.fKind = 0) && (decide (n.fValue.fInt = 0) && decide (n.fValue.fStr = ⟨#[]⟩)))))
  ·rw [hz] at hr
   simp only [go_sem, hz]
   have q0 := @h1; have q1 := @h2; have q2 := @h3; have q3 := @h4; have q4 := @h5; have q5 := @decide_true; have q6 := @decide_false; have q7 := @hz; refine u1 (ap n.fLeft 0 ((i : Int) - 1)) ?_
   exact aa ⟨⟨_, rfl, by simp only [go_sem, hr, Bool.and_true, Bool.and_false, Bool.true_and, Bool.false_and, Bool.not_true, Bool.not_false]⟩, trivial⟩
  rw [hz] at hr
  simp only [go_sem, hz]
  have q0 := @h1; have q1 := @h2; have q2 := @h3; have q3 := @h4; have q4 := @h5; have q5 := @decide_true; have q6 := @decide_false; have q7 := @hz; refine u1 (ap n.fLeft 0 ((i : Int) - 1)) ?_
  by_cases hp : 0 < (i : Int)
  rotate_left
  ·simp only [hp, decide_false] at hr
   simp only [go_sem, hp, decide_false]
   have q0 := @h1; have q1 := @h2; have q2 := @h3; have q3 := @h4; have q4 := @h5; have q5 := @decide_true; have q6 := @decide_false; have q7 := @hz; have q8 := @hp; refine zw (ap n.fLeft 0 ((i : Int) - 1)) ?_
   exact aa ⟨⟨_, rfl, by simp only [go_sem, hr, Bool.and_true, Bool.and_false, Bool.true_and, Bool.false_and, Bool.not_true, Bool.not_false]⟩, trivial⟩
  simp only [hp, decide_true] at hr
  simp only [go_sem, hp, decide_true]
  have q0 := @h1; have q1 := @h2; have q2 := @h3; have q3 := @h4; have q4 := @h5; have q5 := @decide_true; have q6 := @decide_false; have q7 := @hz; have q8 := @hp; refine zw (ap n.fLeft 0 ((i : Int) - 1)) ?_
  exact aa ⟨⟨_, rfl, by simp only [go_sem, hr, Bool.and_true, Bool.and_false, Bool.true_and, Bool.false_and, Bool.not_true, Bool.not_false]⟩, trivial⟩
 by_cases h67 : n.fOp = 6 ∨ n.fOp = 7
 ·have hr : aQ n i = ((decide (n.fName = ⟨#[]⟩) && (decide (n.fValue.fKind = 0) && (decide (n.fValue.fInt = 0) && decide (n.fValue.fStr = ⟨#[]⟩)))) && (decide (0 < (i : Int)) && (inB n.fLeft 0 ((i : Int) - 1) && inB n.fRight 0 ((i : Int) - 1)))) := by
   rcases h67 with h67 | h67 <;> simp [aQ, h67, jx, qe, gi, eV, Bool.and_assoc, Bool.and_comm, Bool.and_left_comm]
  by_cases h6 : n.fOp = 6
  ·skip
   have qH := aI @h1 (aI @h2 (aI @h3 (aI @h4 (aI @h5 (aI @h6 (aI @decide_true @decide_false)))))); repeat' (with_reducible first | refine nY ?_ | (refine mX ?_; try simp only [go_sem, qH]) | refine kD ?_ | refine rT [5, 7] [] ?_ | refine bi (aX ?_) (uX ?_) | refine bI (aX ?_) ?_ | (refine uA ?_; simp only [go_sem, qH]; (repeat' first | omega | refine And.intro ?_ ?_ | refine cP (ap n.fLeft 0 ((i : Int) - 1)) ?_ | refine cP (ap n.fRight 0 ((i : Int) - 1)) ?_ | (refine mX ?_; simp only [go_sem, qH] <;> fail)); done) | refine cP (ap n.fLeft 0 ((i : Int) - 1)) ?_ | refine cP (ap n.fRight 0 ((i : Int) - 1)) ?_ | refine aO ?_ | fail)
   cases hz : (decide (n.fName = ⟨#[]⟩) && (decide (n.fValue.fKind = 0) && (decide (n.fValue.fInt = 0) && decide (n.fValue.fStr = ⟨#[]⟩))))
   ·rw [hz] at hr
    simp only [go_sem, hz]
    have q0 := @h1; have q1 := @h2; have q2 := @h3; have q3 := @h4; have q4 := @h5; have q5 := @h6; have q6 := @decide_true; have q7 := @decide_false; have q8 := @hz; refine wY (ap n.fLeft 0 ((i : Int) - 1)) (ap n.fRight 0 ((i : Int) - 1)) ?_
    exact aa ⟨⟨_, rfl, by simp only [go_sem, hr, Bool.and_true, Bool.and_false, Bool.true_and, Bool.false_and, Bool.not_true, Bool.not_false]⟩, trivial⟩
   rw [hz] at hr
   simp only [go_sem, hz]
   have q0 := @h1; have q1 := @h2; have q2 := @h3; have q3 := @h4; have q4 := @h5; have q5 := @h6; have q6 := @decide_true; have q7 := @decide_false; have q8 := @hz; refine wY (ap n.fLeft 0 ((i : Int) - 1)) (ap n.fRight 0 ((i : Int) - 1)) ?_
   by_cases hp : 0 < (i : Int)
   rotate_left
   ·simp only [hp, decide_false] at hr
    simp only [go_sem, hp, decide_false]
    have q0 := @h1; have q1 := @h2; have q2 := @h3; have q3 := @h4; have q4 := @h5; have q5 := @h6; have q6 := @decide_true; have q7 := @decide_false; have q8 := @hz; have q9 := @hp; refine u3 (ap n.fLeft 0 ((i : Int) - 1)) (ap n.fRight 0 ((i : Int) - 1)) ?_
    exact aa ⟨⟨_, rfl, by simp only [go_sem, hr, Bool.and_true, Bool.and_false, Bool.true_and, Bool.false_and, Bool.not_true, Bool.not_false]⟩, trivial⟩
   simp only [hp, decide_true] at hr
   simp only [go_sem, hp, decide_true]
   have q0 := @h1; have q1 := @h2; have q2 := @h3; have q3 := @h4; have q4 := @h5; have q5 := @h6; have q6 := @decide_true; have q7 := @decide_false; have q8 := @hz; have q9 := @hp; refine u3 (ap n.fLeft 0 ((i : Int) - 1)) (ap n.fRight 0 ((i : Int) - 1)) ?_
   cases hl : inB n.fLeft 0 ((i : Int) - 1)
   ·rw [hl] at hr
    simp only [go_sem, hl]
    have qH := aI @h1 (aI @h2 (aI @h3 (aI @h4 (aI @h5 (aI @h6 (aI @decide_true (aI @decide_false (aI @hz (aI @hp @hl))))))))); repeat' (with_reducible first | refine nY ?_ | (refine mX ?_; try simp only [go_sem, qH]) | refine kD ?_ | refine cP (ap n.fLeft 0 ((i : Int) - 1)) ?_ | refine cP (ap n.fRight 0 ((i : Int) - 1)) ?_ | refine aO ?_ | fail)
    exact aa ⟨⟨_, rfl, by simp only [go_sem, hr, Bool.and_true, Bool.and_false, Bool.true_and, Bool.false_and, Bool.not_true, Bool.not_false]⟩, trivial⟩
   rw [hl] at hr
   simp only [go_sem, hl]
   have qH := aI @h1 (aI @h2 (aI @h3 (aI @h4 (aI @h5 (aI @h6 (aI @decide_true (aI @decide_false (aI @hz (aI @hp @hl))))))))); repeat' (with_reducible first | refine nY ?_ | (refine mX ?_; try simp only [go_sem, qH]) | refine kD ?_ | refine cP (ap n.fLeft 0 ((i : Int) - 1)) ?_ | refine cP (ap n.fRight 0 ((i : Int) - 1)) ?_ | refine aO ?_ | fail)
   exact aa ⟨⟨_, rfl, by simp only [go_sem, hr, Bool.and_true, Bool.and_false, Bool.true_and, Bool.false_and, Bool.not_true, Bool.not_false]⟩, trivial⟩
  ·have h7 : n.fOp = 7 := by omega
   have qH := aI @h1 (aI @h2 (aI @h3 (aI @h4 (aI @h5 (aI @h6 (aI @h7 (aI @decide_true @decide_false))))))); repeat' (with_reducible first | refine nY ?_ | (refine mX ?_; try simp only [go_sem, qH]) | refine kD ?_ | refine rT [5, 7] [] ?_ | refine bi (aX ?_) (uX ?_) | refine bI (aX ?_) ?_ | (refine uA ?_; simp only [go_sem, qH]; (repeat' first | omega | refine And.intro ?_ ?_ | refine cP (ap n.fLeft 0 ((i : Int) - 1)) ?_ | refine cP (ap n.fRight 0 ((i : Int) - 1)) ?_ | (refine mX ?_; simp only [go_sem, qH] <;> fail)); done) | refine cP (ap n.fLeft 0 ((i : Int) - 1)) ?_ | refine cP (ap n.fRight 0 ((i : Int) - 1)) ?_ | refine aO ?_ | fail)
   cases hz : (decide (n.fName = ⟨#[]⟩) && (decide (n.fValue.fKind = 0) && (decide (n.fValue.fInt = 0) && decide (n.fValue.fStr = ⟨#[]⟩))))
   ·rw [hz] at hr
    simp only [go_sem, hz]
    have q0 := @h1; have q1 := @h2; have q2 := @h3; have q3 := @h4; have q4 := @h5; have q5 := @h6; have q6 := @h7; have q7 := @decide_true; have q8 := @decide_false; have q9 := @hz; refine u3 (ap n.fLeft 0 ((i : Int) - 1)) (ap n.fRight 0 ((i : Int) - 1)) ?_
    exact aa ⟨⟨_, rfl, by simp only [go_sem, hr, Bool.and_true, Bool.and_false, Bool.true_and, Bool.false_and, Bool.not_true, Bool.not_false]⟩, trivial⟩
   rw [hz] at hr
   simp only [go_sem, hz]
   have q0 := @h1; have q1 := @h2; have q2 := @h3; have q3 := @h4; have q4 := @h5; have q5 := @h6; have q6 := @h7; have q7 := @decide_true; have q8 := @decide_false; have q9 := @hz; refine u3 (ap n.fLeft 0 ((i : Int) - 1)) (ap n.fRight 0 ((i : Int) - 1)) ?_
   by_cases hp : 0 < (i : Int)
   rotate_left
   ·simp only [hp, decide_false] at hr
    simp only [go_sem, hp, decide_false]
    have qH := aI @h1 (aI @h2 (aI @h3 (aI @h4 (aI @h5 (aI @h6 (aI @h7 (aI @decide_true (aI @decide_false (aI @hz @hp))))))))); repeat' (with_reducible first | refine nY ?_ | (refine mX ?_; try simp only [go_sem, qH]) | refine kD ?_ | refine cP (ap n.fLeft 0 ((i : Int) - 1)) ?_ | refine cP (ap n.fRight 0 ((i : Int) - 1)) ?_ | refine aO ?_ | fail)
    exact aa ⟨⟨_, rfl, by simp only [go_sem, hr, Bool.and_true, Bool.and_false, Bool.true_and, Bool.false_and, Bool.not_true, Bool.not_false]⟩, trivial⟩
   simp only [hp, decide_true] at hr
   simp only [go_sem, hp, decide_true]
   have qH := aI @h1 (aI @h2 (aI @h3 (aI @h4 (aI @h5 (aI @h6 (aI @h7 (aI @decide_true (aI @decide_false (aI @hz @hp))))))))); repeat' (with_reducible first | refine nY ?_ | (refine mX ?_; try simp only [go_sem, qH]) | refine kD ?_ | refine cP (ap n.fLeft 0 ((i : Int) - 1)) ?_ | refine cP (ap n.fRight 0 ((i : Int) - 1)) ?_ | refine aO ?_ | fail)
   cases hl : inB n.fLeft 0 ((i : Int) - 1)
   ·rw [hl] at hr
    simp only [go_sem, hl]
    have qH := aI @h1 (aI @h2 (aI @h3 (aI @h4 (aI @h5 (aI @h6 (aI @h7 (aI @decide_true (aI @decide_false (aI @hz (aI @hp @hl)))))))))); repeat' (with_reducible first | refine nY ?_ | (refine mX ?_; try simp only [go_sem, qH]) | refine kD ?_ | refine cP (ap n.fLeft 0 ((i : Int) - 1)) ?_ | refine cP (ap n.fRight 0 ((i : Int) - 1)) ?_ | refine aO ?_ | fail)
    exact aa ⟨⟨_, rfl, by simp only [go_sem, hr, Bool.and_true, Bool.and_false, Bool.true_and, Bool.false_and, Bool.not_true, Bool.not_false]⟩, trivial⟩
   rw [hl] at hr
   simp only [go_sem, hl]
   have qH := aI @h1 (aI @h2 (aI @h3 (aI @h4 (aI @h5 (aI @h6 (aI @h7 (aI @decide_true (aI @decide_false (aI @hz (aI @hp @hl)))))))))); repeat' (with_reducible first | refine nY ?_ | (refine mX ?_; try simp only [go_sem, qH]) | refine kD ?_ | refine cP (ap n.fLeft 0 ((i : Int) - 1)) ?_ | refine cP (ap n.fRight 0 ((i : Int) - 1)) ?_ | refine aO ?_ | fail)
   exact aa ⟨⟨_, rfl, by simp only [go_sem, hr, Bool.and_true, Bool.and_false, Bool.true_and, Bool.false_and, Bool.not_true, Bool.not_false]⟩, trivial⟩
 have h6 : ¬ n.fOp = 6 := by omega
 have h7 : ¬ n.fOp = 7 := by omega
 by_cases h8 : n.fOp = 8
 ·have hr : aQ n i = (aV n.fName 6 && (decide (n.fLeft = 0) && (decide (n.fRight = 0) && (decide (n.fValue.fKind = 0) && (decide (n.fValue.fInt = 0) && decide (n.fValue.fStr = ⟨#[]⟩)))))) := by simp [aQ, h8, dY, eV, Bool.and_assoc]
  have q0 := @h1; have q1 := @h2; have q2 := @h3; have q3 := @h4; have q4 := @h5; have q5 := @h6; have q6 := @h7; have q7 := @h8; have q8 := @decide_true; have q9 := @decide_false; refine yg (ay n.fName hn) ?_
  cases hz : (decide (n.fLeft = 0) && (decide (n.fRight = 0) && (decide (n.fValue.fKind = 0) && (decide (n.fValue.fInt = 0) && decide (n.fValue.fStr = ⟨#[]⟩)))))
  ·rw [hz] at hr
   simp only [go_sem, hz]
   have qH := aI @h1 (aI @h2 (aI @h3 (aI @h4 (aI @h5 (aI @h6 (aI @h7 (aI @h8 (aI @decide_true (aI @decide_false @hz))))))))); repeat' (with_reducible first | refine nY ?_ | (refine mX ?_; try simp only [go_sem, qH]) | refine kD ?_ | refine cP (ay n.fName hn) ?_ | refine aO ?_ | fail)
   exact aa ⟨⟨_, rfl, by simp only [go_sem, hr, Bool.and_true, Bool.and_false, Bool.true_and, Bool.false_and, Bool.not_true, Bool.not_false]⟩, trivial⟩
  rw [hz] at hr
  simp only [go_sem, hz]
  have qH := aI @h1 (aI @h2 (aI @h3 (aI @h4 (aI @h5 (aI @h6 (aI @h7 (aI @h8 (aI @decide_true (aI @decide_false @hz))))))))); repeat' (with_reducible first | refine nY ?_ | (refine mX ?_; try simp only [go_sem, qH]) | refine kD ?_ | refine cP (ay n.fName hn) ?_ | refine aO ?_ | fail)
  exact aa ⟨⟨_, rfl, by simp only [go_sem, hr, Bool.and_true, Bool.and_false, Bool.true_and, Bool.false_and, Bool.not_true, Bool.not_false]⟩, trivial⟩
 by_cases h9 : n.fOp = 9
 ·have hr : aQ n i = (aV n.fName 6 && (decide (n.fLeft = 0) && (decide (n.fRight = 0) && (decide (n.fValue.fKind = 0) && (decide (n.fValue.fInt = 0) && decide (n.fValue.fStr = ⟨#[]⟩)))))) := by simp [aQ, h9, dY, eV, Bool.and_assoc]
  have qH := aI @h1 (aI @h2 (aI @h3 (aI @h4 (aI @h5 (aI @h6 (aI @h7 (aI @h8 (aI @h9 (aI @decide_true @decide_false))))))))); repeat' (with_reducible first | refine nY ?_ | (refine mX ?_; try simp only [go_sem, qH]) | refine kD ?_ | refine cP (ay n.fName hn) ?_ | refine aO ?_ | fail)
  cases hz : (decide (n.fLeft = 0) && (decide (n.fRight = 0) && (decide (n.fValue.fKind = 0) && (decide (n.fValue.fInt = 0) && decide (n.fValue.fStr = ⟨#[]⟩)))))
  ·rw [hz] at hr
   simp only [go_sem, hz]
   have qH := aI @h1 (aI @h2 (aI @h3 (aI @h4 (aI @h5 (aI @h6 (aI @h7 (aI @h8 (aI @h9 (aI @decide_true (aI @decide_false @hz)))))))))); repeat' (with_reducible first | refine nY ?_ | (refine mX ?_; try simp only [go_sem, qH]) | refine kD ?_ | refine cP (ay n.fName hn) ?_ | refine aO ?_ | fail)
   exact aa ⟨⟨_, rfl, by simp only [go_sem, hr, Bool.and_true, Bool.and_false, Bool.true_and, Bool.false_and, Bool.not_true, Bool.not_false]⟩, trivial⟩
  rw [hz] at hr
  simp only [go_sem, hz]
  have qH := aI @h1 (aI @h2 (aI @h3 (aI @h4 (aI @h5 (aI @h6 (aI @h7 (aI @h8 (aI @h9 (aI @decide_true (aI @decide_false @hz)))))))))); repeat' (with_reducible first | refine nY ?_ | (refine mX ?_; try simp only [go_sem, qH]) | refine kD ?_ | refine cP (ay n.fName hn) ?_ | refine aO ?_ | fail)
  exact aa ⟨⟨_, rfl, by simp only [go_sem, hr, Bool.and_true, Bool.and_false, Bool.true_and, Bool.false_and, Bool.not_true, Bool.not_false]⟩, trivial⟩
 have hr : aQ n i = false := by simp [aQ, h1, h2, h3, h4, h5, h6, h7, h8, h9]
 have q0 := @h1; have q1 := @h2; have q2 := @h3; have q3 := @h4; have q4 := @h5; have q5 := @h6; have q6 := @h7; have q7 := @h8; have q8 := @h9; have q9 := @decide_false; refine iu ?_
 exact aa ⟨⟨_, rfl, by simp only [go_sem, hr]⟩, trivial⟩
end Go.Proofs.YtddimbdeggomaaaGreat
end
section
namespace Go.Proofs.YtddimbdeggomaaaGreat
open Go Go.Sx Go.RowKit Go.Proofs
def bw (name : ByteArray) : List TAttr → TValue
 | [] => ⟨0, 0, ⟨#[]⟩⟩
 | a :: r => if a.fName = name then a.fValue else bw name r
theorem dp (x : TFile) (name : ByteArray) (h : wFile x ≤ 4300000) : FnC Tryz.prog 298 [a8 x, os name] (dX (bw name x.fAttrs)) := by
 unfold wFile bg at h
 generalize hg : bw name x.fAttrs = res
 refine ent Tryz.func298 rfl Tryz.call298 rfl (fun C => ?_); simp only [go_sem, st0, Tryz.ntmps298]
 refine af ?_
 refine ak (α := Nat) (fun k => [(10, oi k)]) (fun _ => []) (fun k => k ≤ x.fAttrs.length ∧ bw name (x.fAttrs.drop k) = res) (fun k => x.fAttrs.length - k) 0 (fun _ => ?_) ?_ ?_ (fun k hk => ?_)
 ·simp only [go_sem]
 ·simp only [go_sem]; simp
 ·simp [hg]
 ·obtain ⟨hk, hq⟩ := hk
  simp only [go_sem]
  refine af ?_
  refine cnd rfl (fun h => ?_) (fun h => ?_)
  ·simp only [decide_eq_true_eq, Int.ofNat_lt] at h
   have hd := List.drop_eq_getElem_cons h
   rw [hd, bw] at hq
   by_cases h1 : x.fAttrs[k].fName = name
   ·rw [if_pos h1] at hq
    subst hq
    have q0 := @h; have q1 := @h1; refine fg ?_
    exact aa ⟨⟨_, rfl, by simp only [go_sem]⟩, trivial⟩
   ·rw [if_neg h1] at hq
    have q0 := @h; have q1 := @h1; refine fg ?_
    refine ae (k + 1) ?_ ?_ ?_
    ·simp only [go_sem]; simp
    ·exact ⟨h, hq⟩
    ·omega
  ·simp only [decide_eq_false_iff_not] at h
   have e : k = x.fAttrs.length := by omega
   rw [e, List.drop_length, bw] at hq
   subst hq
   refine af ?_
   exact aa ⟨⟨_, rfl, by simp only [go_sem]⟩, trivial⟩
theorem bo (x : TFile) (name : ByteArray) (h : wFile x ≤ 4300000) : FnC Tryz.prog 289 [a8 x, os name] (dX (bw name x.fAttrs)) := by
 unfold wFile bg at h
 generalize hg : bw name x.fAttrs = res
 refine ent Tryz.func289 rfl Tryz.call289 rfl (fun C => ?_); simp only [go_sem, st0, Tryz.ntmps289]
 refine af ?_
 refine ak (α := Nat) (fun k => [(5, oi k)]) (fun _ => []) (fun k => k ≤ x.fAttrs.length ∧ bw name (x.fAttrs.drop k) = res) (fun k => x.fAttrs.length - k) 0 (fun _ => ?_) ?_ ?_ (fun k hk => ?_)
 ·simp only [go_sem]
 ·simp only [go_sem]; simp
 ·simp [hg]
 ·obtain ⟨hk, hq⟩ := hk
  simp only [go_sem]
  refine af ?_
  refine cnd rfl (fun h => ?_) (fun h => ?_)
  ·simp only [decide_eq_true_eq, Int.ofNat_lt] at h
   have hd := List.drop_eq_getElem_cons h
   rw [hd, bw] at hq
   by_cases h1 : x.fAttrs[k].fName = name
   ·rw [if_pos h1] at hq
    subst hq
    have q0 := @h; have q1 := @h1; refine fg ?_
    exact aa ⟨⟨_, rfl, by simp only [go_sem]⟩, trivial⟩
   ·rw [if_neg h1] at hq
    have q0 := @h; have q1 := @h1; refine fg ?_
    refine ae (k + 1) ?_ ?_ ?_
    ·simp only [go_sem]; simp
    ·exact ⟨h, hq⟩
    ·omega
  ·simp only [decide_eq_false_iff_not] at h
   have e : k = x.fAttrs.length := by omega
   rw [e, List.drop_length, bw] at hq
   subst hq
   refine af ?_
   exact aa ⟨⟨_, rfl, by simp only [go_sem]⟩, trivial⟩
end Go.Proofs.YtddimbdeggomaaaGreat
end
section
set_option maxRecDepth 100000
set_option maxHeartbeats 4000000
namespace Go.Proofs.YtddimbdeggomaaaGreat
def so (x v : TValue) : Bool := decide (x.fKind = v.fKind) && (decide (x.fInt = v.fInt) && decide (x.fStr = v.fStr))
def hasI (l : List Int) (i : Int) : Bool := l.any fun x => decide (x = i)
def aq (s : ByteArray) : List TResult → List Int
 | [] => []
 | x :: r => if x.fName = s then x.fIDs else aq s r
def qd (v : TValue) (n : Int) : Bool := decide (v.fKind = 1) && decide (v.fInt < n)
def mt (q : List TNode) (f : TFile) (r : List TResult) : Nat → Nat → Bool
 | 0, _ => false
 | k + 1, i => match q[i]? with
  | none => false
  | some n =>
   if n.fOp = 1 then true
   else if n.fOp = 2 then !decide ((bw n.fName f.fAttrs).fKind = 0)
   else if n.fOp = 3 then so (bw n.fName f.fAttrs) n.fValue
   else if n.fOp = 4 then qd (bw n.fName f.fAttrs) n.fValue.fInt
   else if n.fOp = 5 then !mt q f r k n.fLeft.toNat
   else if n.fOp = 6 then mt q f r k n.fLeft.toNat && mt q f r k n.fRight.toNat
   else if n.fOp = 7 then mt q f r k n.fLeft.toNat || mt q f r k n.fRight.toNat
   else if n.fOp = 8 then hasI (aq n.fName r) f.fID
   else !decide (f.fLink = 0) && hasI (aq n.fName r) f.fLink
end Go.Proofs.YtddimbdeggomaaaGreat
end
section
set_option maxRecDepth 100000
set_option maxHeartbeats 4000000
namespace Go.Proofs.YtddimbdeggomaaaGreat
open Go Go.Sx Go.RowKit Go.Proofs
theorem zM (l : List Int) (s : Int) (k : Nat) (h : k < l.length) : hasI (l.drop k) s = (decide (l[k] = s) || hasI (l.drop (k + 1)) s) := by
 rw [List.drop_eq_getElem_cons h]; rfl
theorem zN (l : List Int) (s : Int) (hl : l.length ≤ 67108864) : FnC Tryz.prog 331 [.o (.d (.sl (l.map bY))), oi s] (oi (bp (fun x => decide (s = x)) l 0)) := by
 refine ent Tryz.func331 rfl Tryz.call331 rfl (fun C => ?_); simp only [go_sem, st0, Tryz.ntmps331]
 refine af ?_
 refine ak (α := Nat) (fun k => [(8, oi k)]) (fun _ => []) (fun k => k ≤ l.length ∧ bp (fun x => decide (s = x)) l 0 = bp (fun x => decide (s = x)) (l.drop k) k) (fun k => l.length - k) 0 (fun _ => ?_) ?_ ?_ (fun k hk => ?_)
 ·simp only [go_sem]
 ·simp only [go_sem]; simp
 ·simp
 ·obtain ⟨hk, hq⟩ := hk
  simp only [go_sem]
  refine af ?_
  refine cnd rfl (fun h => ?_) (fun h => ?_)
  ·simp only [decide_eq_true_eq, Int.ofNat_lt] at h
   have hd := List.drop_eq_getElem_cons h
   rw [hd, bp] at hq
   have q0 := @h; refine cw ?_
   refine cnd (b := decide (s = l[k])) rfl (fun h2 => ?_) (fun h2 => ?_)
   ·rw [if_pos h2] at hq
    refine af ?_
    exact aa ⟨⟨_, rfl, by simp only [go_sem, hq]⟩, trivial⟩
   ·rw [if_neg (by simp [h2])] at hq
    refine af ?_
    refine ae (k + 1) ?_ ?_ ?_
    ·simp only [go_sem]; simp
    ·rw [hq]; exact ⟨h, by simp⟩
    ·omega
  ·simp only [decide_eq_false_iff_not] at h
   have e : k = l.length := by omega
   subst e
   simp only [List.drop_length, bp] at hq
   refine af ?_
   exact aa ⟨⟨_, rfl, by simp only [go_sem, hq]⟩, trivial⟩
theorem Br (l : List Int) (s : Int) : decide (0 ≤ bp (fun x => decide (s = x)) l 0) = hasI l s := by
 rw [jV]; unfold hasI
 congr 1; funext x; congr 1; exact propext eq_comm
theorem mg (l : List Int) (s : Int) (hl : l.length ≤ 67108864) : FnC Tryz.prog 311 [.o (.d (.sl (l.map bY))), oi s] (ob (hasI l s)) := by
 refine ent Tryz.func311 rfl Tryz.call311 rfl (fun C => ?_); simp only [go_sem, st0, Tryz.ntmps311]
 refine cH (zN l s hl) ?_
 exact aa ⟨⟨_, rfl, by simp only [go_sem, Br]⟩, trivial⟩
theorem fj (l : List Int) (s : Int) (hl : l.length ≤ 67108864) : FnC Tryz.prog 281 [.o (.d (.sl (l.map bY))), oi s] (ob (hasI l s)) := by
 refine ent Tryz.func281 rfl Tryz.call281 rfl (fun C => ?_); simp only [go_sem, st0, Tryz.ntmps281]
 refine cH (mg l s hl) ?_
 exact aa ⟨⟨_, rfl, by simp only [go_sem]⟩, trivial⟩
theorem cU (l : List Int) (s : Int) (hl : l.length ≤ 67108864) : FnC Tryz.prog 278 [.o (.d (.sl (l.map bY))), oi s] (ob (hasI l s)) := by
 refine ent Tryz.func278 rfl Tryz.call278 rfl (fun C => ?_); simp only [go_sem, st0, Tryz.ntmps278]
 refine af ?_
 refine ak (α := Nat) (fun k => [(5, oi k)]) (fun k => []) (fun k => k ≤ l.length ∧ hasI (l.drop k) s = hasI l s) (fun k => l.length - k) 0 (fun _ => ?_) ?_ ?_ (fun k hk => ?_)
 ·simp only [go_sem]; try simp
 ·simp only [go_sem]; try simp
 ·simp
 ·simp only [go_sem]
  obtain ⟨hk, hg⟩ := hk
  refine af ?_
  refine cnd rfl (fun h1 => ?_) (fun h1 => ?_)
  ·simp only [decide_eq_true_eq, Int.ofNat_lt] at h1
   have hd := zM l s k h1
   rw [hg] at hd
   have q0 := @h1; refine cw ?_
   refine cnd rfl (fun hv => ?_) (fun hv => ?_)
   ·rw [hv, Bool.true_or] at hd
    refine af ?_
    exact aa ⟨⟨_, rfl, by simp only [go_sem, hd]⟩, trivial⟩
   ·rw [hv, Bool.false_or] at hd
    refine af ?_
    refine ae (k + 1) ?_ ?_ ?_
    ·simp only [go_sem]; try simp
    ·exact ⟨by omega, hd.symm⟩
    ·omega
  ·simp only [decide_eq_false_iff_not] at h1
   have e : k = l.length := by omega
   subst e
   have hn : hasI l s = false := by rw [← hg, List.drop_length]; rfl
   refine af ?_
   exact aa ⟨⟨_, rfl, by simp only [go_sem, hn]⟩, trivial⟩
theorem nU (s : ByteArray) (l : List TResult) (k : Nat) (h : k < l.length) : aq s (l.drop k) = if l[k].fName = s then l[k].fIDs else aq s (l.drop (k + 1)) := by
 rw [List.drop_eq_getElem_cons h]; rfl
theorem fP (l : List TResult) (s : ByteArray) (hl : ah l ≤ 67108864) : FnC Tryz.prog 165 [.o (.d (.sl (l.map ai))), os s] (.o (.w 3 1 ((aq s l).map bY))) := by
 unfold ah at hl
 generalize hg : aq s l = res
 refine ent Tryz.func165 rfl Tryz.call165 rfl (fun C => ?_); simp only [go_sem, st0, Tryz.ntmps165]
 refine af ?_
 refine ak (α := Nat) (fun k => [(9, oi k)]) (fun k => []) (fun k => k ≤ l.length ∧ aq s (l.drop k) = res) (fun k => l.length - k) 0 (fun _ => ?_) ?_ ?_ (fun k hk => ?_)
 ·simp only [go_sem]; try simp
 ·simp only [go_sem]; try simp
 ·simp [hg]
 ·simp only [go_sem]
  obtain ⟨hk, hq⟩ := hk
  refine af ?_
  refine cnd rfl (fun h1 => ?_) (fun h1 => ?_)
  ·simp only [decide_eq_true_eq, Int.ofNat_lt] at h1
   rw [nU s l k h1] at hq
   by_cases hv : l[k].fName = s
   ·rw [if_pos hv] at hq
    have hw := aB wResult l h1
    have hwl : l[k].fIDs.length ≤ wResult l[k] := by unfold wResult; omega
    have q0 := @h1; have q1 := @hv; refine fZ (jZ l[k].fIDs (by omega)) ?_
    exact aa ⟨⟨_, rfl, by simp only [go_sem, hq]⟩, trivial⟩
   ·rw [if_neg hv] at hq
    have q0 := @h1; have q1 := @hv; refine fg ?_
    refine ae (k + 1) ?_ ?_ ?_
    ·simp only [go_sem]; try simp
    ·exact ⟨by omega, hq⟩
    ·omega
  ·simp only [decide_eq_false_iff_not] at h1
   have e : k = l.length := by omega
   subst e
   rw [List.drop_length] at hq
   have hn : res = [] := hq.symm
   subst hn
   refine af ?_
   exact aa ⟨⟨_, rfl, by simp only [go_sem]⟩, trivial⟩
theorem fQ (l : List TResult) (s : ByteArray) (hl : ah l ≤ 67108864) : FnC Tryz.prog 81 [.o (.d (.sl (l.map ai))), os s] (.o (.w 3 1 ((aq s l).map bY))) := by
 unfold ah at hl
 generalize hg : aq s l = res
 refine ent Tryz.func81 rfl Tryz.call81 rfl (fun C => ?_); simp only [go_sem, st0, Tryz.ntmps81]
 refine af ?_
 refine ak (α := Nat) (fun k => [(5, oi k)]) (fun k => []) (fun k => k ≤ l.length ∧ aq s (l.drop k) = res) (fun k => l.length - k) 0 (fun _ => ?_) ?_ ?_ (fun k hk => ?_)
 ·simp only [go_sem]; try simp
 ·simp only [go_sem]; try simp
 ·simp [hg]
 ·simp only [go_sem]
  obtain ⟨hk, hq⟩ := hk
  refine af ?_
  refine cnd rfl (fun h1 => ?_) (fun h1 => ?_)
  ·simp only [decide_eq_true_eq, Int.ofNat_lt] at h1
   rw [nU s l k h1] at hq
   by_cases hv : l[k].fName = s
   ·rw [if_pos hv] at hq
    have hw := aB wResult l h1
    have hwl : l[k].fIDs.length ≤ wResult l[k] := by unfold wResult; omega
    have q0 := @h1; have q1 := @hv; refine fg ?_
    exact aa ⟨⟨_, rfl, by simp only [go_sem, hq]⟩, trivial⟩
   ·rw [if_neg hv] at hq
    have q0 := @h1; have q1 := @hv; refine fg ?_
    refine ae (k + 1) ?_ ?_ ?_
    ·simp only [go_sem]; try simp
    ·exact ⟨by omega, hq⟩
    ·omega
  ·simp only [decide_eq_false_iff_not] at h1
   have e : k = l.length := by omega
   subst e
   rw [List.drop_length] at hq
   have hn : res = [] := hq.symm
   subst hn
   refine af ?_
   exact aa ⟨⟨_, rfl, by simp only [go_sem]⟩, trivial⟩
end Go.Proofs.YtddimbdeggomaaaGreat
end
section
namespace Go.Proofs.YtddimbdeggomaaaGreat
open Go Go.Sx Go.RowKit Go.Proofs
def cA (a b : List Int) : List Int := a.filter fun x => !hasI b x
theorem f8 (a b : List Int) : (cA a b).length ≤ a.length := List.length_filter_le _ _
def gI (a : List TResult) (x : TResult) : List TDiff :=
 if 0 < (cA x.fIDs (aq x.fName a)).length + (cA (aq x.fName a) x.fIDs).length then [⟨x.fName, cA x.fIDs (aq x.fName a), cA (aq x.fName a) x.fIDs⟩] else []
def cT (a b : List TResult) : List TDiff := b.flatMap (gI a)
theorem pW (a b : List TResult) (k : Nat) (h : k < b.length) : cT a (b.take (k + 1)) = cT a (b.take k) ++ gI a b[k] := by
 unfold cT; rw [List.take_succ_eq_append_getElem h, List.flatMap_append]; simp
theorem zL (a : List TResult) (x : TResult) : (gI a x).length ≤ 1 := by unfold gI; split <;> simp
theorem sk (a b : List TResult) (k : Nat) : (cT a (b.take k)).length ≤ k := by
 have key : ∀ l : List TResult, (cT a l).length ≤ l.length := by
  intro l
  induction l with
  | nil => simp [cT]
  | cons x l ih => have := zL a x; simp only [cT, List.flatMap_cons, List.length_append, List.length_cons] at ih ⊢; omega
 exact Nat.le_trans (key _) (by rw [List.length_take]; omega)
theorem pX (s : ByteArray) (a : List TResult) : (aq s a).length ≤ ah a := by
 induction a with
 | nil => simp [aq]
 | cons x a ih =>
  unfold ah at ih ⊢
  have e : wResult x = x.fName.size + x.fIDs.length := rfl
  simp only [aq, wsum, List.length_cons]
  split <;> omega
theorem yn (a : List TResult) : ∀ b : List TResult, fH (cT a b) ≤ ah b + b.length * ah a
 | [] => by simp [cT, fH, wsum]
 | x :: b => by
  have ih := yn a b
  have h1 := f8 x.fIDs (aq x.fName a)
  have h2 := f8 (aq x.fName a) x.fIDs
  have h3 := pX x.fName a
  have key : ∀ l m : List TDiff, fH (l ++ m) = fH l + fH m := by
   intro l m
   unfold fH
   have : wsum vq (l ++ m) = wsum vq l + wsum vq m := by
    induction l with
    | nil => simp [wsum]
    | cons y l ih => simp only [List.cons_append, wsum, ih]; omega
   rw [this, List.length_append]; omega
  have e : cT a (x :: b) = gI a x ++ cT a b := by simp [cT]
  have h4 : fH (gI a x) ≤ 1 + wResult x + ah a := by
   unfold gI
   split
   ·have e : wResult x = x.fName.size + x.fIDs.length := rfl
    unfold fH; simp only [wsum, List.length_cons, List.length_nil, vq]; omega
   ·simp [fH, wsum]
  rw [e, key]
  have h5 : ah (x :: b) = ah b + 1 + wResult x := by unfold ah; simp only [wsum, List.length_cons]; omega
  rw [h5, List.length_cons, Nat.succ_mul]
  omega
end Go.Proofs.YtddimbdeggomaaaGreat
end
